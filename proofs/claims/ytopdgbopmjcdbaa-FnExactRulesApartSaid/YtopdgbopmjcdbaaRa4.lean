/- The functions, turned: printed by program. -/
import Derived.Test.YtopdgbopmjcdbaaRa3
import Derived.Test.YtopdgbopmjcdbaaProg
import Derived.KernelRfl
import Derived.Shelf.Sort.Plain
import Derived.Shelf.Slices.In.SortNone
import Derived.Test.YtopdgbopmjcdbaaChecked
set_option linter.unusedVariables false
set_option linter.unusedSimpArgs false
set_option maxRecDepth 10000
set_option maxHeartbeats 4000000
namespace Go.M2
open Go.Proofs
variable {M : MH} {vs : List V} {RV : V → MH → Prop}
@[go_sem] def l28_0 (_ : Unit) : KL := [kA 3 (.box (.t 0)),
  kB 6 (.mv (.c (.bool false))) [1, 2, 3]]
@[go_sem] def l28_1 (_ : Unit) : KL := [kA 7 (.load (.t 3) 2 true),
  kA 8 (.call (n_impl_SystemValid) [(.t 7)]),
  kA 9 (.mv (.t 8)),
  (⟨(some 10), .mv (.t 1), (some (9, true))⟩, none),
  (⟨(some 11), .faddr (.t 3) 1, (some (9, true))⟩, (some [1, 2, 3, 9, 10, 11])),
  (⟨(some 12), .load (.t 11) 1 false, (some (9, true))⟩, none),
  (⟨(some 13), .len (.t 12), (some (9, true))⟩, none),
  (⟨(some 14), .bin .sub (.t 13) (cI 1), (some (9, true))⟩, none),
  (⟨(some 15), .call (n_impl_in) [(.t 10), (cI 0), (.t 14)], (some (9, true))⟩, none),
  kB 16 (.pick (.t 9) (.t 15) (.c (.bool false))) [1, 2, 3, 16],
  kA 17 (.mv (.t 16)),
  (⟨(some 18), .mv (.t 2), (some (17, true))⟩, none),
  (⟨(some 19), .faddr (.t 3) 1, (some (17, true))⟩, none),
  (⟨(some 20), .load (.t 19) 1 false, (some (17, true))⟩, none),
  (⟨(some 21), .len (.t 20), (some (17, true))⟩, (some [1, 2, 3, 17, 18, 21])),
  (⟨(some 22), .bin .sub (.t 21) (cI 1), (some (17, true))⟩, none),
  (⟨(some 23), .call (n_impl_in) [(.t 18), (cI 0), (.t 22)], (some (17, true))⟩, none),
  kA 24 (.pick (.t 17) (.t 23) (.c (.bool false))),
  kA 25 (.mv (.t 24)),
  (⟨(some 26), .load (.t 3) 2 true, (some (25, true))⟩, (some [1, 2, 25, 26])),
  (⟨(some 27), .mv (.t 1), (some (25, true))⟩, none),
  (⟨(some 28), .mv (.t 2), (some (25, true))⟩, none),
  (⟨(some 29), .call (n_impl_rulesApart) [(.t 26), (.t 27), (.t 28)], (some (25, true))⟩, none),
  kA 30 (.pick (.t 25) (.t 29) (.c (.bool false))),
  kB 6 (.mv (.t 30)) [6]]
@[go_sem] def s28_2 (_ : Unit) : IR := (sQ [(kT l28_0), (kT l28_1), .ret])
theorem c28 : compFn Try.prog [(0, [], [oN, oS [1, 2, 3]]), (1, [], [oN, oN, oN, oN, oS [1, 2, 3, 9, 10, 11], oN, oN, oN, oN, oS [1, 2, 3, 16], oN, oN, oN, oN, oS [1, 2, 3, 17, 18, 21], oN, oN, oN, oN, oS [1, 2, 25, 26], oN, oN, oN, oN, oS [6]])] Try.f28 = some ⟨3, 31, [.t 6], (tH s28_2)⟩ := by kernel_rfl
theorem v_impl_RulesApart (hl : vs.length = 3) (h : wpV Try.prog (tH s28_2) (postV [.t 6] RV) (envV vs) M) : VCall Try.prog n_impl_RulesApart vs M RV :=
  vcall_of_wp (fun _ _ _ hl h => acall_of_wp mixed Try.func28 c28 (by kernel_rfl) hl h) hl h
@[go_sem] def l93_0 (_ : Unit) : KL := [kA 2 (.box (.t 0)),
  kA 3 (.box (.t 1)),
  kB 4 (.mv (.c (.bool false))) [2, 3]]
@[go_sem] def l93_1 (_ : Unit) : KL := [kA 5 (.faddr (.t 2) 0),
  kA 6 (.load (.t 5) 1 false),
  kA 7 (.faddr (.t 3) 0),
  kA 8 (.load (.t 7) 1 false),
  kB 9 (.bin .neq (.t 6) (.t 8)) [2, 3, 9]]
@[go_sem] def l93_2 (_ : Unit) : KL := [kB 4 (.mv (.c (.bool false))) [4]]
@[go_sem] def s93_3 (_ : Unit) : IR := (sQ [(kT l93_2), .ret])
@[go_sem] def s93_4 (_ : Unit) : IR := (sQ [(kT l93_1), (.cond (.t 9) (tH s93_3) .skip)])
@[go_sem] def l93_5 (_ : Unit) : KL := [kA 10 (.faddr (.t 2) 1),
  kA 11 (.load (.t 10) 1 false),
  kA 12 (.faddr (.t 3) 1),
  kA 13 (.load (.t 12) 1 false),
  kB 14 (.bin .neq (.t 11) (.t 13)) [2, 3, 14]]
@[go_sem] def l93_6 (_ : Unit) : KL := [kB 4 (.mv (.c (.bool false))) [4]]
@[go_sem] def s93_7 (_ : Unit) : IR := (sQ [(kT l93_6), .ret])
@[go_sem] def s93_8 (_ : Unit) : IR := (sQ [(kT l93_5), (.cond (.t 14) (tH s93_7) .skip)])
@[go_sem] def l93_9 (_ : Unit) : KL := [kA 15 (.faddr (.t 2) 2),
  kA 16 (.load (.t 15) 1 false),
  kA 17 (.faddr (.t 3) 2),
  kA 18 (.load (.t 17) 1 false),
  kB 19 (.bin .neq (.t 16) (.t 18)) [19]]
@[go_sem] def l93_10 (_ : Unit) : KL := [kB 4 (.mv (.c (.bool false))) [4]]
@[go_sem] def s93_11 (_ : Unit) : IR := (sQ [(kT l93_10), .ret])
@[go_sem] def s93_12 (_ : Unit) : IR := (sQ [(kT l93_9), (.cond (.t 19) (tH s93_11) .skip)])
@[go_sem] def l93_13 (_ : Unit) : KL := [kB 4 (.mv (.c (.bool true))) [4]]
@[go_sem] def s93_14 (_ : Unit) : IR := (sQ [(kT l93_0), (tH s93_4), (tH s93_8), (tH s93_12), (kT l93_13), .ret])
theorem c93 : compFn Try.prog [(0, [], [oN, oN, oS [2, 3]]), (1, [], [oN, oN, oN, oN, oS [2, 3, 9]]), (2, [], [oS [4]]), (3, [], [oN, oN, oN, oN, oS [2, 3, 14]]), (4, [], [oS [4]]), (5, [], [oN, oN, oN, oN, oS [19]]), (6, [], [oS [4]]), (7, [], [oS [4]])] Try.f93 = some ⟨2, 20, [.t 4], (tH s93_14)⟩ := by kernel_rfl
theorem v_laws_eqVar (hl : vs.length = 2) (h : wpV Try.prog (tH s93_14) (postV [.t 4] RV) (envV vs) M) : VCall Try.prog n_laws_eqVar vs M RV :=
  vcall_of_wp (fun _ _ _ hl h => acall_of_wp mixed Try.func93 c93 (by kernel_rfl) hl h) hl h
@[go_sem] def l50_0 (_ : Unit) : KL := [kB 4 (.mv (.c (.bool false))) [0, 1]]
@[go_sem] def l50_1 (_ : Unit) : KL := [kA 6 (.mv (.t 0)),
  kA 7 (.len (.t 6)),
  kA 8 (.mv (.t 1)),
  kA 9 (.len (.t 8)),
  kB 10 (.bin .neq (.t 7) (.t 9)) [0, 1, 10]]
@[go_sem] def l50_2 (_ : Unit) : KL := [kB 4 (.mv (.c (.bool false))) [4]]
@[go_sem] def s50_3 (_ : Unit) : IR := (sQ [(kT l50_2), .ret])
@[go_sem] def s50_4 (_ : Unit) : IR := (sQ [(kT l50_1), (.cond (.t 10) (tH s50_3) .skip)])
@[go_sem] def l50_5 (_ : Unit) : KL := [kB 5 (.mv (cI 0)) [0, 1, 5]]
@[go_sem] def l50_6 (_ : Unit) : KL := [kA 11 (.mv (.t 5)),
  kA 12 (.mv (.t 0)),
  kA 13 (.len (.t 12)),
  kB 14 (.bin .lss (.t 11) (.t 13)) [0, 1, 5, 14]]
@[go_sem] def s50_7 (_ : Unit) : IR := (sQ [(kT l50_6), (.cond (.t 14) .skip (.exit 0))])
@[go_sem] def l50_8 : Nat → GOp
  | 0 => ⟨(some 17), .mv (.t 0), none⟩
  | 1 => ⟨(some 18), .mv (.t 5), none⟩
  | 2 => ⟨(some 19), .iaddr (.t 17) (.t 18) 3, none⟩
  | 3 => ⟨(some 20), .load (.t 19) 3 true, none⟩
  | 4 => ⟨(some 21), .mv (.t 1), none⟩
  | 5 => ⟨(some 22), .mv (.t 5), none⟩
  | 6 => ⟨(some 23), .iaddr (.t 21) (.t 22) 3, none⟩
  | 7 => ⟨(some 24), .load (.t 23) 3 true, none⟩
  | 8 => ⟨(some 25), .call (n_laws_eqVar) [(.t 20), (.t 24)], none⟩
  | 9 => ⟨(some 26), .un .not (.t 25), none⟩
  | _ => ⟨none, .mkmap, none⟩
@[go_sem] def l50_9 (_ : Unit) : KL := [kB 4 (.mv (.c (.bool false))) [4]]
@[go_sem] def s50_10 (_ : Unit) : IR := (sQ [(kT l50_9), .ret])
@[go_sem] def s50_11 (_ : Unit) : IR := (sQ [(.kd (oF l50_8 10) [(0, []), (1, []), (2, []), (3, []), (4, []), (5, []), (6, []), (7, []), (8, []), (9, [])] [0, 1, 5, 26]), (.cond (.t 26) (tH s50_10) .skip)])
@[go_sem] def s50_12 (_ : Unit) : IR := (.block 1 (tH s50_11))
@[go_sem] def l50_13 (_ : Unit) : KL := [kA 15 (.mv (.t 5)),
  kA 16 (.bin .add (.t 15) (cI 1)),
  kB 5 (.mv (.t 16)) [0, 1, 5]]
@[go_sem] def s50_14 (_ : Unit) : IR := (sQ [(tH s50_7), (tH s50_12), (kT l50_13)])
@[go_sem] def s50_15 (_ : Unit) : IR := (.loop (tH s50_14))
@[go_sem] def s50_16 (_ : Unit) : IR := (.block 0 (tH s50_15))
@[go_sem] def s50_17 (_ : Unit) : IR := (sQ [(kT l50_5), (tH s50_16)])
@[go_sem] def l50_18 (_ : Unit) : KL := [kB 4 (.mv (.c (.bool true))) [4]]
@[go_sem] def s50_19 (_ : Unit) : IR := (sQ [(kT l50_0), (tH s50_4), (tH s50_17), (kT l50_18), .ret])
theorem c50 : compFn Try.prog [(0, [], [oS [0, 1]]), (1, [], [oN, oN, oN, oN, oS [0, 1, 10]]), (2, [], [oS [4]]), (3, [], [oS [0, 1, 5]]), (4, [], [oN, oN, oN, oS [0, 1, 5, 14]]), (6, [(0, []), (1, []), (2, []), (3, []), (4, []), (5, []), (6, []), (7, []), (8, []), (9, [])], [oS [0, 1, 5, 26]]), (7, [], [oS [4]]), (5, [], [oN, oN, oS [0, 1, 5]]), (8, [], [oS [4]])] Try.f50 = some ⟨2, 27, [.t 4], (tH s50_19)⟩ := by kernel_rfl
theorem v_laws_eqVarS (hl : vs.length = 2) (h : wpV Try.prog (tH s50_19) (postV [.t 4] RV) (envV vs) M) : VCall Try.prog n_laws_eqVarS vs M RV :=
  vcall_of_wp (fun _ _ _ hl h => acall_of_wp mixed Try.func50 c50 (by kernel_rfl) hl h) hl h
@[go_sem] def l146_0 (_ : Unit) : KL := [kA 2 (.box (.t 0)),
  kA 3 (.box (.t 1)),
  kB 4 (.mv (.c (.bool false))) [2, 3]]
@[go_sem] def l146_1 (_ : Unit) : KL := [kA 5 (.faddr (.t 2) 0),
  kA 6 (.load (.t 5) 1 false),
  kA 7 (.faddr (.t 3) 0),
  kA 8 (.load (.t 7) 1 false),
  kB 9 (.bin .neq (.t 6) (.t 8)) [2, 3, 9]]
@[go_sem] def l146_2 (_ : Unit) : KL := [kB 4 (.mv (.c (.bool false))) [4]]
@[go_sem] def s146_3 (_ : Unit) : IR := (sQ [(kT l146_2), .ret])
@[go_sem] def s146_4 (_ : Unit) : IR := (sQ [(kT l146_1), (.cond (.t 9) (tH s146_3) .skip)])
@[go_sem] def l146_5 (_ : Unit) : KL := [kA 10 (.faddr (.t 2) 1),
  kA 11 (.load (.t 10) 1 false),
  kA 12 (.faddr (.t 3) 1),
  kA 13 (.load (.t 12) 1 false),
  kB 14 (.bin .neq (.t 11) (.t 13)) [2, 3, 14]]
@[go_sem] def l146_6 (_ : Unit) : KL := [kB 4 (.mv (.c (.bool false))) [4]]
@[go_sem] def s146_7 (_ : Unit) : IR := (sQ [(kT l146_6), .ret])
@[go_sem] def s146_8 (_ : Unit) : IR := (sQ [(kT l146_5), (.cond (.t 14) (tH s146_7) .skip)])
@[go_sem] def l146_9 (_ : Unit) : KL := [kA 15 (.faddr (.t 2) 2),
  kA 16 (.load (.t 15) 1 false),
  kA 17 (.faddr (.t 3) 2),
  kA 18 (.load (.t 17) 1 false),
  kB 19 (.bin .neq (.t 16) (.t 18)) [2, 3, 19]]
@[go_sem] def l146_10 (_ : Unit) : KL := [kB 4 (.mv (.c (.bool false))) [4]]
@[go_sem] def s146_11 (_ : Unit) : IR := (sQ [(kT l146_10), .ret])
@[go_sem] def s146_12 (_ : Unit) : IR := (sQ [(kT l146_9), (.cond (.t 19) (tH s146_11) .skip)])
@[go_sem] def l146_13 (_ : Unit) : KL := [kA 20 (.faddr (.t 2) 3),
  kA 21 (.load (.t 20) 1 false),
  kA 22 (.faddr (.t 3) 3),
  kA 23 (.load (.t 22) 1 false),
  kB 24 (.bin .neq (.t 21) (.t 23)) [24]]
@[go_sem] def l146_14 (_ : Unit) : KL := [kB 4 (.mv (.c (.bool false))) [4]]
@[go_sem] def s146_15 (_ : Unit) : IR := (sQ [(kT l146_14), .ret])
@[go_sem] def s146_16 (_ : Unit) : IR := (sQ [(kT l146_13), (.cond (.t 24) (tH s146_15) .skip)])
@[go_sem] def l146_17 (_ : Unit) : KL := [kB 4 (.mv (.c (.bool true))) [4]]
@[go_sem] def s146_18 (_ : Unit) : IR := (sQ [(kT l146_0), (tH s146_4), (tH s146_8), (tH s146_12), (tH s146_16), (kT l146_17), .ret])
theorem c146 : compFn Try.prog [(0, [], [oN, oN, oS [2, 3]]), (1, [], [oN, oN, oN, oN, oS [2, 3, 9]]), (2, [], [oS [4]]), (3, [], [oN, oN, oN, oN, oS [2, 3, 14]]), (4, [], [oS [4]]), (5, [], [oN, oN, oN, oN, oS [2, 3, 19]]), (6, [], [oS [4]]), (7, [], [oN, oN, oN, oN, oS [24]]), (8, [], [oS [4]]), (9, [], [oS [4]])] Try.f146 = some ⟨2, 25, [.t 4], (tH s146_18)⟩ := by kernel_rfl
theorem v_laws_eqTerm (hl : vs.length = 2) (h : wpV Try.prog (tH s146_18) (postV [.t 4] RV) (envV vs) M) : VCall Try.prog n_laws_eqTerm vs M RV :=
  vcall_of_wp (fun _ _ _ hl h => acall_of_wp mixed Try.func146 c146 (by kernel_rfl) hl h) hl h
@[go_sem] def l127_0 (_ : Unit) : KL := [kB 4 (.mv (.c (.bool false))) [0, 1]]
@[go_sem] def l127_1 (_ : Unit) : KL := [kA 6 (.mv (.t 0)),
  kA 7 (.len (.t 6)),
  kA 8 (.mv (.t 1)),
  kA 9 (.len (.t 8)),
  kB 10 (.bin .neq (.t 7) (.t 9)) [0, 1, 10]]
@[go_sem] def l127_2 (_ : Unit) : KL := [kB 4 (.mv (.c (.bool false))) [4]]
@[go_sem] def s127_3 (_ : Unit) : IR := (sQ [(kT l127_2), .ret])
@[go_sem] def s127_4 (_ : Unit) : IR := (sQ [(kT l127_1), (.cond (.t 10) (tH s127_3) .skip)])
@[go_sem] def l127_5 (_ : Unit) : KL := [kB 5 (.mv (cI 0)) [0, 1, 5]]
@[go_sem] def l127_6 (_ : Unit) : KL := [kA 11 (.mv (.t 5)),
  kA 12 (.mv (.t 0)),
  kA 13 (.len (.t 12)),
  kB 14 (.bin .lss (.t 11) (.t 13)) [0, 1, 5, 14]]
@[go_sem] def s127_7 (_ : Unit) : IR := (sQ [(kT l127_6), (.cond (.t 14) .skip (.exit 0))])
@[go_sem] def l127_8 : Nat → GOp
  | 0 => ⟨(some 17), .mv (.t 0), none⟩
  | 1 => ⟨(some 18), .mv (.t 5), none⟩
  | 2 => ⟨(some 19), .iaddr (.t 17) (.t 18) 4, none⟩
  | 3 => ⟨(some 20), .load (.t 19) 4 true, none⟩
  | 4 => ⟨(some 21), .mv (.t 1), none⟩
  | 5 => ⟨(some 22), .mv (.t 5), none⟩
  | 6 => ⟨(some 23), .iaddr (.t 21) (.t 22) 4, none⟩
  | 7 => ⟨(some 24), .load (.t 23) 4 true, none⟩
  | 8 => ⟨(some 25), .call (n_laws_eqTerm) [(.t 20), (.t 24)], none⟩
  | 9 => ⟨(some 26), .un .not (.t 25), none⟩
  | _ => ⟨none, .mkmap, none⟩
@[go_sem] def l127_9 (_ : Unit) : KL := [kB 4 (.mv (.c (.bool false))) [4]]
@[go_sem] def s127_10 (_ : Unit) : IR := (sQ [(kT l127_9), .ret])
@[go_sem] def s127_11 (_ : Unit) : IR := (sQ [(.kd (oF l127_8 10) [(0, []), (1, []), (2, []), (3, []), (4, []), (5, []), (6, []), (7, []), (8, []), (9, [])] [0, 1, 5, 26]), (.cond (.t 26) (tH s127_10) .skip)])
@[go_sem] def s127_12 (_ : Unit) : IR := (.block 1 (tH s127_11))
@[go_sem] def l127_13 (_ : Unit) : KL := [kA 15 (.mv (.t 5)),
  kA 16 (.bin .add (.t 15) (cI 1)),
  kB 5 (.mv (.t 16)) [0, 1, 5]]
@[go_sem] def s127_14 (_ : Unit) : IR := (sQ [(tH s127_7), (tH s127_12), (kT l127_13)])
@[go_sem] def s127_15 (_ : Unit) : IR := (.loop (tH s127_14))
@[go_sem] def s127_16 (_ : Unit) : IR := (.block 0 (tH s127_15))
@[go_sem] def s127_17 (_ : Unit) : IR := (sQ [(kT l127_5), (tH s127_16)])
@[go_sem] def l127_18 (_ : Unit) : KL := [kB 4 (.mv (.c (.bool true))) [4]]
@[go_sem] def s127_19 (_ : Unit) : IR := (sQ [(kT l127_0), (tH s127_4), (tH s127_17), (kT l127_18), .ret])
theorem c127 : compFn Try.prog [(0, [], [oS [0, 1]]), (1, [], [oN, oN, oN, oN, oS [0, 1, 10]]), (2, [], [oS [4]]), (3, [], [oS [0, 1, 5]]), (4, [], [oN, oN, oN, oS [0, 1, 5, 14]]), (6, [(0, []), (1, []), (2, []), (3, []), (4, []), (5, []), (6, []), (7, []), (8, []), (9, [])], [oS [0, 1, 5, 26]]), (7, [], [oS [4]]), (5, [], [oN, oN, oS [0, 1, 5]]), (8, [], [oS [4]])] Try.f127 = some ⟨2, 27, [.t 4], (tH s127_19)⟩ := by kernel_rfl
theorem v_laws_eqTermS (hl : vs.length = 2) (h : wpV Try.prog (tH s127_19) (postV [.t 4] RV) (envV vs) M) : VCall Try.prog n_laws_eqTermS vs M RV :=
  vcall_of_wp (fun _ _ _ hl h => acall_of_wp mixed Try.func127 c127 (by kernel_rfl) hl h) hl h
@[go_sem] def l15_0 (_ : Unit) : KL := [kB 4 (.mv (.c (.bool false))) [0, 1]]
@[go_sem] def l15_1 (_ : Unit) : KL := [kA 6 (.mv (.t 0)),
  kA 7 (.len (.t 6)),
  kA 8 (.mv (.t 1)),
  kA 9 (.len (.t 8)),
  kB 10 (.bin .neq (.t 7) (.t 9)) [0, 1, 10]]
@[go_sem] def l15_2 (_ : Unit) : KL := [kB 4 (.mv (.c (.bool false))) [4]]
@[go_sem] def s15_3 (_ : Unit) : IR := (sQ [(kT l15_2), .ret])
@[go_sem] def s15_4 (_ : Unit) : IR := (sQ [(kT l15_1), (.cond (.t 10) (tH s15_3) .skip)])
@[go_sem] def l15_5 (_ : Unit) : KL := [kB 5 (.mv (cI 0)) [0, 1, 5]]
@[go_sem] def l15_6 (_ : Unit) : KL := [kA 11 (.mv (.t 5)),
  kA 12 (.mv (.t 0)),
  kA 13 (.len (.t 12)),
  kB 14 (.bin .lss (.t 11) (.t 13)) [0, 1, 5, 14]]
@[go_sem] def s15_7 (_ : Unit) : IR := (sQ [(kT l15_6), (.cond (.t 14) .skip (.exit 0))])
@[go_sem] def l15_8 : Nat → GOp
  | 0 => ⟨(some 17), .mv (.t 0), none⟩
  | 1 => ⟨(some 18), .mv (.t 5), none⟩
  | 2 => ⟨(some 19), .iaddr (.t 17) (.t 18) 1, none⟩
  | 3 => ⟨(some 20), .load (.t 19) 1 false, none⟩
  | 4 => ⟨(some 21), .mv (.t 1), none⟩
  | 5 => ⟨(some 22), .mv (.t 5), none⟩
  | 6 => ⟨(some 23), .iaddr (.t 21) (.t 22) 1, none⟩
  | 7 => ⟨(some 24), .load (.t 23) 1 false, none⟩
  | 8 => ⟨(some 25), .bin .neq (.t 20) (.t 24), none⟩
  | _ => ⟨none, .mkmap, none⟩
@[go_sem] def l15_9 (_ : Unit) : KL := [kB 4 (.mv (.c (.bool false))) [4]]
@[go_sem] def s15_10 (_ : Unit) : IR := (sQ [(kT l15_9), .ret])
@[go_sem] def s15_11 (_ : Unit) : IR := (sQ [(.kd (oF l15_8 9) [(0, []), (1, []), (2, []), (3, []), (4, []), (5, []), (6, []), (7, []), (8, [])] [0, 1, 5, 25]), (.cond (.t 25) (tH s15_10) .skip)])
@[go_sem] def s15_12 (_ : Unit) : IR := (.block 1 (tH s15_11))
@[go_sem] def l15_13 (_ : Unit) : KL := [kA 15 (.mv (.t 5)),
  kA 16 (.bin .add (.t 15) (cI 1)),
  kB 5 (.mv (.t 16)) [0, 1, 5]]
@[go_sem] def s15_14 (_ : Unit) : IR := (sQ [(tH s15_7), (tH s15_12), (kT l15_13)])
@[go_sem] def s15_15 (_ : Unit) : IR := (.loop (tH s15_14))
@[go_sem] def s15_16 (_ : Unit) : IR := (.block 0 (tH s15_15))
@[go_sem] def s15_17 (_ : Unit) : IR := (sQ [(kT l15_5), (tH s15_16)])
@[go_sem] def l15_18 (_ : Unit) : KL := [kB 4 (.mv (.c (.bool true))) [4]]
@[go_sem] def s15_19 (_ : Unit) : IR := (sQ [(kT l15_0), (tH s15_4), (tH s15_17), (kT l15_18), .ret])
theorem c15 : compFn Try.prog [(0, [], [oS [0, 1]]), (1, [], [oN, oN, oN, oN, oS [0, 1, 10]]), (2, [], [oS [4]]), (3, [], [oS [0, 1, 5]]), (4, [], [oN, oN, oN, oS [0, 1, 5, 14]]), (6, [(0, []), (1, []), (2, []), (3, []), (4, []), (5, []), (6, []), (7, []), (8, [])], [oS [0, 1, 5, 25]]), (7, [], [oS [4]]), (5, [], [oN, oN, oS [0, 1, 5]]), (8, [], [oS [4]])] Try.f15 = some ⟨2, 26, [.t 4], (tH s15_19)⟩ := by kernel_rfl
theorem v_laws_eqIntS (hl : vs.length = 2) (h : wpV Try.prog (tH s15_19) (postV [.t 4] RV) (envV vs) M) : VCall Try.prog n_laws_eqIntS vs M RV :=
  vcall_of_wp (fun _ _ _ hl h => acall_of_wp mixed Try.func15 c15 (by kernel_rfl) hl h) hl h
@[go_sem] def l128_0 (_ : Unit) : KL := [kB 4 (.mv (.c (.bool false))) [0, 1]]
@[go_sem] def l128_1 (_ : Unit) : KL := [kA 6 (.mv (.t 0)),
  kA 7 (.len (.t 6)),
  kA 8 (.mv (.t 1)),
  kA 9 (.len (.t 8)),
  kB 10 (.bin .neq (.t 7) (.t 9)) [0, 1, 10]]
@[go_sem] def l128_2 (_ : Unit) : KL := [kB 4 (.mv (.c (.bool false))) [4]]
@[go_sem] def s128_3 (_ : Unit) : IR := (sQ [(kT l128_2), .ret])
@[go_sem] def s128_4 (_ : Unit) : IR := (sQ [(kT l128_1), (.cond (.t 10) (tH s128_3) .skip)])
@[go_sem] def l128_5 (_ : Unit) : KL := [kB 5 (.mv (cI 0)) [0, 1, 5]]
@[go_sem] def l128_6 (_ : Unit) : KL := [kA 11 (.mv (.t 5)),
  kA 12 (.mv (.t 0)),
  kA 13 (.len (.t 12)),
  kB 14 (.bin .lss (.t 11) (.t 13)) [0, 1, 5, 14]]
@[go_sem] def s128_7 (_ : Unit) : IR := (sQ [(kT l128_6), (.cond (.t 14) .skip (.exit 0))])
@[go_sem] def l128_8 : Nat → GOp
  | 0 => ⟨(some 17), .mv (.t 0), none⟩
  | 1 => ⟨(some 18), .mv (.t 5), none⟩
  | 2 => ⟨(some 19), .iaddr (.t 17) (.t 18) 1, none⟩
  | 3 => ⟨(some 20), .load (.t 19) 1 false, none⟩
  | 4 => ⟨(some 21), .mv (.t 1), none⟩
  | 5 => ⟨(some 22), .mv (.t 5), none⟩
  | 6 => ⟨(some 23), .iaddr (.t 21) (.t 22) 1, none⟩
  | 7 => ⟨(some 24), .load (.t 23) 1 false, none⟩
  | 8 => ⟨(some 25), .call (n_laws_eqTermS) [(.t 20), (.t 24)], none⟩
  | 9 => ⟨(some 26), .un .not (.t 25), none⟩
  | _ => ⟨none, .mkmap, none⟩
@[go_sem] def l128_9 (_ : Unit) : KL := [kB 4 (.mv (.c (.bool false))) [4]]
@[go_sem] def s128_10 (_ : Unit) : IR := (sQ [(kT l128_9), .ret])
@[go_sem] def s128_11 (_ : Unit) : IR := (sQ [(.kd (oF l128_8 10) [(0, []), (1, []), (2, []), (3, []), (4, []), (5, []), (6, []), (7, []), (8, []), (9, [])] [0, 1, 5, 26]), (.cond (.t 26) (tH s128_10) .skip)])
@[go_sem] def s128_12 (_ : Unit) : IR := (.block 1 (tH s128_11))
@[go_sem] def l128_13 (_ : Unit) : KL := [kA 15 (.mv (.t 5)),
  kA 16 (.bin .add (.t 15) (cI 1)),
  kB 5 (.mv (.t 16)) [0, 1, 5]]
@[go_sem] def s128_14 (_ : Unit) : IR := (sQ [(tH s128_7), (tH s128_12), (kT l128_13)])
@[go_sem] def s128_15 (_ : Unit) : IR := (.loop (tH s128_14))
@[go_sem] def s128_16 (_ : Unit) : IR := (.block 0 (tH s128_15))
@[go_sem] def s128_17 (_ : Unit) : IR := (sQ [(kT l128_5), (tH s128_16)])
@[go_sem] def l128_18 (_ : Unit) : KL := [kB 4 (.mv (.c (.bool true))) [4]]
@[go_sem] def s128_19 (_ : Unit) : IR := (sQ [(kT l128_0), (tH s128_4), (tH s128_17), (kT l128_18), .ret])
theorem c128 : compFn Try.prog [(0, [], [oS [0, 1]]), (1, [], [oN, oN, oN, oN, oS [0, 1, 10]]), (2, [], [oS [4]]), (3, [], [oS [0, 1, 5]]), (4, [], [oN, oN, oN, oS [0, 1, 5, 14]]), (6, [(0, []), (1, []), (2, []), (3, []), (4, []), (5, []), (6, []), (7, []), (8, []), (9, [])], [oS [0, 1, 5, 26]]), (7, [], [oS [4]]), (5, [], [oN, oN, oS [0, 1, 5]]), (8, [], [oS [4]])] Try.f128 = some ⟨2, 27, [.t 4], (tH s128_19)⟩ := by kernel_rfl
theorem v_laws_eqTermSS (hl : vs.length = 2) (h : wpV Try.prog (tH s128_19) (postV [.t 4] RV) (envV vs) M) : VCall Try.prog n_laws_eqTermSS vs M RV :=
  vcall_of_wp (fun _ _ _ hl h => acall_of_wp mixed Try.func128 c128 (by kernel_rfl) hl h) hl h
@[go_sem] def l94_0 (_ : Unit) : KL := [kA 2 (.box (.t 0)),
  kA 3 (.box (.t 1)),
  kB 4 (.mv (.c (.bool false))) [2, 3]]
@[go_sem] def l94_1 (_ : Unit) : KL := [kA 5 (.faddr (.t 2) 0),
  kA 6 (.load (.t 5) 1 false),
  kA 7 (.faddr (.t 3) 0),
  kA 8 (.load (.t 7) 1 false),
  kB 9 (.call (n_laws_eqTermS) [(.t 6), (.t 8)]) [2, 3, 9],
  kB 10 (.un .not (.t 9)) [2, 3, 10]]
@[go_sem] def l94_2 (_ : Unit) : KL := [kB 4 (.mv (.c (.bool false))) [4]]
@[go_sem] def s94_3 (_ : Unit) : IR := (sQ [(kT l94_2), .ret])
@[go_sem] def s94_4 (_ : Unit) : IR := (sQ [(kT l94_1), (.cond (.t 10) (tH s94_3) .skip)])
@[go_sem] def l94_5 (_ : Unit) : KL := [kA 11 (.faddr (.t 2) 1),
  kA 12 (.load (.t 11) 1 false),
  kA 13 (.faddr (.t 3) 1),
  kA 14 (.load (.t 13) 1 false),
  kB 15 (.call (n_laws_eqIntS) [(.t 12), (.t 14)]) [2, 3, 15],
  kB 16 (.un .not (.t 15)) [2, 3, 16]]
@[go_sem] def l94_6 (_ : Unit) : KL := [kB 4 (.mv (.c (.bool false))) [4]]
@[go_sem] def s94_7 (_ : Unit) : IR := (sQ [(kT l94_6), .ret])
@[go_sem] def s94_8 (_ : Unit) : IR := (sQ [(kT l94_5), (.cond (.t 16) (tH s94_7) .skip)])
@[go_sem] def l94_9 (_ : Unit) : KL := [kA 17 (.faddr (.t 2) 2),
  kA 18 (.load (.t 17) 1 false),
  kA 19 (.faddr (.t 3) 2),
  kA 20 (.load (.t 19) 1 false),
  kB 21 (.call (n_laws_eqTermSS) [(.t 18), (.t 20)]) [21],
  kB 22 (.un .not (.t 21)) [22]]
@[go_sem] def l94_10 (_ : Unit) : KL := [kB 4 (.mv (.c (.bool false))) [4]]
@[go_sem] def s94_11 (_ : Unit) : IR := (sQ [(kT l94_10), .ret])
@[go_sem] def s94_12 (_ : Unit) : IR := (sQ [(kT l94_9), (.cond (.t 22) (tH s94_11) .skip)])
@[go_sem] def l94_13 (_ : Unit) : KL := [kB 4 (.mv (.c (.bool true))) [4]]
@[go_sem] def s94_14 (_ : Unit) : IR := (sQ [(kT l94_0), (tH s94_4), (tH s94_8), (tH s94_12), (kT l94_13), .ret])
theorem c94 : compFn Try.prog [(0, [], [oN, oN, oS [2, 3]]), (1, [], [oN, oN, oN, oN, oS [2, 3, 9], oS [2, 3, 10]]), (2, [], [oS [4]]), (3, [], [oN, oN, oN, oN, oS [2, 3, 15], oS [2, 3, 16]]), (4, [], [oS [4]]), (5, [], [oN, oN, oN, oN, oS [21], oS [22]]), (6, [], [oS [4]]), (7, [], [oS [4]])] Try.f94 = some ⟨2, 23, [.t 4], (tH s94_14)⟩ := by kernel_rfl
theorem v_laws_eqRule (hl : vs.length = 2) (h : wpV Try.prog (tH s94_14) (postV [.t 4] RV) (envV vs) M) : VCall Try.prog n_laws_eqRule vs M RV :=
  vcall_of_wp (fun _ _ _ hl h => acall_of_wp mixed Try.func94 c94 (by kernel_rfl) hl h) hl h
@[go_sem] def l51_0 (_ : Unit) : KL := [kB 4 (.mv (.c (.bool false))) [0, 1]]
@[go_sem] def l51_1 (_ : Unit) : KL := [kA 6 (.mv (.t 0)),
  kA 7 (.len (.t 6)),
  kA 8 (.mv (.t 1)),
  kA 9 (.len (.t 8)),
  kB 10 (.bin .neq (.t 7) (.t 9)) [0, 1, 10]]
@[go_sem] def l51_2 (_ : Unit) : KL := [kB 4 (.mv (.c (.bool false))) [4]]
@[go_sem] def s51_3 (_ : Unit) : IR := (sQ [(kT l51_2), .ret])
@[go_sem] def s51_4 (_ : Unit) : IR := (sQ [(kT l51_1), (.cond (.t 10) (tH s51_3) .skip)])
@[go_sem] def l51_5 (_ : Unit) : KL := [kB 5 (.mv (cI 0)) [0, 1, 5]]
@[go_sem] def l51_6 (_ : Unit) : KL := [kA 11 (.mv (.t 5)),
  kA 12 (.mv (.t 0)),
  kA 13 (.len (.t 12)),
  kB 14 (.bin .lss (.t 11) (.t 13)) [0, 1, 5, 14]]
@[go_sem] def s51_7 (_ : Unit) : IR := (sQ [(kT l51_6), (.cond (.t 14) .skip (.exit 0))])
@[go_sem] def l51_8 : Nat → GOp
  | 0 => ⟨(some 17), .mv (.t 0), none⟩
  | 1 => ⟨(some 18), .mv (.t 5), none⟩
  | 2 => ⟨(some 19), .iaddr (.t 17) (.t 18) 3, none⟩
  | 3 => ⟨(some 20), .load (.t 19) 3 true, none⟩
  | 4 => ⟨(some 21), .mv (.t 1), none⟩
  | 5 => ⟨(some 22), .mv (.t 5), none⟩
  | 6 => ⟨(some 23), .iaddr (.t 21) (.t 22) 3, none⟩
  | 7 => ⟨(some 24), .load (.t 23) 3 true, none⟩
  | 8 => ⟨(some 25), .call (n_laws_eqRule) [(.t 20), (.t 24)], none⟩
  | 9 => ⟨(some 26), .un .not (.t 25), none⟩
  | _ => ⟨none, .mkmap, none⟩
@[go_sem] def l51_9 (_ : Unit) : KL := [kB 4 (.mv (.c (.bool false))) [4]]
@[go_sem] def s51_10 (_ : Unit) : IR := (sQ [(kT l51_9), .ret])
@[go_sem] def s51_11 (_ : Unit) : IR := (sQ [(.kd (oF l51_8 10) [(0, []), (1, []), (2, []), (3, []), (4, []), (5, []), (6, []), (7, []), (8, []), (9, [])] [0, 1, 5, 26]), (.cond (.t 26) (tH s51_10) .skip)])
@[go_sem] def s51_12 (_ : Unit) : IR := (.block 1 (tH s51_11))
@[go_sem] def l51_13 (_ : Unit) : KL := [kA 15 (.mv (.t 5)),
  kA 16 (.bin .add (.t 15) (cI 1)),
  kB 5 (.mv (.t 16)) [0, 1, 5]]
@[go_sem] def s51_14 (_ : Unit) : IR := (sQ [(tH s51_7), (tH s51_12), (kT l51_13)])
@[go_sem] def s51_15 (_ : Unit) : IR := (.loop (tH s51_14))
@[go_sem] def s51_16 (_ : Unit) : IR := (.block 0 (tH s51_15))
@[go_sem] def s51_17 (_ : Unit) : IR := (sQ [(kT l51_5), (tH s51_16)])
@[go_sem] def l51_18 (_ : Unit) : KL := [kB 4 (.mv (.c (.bool true))) [4]]
@[go_sem] def s51_19 (_ : Unit) : IR := (sQ [(kT l51_0), (tH s51_4), (tH s51_17), (kT l51_18), .ret])
theorem c51 : compFn Try.prog [(0, [], [oS [0, 1]]), (1, [], [oN, oN, oN, oN, oS [0, 1, 10]]), (2, [], [oS [4]]), (3, [], [oS [0, 1, 5]]), (4, [], [oN, oN, oN, oS [0, 1, 5, 14]]), (6, [(0, []), (1, []), (2, []), (3, []), (4, []), (5, []), (6, []), (7, []), (8, []), (9, [])], [oS [0, 1, 5, 26]]), (7, [], [oS [4]]), (5, [], [oN, oN, oS [0, 1, 5]]), (8, [], [oS [4]])] Try.f51 = some ⟨2, 27, [.t 4], (tH s51_19)⟩ := by kernel_rfl
theorem v_laws_eqRuleS (hl : vs.length = 2) (h : wpV Try.prog (tH s51_19) (postV [.t 4] RV) (envV vs) M) : VCall Try.prog n_laws_eqRuleS vs M RV :=
  vcall_of_wp (fun _ _ _ hl h => acall_of_wp mixed Try.func51 c51 (by kernel_rfl) hl h) hl h
@[go_sem] def l14_0 (_ : Unit) : KL := [kA 2 (.box (.t 0)),
  kA 3 (.box (.t 1)),
  kB 4 (.mv (.c (.bool false))) [2, 3]]
@[go_sem] def l14_1 (_ : Unit) : KL := [kA 5 (.faddr (.t 2) 0),
  kA 6 (.load (.t 5) 1 false),
  kA 7 (.faddr (.t 3) 0),
  kA 8 (.load (.t 7) 1 false),
  kB 9 (.call (n_laws_eqVarS) [(.t 6), (.t 8)]) [2, 3, 9],
  kB 10 (.un .not (.t 9)) [2, 3, 10]]
@[go_sem] def l14_2 (_ : Unit) : KL := [kB 4 (.mv (.c (.bool false))) [4]]
@[go_sem] def s14_3 (_ : Unit) : IR := (sQ [(kT l14_2), .ret])
@[go_sem] def s14_4 (_ : Unit) : IR := (sQ [(kT l14_1), (.cond (.t 10) (tH s14_3) .skip)])
@[go_sem] def l14_5 (_ : Unit) : KL := [kA 11 (.faddr (.t 2) 1),
  kA 12 (.load (.t 11) 1 false),
  kA 13 (.faddr (.t 3) 1),
  kA 14 (.load (.t 13) 1 false),
  kB 15 (.call (n_laws_eqRuleS) [(.t 12), (.t 14)]) [15],
  kB 16 (.un .not (.t 15)) [16]]
@[go_sem] def l14_6 (_ : Unit) : KL := [kB 4 (.mv (.c (.bool false))) [4]]
@[go_sem] def s14_7 (_ : Unit) : IR := (sQ [(kT l14_6), .ret])
@[go_sem] def s14_8 (_ : Unit) : IR := (sQ [(kT l14_5), (.cond (.t 16) (tH s14_7) .skip)])
@[go_sem] def l14_9 (_ : Unit) : KL := [kB 4 (.mv (.c (.bool true))) [4]]
@[go_sem] def s14_10 (_ : Unit) : IR := (sQ [(kT l14_0), (tH s14_4), (tH s14_8), (kT l14_9), .ret])
theorem c14 : compFn Try.prog [(0, [], [oN, oN, oS [2, 3]]), (1, [], [oN, oN, oN, oN, oS [2, 3, 9], oS [2, 3, 10]]), (2, [], [oS [4]]), (3, [], [oN, oN, oN, oN, oS [15], oS [16]]), (4, [], [oS [4]]), (5, [], [oS [4]])] Try.f14 = some ⟨2, 17, [.t 4], (tH s14_10)⟩ := by kernel_rfl
theorem v_laws_eqSystem (hl : vs.length = 2) (h : wpV Try.prog (tH s14_10) (postV [.t 4] RV) (envV vs) M) : VCall Try.prog n_laws_eqSystem vs M RV :=
  vcall_of_wp (fun _ _ _ hl h => acall_of_wp mixed Try.func14 c14 (by kernel_rfl) hl h) hl h
@[go_sem] def l5_0 (_ : Unit) : KL := [kA 3 (.box (.t 0)),
  kB 6 (.mv (.c (.bool false))) [1, 2, 3]]
@[go_sem] def l5_1 (_ : Unit) : KL := [kB 7 (.mv (cI 1048576)) [1, 2, 3, 7]]
@[go_sem] def l5_2 (_ : Unit) : KL := [kA 11 (.load (.t 3) 2 true),
  kA 12 (.mv (.t 7)),
  kA 13 (.call (n_laws_szSystem) [(.t 11), (.t 12)]),
  kB 7 (.mv (.t 13)) [1, 2, 3, 7]]
@[go_sem] def l5_3 (_ : Unit) : KL := [kA 14 (.mv (.t 7)),
  kB 15 (.bin .lss (.t 14) (cI 0)) [1, 2, 3, 15]]
@[go_sem] def l5_4 (_ : Unit) : KL := [kB 6 (.mv (.c (.bool true))) [6]]
@[go_sem] def s5_5 (_ : Unit) : IR := (sQ [(kT l5_4), .ret])
@[go_sem] def s5_6 (_ : Unit) : IR := (sQ [(kT l5_3), (.cond (.t 15) (tH s5_5) .skip)])
@[go_sem] def l5_7 (_ : Unit) : KL := [kA 16 (.load (.t 3) 2 true),
  kA 17 (.call (n_laws_toSystem) [(.t 16)]),
  kA 18 (.mv (.t 1)),
  kA 19 (.mv (.t 2)),
  kB 20 (.call (n_spec_RulesApart) [(.t 17), (.t 18), (.t 19)]) [1, 2, 3, 20],
  kB 8 (.mv (.t 20)) [1, 2, 3, 8]]
@[go_sem] def l5_8 (_ : Unit) : KL := [kA 21 (.load (.t 3) 2 true),
  kA 22 (.call (n_laws_toSystem) [(.t 21)]),
  kA 9 (.alloc [(.sl none 0 0 true 0), (.sl none 0 0 true 0)]),
  (⟨none, .store (.t 9) 2 (.t 22), none⟩, (some [1, 2, 3, 8, 9]))]
@[go_sem] def l5_9 (_ : Unit) : KL := [kA 23 (.load (.t 9) 2 true),
  kA 24 (.mv (.t 1)),
  kA 25 (.mv (.t 2)),
  kA 26 (.call (n_impl_RulesApart) [(.t 23), (.t 24), (.t 25)]),
  kB 10 (.mv (.t 26)) [3, 8, 9, 10]]
@[go_sem] def l5_10 (_ : Unit) : KL := [kA 27 (.mv (.t 10)),
  kA 28 (.mv (.t 8)),
  kB 29 (.beq true (.t 27) (.t 28)) [3, 9, 29]]
@[go_sem] def l5_11 (_ : Unit) : KL := [kB 6 (.mv (.c (.bool false))) [6]]
@[go_sem] def s5_12 (_ : Unit) : IR := (sQ [(kT l5_11), .ret])
@[go_sem] def s5_13 (_ : Unit) : IR := (sQ [(kT l5_10), (.cond (.t 29) (tH s5_12) .skip)])
@[go_sem] def l5_14 : Nat → GOp
  | 0 => ⟨(some 30), .load (.t 9) 2 true, none⟩
  | 1 => ⟨(some 31), .load (.t 3) 2 true, none⟩
  | 2 => ⟨(some 32), .call (n_laws_toSystem) [(.t 31)], none⟩
  | 3 => ⟨(some 33), .call (n_laws_eqSystem) [(.t 30), (.t 32)], none⟩
  | 4 => ⟨(some 34), .un .not (.t 33), none⟩
  | _ => ⟨none, .mkmap, none⟩
@[go_sem] def l5_15 (_ : Unit) : KL := [kB 6 (.mv (.c (.bool false))) [6]]
@[go_sem] def s5_16 (_ : Unit) : IR := (sQ [(kT l5_15), .ret])
@[go_sem] def s5_17 (_ : Unit) : IR := (sQ [(.kd (oF l5_14 5) [(0, []), (1, []), (2, [0]), (3, []), (4, [])] [34]), (.cond (.t 34) (tH s5_16) .skip)])
@[go_sem] def l5_18 (_ : Unit) : KL := [kB 6 (.mv (.c (.bool true))) [6]]
@[go_sem] def s5_19 (_ : Unit) : IR := (sQ [(kT l5_0), (kT l5_1), (kT l5_2), (tH s5_6), (kT l5_7), (kT l5_8), (kT l5_9), (tH s5_13), (tH s5_17), (kT l5_18), .ret])
theorem c5 : compFn Try.prog [(0, [], [oN, oS [1, 2, 3]]), (1, [], [oS [1, 2, 3, 7]]), (2, [], [oN, oN, oN, oS [1, 2, 3, 7]]), (3, [], [oN, oS [1, 2, 3, 15]]), (4, [], [oS [6]]), (5, [], [oN, oN, oN, oN, oS [1, 2, 3, 20], oS [1, 2, 3, 8]]), (6, [], [oN, oN, oN, oS [1, 2, 3, 8, 9]]), (7, [], [oN, oN, oN, oN, oS [3, 8, 9, 10]]), (8, [], [oN, oN, oS [3, 9, 29]]), (9, [], [oS [6]]), (10, [(0, []), (1, []), (2, [0]), (3, []), (4, [])], [oS [34]]), (11, [], [oS [6]]), (12, [], [oS [6]])] Try.f5 = some ⟨3, 35, [.t 6], (tH s5_19)⟩ := by kernel_rfl
theorem v_laws_FnExactRulesApart (hl : vs.length = 3) (h : wpV Try.prog (tH s5_19) (postV [.t 6] RV) (envV vs) M) : VCall Try.prog n_laws_FnExactRulesApart vs M RV :=
  vcall_of_wp (fun _ _ _ hl h => acall_of_wp mixed Try.func5 c5 (by kernel_rfl) hl h) hl h
end Go.M2

namespace Go.M2
open Go.Proofs
variable {M : MH}
theorem eqB {a b : Bool} (h : a = true ↔ b = true) : V.sc (.bool a) = V.sc (.bool b) := by
  have : a = b := by cases a <;> cases b <;> simp_all
  rw [this]
theorem eqI {a b : Int} (h : a = b) : V.sc (.int .i64 a) = V.sc (.int .i64 b) := by rw [h]
theorem t_l1In {n lo hi : Int} : VCall Try.prog n_spec_l1In [.sc (.int .i64 n), .sc (.int .i64 lo), .sc (.int .i64 hi)] M (fun r M' => M = M' ∧ r = .sc (.bool (decide (lo ≤ n ∧ n ≤ hi)))) := by
  refine VCall.pure fun R hR => v_spec_l1In rfl ?_
  (repeat' (first | ((with_reducible first | refine cond_dec (fun h => ?_) (fun h => ?_) | refine guardK_dec (fun h => ?_) (fun h => ?_) | refine guardD3_dec (fun h => ?_) (fun h => ?_)) <;> first | (exfalso; omega) | (simp (maxSteps := 2000000) (disch := first | omega | assumption | exact idP rfl | exact idP (bL rfl)) only [go_sem, reduceIte, Nat.reduceEqDiff, wpV_kd, wpV_tH, h]) | skip) | ((with_reducible first | refine cond_split (fun h => ?_) (fun h => ?_) | refine guardK_split (fun h => ?_) (fun h => ?_) | refine guardD3_split (fun h => ?_) (fun h => ?_)) <;> ((try simp only [Bool.not_eq_true', Bool.not_eq_false'] at h); first | (simp (maxSteps := 2000000) (disch := first | omega | assumption | exact idP rfl | exact idP (bL rfl)) only [go_sem, reduceIte, Nat.reduceEqDiff, wpV_kd, wpV_tH, h]) | skip)) | (with_reducible intro bk hbk; try have hnk := (fresh_set hbk).1) | (simp (maxSteps := 2000000) (disch := first | omega | assumption | exact idP rfl | exact idP (bL rfl)) only [go_sem, reduceIte, Nat.reduceEqDiff, wpV_kd, wpV_tH])))
  all_goals exact hR _ _ (Sub.refl _) (by (refine eqB ?_; (try simp only [decide_eq_true_eq, Bool.false_eq_true, Bool.and_eq_true, Bool.or_eq_true, Bool.not_eq_true', decide_eq_false_iff_not, eq_self_iff_true, true_iff, false_iff, iff_true, iff_false, ne_eq]); (try omega)))
theorem t_in {n lo hi : Int} : VCall Try.prog n_impl_in [.sc (.int .i64 n), .sc (.int .i64 lo), .sc (.int .i64 hi)] M (fun r M' => M = M' ∧ r = .sc (.bool (decide (lo ≤ n ∧ n ≤ hi)))) := by
  refine VCall.pure fun R hR => v_impl_in rfl ?_
  (repeat' (first | ((with_reducible first | refine cond_dec (fun h => ?_) (fun h => ?_) | refine guardK_dec (fun h => ?_) (fun h => ?_) | refine guardD3_dec (fun h => ?_) (fun h => ?_)) <;> first | (exfalso; omega) | (simp (maxSteps := 2000000) (disch := first | omega | assumption | exact idP rfl | exact idP (bL rfl)) only [go_sem, reduceIte, Nat.reduceEqDiff, wpV_kd, wpV_tH, h]) | skip) | ((with_reducible first | refine cond_split (fun h => ?_) (fun h => ?_) | refine guardK_split (fun h => ?_) (fun h => ?_) | refine guardD3_split (fun h => ?_) (fun h => ?_)) <;> ((try simp only [Bool.not_eq_true', Bool.not_eq_false'] at h); first | (simp (maxSteps := 2000000) (disch := first | omega | assumption | exact idP rfl | exact idP (bL rfl)) only [go_sem, reduceIte, Nat.reduceEqDiff, wpV_kd, wpV_tH, h]) | skip)) | (with_reducible intro bk hbk; try have hnk := (fresh_set hbk).1) | (simp (maxSteps := 2000000) (disch := first | omega | assumption | exact idP rfl | exact idP (bL rfl)) only [go_sem, reduceIte, Nat.reduceEqDiff, wpV_kd, wpV_tH])))
  all_goals exact hR _ _ (Sub.refl _) (by (refine eqB ?_; (try simp only [decide_eq_true_eq, Bool.false_eq_true, Bool.and_eq_true, Bool.or_eq_true, Bool.not_eq_true', decide_eq_false_iff_not, eq_self_iff_true, true_iff, false_iff, iff_true, iff_false, ne_eq]); (try omega)))
theorem t_l1One {n : Int} : VCall Try.prog n_spec_l1One [.sc (.int .i64 n)] M (fun r M' => M = M' ∧ r = .sc (.bool (decide (n = 7)))) := by
  refine VCall.pure fun R hR => v_spec_l1One rfl ?_
  (repeat' (first | ((with_reducible first | refine cond_dec (fun h => ?_) (fun h => ?_) | refine guardK_dec (fun h => ?_) (fun h => ?_) | refine guardD3_dec (fun h => ?_) (fun h => ?_)) <;> first | (exfalso; omega) | (simp (maxSteps := 2000000) (disch := first | omega | assumption | exact idP rfl | exact idP (bL rfl)) only [go_sem, reduceIte, Nat.reduceEqDiff, wpV_kd, wpV_tH, h]) | skip) | ((with_reducible first | refine cond_split (fun h => ?_) (fun h => ?_) | refine guardK_split (fun h => ?_) (fun h => ?_) | refine guardD3_split (fun h => ?_) (fun h => ?_)) <;> ((try simp only [Bool.not_eq_true', Bool.not_eq_false'] at h); first | (simp (maxSteps := 2000000) (disch := first | omega | assumption | exact idP rfl | exact idP (bL rfl)) only [go_sem, reduceIte, Nat.reduceEqDiff, wpV_kd, wpV_tH, h]) | skip)) | (with_reducible intro bk hbk; try have hnk := (fresh_set hbk).1) | (simp (maxSteps := 2000000) (disch := first | omega | assumption | exact idP rfl | exact idP (bL rfl)) only [go_sem, reduceIte, Nat.reduceEqDiff, wpV_kd, wpV_tH])))
  all_goals exact hR _ _ (Sub.refl _) rfl
def encT (t : TermS) : List V := [.sc (.int .i64 t.op), .sc (.int .i64 t.n), .sc (.int .i64 t.a), .sc (.int .i64 t.b)]
def isT (t : TermS) (cs : List V) : Prop := cs = encT t
abbrev LT : V → List TermS → Prop := Lc 4 isT
theorem LI.ix {v : V} {ys : List Int} (h : LI v ys) {i : Int} (h0 : 0 ≤ i) (h1 : i < (ys.length : Int)) : at1 v i.toNat = .sc (.int .i64 (ix ys i)) := by
  obtain ⟨h2, e⟩ := ix_eq h0 h1
  rw [LI.at h h2, e]
theorem t_l1Kind {t : TermS} {v : V} {ks : List Int} {vars : Int} (hv : LI v ks) (hl : ks.length ≤ 40) (h0 : 0 ≤ vars) (h1 : vars ≤ 5) :
    VCall Try.prog n_spec_l1Kind [.agg (encT t), v, .sc (.int .i64 vars)] M (fun r M' => M = M' ∧ r = .sc (.int .i64 (kind1 vars t ks))) := by
  refine VCall.pure fun R hR => v_spec_l1Kind rfl ?_
  obtain ⟨op, n, a, b⟩ := t
  simp only [encT]
  (repeat' (first | ((with_reducible first | refine cond_dec (fun h => ?_) (fun h => ?_) | refine guardK_dec (fun h => ?_) (fun h => ?_) | refine guardD3_dec (fun h => ?_) (fun h => ?_)) <;> first | (exfalso; omega) | (simp (maxSteps := 2000000) (disch := first | omega | assumption | exact idP rfl | exact idP (bL rfl)) only [go_sem, reduceIte, Nat.reduceEqDiff, wpV_kd, wpV_tH, h, hv.len, hv.iaddr, hv.ix]) | skip) | ((with_reducible first | refine cond_split (fun h => ?_) (fun h => ?_) | refine guardK_split (fun h => ?_) (fun h => ?_) | refine guardD3_split (fun h => ?_) (fun h => ?_)) <;> ((try simp only [Bool.not_eq_true', Bool.not_eq_false'] at h); first | (simp (maxSteps := 2000000) (disch := first | omega | assumption | exact idP rfl | exact idP (bL rfl)) only [go_sem, reduceIte, Nat.reduceEqDiff, wpV_kd, wpV_tH, h, hv.len, hv.iaddr, hv.ix]) | skip)) | ((with_reducible refine (t_l1In).mono ?_); rintro _ _ ⟨rfl, rfl⟩) | ((with_reducible refine (t_l1One).mono ?_); rintro _ _ ⟨rfl, rfl⟩) | (with_reducible intro bk hbk; try have hnk := (fresh_set hbk).1) | (simp (maxSteps := 2000000) (disch := first | omega | assumption | exact idP rfl | exact idP (bL rfl)) only [go_sem, reduceIte, Nat.reduceEqDiff, wpV_kd, wpV_tH, hv.len, hv.iaddr, hv.ix])))
  all_goals refine hR _ _ (sB) (eqI ?_)
  all_goals simp only [kind1, wantK]
  all_goals repeat' split
  all_goals first | omega | trace_state
theorem nth_ix {ks : List Int} {a : Int} (h0 : 0 ≤ a) (h1 : a < (ks.length : Int)) : (ks.map vi)[a.toNat]? = some (.sc (.int .i64 (ix ks a))) := by
  obtain ⟨h, e⟩ := ix_eq h0 h1
  rw [nth_vi h, e]
end Go.M2

namespace Go.M2
open Go.Proofs
variable {M : MH}
theorem encT_eq (t : TermS) : encT t = [.sc (.int .i64 t.op), .sc (.int .i64 t.n), .sc (.int .i64 t.a), .sc (.int .i64 t.b)] := rfl
theorem encT_take (t : TermS) : (encT t).take 4 = encT t := rfl
theorem LT.at {v : V} {ts : List TermS} (h : LT v ts) {i : Nat} (hi : i < ts.length) : atN 4 v i = encT ts[i] := h.elt hi
def kRes (r : V) : Option (List Int) → Prop
  | none => r = .sc (.sl none 0 0 true 0)
  | some ks => LI r ks
theorem t_KindsOf {v : V} {ts : List TermS} {vars : Int} (hv : LT v ts) : VCall Try.prog n_spec_KindsOf [v, .sc (.int .i64 vars)] M (fun r M' => M = M' ∧ kRes r (kindsF vars ts)) := by
  refine VCall.froz fun R hP hG => v_spec_KindsOf rfl ?_
  (repeat' (first | ((with_reducible first | refine cond_dec (fun h => ?_) (fun h => ?_) | refine guardK_dec (fun h => ?_) (fun h => ?_) | refine guardD3_dec (fun h => ?_) (fun h => ?_)) <;> first | (exfalso; omega) | (simp (maxSteps := 2000000) (disch := first | omega | assumption | exact idP rfl | exact idP (bL rfl)) only [go_sem, reduceIte, Nat.reduceEqDiff, wpV_kd, wpV_tH, h, hv.len]) | skip) | ((with_reducible first | refine cond_split (fun h => ?_) (fun h => ?_) | refine guardK_split (fun h => ?_) (fun h => ?_) | refine guardD3_split (fun h => ?_) (fun h => ?_)) <;> ((try simp only [Bool.not_eq_true', Bool.not_eq_false'] at h); first | (simp (maxSteps := 2000000) (disch := first | omega | assumption | exact idP rfl | exact idP (bL rfl)) only [go_sem, reduceIte, Nat.reduceEqDiff, wpV_kd, wpV_tH, h, hv.len]) | skip)) | ((with_reducible refine (t_l1In).mono ?_); rintro _ _ ⟨rfl, rfl⟩) | (with_reducible intro bk hbk; try have hnk := (fresh_set hbk).1) | (simp (maxSteps := 2000000) (disch := first | omega | assumption | exact idP rfl | exact idP (bL rfl)) only [go_sem, reduceIte, Nat.reduceEqDiff, wpV_kd, wpV_tH, hv.len])))
  all_goals try (refine hP _ _ (sB) ?_; unfold kindsF; rw [if_neg (by omega)]; rfl)
  have hkf : kindsF vars ts = kindsGo vars ts [] := by unfold kindsF; rw [if_pos (by omega)]
  refine loop_k (fun e M' => ∃ (i : Nat) (ks : List Int), i ≤ ts.length ∧ e 0 = v ∧ e 1 = .sc (.int .i64 vars) ∧ e 6 = .sc (.int .i64 i) ∧ kindsGo vars (ts.take i) [] = some ks ∧ Gr 1 M M' (e 5) (ks.map vi)) (fun e _ => ctrV ts.length (e 6)) ?_ ?_
  · exact ⟨0, [], by omega, sT0, sT0, by refine sS0 ?_; rfl, rfl, by refine sS0 ?_; exact Gr.new' (Sub.refl _) (by assumption) rfl⟩
  · rintro e M1 ⟨i, ks, hi, e0, e1, e6, hk, hg⟩ K hK
    have hkl := (kindsGo_len hk).1
    simp at hkl
    refine sS4 @e0 @e1 @e6 @hv.len ?_
    refine cond_dec (fun h => ?_) (fun h => ?_)
    · have hi' : i < ts.length := by omega
      simp (maxSteps := 2000000) (disch := first | omega | assumption | exact idP rfl | exact idP (bL rfl)) only [go_sem, reduceIte, Nat.reduceEqDiff, wpV_kd, wpV_tH, e0, e1, e6, hv.iaddr, LT.at hv hi', encT_take]
      refine (VCall.lend1 hg.own flat_eq fun u M' hu => t_l1Kind hu.li (by omega) (by omega) (by omega)).mono ?_
      rintro _ _ ⟨rfl, rfl⟩
      have hs := kindsGo_take hi' hk
      refine sS0 ?_
      refine cond_dec (fun h0 => ?_) (fun h0 => ?_)
      · refine sS0 ?_
        refine hP _ _ hg.sub ?_
        rw [hkf, kindsGo_none (i := i + 1) (by rw [hs, if_pos h0])]; rfl
      · refine sS0 ?_
        intro bt hbt
        refine app_int hg hbt (by omega) (by omega) ?_
        intro s' M' hg' _
        refine sS0 ?_
        exact hK _ _ ⟨i + 1, _, by omega, sT0, sT0, by refine sS0 ?_; rfl, by rw [hs, if_neg h0], by refine sS0 ?_; exact hg'⟩ (by refine sS2 @ctrV_int @e6 ?_; omega)
    · obtain rfl : i = ts.length := by omega
      rw [List.take_length] at hk
      refine sS0 ?_
      exact hG _ _ _ _ hg fun u hu => by rw [hkf, hk]; exact hu.li
end Go.M2

namespace Go.M2
open Go.Proofs
variable {M : MH}
def encVar (v : VarS) : List V := [.sc (.int .i64 v.low), .sc (.int .i64 v.high), .sc (.int .i64 v.first)]
def isVar (v : VarS) (cs : List V) : Prop := cs = encVar v
abbrev LVar : V → List VarS → Prop := Lc 3 isVar
abbrev LTT : V → List (List TermS) → Prop := Ls (fun ts u => LT u ts)
def isRule (r : RuleS) (cs : List V) : Prop := ∃ a b c, cs = [a, b, c] ∧ LT a r.when_ ∧ LI b r.sets ∧ LTT c r.terms
abbrev LR : V → List RuleS → Prop := Lc 3 isRule
theorem LVar.at {v : V} {vs : List VarS} (h : LVar v vs) {i : Nat} (hi : i < vs.length) : atN 3 v i = [.sc (.int .i64 vs[i].low), .sc (.int .i64 vs[i].high), .sc (.int .i64 vs[i].first)] := h.elt hi
def isSys (s : SysS) (v : V) : Prop := ∃ a b, v = .agg [a, b] ∧ LVar a s.vars ∧ LR b s.rules
theorem t_l2Var {v : VarS} : VCall Try.prog n_spec_l2Var [.agg (encVar v)] M (fun r M' => M = M' ∧ r = .sc (.bool (decide (VarOk v)))) := by
  refine VCall.pure fun R hR => v_spec_l2Var rfl ?_
  obtain ⟨lo, hi, f⟩ := v
  simp only [encVar]
  (repeat' (first | ((with_reducible first | refine cond_dec (fun h => ?_) (fun h => ?_) | refine guardK_dec (fun h => ?_) (fun h => ?_) | refine guardD3_dec (fun h => ?_) (fun h => ?_)) <;> first | (exfalso; omega) | (simp (maxSteps := 2000000) (disch := first | omega | assumption | exact idP rfl | exact idP (bL rfl)) only [go_sem, reduceIte, Nat.reduceEqDiff, wpV_kd, wpV_tH, h]) | skip) | ((with_reducible first | refine cond_split (fun h => ?_) (fun h => ?_) | refine guardK_split (fun h => ?_) (fun h => ?_) | refine guardD3_split (fun h => ?_) (fun h => ?_)) <;> ((try simp only [Bool.not_eq_true', Bool.not_eq_false'] at h); first | (simp (maxSteps := 2000000) (disch := first | omega | assumption | exact idP rfl | exact idP (bL rfl)) only [go_sem, reduceIte, Nat.reduceEqDiff, wpV_kd, wpV_tH, h]) | skip)) | ((with_reducible refine (t_l1In).mono ?_); rintro _ _ ⟨rfl, rfl⟩) | (with_reducible intro bk hbk; try have hnk := (fresh_set hbk).1) | (simp (maxSteps := 2000000) (disch := first | omega | assumption | exact idP rfl | exact idP (bL rfl)) only [go_sem, reduceIte, Nat.reduceEqDiff, wpV_kd, wpV_tH])))
  all_goals exact hR _ _ (sB) (by (refine eqB ?_; (try simp only [decide_eq_true_eq, Bool.false_eq_true, Bool.and_eq_true, Bool.or_eq_true, Bool.not_eq_true', decide_eq_false_iff_not, eq_self_iff_true, true_iff, false_iff, iff_true, iff_false, ne_eq]); (try simp only [VarOk]); (try omega)))
theorem t_l2Is {v : V} {ts : List TermS} {vars kind : Int} (hv : LT v ts) : VCall Try.prog n_spec_l2Is [v, .sc (.int .i64 vars), .sc (.int .i64 kind)] M (fun r M' => M = M' ∧ r = .sc (.bool (kindIs vars kind ts))) := by
  refine VCall.pure fun R hR => v_spec_l2Is rfl ?_
  refine sS0 ?_
  refine (t_KindsOf hv).mono ?_
  rintro r _ ⟨rfl, hr⟩
  cases hk : kindsF vars ts with
  | none =>
    rw [hk] at hr
    simp only [kRes] at hr
    subst hr
    (repeat' (first | ((with_reducible first | refine cond_dec (fun h => ?_) (fun h => ?_) | refine guardK_dec (fun h => ?_) (fun h => ?_) | refine guardD3_dec (fun h => ?_) (fun h => ?_)) <;> first | (exfalso; omega) | (simp (maxSteps := 2000000) (disch := first | omega | assumption | exact idP rfl | exact idP (bL rfl)) only [go_sem, reduceIte, Nat.reduceEqDiff, wpV_kd, wpV_tH, h]) | skip) | ((with_reducible first | refine cond_split (fun h => ?_) (fun h => ?_) | refine guardK_split (fun h => ?_) (fun h => ?_) | refine guardD3_split (fun h => ?_) (fun h => ?_)) <;> ((try simp only [Bool.not_eq_true', Bool.not_eq_false'] at h); first | (simp (maxSteps := 2000000) (disch := first | omega | assumption | exact idP rfl | exact idP (bL rfl)) only [go_sem, reduceIte, Nat.reduceEqDiff, wpV_kd, wpV_tH, h]) | skip)) | (with_reducible intro bk hbk; try have hnk := (fresh_set hbk).1) | (simp (maxSteps := 2000000) (disch := first | omega | assumption | exact idP rfl | exact idP (bL rfl)) only [go_sem, reduceIte, Nat.reduceEqDiff, wpV_kd, wpV_tH])))
    all_goals exact hR _ _ (sB) (by simp [kindIs, hk])
  | some ks =>
    rw [hk] at hr
    have hr : LI r ks := hr
    obtain ⟨_, _, q1, q2, _, q3⟩ := kindsF_some hk
    have e1 : ((ks.length : Int) - 1).toNat = ks.length - 1 := by omega
    (repeat' (first | ((with_reducible first | refine cond_dec (fun h => ?_) (fun h => ?_) | refine guardK_dec (fun h => ?_) (fun h => ?_) | refine guardD3_dec (fun h => ?_) (fun h => ?_)) <;> first | (exfalso; omega) | (simp (maxSteps := 2000000) (disch := first | omega | assumption | exact idP rfl | exact idP (bL rfl)) only [go_sem, reduceIte, Nat.reduceEqDiff, wpV_kd, wpV_tH, h, hr.len, hr.iaddr, e1, hr.at]) | skip) | ((with_reducible first | refine cond_split (fun h => ?_) (fun h => ?_) | refine guardK_split (fun h => ?_) (fun h => ?_) | refine guardD3_split (fun h => ?_) (fun h => ?_)) <;> ((try simp only [Bool.not_eq_true', Bool.not_eq_false'] at h); first | (simp (maxSteps := 2000000) (disch := first | omega | assumption | exact idP rfl | exact idP (bL rfl)) only [go_sem, reduceIte, Nat.reduceEqDiff, wpV_kd, wpV_tH, h, hr.len, hr.iaddr, e1, hr.at]) | skip)) | (with_reducible intro bk hbk; try have hnk := (fresh_set hbk).1) | (simp (maxSteps := 2000000) (disch := first | omega | assumption | exact idP rfl | exact idP (bL rfl)) only [go_sem, reduceIte, Nat.reduceEqDiff, wpV_kd, wpV_tH, hr.len, hr.iaddr, e1, hr.at])))
    all_goals refine hR _ _ (sB) (by simp only [kindIs, hk, getLastD_eq (show 0 < ks.length by omega)]; refine eqB ?_; simp [*])
end Go.M2

namespace Go.M2
open Go.Proofs
variable {M : MH}
def pN (op : Int) : Int := if 2 ≤ op ∧ op ≤ 6 then 2 else if op = 7 then 1 else if op = 8 ∨ op = 9 then 2 else 0
def pOf (op : Int) : Int := if 2 ≤ op ∧ op ≤ 6 then 1 else if 7 ≤ op ∧ op ≤ 9 then 2 else 0
def pKind (op : Int) : Int := if 5 ≤ op ∧ op ≤ 9 then 2 else 1
theorem tup3 {a b c a' b' c' : Int} (h1 : a = a') (h2 : b = b') (h3 : c = c') : V.tup [.sc (.int .i64 a), .sc (.int .i64 b), .sc (.int .i64 c)] = V.tup [.sc (.int .i64 a'), .sc (.int .i64 b'), .sc (.int .i64 c')] := by rw [h1, h2, h3]
theorem t_parts {op : Int} : VCall Try.prog n_impl_parts [.sc (.int .i64 op)] M (fun r M' => M = M' ∧ r = .tup [.sc (.int .i64 (pN op)), .sc (.int .i64 (pOf op)), .sc (.int .i64 (pKind op))]) := by
  refine VCall.pure fun R hR => v_impl_parts rfl ?_
  (repeat' (first | ((with_reducible first | refine cond_dec (fun h => ?_) (fun h => ?_) | refine guardK_dec (fun h => ?_) (fun h => ?_) | refine guardD3_dec (fun h => ?_) (fun h => ?_)) <;> first | (exfalso; omega) | (simp (maxSteps := 2000000) (disch := first | omega | assumption | exact idP rfl | exact idP (bL rfl)) only [go_sem, reduceIte, Nat.reduceEqDiff, wpV_kd, wpV_tH, h]) | skip) | ((with_reducible first | refine cond_split (fun h => ?_) (fun h => ?_) | refine guardK_split (fun h => ?_) (fun h => ?_) | refine guardD3_split (fun h => ?_) (fun h => ?_)) <;> ((try simp only [Bool.not_eq_true', Bool.not_eq_false'] at h); first | (simp (maxSteps := 2000000) (disch := first | omega | assumption | exact idP rfl | exact idP (bL rfl)) only [go_sem, reduceIte, Nat.reduceEqDiff, wpV_kd, wpV_tH, h]) | skip)) | (with_reducible intro bk hbk; try have hnk := (fresh_set hbk).1) | (simp (maxSteps := 2000000) (disch := first | omega | assumption | exact idP rfl | exact idP (bL rfl)) only [go_sem, reduceIte, Nat.reduceEqDiff, wpV_kd, wpV_tH])))
  all_goals refine hR _ _ (sB) (tup3 ?_ ?_ ?_)
  all_goals first | (unfold pN; repeat' split) | (unfold pOf; repeat' split) | (unfold pKind; repeat' split)
  all_goals omega
theorem kind1_eq (vars : Int) (t : TermS) (ks : List Int) : kind1 vars t ks = (if t.op = 0 then (if -9999 ≤ t.n ∧ t.n ≤ 9999 ∧ t.a = 0 ∧ t.b = 0 then pKind t.op else 0)
  else if t.op = 1 then (if 0 ≤ t.n ∧ t.n < vars ∧ t.a = 0 ∧ t.b = 0 then pKind t.op else 0)
  else if 2 ≤ t.op ∧ t.op ≤ 9 ∧ t.n = 0 ∧ (0 ≤ t.a ∧ t.a < (ks.length : Int)) ∧ (0 ≤ t.b ∧ t.b < (ks.length : Int)) ∧ ix ks t.a = pOf t.op ∧ ix ks t.b = pOf t.op ∧ (pN t.op = 2 ∨ t.a = t.b) then pKind t.op else 0) := by
  unfold kind1 wantK pOf pN pKind
  repeat' split
  all_goals first | omega | skip
def kRes' (r : V) : Option (List Int) → Prop
  | none => r = .sc (.sl none 0 0 true 0)
  | some ks => LI r ks ∧ isNilF .sl (er r) = some false
theorem rep_snoc {ks : List Int} {x : Int} {n : Nat} (h : 0 < n) : (ks.map vi ++ List.replicate n (vi 0)).set ks.length (.sc (.int .i64 x)) = (ks ++ [x]).map vi ++ List.replicate (n - 1) (vi 0) := by
  obtain ⟨m, rfl⟩ : ∃ m, n = m + 1 := ⟨n - 1, by omega⟩
  rw [List.set_append_right _ _ (by simp)]
  simp [List.replicate_succ, vi]
theorem rep_snoc' {ks : List Int} {x : Int} {i L : Nat} (hk : ks.length = i) (h : i < L) : (ks.map vi ++ List.replicate (L - i) (vi 0)).set i (.sc (.int .i64 x)) = (ks ++ [x]).map vi ++ List.replicate (L - (i + 1)) (vi 0) := by
  subst hk
  rw [rep_snoc (by omega)]
  congr 2
theorem nth_ix_app {ks : List Int} {l : List V} {a : Int} (h0 : 0 ≤ a) (h1 : a < (ks.length : Int)) : (ks.map vi ++ l)[a.toNat]? = some (.sc (.int .i64 (ix ks a))) := by
  rw [List.getElem?_append_left (by simp; omega), nth_ix h0 h1]
theorem t_kindsOf {v : V} {ts : List TermS} {vars : Int} (hv : LT v ts) : VCall Try.prog n_impl_kindsOf [v, .sc (.int .i64 vars)] M (fun r M' => M = M' ∧ kRes' r (kindsF vars ts)) := by
  refine VCall.froz fun R hP hG => v_impl_kindsOf rfl ?_
  (repeat' (first | ((with_reducible first | refine cond_dec (fun h => ?_) (fun h => ?_) | refine guardK_dec (fun h => ?_) (fun h => ?_) | refine guardD3_dec (fun h => ?_) (fun h => ?_)) <;> first | (exfalso; omega) | (simp (maxSteps := 2000000) (disch := first | omega | assumption | exact idP rfl | exact idP (bL rfl)) only [go_sem, reduceIte, Nat.reduceEqDiff, wpV_kd, wpV_tH, h, hv.len]) | skip) | ((with_reducible first | refine cond_split (fun h => ?_) (fun h => ?_) | refine guardK_split (fun h => ?_) (fun h => ?_) | refine guardD3_split (fun h => ?_) (fun h => ?_)) <;> ((try simp only [Bool.not_eq_true', Bool.not_eq_false'] at h); first | (simp (maxSteps := 2000000) (disch := first | omega | assumption | exact idP rfl | exact idP (bL rfl)) only [go_sem, reduceIte, Nat.reduceEqDiff, wpV_kd, wpV_tH, h, hv.len]) | skip)) | ((with_reducible refine (t_in).mono ?_); rintro _ _ ⟨rfl, rfl⟩) | (with_reducible intro bk hbk; try have hnk := (fresh_set hbk).1) | (simp (maxSteps := 2000000) (disch := first | omega | assumption | exact idP rfl | exact idP (bL rfl)) only [go_sem, reduceIte, Nat.reduceEqDiff, wpV_kd, wpV_tH, hv.len])))
  all_goals try (refine hP _ _ (sB) ?_; unfold kindsF; rw [if_neg (by omega)]; rfl)
  have hkf : kindsF vars ts = kindsGo vars ts [] := by unfold kindsF; rw [if_pos (by omega)]
  refine ⟨by omega, by omega, by simp [mostCells]; omega, by simp [mostCells]; omega, ?_⟩
  intro b5 hb5
  have e0' : (0 : Int).toNat = 0 := rfl
  refine sS2 @hv.len @e0' ?_
  refine loop_k (fun e M' => ∃ (i : Nat) (ks : List Int), i ≤ ts.length ∧ e 1 = .sc (.int .i64 vars) ∧ e 5 = .sc (.sl (some (b5, 0)) i ts.length true 1) ∧ e 24 = v ∧ e 25 = .sc (.int .i64 ts.length) ∧ e 26 = .sc (.int .i64 i) ∧ kindsGo vars (ts.take i) [] = some ks ∧ Sub M M' ∧ M' b5 = some (ks.map vi ++ List.replicate (ts.length - i) (vi 0))) (fun e _ => ctrV ts.length (e 26)) ?_ ?_
  · exact ⟨0, [], by omega, sT0, sT0, sT0, sT0, by refine sS0 ?_; rfl, rfl, (Sub.refl _).set hb5, by
      refine sS0 ?_
      rw [zeros_vi]; simp⟩
  · rintro e M1 ⟨i, ks, hi, e1, e5, e24, e25, e26, hk, hsub, hm⟩ K hK
    have hkl := (kindsGo_len hk).1
    simp at hkl
    refine sS2 @e25 @e26 ?_
    refine cond_dec (fun h => ?_) (fun h => ?_)
    · have hi' : i < ts.length := by omega
      have hkl' : ks.length = i := by omega
      have hs := kindsGo_take hi' hk
      have hke := kind1_eq vars ts[i] ks
      rw [hkl'] at hke
      simp (maxSteps := 2000000) (disch := first | omega | assumption | exact idP rfl | exact idP (bL rfl)) only [go_sem, reduceIte, Nat.reduceEqDiff, wpV_kd, wpV_tH, e1, e5, e24, e25, e26, hv.iaddr, LT.at hv hi', encT_eq]
      intro b7 hb7
      have hne : b5 ≠ b7 := fun hh => by subst hh; rw [hm] at hb7; cases hb7
      refine t_parts.mono ?_
      rintro _ _ ⟨rfl, rfl⟩
      have hpk : pKind ts[i].op ≠ 0 := by unfold pKind; split <;> omega
      have bad : kind1 vars ts[i] ks = 0 → ∀ cl, R (.sc (.sl none 0 0 true 0)) (M1.set b7 cl) := fun h0 cl => by
        refine hP _ _ (sB) ?_
        rw [hkf, kindsGo_none (i := i + 1) (by rw [hs, if_pos h0])]; rfl
      have good : kind1 vars ts[i] ks = pKind ts[i].op → ∀ (cl : List V) (K' : V → MH → Prop), (∀ M', kindsGo vars (ts.take (i + 1)) [] = some (ks ++ [pKind ts[i].op]) → Sub M M' → M' b5 = some ((ks ++ [pKind ts[i].op]).map vi ++ List.replicate (ts.length - (i + 1)) (vi 0)) → K' (.sc (.sl (some (b5, 0)) (i + 1) ts.length true 1)) M') →
          ∀ bt, (M1.set b7 cl) bt = none → appV 1 8 (.sc (.sl (some (b5, 0)) i ts.length true 1)) (.sc (.sl (some (bt, 0)) 1 1 true 1)) ((M1.set b7 cl).set bt [.sc (.int .i64 (pKind ts[i].op))]) K' := by
        intro h0 cl K' hk' bt hbt
        refine app_room (by rw [set_ne hne]; exact hm) hbt (by simp [oneV, er, oneA]) (by omega) (by simp; omega) ?_
        refine hk' _ (by rw [hs, if_neg (by rw [h0]; exact hpk), h0]) ?_ ?_
        · refine Sub.set ?_ (by cases hq : M b5 with | none => rfl | some l => rw [hq] at hb5; cases hb5)
          (repeat (first | exact Sub.refl _ | assumption | (refine Sub.set' ?_ (by assumption))))
        · rw [set_same, Nat.zero_add, rep_snoc' hkl' hi']
      have fin : ∀ M', kindsGo vars (ts.take (i + 1)) [] = some (ks ++ [pKind ts[i].op]) → Sub M M' → M' b5 = some ((ks ++ [pKind ts[i].op]).map vi ++ List.replicate (ts.length - (i + 1)) (vi 0)) → ∀ e' : EnvV, e' 1 = .sc (.int .i64 vars) → e' 5 = .sc (.sl (some (b5, 0)) ((i + 1 : Nat)) ts.length true 1) → e' 24 = v → e' 25 = .sc (.int .i64 ts.length) → e' 26 = .sc (.int .i64 ((i : Int) + 1)) → K e' M' :=
        fun M' q1 q2 q3 e' g1 g5 g24 g25 g26 => hK _ _ ⟨i + 1, _, by omega, g1, g5, g24, g25, g26, q1, q2, q3⟩ (by rw [g26, e26]; refine sS0 ?_; omega)
      by_cases c0 : ts[i].op = 0
      · rw [if_pos c0] at hke
        have c0' : decide (ts[i].op = 0) = true := by simpa using c0
        (repeat' (first | ((with_reducible first | refine cond_dec (fun h => ?_) (fun h => ?_) | refine guardK_dec (fun h => ?_) (fun h => ?_) | refine guardD3_dec (fun h => ?_) (fun h => ?_)) <;> first | (exfalso; omega) | (simp (maxSteps := 2000000) (disch := first | omega | assumption | exact idP rfl | exact idP (bL rfl)) only [go_sem, reduceIte, Nat.reduceEqDiff, wpV_kd, wpV_tH, h, c0', e1, e5]) | skip) | ((with_reducible first | refine cond_split (fun h => ?_) (fun h => ?_) | refine guardK_split (fun h => ?_) (fun h => ?_) | refine guardD3_split (fun h => ?_) (fun h => ?_)) <;> ((try simp only [Bool.not_eq_true', Bool.not_eq_false'] at h); first | (simp (maxSteps := 2000000) (disch := first | omega | assumption | exact idP rfl | exact idP (bL rfl)) only [go_sem, reduceIte, Nat.reduceEqDiff, wpV_kd, wpV_tH, h, c0', e1, e5]) | skip)) | ((with_reducible refine (t_in).mono ?_); rintro _ _ ⟨rfl, rfl⟩) | (with_reducible intro bk hbk; try have hnk := (fresh_set hbk).1) | (simp (maxSteps := 2000000) (disch := first | omega | assumption | exact idP rfl | exact idP (bL rfl)) only [go_sem, reduceIte, Nat.reduceEqDiff, wpV_kd, wpV_tH, c0', e1, e5])))
        all_goals first
          | (refine bad ?_ _; rw [hke, if_neg (by omega)])
          | (refine good (by rw [hke, if_pos (by omega)]) _ _ ?_ _ (by assumption); intro M' q1 q2 q3; refine sS0 ?_; exact fin M' q1 q2 q3 _ (sT0) (sT0) (sT0) (sT0) (sT0))
      · rw [if_neg c0] at hke
        have c0' : decide (ts[i].op = 0) = false := by simpa using c0
        by_cases c1 : ts[i].op = 1
        · rw [if_pos c1] at hke
          have c1' : decide (ts[i].op = 1) = true := by simpa using c1
          (repeat' (first | ((with_reducible first | refine cond_dec (fun h => ?_) (fun h => ?_) | refine guardK_dec (fun h => ?_) (fun h => ?_) | refine guardD3_dec (fun h => ?_) (fun h => ?_)) <;> first | (exfalso; omega) | (simp (maxSteps := 2000000) (disch := first | omega | assumption | exact idP rfl | exact idP (bL rfl)) only [go_sem, reduceIte, Nat.reduceEqDiff, wpV_kd, wpV_tH, h, c0', c1', e1, e5]) | skip) | ((with_reducible first | refine cond_split (fun h => ?_) (fun h => ?_) | refine guardK_split (fun h => ?_) (fun h => ?_) | refine guardD3_split (fun h => ?_) (fun h => ?_)) <;> ((try simp only [Bool.not_eq_true', Bool.not_eq_false'] at h); first | (simp (maxSteps := 2000000) (disch := first | omega | assumption | exact idP rfl | exact idP (bL rfl)) only [go_sem, reduceIte, Nat.reduceEqDiff, wpV_kd, wpV_tH, h, c0', c1', e1, e5]) | skip)) | ((with_reducible refine (t_in).mono ?_); rintro _ _ ⟨rfl, rfl⟩) | (with_reducible intro bk hbk; try have hnk := (fresh_set hbk).1) | (simp (maxSteps := 2000000) (disch := first | omega | assumption | exact idP rfl | exact idP (bL rfl)) only [go_sem, reduceIte, Nat.reduceEqDiff, wpV_kd, wpV_tH, c0', c1', e1, e5])))
          all_goals first
            | (refine bad ?_ _; rw [hke, if_neg (by omega)])
            | (refine good (by rw [hke, if_pos (by omega)]) _ _ ?_ _ (by assumption); intro M' q1 q2 q3; refine sS0 ?_; exact fin M' q1 q2 q3 _ (sT0) (sT0) (sT0) (sT0) (sT0))
        · rw [if_neg c1] at hke
          have c1' : decide (ts[i].op = 1) = false := by simpa using c1
          have rd : ∀ {a : Int}, 0 ≤ a → a < (i : Int) → (ks.map vi ++ List.replicate (ts.length - i) (vi 0))[a.toNat]? = some (.sc (.int .i64 (ix ks a))) := fun q1 q2 => nth_ix_app q1 (by omega)
          (repeat' (first | ((with_reducible first | refine cond_dec (fun h => ?_) (fun h => ?_) | refine guardK_dec (fun h => ?_) (fun h => ?_) | refine guardD3_dec (fun h => ?_) (fun h => ?_)) <;> first | (exfalso; omega) | (simp (maxSteps := 2000000) (disch := first | omega | assumption | exact idP rfl | exact idP (bL rfl)) only [go_sem, reduceIte, Nat.reduceEqDiff, wpV_kd, wpV_tH, h, c0', c1', e1, e5, hm, rd]) | skip) | ((with_reducible first | refine cond_split (fun h => ?_) (fun h => ?_) | refine guardK_split (fun h => ?_) (fun h => ?_) | refine guardD3_split (fun h => ?_) (fun h => ?_)) <;> ((try simp only [Bool.not_eq_true', Bool.not_eq_false'] at h); first | (simp (maxSteps := 2000000) (disch := first | omega | assumption | exact idP rfl | exact idP (bL rfl)) only [go_sem, reduceIte, Nat.reduceEqDiff, wpV_kd, wpV_tH, h, c0', c1', e1, e5, hm, rd]) | skip)) | ((with_reducible refine (t_in).mono ?_); rintro _ _ ⟨rfl, rfl⟩) | (with_reducible intro bk hbk; try have hnk := (fresh_set hbk).1) | (simp (maxSteps := 2000000) (disch := first | omega | assumption | exact idP rfl | exact idP (bL rfl)) only [go_sem, reduceIte, Nat.reduceEqDiff, wpV_kd, wpV_tH, c0', c1', e1, e5, hm, rd])))
          all_goals first
            | (refine bad ?_ _; rw [hke, if_neg (by omega)])
            | (refine good (by rw [hke, if_pos (by omega)]) _ _ ?_ _ (by assumption); intro M' q1 q2 q3; refine sS0 ?_; exact fin M' q1 q2 q3 _ (sT0) (sT0) (sT0) (sT0) (sT0))
    · obtain rfl : i = ts.length := by omega
      rw [List.take_length] at hk
      have hkl2 : ks.length = ts.length := by omega
      refine sS1 @e5 ?_
      refine hG _ _ 1 (ks.map vi) (.mk' hsub (by cases hq : M b5 with | none => rfl | some l => rw [hq] at hb5; cases hb5) (by simp; omega) (by rw [hm]; simp)) fun u hu => ?_
      rw [hkf, hk]
      exact ⟨hu.li, hu.some (by simp; omega)⟩
theorem t_kindOf {v : V} {ts : List TermS} {vars : Int} (hv : LT v ts) : VCall Try.prog n_impl_kindOf [v, .sc (.int .i64 vars)] M (fun r M' => M = M' ∧ ∃ k : Int, r = .sc (.int .i64 k) ∧ ∀ want, 0 < want → ((k = want) ↔ kindIs vars want ts = true)) := by
  refine VCall.pure fun R hR => v_impl_kindOf rfl ?_
  refine sS0 ?_
  refine (t_kindsOf hv).mono ?_
  rintro r _ ⟨rfl, hr⟩
  cases hk : kindsF vars ts with
  | none =>
    rw [hk] at hr
    simp only [kRes'] at hr
    subst hr
    (repeat' (first | ((with_reducible first | refine cond_dec (fun h => ?_) (fun h => ?_) | refine guardK_dec (fun h => ?_) (fun h => ?_) | refine guardD3_dec (fun h => ?_) (fun h => ?_)) <;> first | (exfalso; omega) | (simp (maxSteps := 2000000) (disch := first | omega | assumption | exact idP rfl | exact idP (bL rfl)) only [go_sem, reduceIte, Nat.reduceEqDiff, wpV_kd, wpV_tH, h]) | skip) | ((with_reducible first | refine cond_split (fun h => ?_) (fun h => ?_) | refine guardK_split (fun h => ?_) (fun h => ?_) | refine guardD3_split (fun h => ?_) (fun h => ?_)) <;> ((try simp only [Bool.not_eq_true', Bool.not_eq_false'] at h); first | (simp (maxSteps := 2000000) (disch := first | omega | assumption | exact idP rfl | exact idP (bL rfl)) only [go_sem, reduceIte, Nat.reduceEqDiff, wpV_kd, wpV_tH, h]) | skip)) | (with_reducible intro bk hbk; try have hnk := (fresh_set hbk).1) | (simp (maxSteps := 2000000) (disch := first | omega | assumption | exact idP rfl | exact idP (bL rfl)) only [go_sem, reduceIte, Nat.reduceEqDiff, wpV_kd, wpV_tH])))
    all_goals exact hR _ _ (sB) ⟨0, rfl, fun want hw => by simp [kindIs, hk]; omega⟩
  | some ks =>
    rw [hk] at hr
    obtain ⟨hr, hn⟩ := hr
    obtain ⟨_, _, q1, q2, _, q3⟩ := kindsF_some hk
    have e1 : ((ks.length : Int) - 1).toNat = ks.length - 1 := by omega
    (repeat' (first | ((with_reducible first | refine cond_dec (fun h => ?_) (fun h => ?_) | refine guardK_dec (fun h => ?_) (fun h => ?_) | refine guardD3_dec (fun h => ?_) (fun h => ?_)) <;> first | (exfalso; omega) | (simp (maxSteps := 2000000) (disch := first | omega | assumption | exact idP rfl | exact idP (bL rfl)) only [go_sem, reduceIte, Nat.reduceEqDiff, wpV_kd, wpV_tH, h, hn, hr.len, hr.iaddr, e1, hr.at]) | skip) | ((with_reducible first | refine cond_split (fun h => ?_) (fun h => ?_) | refine guardK_split (fun h => ?_) (fun h => ?_) | refine guardD3_split (fun h => ?_) (fun h => ?_)) <;> ((try simp only [Bool.not_eq_true', Bool.not_eq_false'] at h); first | (simp (maxSteps := 2000000) (disch := first | omega | assumption | exact idP rfl | exact idP (bL rfl)) only [go_sem, reduceIte, Nat.reduceEqDiff, wpV_kd, wpV_tH, h, hn, hr.len, hr.iaddr, e1, hr.at]) | skip)) | (with_reducible intro bk hbk; try have hnk := (fresh_set hbk).1) | (simp (maxSteps := 2000000) (disch := first | omega | assumption | exact idP rfl | exact idP (bL rfl)) only [go_sem, reduceIte, Nat.reduceEqDiff, wpV_kd, wpV_tH, hn, hr.len, hr.iaddr, e1, hr.at])))
    all_goals exact hR _ _ (sB) ⟨_, rfl, fun want hw => by simp only [kindIs, hk, getLastD_eq (show 0 < ks.length by omega), beq_iff_eq]⟩
end Go.M2

namespace Go.M2
open Go.Proofs
variable {M : MH}
theorem sets_le {vars : Int} {r : RuleS} (h : SetsOk vars r) (h0 : 0 ≤ vars) : (r.sets.length : Int) ≤ vars := by
  have : ∀ i (hi : i < r.sets.length), (i : Int) ≤ r.sets[i] := by
    intro i
    induction i with
    | zero => intro hi; have := (h 0 hi).1.1; omega
    | succ i ih =>
      intro hi
      have h1 := ih (by omega)
      have h2 := (h (i + 1) hi).2.1 (by omega)
      simp at h2
      omega
  by_cases hl : r.sets.length = 0
  · omega
  · have h1 := this (r.sets.length - 1) (by omega)
    have h2 := (h (r.sets.length - 1) (by omega)).1.2
    omega
theorem SetsOk.kind {vars : Int} {r : RuleS} (h : SetsOk vars r) {i : Nat} (hi : i < r.sets.length) (h2 : i < r.terms.length) : kindIs vars 1 r.terms[i] = true := (h i hi).2.2 h2
theorem t_l2Rule {a b c : V} {r : RuleS} {vars : Int} (ha : LT a r.when_) (hb : LI b r.sets) (hc : LTT c r.terms) (h0 : 0 ≤ vars) (h5 : vars ≤ 5) :
    VCall Try.prog n_spec_l2Rule [.agg [a, b, c], .sc (.int .i64 vars)] M (fun r' M' => M = M' ∧ ∃ t : Bool, r' = .sc (.bool t) ∧ (t = true ↔ RuleOk vars r)) := by
  refine VCall.pure fun R hR => v_spec_l2Rule rfl ?_
  refine sS0 ?_
  intro bb hbb
  have fin : ∀ t : Bool, (t = true ↔ RuleOk vars r) → R (.sc (.bool t)) (M.set bb [a, b, c]) := fun t h => hR _ _ ((Sub.refl _).set hbb) ⟨t, rfl, h⟩
  refine (t_l2Is ha).mono ?_
  rintro _ _ ⟨rfl, rfl⟩
  cases hw : kindIs vars 2 r.when_ with
  | false =>
    refine sS1 @hw ?_
    exact fin _ (by simp [RuleOk, hw])
  | true =>
    (repeat' (first | ((with_reducible first | refine cond_dec (fun h => ?_) (fun h => ?_) | refine guardK_dec (fun h => ?_) (fun h => ?_) | refine guardD3_dec (fun h => ?_) (fun h => ?_)) <;> first | (exfalso; omega) | (simp (maxSteps := 2000000) (disch := first | omega | assumption | exact idP rfl | exact idP (bL rfl)) only [go_sem, reduceIte, Nat.reduceEqDiff, wpV_kd, wpV_tH, h, hw, hb.len, hc.len]) | skip) | ((with_reducible first | refine cond_split (fun h => ?_) (fun h => ?_) | refine guardK_split (fun h => ?_) (fun h => ?_) | refine guardD3_split (fun h => ?_) (fun h => ?_)) <;> ((try simp only [Bool.not_eq_true', Bool.not_eq_false'] at h); first | (simp (maxSteps := 2000000) (disch := first | omega | assumption | exact idP rfl | exact idP (bL rfl)) only [go_sem, reduceIte, Nat.reduceEqDiff, wpV_kd, wpV_tH, h, hw, hb.len, hc.len]) | skip)) | (with_reducible intro bk hbk; try have hnk := (fresh_set hbk).1) | (simp (maxSteps := 2000000) (disch := first | omega | assumption | exact idP rfl | exact idP (bL rfl)) only [go_sem, reduceIte, Nat.reduceEqDiff, wpV_kd, wpV_tH, hw, hb.len, hc.len])))
    all_goals try (refine fin _ ?_; simp only [Bool.false_eq_true, false_iff]; intro hr; have := hr.2.1; have := sets_le hr.2.2 h0; omega)
    refine loop_k (fun e M' => M' = M.set bb [a, b, c] ∧ ∃ i : Nat, i ≤ r.sets.length ∧ e 1 = .sc (.int .i64 vars) ∧ e 2 = .sc (.ptr (some (bb, 0))) ∧ e 5 = .sc (.int .i64 i) ∧
      ∀ j (hj : j < r.sets.length), j < i → (0 ≤ r.sets[j] ∧ r.sets[j] < vars) ∧ (∀ h0 : 0 < j, r.sets[j - 1]'(by omega) < r.sets[j]) ∧ (∀ h2 : j < r.terms.length, kindIs vars 1 r.terms[j] = true)) (fun e _ => ctrV r.sets.length (e 5)) ?_ ?_
    · exact ⟨rfl, 0, by omega, sT0, sT0, by refine sS0 ?_; rfl, fun j _ h => by omega⟩
    · rintro e _ ⟨rfl, i, hi, e1, e2, e5, hj⟩ K hK
      refine sS4 @e1 @e2 @e5 @hb.len ?_
      refine cond_dec (fun h => ?_) (fun h => ?_)
      · have hi' : i < r.sets.length := by omega
        have ht := hc.elt (i := i) (by omega)
        have e8 : ((i : Int) - 1).toNat = i - 1 := by omega
        (repeat' (first | ((with_reducible first | refine cond_dec (fun h => ?_) (fun h => ?_) | refine guardK_dec (fun h => ?_) (fun h => ?_) | refine guardD3_dec (fun h => ?_) (fun h => ?_)) <;> first | (exfalso; omega) | (simp (maxSteps := 2000000) (disch := first | omega | assumption | exact idP rfl | exact idP (bL rfl)) only [go_sem, reduceIte, Nat.reduceEqDiff, wpV_kd, wpV_tH, h, e1, e2, e5, hb.len, hb.iaddr, hb.at, hc.iaddr, e8]) | skip) | ((with_reducible first | refine cond_split (fun h => ?_) (fun h => ?_) | refine guardK_split (fun h => ?_) (fun h => ?_) | refine guardD3_split (fun h => ?_) (fun h => ?_)) <;> ((try simp only [Bool.not_eq_true', Bool.not_eq_false'] at h); first | (simp (maxSteps := 2000000) (disch := first | omega | assumption | exact idP rfl | exact idP (bL rfl)) only [go_sem, reduceIte, Nat.reduceEqDiff, wpV_kd, wpV_tH, h, e1, e2, e5, hb.len, hb.iaddr, hb.at, hc.iaddr, e8]) | skip)) | ((with_reducible refine (t_l1In).mono ?_); rintro _ _ ⟨rfl, rfl⟩) | ((with_reducible refine (t_l2Is ht).mono ?_); rintro _ _ ⟨rfl, rfl⟩) | (with_reducible intro bk hbk; try have hnk := (fresh_set hbk).1) | (simp (maxSteps := 2000000) (disch := first | omega | assumption | exact idP rfl | exact idP (bL rfl)) only [go_sem, reduceIte, Nat.reduceEqDiff, wpV_kd, wpV_tH, e1, e2, e5, hb.len, hb.iaddr, hb.at, hc.iaddr, e8])))
        all_goals first
          | (refine fin _ ?_; simp only [Bool.false_eq_true, false_iff]; intro hr; have h3 := (hr.2.2 i hi').1; have h4 := (hr.2.2 i hi').2.1; have h5 := (hr.2.2 i hi').2.2 (by omega); first | omega | (have := h4 (by omega); omega) | (simp_all; done))
          | (refine hK _ _ ⟨rfl, i + 1, by omega, sT0, sT0, by refine sS0 ?_; rfl, fun j hj1 hj2 => ?_⟩ (by refine sS2 @ctrV_int @e5 ?_; omega)
             by_cases hji : j = i
             · subst hji; exact ⟨by omega, fun h0 => by omega, fun _ => by assumption⟩
             · exact hj j hj1 (by omega))
      · refine sS0 ?_
        exact fin _ (by
          simp only [true_iff]
          exact ⟨hw, by omega, fun j hj1 => hj j hj1 (by omega)⟩)
theorem t_specSystemValid {v : V} {s : SysS} (hv : isSys s v) : VCall Try.prog n_spec_SystemValid [v] M (fun r' M' => M = M' ∧ ∃ t : Bool, r' = .sc (.bool t) ∧ (t = true ↔ SysOk s)) := by
  refine VCall.pure fun R hR => v_spec_SystemValid rfl ?_
  obtain ⟨a, b, rfl, ha, hb⟩ := hv
  refine sS0 ?_
  intro bb hbb
  have fin : ∀ t : Bool, (t = true ↔ SysOk s) → R (.sc (.bool t)) (M.set bb [a, b]) := fun t h => hR _ _ ((Sub.refl _).set hbb) ⟨t, rfl, h⟩
  (repeat' (first | ((with_reducible first | refine cond_dec (fun h => ?_) (fun h => ?_) | refine guardK_dec (fun h => ?_) (fun h => ?_) | refine guardD3_dec (fun h => ?_) (fun h => ?_)) <;> first | (exfalso; omega) | (simp (maxSteps := 2000000) (disch := first | omega | assumption | exact idP rfl | exact idP (bL rfl)) only [go_sem, reduceIte, Nat.reduceEqDiff, wpV_kd, wpV_tH, h, ha.len, hb.len]) | skip) | ((with_reducible first | refine cond_split (fun h => ?_) (fun h => ?_) | refine guardK_split (fun h => ?_) (fun h => ?_) | refine guardD3_split (fun h => ?_) (fun h => ?_)) <;> ((try simp only [Bool.not_eq_true', Bool.not_eq_false'] at h); first | (simp (maxSteps := 2000000) (disch := first | omega | assumption | exact idP rfl | exact idP (bL rfl)) only [go_sem, reduceIte, Nat.reduceEqDiff, wpV_kd, wpV_tH, h, ha.len, hb.len]) | skip)) | ((with_reducible refine (t_l1In).mono ?_); rintro _ _ ⟨rfl, rfl⟩) | (with_reducible intro bk hbk; try have hnk := (fresh_set hbk).1) | (simp (maxSteps := 2000000) (disch := first | omega | assumption | exact idP rfl | exact idP (bL rfl)) only [go_sem, reduceIte, Nat.reduceEqDiff, wpV_kd, wpV_tH, ha.len, hb.len])))
  all_goals try (refine fin _ ?_; simp only [Bool.false_eq_true, false_iff]; intro hr; have := hr.v1; have := hr.v5; have := hr.r8; omega)
  refine loop_k (fun e M' => M' = M.set bb [a, b] ∧ ∃ i : Nat, i ≤ s.vars.length ∧ e 1 = .sc (.ptr (some (bb, 0))) ∧ e 3 = .sc (.int .i64 (sizeF (s.vars.take i))) ∧ e 4 = .sc (.int .i64 i) ∧
    ∀ j (hj : j < s.vars.length), j < i → VarOk s.vars[j]) (fun e _ => ctrV s.vars.length (e 4)) ?_ ?_
  · exact ⟨rfl, 0, by omega, sT0, by refine sS0 ?_; simp [sizeF], by refine sS0 ?_; rfl, fun j _ h => by omega⟩
  · rintro e _ ⟨rfl, i, hi, e1, e3, e4, hj⟩ K hK
    have hbd := sizeF_take_bd (by omega) hj
    refine sS4 @e1 @e3 @e4 @ha.len ?_
    refine cond_dec (fun h => ?_) (fun h => ?_)
    · have hi' : i < s.vars.length := by omega
      have e5 : (encVar s.vars[i]).take 3 = encVar s.vars[i] := rfl
      have hat := ha.elt hi'
      simp only [isVar] at hat
      refine sS6 @e1 @e3 @e4 @ha.iaddr @hat @e5 ?_
      refine t_l2Var.mono ?_
      rintro _ _ ⟨rfl, rfl⟩
      refine sS0 ?_
      refine cond_dec (fun h2 => ?_) (fun h2 => ?_)
      · refine sS0 ?_
        exact fin _ (by simp only [Bool.false_eq_true, false_iff]; intro hr; exact h2 (hr.vars _ (List.getElem_mem hi')))
      · have h2 : VarOk s.vars[i] := Decidable.not_not.1 h2
        have hbd2 := sizeF_take_bd (i := i + 1) (vs := s.vars) (by omega) (fun j hj1 hj2 => by
          by_cases hji : j = i
          · subst hji; exact h2
          · exact hj j hj1 (by omega))
        have hsz := sizeF_take hi'
        rw [hsz] at hbd2
        obtain ⟨q1, q2, q3, q4⟩ := h2
        simp (maxSteps := 2000000) (disch := first | omega | assumption | exact idP rfl | exact idP (bL rfl)) only [go_sem, reduceIte, Nat.reduceEqDiff, wpV_kd, wpV_tH, e1, e3, e4, ha.iaddr, hat, encVar]
        refine hK _ _ ⟨rfl, i + 1, by omega, sT0, by refine sS0 ?_; rw [hsz], by refine sS0 ?_; rfl, fun j hj1 hj2 => ?_⟩ (by refine sS2 @ctrV_int @e4 ?_; omega)
        by_cases hji : j = i
        · subst hji; exact ⟨q1, q2, q3, q4⟩
        · exact hj j hj1 (by omega)
    · obtain rfl : i = s.vars.length := by omega
      rw [List.take_length] at e3 hbd
      refine sS1 @e3 ?_
      refine loop_k (fun e M' => M' = M.set bb [a, b] ∧ ∃ i : Nat, i ≤ s.rules.length ∧ e 1 = .sc (.ptr (some (bb, 0))) ∧ e 3 = .sc (.int .i64 (sizeF s.vars)) ∧ e 5 = .sc (.int .i64 i) ∧
        ∀ j (hj : j < s.rules.length), j < i → RuleOk (s.vars.length : Int) s.rules[j]) (fun e _ => ctrV s.rules.length (e 5)) ?_ ?_
      · exact ⟨rfl, 0, by omega, sT1 @e1, by simp (maxSteps := 2000000) (disch := first | omega | assumption | exact idP rfl | exact idP (bL rfl)) only [go_sem, reduceIte, Nat.reduceEqDiff, wpV_kd, wpV_tH, List.take_length], by refine sS0 ?_; rfl, fun j _ h => by omega⟩
      · rintro e _ ⟨rfl, i, hi2, e1, e3, e5, hj2⟩ K2 hK2
        refine sS4 @e1 @e3 @e5 @hb.len ?_
        refine cond_dec (fun h => ?_) (fun h => ?_)
        · have hi' : i < s.rules.length := by omega
          obtain ⟨x, y, z, hat, q1, q2, q3⟩ := hb.elt hi'
          refine sS6 @e1 @e3 @e5 @hb.iaddr @hat @ha.len ?_
          refine (t_l2Rule q1 q2 q3 (by omega) (by omega)).mono ?_
          rintro _ _ ⟨rfl, t, rfl, ht⟩
          cases t with
          | false =>
            refine sS0 ?_
            exact fin _ (by simp only [Bool.false_eq_true, false_iff]; intro hr; have := ht.2 (hr.rules _ (List.getElem_mem hi')); cases this)
          | true =>
            refine sS0 ?_
            refine hK2 _ _ ⟨rfl, i + 1, by omega, sT0, sT0, by refine sS0 ?_; rfl, fun j hj3 hj4 => ?_⟩ (by refine sS2 @ctrV_int @e5 ?_; omega)
            by_cases hji : j = i
            · subst hji; exact ht.1 rfl
            · exact hj2 j hj3 (by omega)
        · refine sS1 @e3 ?_
          refine fin _ ?_
          simp only [decide_eq_true_eq]
          refine ⟨fun h400 => ⟨by omega, by omega, by omega, fun v hv => ?_, fun r hr => ?_, h400⟩, fun h => h.size⟩
          · obtain ⟨j, hj1, rfl⟩ := List.getElem_of_mem hv
            exact hj j hj1 hj1
          · obtain ⟨j, hj1, rfl⟩ := List.getElem_of_mem hr
            exact hj2 j hj1 (by omega)
noncomputable def sysB (s : SysS) : Bool := @decide (SysOk s) (Classical.propDecidable _)
theorem sysB_iff (s : SysS) : sysB s = true ↔ SysOk s := by unfold sysB; exact @decide_eq_true_iff _ (Classical.propDecidable _)
theorem eq_of_iff {t u : Bool} (h : t = true ↔ u = true) : t = u := by cases t <;> cases u <;> simp_all
theorem t_SystemValidS {v : V} {s : SysS} (hv : isSys s v) : VCall Try.prog n_spec_SystemValid [v] M (fun r' M' => M = M' ∧ r' = .sc (.bool (sysB s))) :=
  (t_specSystemValid hv).mono fun r M' ⟨h, t, h1, h2⟩ => ⟨h, by rw [h1, eq_of_iff (h2.trans (sysB_iff s).symm)]⟩
end Go.M2

namespace Go.M2
open Go.Proofs
variable {M : MH}
theorem t_varOk {v : VarS} : VCall Try.prog n_impl_varOk [.agg (encVar v)] M (fun r M' => M = M' ∧ r = .sc (.bool (decide (VarOk v)))) := by
  refine VCall.pure fun R hR => v_impl_varOk rfl ?_
  obtain ⟨lo, hi, f⟩ := v
  simp only [encVar]
  (repeat' (first | ((with_reducible first | refine cond_dec (fun h => ?_) (fun h => ?_) | refine guardK_dec (fun h => ?_) (fun h => ?_) | refine guardD3_dec (fun h => ?_) (fun h => ?_)) <;> first | (exfalso; omega) | (simp (maxSteps := 2000000) (disch := first | omega | assumption | exact idP rfl | exact idP (bL rfl)) only [go_sem, reduceIte, Nat.reduceEqDiff, wpV_kd, wpV_tH, h]) | skip) | ((with_reducible first | refine cond_split (fun h => ?_) (fun h => ?_) | refine guardK_split (fun h => ?_) (fun h => ?_) | refine guardD3_split (fun h => ?_) (fun h => ?_)) <;> ((try simp only [Bool.not_eq_true', Bool.not_eq_false'] at h); first | (simp (maxSteps := 2000000) (disch := first | omega | assumption | exact idP rfl | exact idP (bL rfl)) only [go_sem, reduceIte, Nat.reduceEqDiff, wpV_kd, wpV_tH, h]) | skip)) | ((with_reducible refine (t_in).mono ?_); rintro _ _ ⟨rfl, rfl⟩) | (with_reducible intro bk hbk; try have hnk := (fresh_set hbk).1) | (simp (maxSteps := 2000000) (disch := first | omega | assumption | exact idP rfl | exact idP (bL rfl)) only [go_sem, reduceIte, Nat.reduceEqDiff, wpV_kd, wpV_tH])))
  all_goals exact hR _ _ (sB) (by (refine eqB ?_; (try simp only [decide_eq_true_eq, Bool.false_eq_true, Bool.and_eq_true, Bool.or_eq_true, Bool.not_eq_true', decide_eq_false_iff_not, eq_self_iff_true, true_iff, false_iff, iff_true, iff_false, ne_eq]); (try simp only [VarOk]); (try omega)))
theorem t_impSize {v : V} {vars : List VarS} (hv : LVar v vars) (hok : ∀ x ∈ vars, VarOk x) (h5 : vars.length ≤ 5) : VCall Try.prog n_impl_size [v] M (fun r M' => M = M' ∧ r = .sc (.int .i64 (sizeF vars))) := by
  refine VCall.pure fun R hR => v_impl_size rfl ?_
  refine sS1 @hv.len ?_
  refine loop_k (fun e M' => Sub M M' ∧ ∃ i : Nat, i ≤ vars.length ∧ e 3 = .sc (.int .i64 (sizeF (vars.take i))) ∧ e 6 = v ∧ e 7 = .sc (.int .i64 vars.length) ∧ e 8 = .sc (.int .i64 i)) (fun e _ => ctrV vars.length (e 8)) ?_ ?_
  · exact ⟨Sub.refl _, 0, by omega, by refine sS0 ?_; simp [sizeF], sT0, sT0, by refine sS0 ?_; rfl⟩
  · rintro e M1 ⟨hsub, i, hi, e3, e6, e7, e8⟩ K hK
    have hb1 := sizeF_take_bd (vs := vars) (i := i) h5 (fun j hj _ => hok _ (List.getElem_mem hj))
    refine sS2 @e7 @e8 ?_
    refine cond_dec (fun h => ?_) (fun h => ?_)
    · have hi' : i < vars.length := by omega
      have hb2 := sizeF_take_bd (vs := vars) (i := i + 1) h5 (fun j hj _ => hok _ (List.getElem_mem hj))
      have hsz := sizeF_take hi'
      rw [hsz] at hb2
      have ho := hok _ (List.getElem_mem hi')
      unfold VarOk at ho
      simp (maxSteps := 2000000) (disch := first | omega | assumption | exact idP rfl | exact idP (bL rfl)) only [go_sem, reduceIte, Nat.reduceEqDiff, wpV_kd, wpV_tH, e3, e6, e8, hv.iaddr, LVar.at hv hi']
      intro b5 hb5
      exact hK _ _ ⟨sB, i + 1, by omega, by refine sS0 ?_; rw [hsz], sT0, sT0, by refine sS0 ?_; rfl⟩ (by refine sS2 @ctrV_int @e8 ?_; omega)
    · obtain rfl : i = vars.length := by omega
      refine sS1 @e3 ?_
      exact hR _ _ (sB) (by rw [List.take_length])
theorem t_ruleOk {a b c : V} {r : RuleS} {vars : Int} (ha : LT a r.when_) (hb : LI b r.sets) (hc : LTT c r.terms) (h0 : 0 ≤ vars) (h5 : vars ≤ 5) (hl : r.sets.length ≤ 1048576) :
    VCall Try.prog n_impl_ruleOk [.agg [a, b, c], .sc (.int .i64 vars)] M (fun r' M' => M = M' ∧ ∃ t : Bool, r' = .sc (.bool t) ∧ (t = true ↔ RuleOk vars r)) := by
  refine VCall.pure fun R hR => v_impl_ruleOk rfl ?_
  refine sS0 ?_
  intro bb hbb
  refine (t_kindOf ha).mono ?_
  rintro _ _ ⟨rfl, kw, rfl, hw⟩
  have hw := hw 2 (by omega)
  (repeat' (first | ((with_reducible first | refine cond_dec (fun h => ?_) (fun h => ?_) | refine guardK_dec (fun h => ?_) (fun h => ?_) | refine guardD3_dec (fun h => ?_) (fun h => ?_)) <;> first | (exfalso; omega) | (simp (maxSteps := 2000000) (disch := first | omega | assumption | exact idP rfl | exact idP (bL rfl)) only [go_sem, reduceIte, Nat.reduceEqDiff, wpV_kd, wpV_tH, h, hb.len, hc.len]) | skip) | ((with_reducible first | refine cond_split (fun h => ?_) (fun h => ?_) | refine guardK_split (fun h => ?_) (fun h => ?_) | refine guardD3_split (fun h => ?_) (fun h => ?_)) <;> ((try simp only [Bool.not_eq_true', Bool.not_eq_false'] at h); first | (simp (maxSteps := 2000000) (disch := first | omega | assumption | exact idP rfl | exact idP (bL rfl)) only [go_sem, reduceIte, Nat.reduceEqDiff, wpV_kd, wpV_tH, h, hb.len, hc.len]) | skip)) | (with_reducible intro bk hbk; try have hnk := (fresh_set hbk).1) | (simp (maxSteps := 2000000) (disch := first | omega | assumption | exact idP rfl | exact idP (bL rfl)) only [go_sem, reduceIte, Nat.reduceEqDiff, wpV_kd, wpV_tH, hb.len, hc.len])))
  · refine hR _ _ (sB) ⟨false, rfl, ?_⟩
    simp only [Bool.false_eq_true, false_iff]
    intro hr; exact absurd (hw.2 hr.1) (by assumption)
  · refine hR _ _ (sB) ⟨false, rfl, ?_⟩
    simp only [Bool.false_eq_true, false_iff]
    intro hr; have := hr.2.1; omega
  · have hkw : kindIs vars 2 r.when_ = true := hw.1 (by omega)
    refine loop_k (fun e M' => M' = M.set bb [a, b, c] ∧ ∃ i : Nat, i ≤ r.sets.length ∧ e 1 = .sc (.int .i64 vars) ∧ e 2 = .sc (.ptr (some (bb, 0))) ∧ e 22 = b ∧ e 23 = .sc (.int .i64 r.sets.length) ∧ e 24 = .sc (.int .i64 i) ∧
      ∀ j (hj : j < r.sets.length), j < i → (0 ≤ r.sets[j] ∧ r.sets[j] < vars) ∧ (∀ h0 : 0 < j, r.sets[j - 1]'(by omega) < r.sets[j]) ∧ (∀ h2 : j < r.terms.length, kindIs vars 1 r.terms[j] = true)) (fun e _ => ctrV r.sets.length (e 24)) ?_ ?_
    · exact ⟨rfl, 0, by omega, sT0, sT0, sT0, sT0, by refine sS0 ?_; rfl, fun j _ h => by omega⟩
    · rintro e _ ⟨rfl, i, hi, e1, e2, e22, e23, e24, hj⟩ K hK
      refine sS2 @e23 @e24 ?_
      refine cond_dec (fun h => ?_) (fun h => ?_)
      · have hi' : i < r.sets.length := by omega
        have e8 : ((i : Int) - 1).toNat = i - 1 := by omega
        have bad : ¬ RuleOk vars r → R (.sc (.bool false)) (M.set bb [a, b, c]) := fun hn => hR _ _ (sB) ⟨false, rfl, by simp only [Bool.false_eq_true, false_iff]; exact hn⟩
        have hti := hc.elt (i := i) (by omega)
        (repeat' (first | ((with_reducible first | refine cond_dec (fun h => ?_) (fun h => ?_) | refine guardK_dec (fun h => ?_) (fun h => ?_) | refine guardD3_dec (fun h => ?_) (fun h => ?_)) <;> first | (exfalso; omega) | (simp (maxSteps := 2000000) (disch := first | omega | assumption | exact idP rfl | exact idP (bL rfl)) only [go_sem, reduceIte, Nat.reduceEqDiff, wpV_kd, wpV_tH, h, e1, e2, e22, e24, hb.iaddr, hb.at, hc.iaddr, e8]) | skip) | ((with_reducible first | refine cond_split (fun h => ?_) (fun h => ?_) | refine guardK_split (fun h => ?_) (fun h => ?_) | refine guardD3_split (fun h => ?_) (fun h => ?_)) <;> ((try simp only [Bool.not_eq_true', Bool.not_eq_false'] at h); first | (simp (maxSteps := 2000000) (disch := first | omega | assumption | exact idP rfl | exact idP (bL rfl)) only [go_sem, reduceIte, Nat.reduceEqDiff, wpV_kd, wpV_tH, h, e1, e2, e22, e24, hb.iaddr, hb.at, hc.iaddr, e8]) | skip)) | ((with_reducible refine (t_in).mono ?_); rintro _ _ ⟨rfl, rfl⟩) | (with_reducible intro bk hbk; try have hnk := (fresh_set hbk).1) | (simp (maxSteps := 2000000) (disch := first | omega | assumption | exact idP rfl | exact idP (bL rfl)) only [go_sem, reduceIte, Nat.reduceEqDiff, wpV_kd, wpV_tH, e1, e2, e22, e24, hb.iaddr, hb.at, hc.iaddr, e8])))
        all_goals first
          | (refine bad fun hr => ?_; have h3 := (hr.2.2 i hi').1; have h4 := (hr.2.2 i hi').2.1; first | omega | (have := h4 (by omega); omega))
          | skip
        all_goals (refine (t_kindOf hti).mono ?_; rintro _ _ ⟨rfl, ki, rfl, hki⟩; have hki := hki 1 (by omega))
        all_goals (repeat' (first | ((with_reducible first | refine cond_dec (fun h => ?_) (fun h => ?_) | refine guardK_dec (fun h => ?_) (fun h => ?_) | refine guardD3_dec (fun h => ?_) (fun h => ?_)) <;> first | (exfalso; omega) | (simp (maxSteps := 2000000) (disch := first | omega | assumption | exact idP rfl | exact idP (bL rfl)) only [go_sem, reduceIte, Nat.reduceEqDiff, wpV_kd, wpV_tH, h, e1, e2, e22, e24, hb.iaddr, hb.at, hc.iaddr, e8]) | skip) | ((with_reducible first | refine cond_split (fun h => ?_) (fun h => ?_) | refine guardK_split (fun h => ?_) (fun h => ?_) | refine guardD3_split (fun h => ?_) (fun h => ?_)) <;> ((try simp only [Bool.not_eq_true', Bool.not_eq_false'] at h); first | (simp (maxSteps := 2000000) (disch := first | omega | assumption | exact idP rfl | exact idP (bL rfl)) only [go_sem, reduceIte, Nat.reduceEqDiff, wpV_kd, wpV_tH, h, e1, e2, e22, e24, hb.iaddr, hb.at, hc.iaddr, e8]) | skip)) | (with_reducible intro bk hbk; try have hnk := (fresh_set hbk).1) | (simp (maxSteps := 2000000) (disch := first | omega | assumption | exact idP rfl | exact idP (bL rfl)) only [go_sem, reduceIte, Nat.reduceEqDiff, wpV_kd, wpV_tH, e1, e2, e22, e24, hb.iaddr, hb.at, hc.iaddr, e8])))
        all_goals first
          | (refine bad fun hr => ?_; have h5 := (hr.2.2 i hi').2.2 (by omega); exact absurd (hki.2 h5) (by assumption))
          | (refine hK _ _ ⟨rfl, i + 1, by omega, sT0, sT0, sT0, sT0, by refine sS0 ?_; rfl, fun j hj1 hj2 => ?_⟩ (by refine sS2 @ctrV_int @e24 ?_; omega)
             by_cases hji : j = i
             · subst hji; exact ⟨by omega, fun h0 => by omega, fun _ => hki.1 (by omega)⟩
             · exact hj j hj1 (by omega))
      · refine sS0 ?_
        exact hR _ _ (sB) ⟨true, rfl, by
          simp only [true_iff]
          exact ⟨hkw, by omega, fun j hj1 => hj j hj1 (by omega)⟩⟩
theorem t_IndexVar {v : V} {fn : Nat} {caps : List V} {xs : List VarS} {pred : VarS → Bool} (hv : LVar v xs) (hl : xs.length ≤ 1048576)
    (hf : ∀ x ∈ xs, VCall Try.prog fn (.agg (encVar x) :: caps) M (fun r M' => M = M' ∧ r = .sc (.bool (pred x)))) :
    VCall Try.prog n_slices_ContainsFunc_Simpl_Var_impl_Var [v, .fn fn caps] M (fun r M' => M = M' ∧ r = .sc (.bool (xs.any pred))) := by
  have key : VCall Try.prog n_slices_IndexFunc_Simpl_Var_impl_Var [v, .fn fn caps] M (fun r M' => M = M' ∧ ∃ k : Int, r = .sc (.int .i64 k) ∧ (0 ≤ k ↔ xs.any pred = true)) := by
    refine VCall.pure fun R hR => v_slices_IndexFunc_Simpl_Var_impl_Var rfl ?_
    refine sS1 @hv.len ?_
    refine loop_k (fun e M' => M' = M ∧ ∃ i : Nat, i ≤ xs.length ∧ e 0 = v ∧ e 1 = .fn fn caps ∧ e 7 = .sc (.int .i64 xs.length) ∧ e 8 = .sc (.int .i64 i) ∧ ∀ j (hj : j < xs.length), j < i → pred xs[j] = false) (fun e _ => ctrV xs.length (e 8)) ?_ ?_
    · exact ⟨rfl, 0, by omega, sT0, sT0, sT0, by refine sS0 ?_; rfl, fun j _ h => by omega⟩
    · rintro e M1 ⟨hM, i, hi, e0, e1, e7, e8, hj⟩ K hK
      subst hM
      refine sS2 @e7 @e8 ?_
      refine cond_dec (fun h => ?_) (fun h => ?_)
      · have hi' : i < xs.length := by omega
        simp (maxSteps := 2000000) (disch := first | omega | assumption | exact idP rfl | exact idP (bL rfl)) only [go_sem, reduceIte, Nat.reduceEqDiff, wpV_kd, wpV_tH, e0, e1, e8, hv.iaddr, LVar.at hv hi']
        refine (hf _ (List.getElem_mem hi')).mono ?_
        rintro _ _ ⟨rfl, rfl⟩
        cases hp : pred xs[i] with
        | true =>
          refine sS0 ?_
          exact hR _ _ (sB) ⟨_, rfl, by simp only [Int.natCast_nonneg, true_iff]; exact List.any_eq_true.2 ⟨_, List.getElem_mem hi', hp⟩⟩
        | false =>
          refine sS1 @e8 ?_
          refine hK _ _ ⟨rfl, i + 1, by omega, sT0, sT0, sT0, by refine sS0 ?_; rfl, fun j hj1 hj2 => ?_⟩ (by refine sS2 @ctrV_int @e8 ?_; omega)
          by_cases hji : j = i
          · subst hji; exact hp
          · exact hj j hj1 (by omega)
      · refine sS0 ?_
        refine hR _ _ (sB) ⟨-1, rfl, ⟨fun h => by omega, fun h => ?_⟩⟩
        obtain ⟨x, hx, hpx⟩ := List.any_eq_true.1 h
        obtain ⟨j, hj1, rfl⟩ := List.getElem_of_mem hx
        rw [hj j hj1 (by omega)] at hpx; cases hpx
  refine VCall.pure fun R hR => v_slices_ContainsFunc_Simpl_Var_impl_Var rfl ?_
  refine sS0 ?_
  refine key.mono ?_
  rintro _ _ ⟨rfl, k, rfl, hk⟩
  refine sS0 ?_
  exact hR _ _ (sB) (eqB (by simp only [decide_eq_true_eq]; exact hk))
end Go.M2

namespace Go.M2
open Go.Proofs
variable {M : MH}
theorem t_IndexRule {v : V} {fn : Nat} {caps : List V} {xs : List RuleS} {pred : RuleS → Bool} (hv : LR v xs) (hl : xs.length ≤ 1048576)
    (hf : ∀ x ∈ xs, ∀ cs, isRule x cs → VCall Try.prog fn (.agg cs :: caps) M (fun r M' => M = M' ∧ r = .sc (.bool (pred x)))) :
    VCall Try.prog n_slices_ContainsFunc_Simpl_Rule_impl_Rule [v, .fn fn caps] M (fun r M' => M = M' ∧ r = .sc (.bool (xs.any pred))) := by
  have key : VCall Try.prog n_slices_IndexFunc_Simpl_Rule_impl_Rule [v, .fn fn caps] M (fun r M' => M = M' ∧ ∃ k : Int, r = .sc (.int .i64 k) ∧ (0 ≤ k ↔ xs.any pred = true)) := by
    refine VCall.pure fun R hR => v_slices_IndexFunc_Simpl_Rule_impl_Rule rfl ?_
    refine sS1 @hv.len ?_
    refine loop_k (fun e M' => M' = M ∧ ∃ i : Nat, i ≤ xs.length ∧ e 0 = v ∧ e 1 = .fn fn caps ∧ e 7 = .sc (.int .i64 xs.length) ∧ e 8 = .sc (.int .i64 i) ∧ ∀ j (hj : j < xs.length), j < i → pred xs[j] = false) (fun e _ => ctrV xs.length (e 8)) ?_ ?_
    · exact ⟨rfl, 0, by omega, sT0, sT0, sT0, by refine sS0 ?_; rfl, fun j _ h => by omega⟩
    · rintro e M1 ⟨hM, i, hi, e0, e1, e7, e8, hj⟩ K hK
      subst hM
      refine sS2 @e7 @e8 ?_
      refine cond_dec (fun h => ?_) (fun h => ?_)
      · have hi' : i < xs.length := by omega
        have hcs := hv.elt hi'
        have hrule := hcs
        obtain ⟨c1, c2, c3, hat, _, _, _⟩ := hcs
        rw [hat] at hrule
        refine sS5 @e0 @e1 @e8 @hv.iaddr @hat ?_
        refine (hf _ (List.getElem_mem hi') _ hrule).mono ?_
        rintro _ _ ⟨rfl, rfl⟩
        cases hp : pred xs[i] with
        | true =>
          refine sS0 ?_
          exact hR _ _ (sB) ⟨_, rfl, by simp only [Int.natCast_nonneg, true_iff]; exact List.any_eq_true.2 ⟨_, List.getElem_mem hi', hp⟩⟩
        | false =>
          refine sS1 @e8 ?_
          refine hK _ _ ⟨rfl, i + 1, by omega, sT0, sT0, sT0, by refine sS0 ?_; rfl, fun j hj1 hj2 => ?_⟩ (by refine sS2 @ctrV_int @e8 ?_; omega)
          by_cases hji : j = i
          · subst hji; exact hp
          · exact hj j hj1 (by omega)
      · refine sS0 ?_
        refine hR _ _ (sB) ⟨-1, rfl, ⟨fun h => by omega, fun h => ?_⟩⟩
        obtain ⟨x, hx, hpx⟩ := List.any_eq_true.1 h
        obtain ⟨j, hj1, rfl⟩ := List.getElem_of_mem hx
        rw [hj j hj1 (by omega)] at hpx; cases hpx
  refine VCall.pure fun R hR => v_slices_ContainsFunc_Simpl_Rule_impl_Rule rfl ?_
  refine sS0 ?_
  refine key.mono ?_
  rintro _ _ ⟨rfl, k, rfl, hk⟩
  refine sS0 ?_
  exact hR _ _ (sB) (eqB (by simp only [decide_eq_true_eq]; exact hk))
noncomputable def ruleB (vars : Int) (r : RuleS) : Bool := @decide (RuleOk vars r) (Classical.propDecidable _)
theorem ruleB_iff (vars : Int) (r : RuleS) : ruleB vars r = true ↔ RuleOk vars r := by unfold ruleB; exact @decide_eq_true_iff _ (Classical.propDecidable _)
def SysSz (s : SysS) : Prop := s.vars.length ≤ 1048576 ∧ s.rules.length ≤ 1048576 ∧ ∀ r ∈ s.rules, r.sets.length ≤ 1048576
theorem t_impSystemValid {v : V} {s : SysS} (hv : isSys s v) (hsz : SysSz s) : VCall Try.prog n_impl_SystemValid [v] M (fun r' M' => M = M' ∧ r' = .sc (.bool (sysB s))) := by
  refine VCall.pure fun R hR => v_impl_SystemValid rfl ?_
  obtain ⟨a, b, rfl, ha, hb⟩ := hv
  have bad : ¬ SysOk s → sysB s = false := fun h => by
    cases hq : sysB s with
    | false => rfl
    | true => exact absurd ((sysB_iff s).1 hq) h
  have h1 : ∀ (M : MH), ∀ x ∈ s.vars, VCall Try.prog n_impl_SystemValid_1 (.agg (encVar x) :: []) M (fun r M' => M = M' ∧ r = .sc (.bool (!decide (VarOk x)))) := by
    intro M x _
    refine VCall.pure fun R hR => v_impl_SystemValid_1 rfl ?_
    simp (maxSteps := 2000000) (disch := first | omega | assumption | exact idP rfl | exact idP (bL rfl)) only [go_sem, reduceIte, Nat.reduceEqDiff, wpV_kd, wpV_tH, encVar]
    intro b1 hb1
    refine (t_varOk (v := x)).mono ?_
    rintro _ _ ⟨rfl, rfl⟩
    refine sS0 ?_
    exact hR _ _ (sB) (by rw [decide_not])
  (repeat' (first | ((with_reducible first | refine cond_dec (fun h => ?_) (fun h => ?_) | refine guardK_dec (fun h => ?_) (fun h => ?_) | refine guardD3_dec (fun h => ?_) (fun h => ?_)) <;> first | (exfalso; omega) | (simp (maxSteps := 2000000) (disch := first | omega | assumption | exact idP rfl | exact idP (bL rfl)) only [go_sem, reduceIte, Nat.reduceEqDiff, wpV_kd, wpV_tH, h, ha.len, hb.len]) | skip) | ((with_reducible first | refine cond_split (fun h => ?_) (fun h => ?_) | refine guardK_split (fun h => ?_) (fun h => ?_) | refine guardD3_split (fun h => ?_) (fun h => ?_)) <;> ((try simp only [Bool.not_eq_true', Bool.not_eq_false'] at h); first | (simp (maxSteps := 2000000) (disch := first | omega | assumption | exact idP rfl | exact idP (bL rfl)) only [go_sem, reduceIte, Nat.reduceEqDiff, wpV_kd, wpV_tH, h, ha.len, hb.len]) | skip)) | ((with_reducible refine (t_in).mono ?_); rintro _ _ ⟨rfl, rfl⟩) | (with_reducible intro bk hbk; try have hnk := (fresh_set hbk).1) | (simp (maxSteps := 2000000) (disch := first | omega | assumption | exact idP rfl | exact idP (bL rfl)) only [go_sem, reduceIte, Nat.reduceEqDiff, wpV_kd, wpV_tH, ha.len, hb.len])))
  all_goals try (exact hR _ _ (sB) (by rw [bad fun hs => by have := hs.v1; have := hs.v5; have := hs.r8; omega]))
  · refine (t_IndexVar ha hsz.1 (h1 _)).mono ?_
    rintro _ _ ⟨rfl, rfl⟩
    cases hany : s.vars.any (fun x => !decide (VarOk x)) with
    | true =>
      (repeat' (first | ((with_reducible first | refine cond_dec (fun h => ?_) (fun h => ?_) | refine guardK_dec (fun h => ?_) (fun h => ?_) | refine guardD3_dec (fun h => ?_) (fun h => ?_)) <;> first | (exfalso; omega) | (simp (maxSteps := 2000000) (disch := first | omega | assumption | exact idP rfl | exact idP (bL rfl)) only [go_sem, reduceIte, Nat.reduceEqDiff, wpV_kd, wpV_tH, h]) | skip) | ((with_reducible first | refine cond_split (fun h => ?_) (fun h => ?_) | refine guardK_split (fun h => ?_) (fun h => ?_) | refine guardD3_split (fun h => ?_) (fun h => ?_)) <;> ((try simp only [Bool.not_eq_true', Bool.not_eq_false'] at h); first | (simp (maxSteps := 2000000) (disch := first | omega | assumption | exact idP rfl | exact idP (bL rfl)) only [go_sem, reduceIte, Nat.reduceEqDiff, wpV_kd, wpV_tH, h]) | skip)) | (with_reducible intro bk hbk; try have hnk := (fresh_set hbk).1) | (simp (maxSteps := 2000000) (disch := first | omega | assumption | exact idP rfl | exact idP (bL rfl)) only [go_sem, reduceIte, Nat.reduceEqDiff, wpV_kd, wpV_tH])))
      all_goals refine hR _ _ (sB) ?_
      all_goals rw [bad fun hs => by
        obtain ⟨x, hx, hpx⟩ := List.any_eq_true.1 hany
        have := hs.vars x hx
        simp [this] at hpx]
    | false =>
      have hvars : ∀ x ∈ s.vars, VarOk x := fun x hx => by
        have := List.any_eq_false.1 hany x hx
        simpa using this
      (repeat' (first | ((with_reducible first | refine cond_dec (fun h => ?_) (fun h => ?_) | refine guardK_dec (fun h => ?_) (fun h => ?_) | refine guardD3_dec (fun h => ?_) (fun h => ?_)) <;> first | (exfalso; omega) | (simp (maxSteps := 2000000) (disch := first | omega | assumption | exact idP rfl | exact idP (bL rfl)) only [go_sem, reduceIte, Nat.reduceEqDiff, wpV_kd, wpV_tH, h]) | skip) | ((with_reducible first | refine cond_split (fun h => ?_) (fun h => ?_) | refine guardK_split (fun h => ?_) (fun h => ?_) | refine guardD3_split (fun h => ?_) (fun h => ?_)) <;> ((try simp only [Bool.not_eq_true', Bool.not_eq_false'] at h); first | (simp (maxSteps := 2000000) (disch := first | omega | assumption | exact idP rfl | exact idP (bL rfl)) only [go_sem, reduceIte, Nat.reduceEqDiff, wpV_kd, wpV_tH, h]) | skip)) | ((with_reducible refine (t_impSize ha hvars (by omega)).mono ?_); rintro _ _ ⟨rfl, rfl⟩) | (with_reducible intro bk hbk; try have hnk := (fresh_set hbk).1) | (simp (maxSteps := 2000000) (disch := first | omega | assumption | exact idP rfl | exact idP (bL rfl)) only [go_sem, reduceIte, Nat.reduceEqDiff, wpV_kd, wpV_tH])))
      · exact hR _ _ (sB) (by rw [bad fun hs => by have := hs.size; omega])
      · have h2 : ∀ x ∈ s.rules, ∀ cs, isRule x cs → VCall Try.prog n_impl_SystemValid_2 (.agg cs :: [.sc (.ptr (some (bk, 0)))]) (M.set bk [a, b]) (fun r M' => (M.set bk [a, b]) = M' ∧ r = .sc (.bool (!ruleB (s.vars.length : Int) x))) := by
          rintro x hx cs ⟨c1, c2, c3, rfl, q1, q2, q3⟩
          refine VCall.pure fun R hR => v_impl_SystemValid_2 rfl ?_
          refine sS0 ?_
          intro b2 hb2
          have hne := (fresh_set hb2).1
          refine sS1 @ha.len ?_
          refine (t_ruleOk q1 q2 q3 (by omega) (by omega) (hsz.2.2 x hx)).mono ?_
          rintro _ _ ⟨rfl, t, rfl, ht⟩
          refine sS0 ?_
          exact hR _ _ (sB) (by rw [eq_of_iff (ht.trans (ruleB_iff _ _).symm)])
        refine (t_IndexRule hb hsz.2.1 h2).mono ?_
        rintro _ _ ⟨rfl, rfl⟩
        refine sS0 ?_
        refine hR _ _ (sB) ?_
        congr 2
        refine eq_of_iff ?_
        rw [sysB_iff, Bool.not_eq_true', List.any_eq_false]
        constructor
        · intro h
          exact ⟨by omega, by omega, by omega, hvars, fun r hr => by have := h r hr; simpa [ruleB_iff] using this, by omega⟩
        · intro hs r hr
          simp [(ruleB_iff _ _).2 (hs.rules r hr)]
end Go.M2

namespace Go.M2
open Go.Proofs
variable {M : MH}
structure DoOk (op a b : Int) : Prop where
  o2 : 2 ≤ op
  o9 : op ≤ 9
  a1 : -9999 ≤ a
  a2 : a ≤ 9999
  b1 : -9999 ≤ b
  b2 : b ≤ 9999
  tr : 8 ≤ op → (a = 0 ∨ a = 1) ∧ (b = 0 ∨ b = 1)
theorem DoOk.of {vars : Int} {ts : List TermS} {ks state : List Int} {i : Nat} (hk : kindsGo vars ts [] = some ks) (hs : stOk state) (hv : vars ≤ (state.length : Int)) (hi : i < ts.length) (h0 : ¬ ts[i].op = 0) (h1 : ¬ ts[i].op = 1) :
    DoOk ts[i].op (ix (valsF state (ts.take i)) ts[i].a) (ix (valsF state (ts.take i)) ts[i].b) ∧ (0 ≤ ts[i].a ∧ ts[i].a < i) ∧ (0 ≤ ts[i].b ∧ ts[i].b < i) := by
  obtain ⟨hl, hat⟩ := kindsGo_at hk
  obtain ⟨q1, q2⟩ := hat i hi (by omega)
  have q3 : kind1 vars ts[i] (ks.take i) ≠ 0 := by rw [q1]; exact q2
  unfold kind1 at q3
  rw [if_neg h0, if_neg h1] at q3
  split at q3
  · rename_i hc
    obtain ⟨c1, c2, c3, c4, c5, c6, c7, c8⟩ := hc
    have hkl : (ks.take i).length = i := by simp; omega
    rw [hkl] at c4 c5
    have hkt : kindsGo vars (ts.take i) [] = some (ks.take i) := by
      have e := hk
      rw [← List.take_append_drop i ts, kindsGo_append] at e
      cases h2 : kindsGo vars (ts.take i) [] with
      | none => rw [h2] at e; cases e
      | some ks0 =>
        rw [h2] at e
        have h3 := (kindsGo_len (show kindsGo vars (ts.drop i) ks0 = some ks from e)).2
        have h4 := (kindsGo_len h2).1
        simp at h4
        rw [show ks0.length = i by omega] at h3
        rw [h3]
    have V := vals_ok hs hv _ (l := ts.take i) (ks := ks.take i) rfl hkt
    have hvl : (valsF state (ts.take i)).length = i := by rw [valsF_len]; simp; omega
    obtain ⟨ha, ea⟩ := ix_eq (l := valsF state (ts.take i)) (i := ts[i].a) c4.1 (by omega)
    obtain ⟨hb, eb⟩ := ix_eq (l := valsF state (ts.take i)) (i := ts[i].b) c5.1 (by omega)
    obtain ⟨ha', ea'⟩ := ix_eq (l := ks.take i) (i := ts[i].a) c4.1 (by omega)
    obtain ⟨hb', eb'⟩ := ix_eq (l := ks.take i) (i := ts[i].b) c5.1 (by omega)
    have A := V _ ha ha'
    have B := V _ hb hb'
    rw [← ea, ← ea', c6] at A
    rw [← eb, ← eb', c7] at B
    refine ⟨⟨c1, c2, A.1, A.2.1, B.1, B.2.1, fun h8 => ?_⟩, c4, c5⟩
    unfold wantK at A B
    rw [if_pos (by omega)] at A B
    have A2 := A.2.2 rfl
    have B2 := B.2.2 rfl
    omega
  · exact absurd rfl q3
end Go.M2

namespace Go.M2
open Go.Proofs
variable {M : MH}
end Go.M2

namespace Go.M2
open Go.Proofs
variable {M : MH}
theorem kind_some {vars kind : Int} {ts : List TermS} (h : kindIs vars kind ts = true) : ∃ ks, kindsF vars ts = some ks := by
  unfold kindIs at h
  split at h
  · exact ⟨_, by assumption⟩
  · cases h
end Go.M2

namespace Go.M2
open Go.Proofs
variable {M : MH}
theorem setAtG_all {α : Type} : ∀ (c z : List α) (o : Nat), o + c.length = z.length → setAtG z o c = z.take o ++ c
  | [], z, o, h => by
    simp only [setAtG, List.append_nil]
    rw [List.take_of_length_le (by simp at h; omega)]
  | x :: t, z, o, h => by
    simp only [setAtG]
    rw [setAtG_all t _ _ (by simp at h ⊢; omega)]
    simp at h
    rw [List.take_succ_eq_append_getElem (by simp; omega)]
    simp
    apply List.ext_getElem?
    intro i
    simp only [List.getElem?_take]
    split
    · rw [List.getElem?_set_ne (by omega)]
    · rfl
theorem t_cloneInt {v : V} {xs : List Int} (hv : LI v xs) (hl : xs.length ≤ 1048576) : VCall Try.prog n_impl_clone_int [v] M (fun r M' => Gr 1 M M' r (xs.map vi)) := by
  refine VCall.plain fun R hR => v_impl_clone_int rfl ?_
  refine sS1 @hv.len ?_
  refine cond_dec (fun h => ?_) (fun h => ?_)
  · refine sS0 ?_
    have : xs = [] := List.eq_nil_of_length_eq_zero (by omega)
    subst this
    exact hR _ _ (.nil (Sub.refl _))
  · refine sS1 @hv.len ?_
    refine mks3 (by omega) (by simp [mostCells]; omega) (by simp [mostCells]; omega) ?_
    intro b3 hb3
    have hcs := hv.cells (M := M.set b3 ((List.replicate xs.length (0 : Int)).map vi))
    rw [Nat.mul_one] at hcs
    simp (maxSteps := 2000000) (disch := first | omega | assumption | exact idP rfl | exact idP (bL rfl)) only [go_sem, reduceIte, Nat.reduceEqDiff, wpV_kd, wpV_tH, zeros_vi]
    simp only [copyV, hv.lenS, Nat.min_self, Nat.mul_one, hcs]
    rw [if_neg (by omega)]
    simp only [set_same, Nat.zero_add]
    refine ⟨by simp [vi, oneV, er, oneA], by simp, ?_⟩
    rw [setAtG_all _ _ _ (by simp)]
    refine sS0 ?_
    exact hR _ _ (Gr.new' (Sub.refl _) hb3 (by simp))
end Go.M2

namespace Go.M2
open Go.Proofs
variable {M : MH}
end Go.M2

namespace Go.M2
open Go.Proofs
variable {M : MH}
theorem slc_lo {b o n c : Nat} {ex : Bool} {k : IntKind} {a : Int} (h0 : 0 ≤ a) (h1 : a ≤ (n : Int)) (hc : a < (c : Int)) (hn : n ≤ c) :
    slcV 1 (some (.int k a)) none none (.sc (.sl (some (b, o)) n c ex 1)) = some (.sc (.sl (some (b, o + a.toNat)) (n - a.toNat) (c - a.toNat) ex 1)) := by
  simp only [slcV, slcF, bnds, natIn, Option.isSome_none, Bool.false_eq_true, if_false, h0, h1, and_self, if_true]
  rw [if_neg (by intro h; rcases h with h | h <;> omega), if_neg (by omega)]
  simp
theorem slc_hi {b o n c kk : Nat} {ex : Bool} {k : IntKind} {a : Int} (h0 : 0 ≤ a) (h1 : a ≤ (c : Int)) (hc : 0 < c) :
    slcV 1 none (some (.int k a)) none (.sc (.sl (some (b, o)) n c ex kk)) = some (.sc (.sl (some (b, o)) a.toNat c ex kk)) := by
  simp only [slcV, slcF, bnds, natIn, Option.isSome_none, Bool.false_eq_true, if_false, h0, h1, and_self, if_true]
  rw [if_neg (by intro h; rcases h with h | h <;> omega), if_neg (by omega)]
  simp
theorem setAtG_mid {α : Type} : ∀ (c z : List α) (o : Nat), o + c.length ≤ z.length → setAtG z o c = z.take o ++ c ++ z.drop (o + c.length)
  | [], z, o, h => by simp [setAtG]
  | x :: t, z, o, h => by
    simp only [setAtG]
    simp at h
    rw [setAtG_mid t _ _ (by simp; omega)]
    rw [List.take_succ_eq_append_getElem (by simp; omega)]
    have e1 : (z.set o x).take o = z.take o := by
      apply List.ext_getElem?
      intro i
      simp only [List.getElem?_take]
      split
      · rw [List.getElem?_set_ne (by omega)]
      · rfl
    have e2 : (z.set o x).drop (o + 1 + t.length) = z.drop (o + (x :: t).length) := by
      apply List.ext_getElem?
      intro i
      simp only [List.getElem?_drop]
      rw [List.getElem?_set_ne (by omega)]
      simp; congr 1; omega
    rw [e1, e2]
    simp
end Go.M2

namespace Go.M2
open Go.Proofs
variable {M : MH}
def isL (xs : List Int) (u : V) : Prop := LI u xs
end Go.M2

namespace Go.M2
open Go.Proofs
variable {M : MH}
theorem sizeF_mono {vs : List VarS} (hv : ∀ v ∈ vs, VarOk v) (h5 : vs.length ≤ 5) {i : Nat} : 1 ≤ sizeF (vs.take i) ∧ sizeF (vs.take i) ≤ 3200000 := sizeF_take_bd h5 fun j hj _ => hv _ (List.getElem_mem hj)
end Go.M2

namespace Go.M2
open Go.Proofs
variable {M : MH}
theorem SysOk.sz {s : SysS} (hs : SysOk s) : 1 ≤ sizeF s.vars ∧ sizeF s.vars ≤ 400 := by
  have := sizeF_mono hs.vars hs.v5 (i := s.vars.length)
  rw [List.take_length] at this
  exact ⟨this.1, hs.size⟩
end Go.M2

namespace Go.M2
open Go.Proofs
variable {M : MH}
theorem Cs.one {us : List V} {l : List (List Int)} (h : Cs isL us l) : us.all oneV = true := by
  refine List.all_eq_true.2 fun x hx => ?_
  obtain ⟨i, hi, rfl⟩ := List.getElem_of_mem hx
  obtain ⟨u, hu, he⟩ := h.2 i (by rw [← h.1]; exact hi)
  rw [List.getElem?_eq_getElem hi] at hu
  cases hu
  exact he.one.1
theorem Cs.take {us : List V} {l : List (List Int)} (h : Cs isL us l) (i : Nat) : Cs isL (us.take i) (l.take i) := by
  refine ⟨by simp [h.1], fun j hj => ?_⟩
  simp at hj
  obtain ⟨u, hu, he⟩ := h.2 j (by omega)
  exact ⟨u, by rw [List.getElem?_take, if_pos (by omega)]; exact hu, by rw [List.getElem_take]; exact he⟩
end Go.M2

namespace Go.M2
open Go.Proofs
variable {M : MH}
theorem Fz.pre {M M' : MH} {l l' : List V} (h : Fz M l M' l') : ∀ us : List V, Fz M (us ++ l) M' (us ++ l')
  | [] => h
  | x :: t => .keep x (Fz.pre h t)
theorem FzE.row {M0 M : MH} {b3 sz : Nat} {rv : V} {us post row : List V} (hb : M b3 = some (us ++ rv :: post)) (hr : Gr sz M0 M rv row) (hne : blkV rv ≠ some b3) :
    ∃ M' u, (∀ e, FzE e M e M') ∧ Fr sz u row ∧ M' b3 = some (us ++ u :: post) ∧ (M0 b3 = none → Sub M0 M') := by
  rcases hr.own with ⟨rfl, k, rfl⟩ | ⟨b, n, ex, rfl, h1, h2⟩
  · exact ⟨M, _, fun e => .refl _ _, .inl ⟨rfl, k, rfl⟩, hb, fun _ => hr.sub⟩
  · have hne' : b3 ≠ b := fun e => hne (by rw [e]; rfl)
    have h0 := hr.new b rfl
    have hd : M.del b b3 = some (us ++ V.sc (.sl (some (b, 0)) n n ex sz) :: post) := by simp only [MH.del]; rw [if_neg hne']; exact hb
    have hz : Fz M (us ++ V.sc (.sl (some (b, 0)) n n ex sz) :: post) (M.del b) (us ++ V.fs (some (b, 0)) n n ex sz (row.drop 0) :: post) := Fz.pre (.sl h1 (Fz.refl _ _) (Fz.refl _ _)) us
    refine ⟨_, _, fun e => FzE.cells hb hz hd, .inr ⟨_, _, _, _, _, rfl, by simpa using h2⟩, set_same, fun h3 => Sub.set (fun i l hi => ?_) h3⟩
    simp only [MH.del]
    rw [if_neg (fun e => by subst e; rw [h0] at hi; cases hi)]
    exact hr.sub i l hi
end Go.M2

namespace Go.M2
open Go.Proofs
variable {M : MH}
def nil1 : V := .sc (.sl none 0 0 true 0)
theorem zeros_nil (n : Nat) : (zeros [AV.sl none 0 0 true 0] n).map V.sc = List.replicate n nil1 := by
  induction n with
  | zero => rfl
  | succ n ih => simp only [zeros, List.replicate_succ, List.flatten_cons, List.map_append] at ih ⊢; rw [ih]; rfl
theorem set_mid {α : Type} {us post : List α} {x y : α} {n : Nat} (h : us.length = n) : (us ++ x :: post).set n y = us ++ y :: post := by
  subst h
  rw [List.set_append_right _ _ (Nat.le_refl _), Nat.sub_self]; rfl
end Go.M2

namespace Go.M2
open Go.Proofs
variable {M : MH}
def AscTo (n : Int) (xs : List Int) (k : Nat) : Prop := ∀ i (h : i < xs.length), i < k → (0 ≤ xs[i] ∧ xs[i] ≤ n - 1) ∧ (0 < i → xs[i - 1] < xs[i])
def SetOk (n : Int) (xs : List Int) : Prop := AscTo n xs xs.length
noncomputable def setB (n : Int) (xs : List Int) : Bool := @decide (SetOk n xs) (Classical.propDecidable _)
theorem AscTo.next {n : Int} {xs : List Int} {k : Nat} (h : AscTo n xs k) (hk : k < xs.length) (h1 : 0 ≤ xs[k] ∧ xs[k] ≤ n - 1) (h2 : 0 < k → xs[k - 1] < xs[k]) : AscTo n xs (k + 1) := fun i hi hik => by
  by_cases e : i = k
  · subst e; exact ⟨h1, h2⟩
  · exact h i hi (by omega)
noncomputable def setV (s : SysS) (xs : List Int) : Bool := sysB s && setB (sizeF s.vars) xs
theorem t_l2Has {w : V} {xs : List Int} {n : Int} (hw : LI w xs) (hl : xs.length ≤ 1048576) : VCall Try.prog n_spec_l2Has [w, .sc (.int .i64 n)] M (fun r M' => M = M' ∧ r = .sc (.bool (decide (n ∈ xs)))) := by
  refine VCall.pure fun R hR => v_spec_l2Has rfl ?_
  refine sS0 ?_
  refine loop_k (fun e M' => M' = M ∧ ∃ i : Nat, i ≤ xs.length ∧ e 0 = w ∧ e 1 = .sc (.int .i64 n) ∧ e 5 = .sc (.int .i64 i) ∧ ¬ n ∈ xs.take i) (fun e _ => ctrV xs.length (e 5)) ?_ ?_
  · exact ⟨rfl, 0, by omega, sT0, sT0, by refine sS0 ?_; rfl, by simp⟩
  · rintro e _ ⟨rfl, i, hi, e0, e1, e5, hj⟩ K hK
    refine sS4 @e0 @e1 @e5 @hw.len ?_
    refine cond_dec (fun h => ?_) (fun h => ?_)
    · have hi' : i < xs.length := by omega
      (repeat' (first | ((with_reducible first | refine cond_dec (fun h => ?_) (fun h => ?_) | refine guardK_dec (fun h => ?_) (fun h => ?_) | refine guardD3_dec (fun h => ?_) (fun h => ?_)) <;> first | (exfalso; omega) | (simp (maxSteps := 2000000) (disch := first | omega | assumption | exact idP rfl | exact idP (bL rfl)) only [go_sem, reduceIte, Nat.reduceEqDiff, wpV_kd, wpV_tH, h, e0, e1, e5, hw.iaddr, hw.at hi']) | skip) | ((with_reducible first | refine cond_split (fun h => ?_) (fun h => ?_) | refine guardK_split (fun h => ?_) (fun h => ?_) | refine guardD3_split (fun h => ?_) (fun h => ?_)) <;> ((try simp only [Bool.not_eq_true', Bool.not_eq_false'] at h); first | (simp (maxSteps := 2000000) (disch := first | omega | assumption | exact idP rfl | exact idP (bL rfl)) only [go_sem, reduceIte, Nat.reduceEqDiff, wpV_kd, wpV_tH, h, e0, e1, e5, hw.iaddr, hw.at hi']) | skip)) | (with_reducible intro bk hbk; try have hnk := (fresh_set hbk).1) | (simp (maxSteps := 2000000) (disch := first | omega | assumption | exact idP rfl | exact idP (bL rfl)) only [go_sem, reduceIte, Nat.reduceEqDiff, wpV_kd, wpV_tH, e0, e1, e5, hw.iaddr, hw.at hi'])))
      · rename_i h2
        refine hR _ _ (sB) ?_
        rw [decide_eq_true (by rw [← h]; exact List.getElem_mem hi')]
      · refine hK _ _ ⟨rfl, i + 1, by omega, sT1 @e0, sT1 @e1, by refine sS1 @e5 ?_; rfl, ?_⟩ (by refine sS2 @ctrV_int @e5 ?_; omega)
        rw [take_snoc hi', List.mem_append, List.mem_singleton]
        rintro (h3 | h3)
        · exact hj h3
        · exact h h3.symm
    · obtain rfl : i = xs.length := by omega
      rw [List.take_length] at hj
      refine sS0 ?_
      exact hR _ _ (sB) (by rw [decide_eq_false hj])
end Go.M2

namespace Go.M2
open Go.Proofs
variable {M : MH}
def mkL (n : Nat) (p : Nat → Bool) : List Bool := (List.range n).map p
theorem mkL_len {n : Nat} {p : Nat → Bool} : (mkL n p).length = n := by simp [mkL]
theorem mkL_get {n : Nat} {p : Nat → Bool} {i : Nat} (h : i < (mkL n p).length) : (mkL n p)[i] = p i := by simp [mkL]
theorem mkL_ext {n : Nat} {p q : Nat → Bool} (h : ∀ i, i < n → p i = q i) : mkL n p = mkL n q := by
  unfold mkL
  exact List.map_congr_left fun i hi => h i (List.mem_range.1 hi)
theorem mkL_set {n k : Nat} {p q : Nat → Bool} (h : ∀ i, i < n → q i = (p i || decide (i = k))) : (mkL n p).set k true = mkL n q := by
  apply List.ext_getElem
  · simp [mkL]
  · intro i h1 h2
    have hi : i < n := by rw [mkL_len] at h2; exact h2
    rw [List.getElem_set]
    split
    · rename_i e; subst e; rw [mkL_get, h _ hi]; simp
    · rename_i e
      have e' : ¬ i = k := fun h => e h.symm
      rw [mkL_get, mkL_get, h _ hi]; simp [e']
theorem mkL_none {n : Nat} : List.replicate n false = mkL n (fun _ => false) := by
  unfold mkL
  rw [List.map_const', List.length_range]
theorem zeros_vb' (n : Nat) : (zeros [AV.bool false] n).map V.sc = (List.replicate n false).map vb := by
  induction n with
  | zero => rfl
  | succ n ih => simp only [zeros, List.replicate_succ, List.flatten_cons, List.map_append, List.map_cons] at ih ⊢; rw [ih]; rfl
theorem set_vb' {bs : List Bool} {i : Nat} {b : Bool} : (bs.map vb).set i (.sc (.bool b)) = (bs.set i b).map vb := by rw [List.map_set]; rfl
theorem len_vb' {bs : List Bool} : (bs.map vb).length = bs.length := List.length_map ..
def selL (n : Nat) (p : Nat → Bool) : List Int := ((List.range n).filter p).map (fun i : Nat => (i : Int))
theorem selL_succ {n : Nat} {p : Nat → Bool} : selL (n + 1) p = if p n = true then selL n p ++ [(n : Int)] else selL n p := by
  unfold selL
  rw [List.range_succ, List.filter_append]
  cases h : p n <;> simp [h]
theorem selL_len {n : Nat} {p : Nat → Bool} : (selL n p).length ≤ n := by
  unfold selL
  rw [List.length_map]
  exact Nat.le_trans (List.length_filter_le ..) (by simp)
theorem mem_selL {n : Nat} {p : Nat → Bool} {x : Int} : x ∈ selL n p ↔ ∃ i : Nat, i < n ∧ p i = true ∧ (i : Int) = x := by
  unfold selL
  simp only [List.mem_map, List.mem_filter, List.mem_range]
  constructor
  · rintro ⟨i, ⟨h1, h2⟩, h3⟩; exact ⟨i, h1, h2, h3⟩
  · rintro ⟨i, h1, h2, h3⟩; exact ⟨i, ⟨h1, h2⟩, h3⟩
end Go.M2

namespace Go.M2
open Go.Proofs
variable {M : MH}
def behB (tab : List (List Int)) (xs : List Int) (i : Nat) : Bool := xs.any fun x => decide ((i : Int) ∈ tab.getD x.toNat [])
end Go.M2

namespace Go.M2
open Go.Proofs
variable {M : MH}
theorem SetOk.in {n : Int} {xs : List Int} (h : SetOk n xs) : ∀ x ∈ xs, 0 ≤ x ∧ x < n := by
  intro x hx
  obtain ⟨i, hi, rfl⟩ := List.getElem_of_mem hx
  have := (h i hi hi).1
  omega
noncomputable def nextN (s : SysS) (xs : List Int) : List Int := if setV s xs = true then selL (tabF s).length (behB (tabF s) xs) else []
end Go.M2

namespace Go.M2
open Go.Proofs
variable {M : MH}
noncomputable def firstN (s : SysS) : Int := numF s.vars (firstF s)
theorem t_ContainsInt {v : V} {fn : Nat} {caps : List V} {xs : List Int} {pred : Int → Bool} (hv : LI v xs) (hl : xs.length ≤ 1048576)
    (hf : ∀ x ∈ xs, VCall Try.prog fn (.sc (.int .i64 x) :: caps) M (fun r M' => M = M' ∧ r = .sc (.bool (pred x)))) :
    VCall Try.prog n_slices_ContainsFunc_Sint_int [v, .fn fn caps] M (fun r M' => M = M' ∧ r = .sc (.bool (xs.any pred))) := by
  have key : VCall Try.prog n_slices_IndexFunc_Sint_int [v, .fn fn caps] M (fun r M' => M = M' ∧ ∃ k : Int, r = .sc (.int .i64 k) ∧ (0 ≤ k ↔ xs.any pred = true)) := by
    refine VCall.pure fun R hR => v_slices_IndexFunc_Sint_int rfl ?_
    refine sS1 @hv.len ?_
    refine loop_k (fun e M' => M' = M ∧ ∃ i : Nat, i ≤ xs.length ∧ e 0 = v ∧ e 1 = .fn fn caps ∧ e 7 = .sc (.int .i64 xs.length) ∧ e 8 = .sc (.int .i64 i) ∧ ∀ j (hj : j < xs.length), j < i → pred xs[j] = false) (fun e _ => ctrV xs.length (e 8)) ?_ ?_
    · exact ⟨rfl, 0, by omega, sT0, sT0, sT0, by refine sS0 ?_; rfl, fun j _ h => by omega⟩
    · rintro e M1 ⟨hM, i, hi, e0, e1, e7, e8, hj⟩ K hK
      subst hM
      refine sS2 @e7 @e8 ?_
      refine cond_dec (fun h => ?_) (fun h => ?_)
      · have hi' : i < xs.length := by omega
        simp (maxSteps := 2000000) (disch := first | omega | assumption | exact idP rfl | exact idP (bL rfl)) only [go_sem, reduceIte, Nat.reduceEqDiff, wpV_kd, wpV_tH, e0, e1, e8, hv.iaddr, hv.at hi']
        refine (hf _ (List.getElem_mem hi')).mono ?_
        rintro _ _ ⟨rfl, rfl⟩
        cases hp : pred xs[i] with
        | true =>
          refine sS0 ?_
          exact hR _ _ (sB) ⟨_, rfl, by simp only [Int.natCast_nonneg, true_iff]; exact List.any_eq_true.2 ⟨_, List.getElem_mem hi', hp⟩⟩
        | false =>
          refine sS1 @e8 ?_
          refine hK _ _ ⟨rfl, i + 1, by omega, sT0, sT0, sT0, by refine sS0 ?_; rfl, fun j hj1 hj2 => ?_⟩ (by refine sS2 @ctrV_int @e8 ?_; omega)
          by_cases hji : j = i
          · subst hji; exact hp
          · exact hj j hj1 (by omega)
      · refine sS0 ?_
        refine hR _ _ (sB) ⟨-1, rfl, ⟨fun h => by omega, fun h => ?_⟩⟩
        obtain ⟨x, hx, hpx⟩ := List.any_eq_true.1 h
        obtain ⟨j, hj1, rfl⟩ := List.getElem_of_mem hx
        rw [hj j hj1 (by omega)] at hpx; cases hpx
  refine VCall.pure fun R hR => v_slices_ContainsFunc_Sint_int rfl ?_
  refine sS0 ?_
  refine key.mono ?_
  rintro _ _ ⟨rfl, k, rfl, hk⟩
  refine sS0 ?_
  exact hR _ _ (sB) (eqB (by simp only [decide_eq_true_eq]; exact hk))
end Go.M2

namespace Go.M2
theorem SetOk.mono {n m : Int} {xs : List Int} (h : SetOk n xs) (hnm : n ≤ m) : SetOk m xs := fun i hi hik => ⟨by have := (h i hi hik).1; omega, (h i hi hik).2⟩
theorem SetOk.snoc {n x : Int} {xs : List Int} (h : SetOk n xs) (h0 : 0 ≤ n) (hx : n ≤ x) : SetOk (x + 1) (xs ++ [x]) := by
  intro i hi _
  by_cases e : i < xs.length
  · have h1 := h i e e
    have e1 : (xs ++ [x])[i] = xs[i] := List.getElem_append_left e
    rw [e1]
    refine ⟨by omega, fun h2 => ?_⟩
    have e2 : (xs ++ [x])[i - 1] = xs[i - 1] := List.getElem_append_left (by omega)
    rw [e2]; exact h1.2 h2
  · have e3 : i = xs.length := by simp at hi; omega
    subst e3
    have e1 : (xs ++ [x])[xs.length] = x := by simp
    rw [e1]
    refine ⟨by omega, fun h2 => ?_⟩
    have hl : xs.length - 1 < xs.length := by omega
    have e2 : (xs ++ [x])[xs.length - 1] = xs[xs.length - 1] := List.getElem_append_left hl
    rw [e2]
    have := (h _ hl hl).1
    omega
end Go.M2

namespace Go.M2
open Go.Proofs Go.Shelf Go.Sort
variable {w0 w : World} {ρ : Nat → BI} {H : Heap}
theorem HI.growA : ∀ (l : List Obj) {w : World}, HI w0 ρ H w → HI w0 ρ H (Sort.grow w l.toArray) ∧ Evol ρ H w ρ H (Sort.grow w l.toArray)
  | [], w, h => by
    have e : Sort.grow w ([] : List Obj).toArray = w := Sort.grow_empty w
    rw [e]; exact ⟨h, Evol.refl _ _ _⟩
  | o :: t, w, h => by
    have e : Sort.grow w (o :: t).toArray = Sort.grow (w.alloc o) t.toArray := by
      rw [Sort.alloc_eq_grow, Sort.grow_grow]
      congr 1
      simp
    rw [e]
    obtain ⟨h1, h2⟩ := HI.growA t (h.grow o)
    exact ⟨h1, (Evol.grow ρ H w o).trans h2⟩
theorem take_set_drop {α : Type} {ys zs : List α} (hl : ys.length = zs.length) {k : Nat} (hk : k < ys.length) : (ys.take k ++ zs.drop k).set k ys[k] = ys.take (k + 1) ++ zs.drop (k + 1) := by
  rw [List.set_append_right _ _ (by simp; omega), List.length_take, Nat.min_eq_left (by omega), Nat.sub_self, List.drop_eq_getElem_cons (by omega : k < zs.length), List.set_cons_zero, List.take_succ_eq_append_getElem hk, List.append_assoc]
  rfl
theorem HI.putInts {b : Nat} {zs : List Int} {rest : List AV} (h : HI w0 ρ H w) (hb : b < H.size) (hblk : H.blk b = .cells (zs.map (AV.int .i64) ++ rest) true) {ys : List Int} (hl : ys.length = zs.length) :
    ∀ k, k ≤ ys.length → HI w0 ρ (H.upd b (.cells ((ys.take k ++ zs.drop k).map (AV.int .i64) ++ rest) true)) (Sort.putRow (Value.int .i64) w (ρ b).blk (ρ b).off (ys.take k ++ zs.drop k).toArray) ∧
      Evol ρ H w ρ (H.upd b (.cells ((ys.take k ++ zs.drop k).map (AV.int .i64) ++ rest) true)) (Sort.putRow (Value.int .i64) w (ρ b).blk (ρ b).off (ys.take k ++ zs.drop k).toArray)
  | 0, _ => by
    simp only [List.take_zero, List.drop_zero, List.nil_append]
    have e : H.upd b (.cells (zs.map (AV.int .i64) ++ rest) true) = H := by
      cases H with
      | mk n f =>
        simp only [Heap.upd, Heap.mk.injEq, true_and]
        funext b'
        split
        · rename_i e; subst e; exact hblk.symm
        · rfl
    obtain ⟨o1, o2, cs, t, o3, o4⟩ := h.own b _ hb hblk
    have e2 : Sort.putRow (Value.int .i64) w (ρ b).blk (ρ b).off zs.toArray = w := by
      refine Sort.mapBlock_id w _ _ fun c e fr hc => ?_
      rw [o3] at hc
      cases hc
      apply Array.ext_getElem?
      intro k
      simp only [Sort.putCells, Array.getElem?_mapIdx]
      cases hk : cs[k]? with
      | none => rfl
      | some y =>
        simp only [Option.map_some]
        split
        · rename_i hr
          obtain ⟨r1, r2⟩ := hr
          have hz : k - (ρ b).off < zs.length := by simpa using (by omega : k - (ρ b).off < zs.toArray.size)
          obtain ⟨v, hv, hr⟩ := h.cell b _ true hb hblk (k - (ρ b).off) (AV.int .i64 (zs[k - (ρ b).off]'hz)) (by
            rw [List.getElem?_append_left (by simpa using hz)]; simp [hz])
          rw [show (ρ b).off + (k - (ρ b).off) = k by omega] at hv
          simp only [World.cell?, o3] at hv
          have hv : cs[k]? = some v := by simpa using hv
          rw [hk] at hv
          cases hv
          cases hr
          rw [getElem!_pos _ _ (by simpa using hz)]
          simp
        · rfl
    rw [e, e2]; exact ⟨h, Evol.refl _ _ _⟩
  | k + 1, hk => by
    obtain ⟨h1, h2⟩ := HI.putInts h hb hblk hl k (by omega)
    have hk' : k < ys.length := hk
    have hsz := (h1.own b _ hb (Heap.upd_blk_same _ _ _)).2.1
    have hst := take_set_drop hl hk'
    have hlen : (ys.take k ++ zs.drop k).length = ys.length := by simp; omega
    have h3 := h1.write (c := ((ys.take k ++ zs.drop k).map (AV.int .i64) ++ rest)) hb (Heap.upd_blk_same _ _ _) k (by simp at hsz; omega) ((ys.take (k + 1) ++ zs.drop (k + 1)).map (AV.int .i64) ++ rest) (by simp at hsz ⊢; omega) (.int .i64 ys[k])
      (fun j y hy hj => by
        rw [← hst, List.map_set, ← List.set_append_left _ _ (by simp; omega), List.getElem?_set_ne (by omega)] at hy
        exact hy)
      (fun y hy => by
        rw [← hst, List.map_set, ← List.set_append_left _ _ (by simp; omega), List.getElem?_set_self (by simp; omega)] at hy
        cases hy; exact .int _ _)
    have hd : (ys.take k ++ zs.drop k).toArray.setIfInBounds k ys[k] = (ys.take (k + 1) ++ zs.drop (k + 1)).toArray := by rw [← hst]; simp
    have hp := Sort.putRow_set (Value.int .i64) w (ρ b).blk (ρ b).off (ys.take k ++ zs.drop k).toArray k ys[k] (by simp; omega)
    rw [hd] at hp
    obtain ⟨_, _, h4, h5⟩ := h3
    rw [hp, Heap.upd_upd] at h4 h5
    exact ⟨h4, h2.trans h5⟩
def sortI (zs : List Int) : List Int := zs.mergeSort fun x y => decide (x ≤ y)
theorem sortI_len {zs : List Int} : (sortI zs).length = zs.length := by simp [sortI]
theorem a_Sort {P : Program} {rn : Ren} (Ly : Lays.n189 P rn) (hcb : callable P (rn.f 189) = true) {b n c : Nat} {ex : Bool} {zs : List Int} {rest : List AV}
    (hb : H.rwCells b = some (zs.map (AV.int .i64) ++ rest)) (hn : n = zs.length) (h62 : zs.length < 4611686018427387904) :
    ACall P (rn.f 189) [.sl (some (b, 0)) n c ex 1] H (fun r H' => r = .tup [] ∧ H' = H.upd b (.cells ((sortI zs).map (AV.int .i64) ++ rest) true)) := by
  subst hn
  obtain ⟨hbs, hblk⟩ := Heap.rwCells_blk hb
  refine ⟨hcb, fun w0 ρ w vs hi hvs => ?_⟩
  obtain ⟨v, t, rfl, hv, ht⟩ := hvs.uncons
  have := ht.unnil; subst this
  generalize hq : (AV.sl (some (b, 0)) zs.length c ex 1) = q at hv
  cases hv <;> cases hq
  rename_i c' h1 h2 h3 h4 h5
  obtain ⟨o1, o2, cs, t, o3, o4⟩ := hi.own b _ hbs hblk
  have hH : Sort.Holds (Value.int .i64) w (ρ b).blk ((ρ b).off + 0) zs.toArray := by
    intro j hj
    have hj : j < zs.length := by simpa using hj
    obtain ⟨v, hv, hr⟩ := hi.cell b _ true hbs hblk j (AV.int .i64 zs[j]) (by rw [List.getElem?_append_left (by simpa using hj)]; simp [hj])
    cases hr
    refine ⟨?_, by simp [World.frozen?, o3]⟩
    rw [Nat.add_zero, hv, getElem!_pos _ _ (by simpa using hj)]
    simp
  have hc := Any.slices_Sort_int Ly (ρ b).blk ((ρ b).off + 0) c' zs w hH (hi.bound b hbs) h62
  refine (show Calls P (rn.f 189) #[.slice (some ⟨(ρ b).blk, (ρ b).off + 0, none⟩) zs.length c'] w _ from hc).mono ?_
  rintro e w' ⟨rfl, N, os, rfl⟩
  have d1 : HI w0 ρ H (Sort.ahead w N) := hi.drawn _
  have d2 : Evol ρ H w ρ H (Sort.ahead w N) := Evol.drawn ρ H w _
  obtain ⟨p1, p2⟩ := d1.putInts hbs hblk (ys := sortI zs) sortI_len (sortI zs).length (Nat.le_refl _)
  have e0 : (sortI zs).take (sortI zs).length ++ zs.drop (sortI zs).length = sortI zs := by rw [List.take_length, sortI_len, List.drop_length, List.append_nil]
  rw [e0] at p1 p2
  obtain ⟨g1, g2⟩ := HI.growA os.toList p1
  refine ⟨.tup [], _, ρ, .tuple #[], rfl, .tup [] #[] rfl (fun i x v h => by simp at h), (d2.trans p2).trans g2, g1, rfl, rfl⟩
theorem a_SortNone {P : Program} {rn : Ren} (Ly : Lays.n189 P rn) (hcb : callable P (rn.f 189) = true) {k : Nat} :
    ACall P (rn.f 189) [.sl none 0 0 true k] H (fun r H' => r = .tup [] ∧ H' = H) := by
  refine ⟨hcb, fun w0 ρ w vs hi hvs => ?_⟩
  obtain ⟨v, t, rfl, hv, ht⟩ := hvs.uncons
  have := ht.unnil; subst this
  cases hv
  refine (show Calls P (rn.f 189) #[.slice none 0 0] w _ from Any.slices_Sort_int_none Ly none 0 w).mono ?_
  rintro e w' ⟨rfl, rfl⟩
  exact ⟨.tup [], H, ρ, .tuple #[], rfl, .tup [] #[] rfl (fun i x v h => by simp at h), Evol.refl _ _ _, hi, rfl, rfl⟩
theorem erl_vi (l : List Int) : erl (l.map vi) = l.map (AV.int .i64) := by
  rw [erl_map, List.map_map]
  exact List.map_congr_left fun a _ => by simp [vi, er]
theorem v_Sort {P : Program} {rn : Ren} (Ly : Lays.n189 P rn) (hcb : callable P (rn.f 189) = true) {M : MH} {b n c : Nat} {ex : Bool} {zs : List Int} {rest : List V}
    (hm : M b = some (zs.map vi ++ rest)) (hn : n = zs.length) (h62 : zs.length < 4611686018427387904) :
    VCall P (rn.f 189) [.sc (.sl (some (b, 0)) n c ex 1)] M (fun r M' => r = .tup [] ∧ M' = M.set b ((sortI zs).map vi ++ rest)) := by
  intro H F hs hok
  have hb := hs.rw hm
  rw [erl_append, erl_vi] at hb
  have e : [V.sc (.sl (some (b, 0)) n c ex 1)].map er = [.sl (some (b, 0)) n c ex 1] := by simp [er]
  rw [e]
  refine (a_Sort Ly hcb hb hn h62).mono ?_
  rintro r H' ⟨rfl, rfl⟩
  have hl : okL F ((sortI zs).map vi ++ rest) := (flatL_vi _).ok.append ((hs.ok hm).sub fun v hv => List.mem_append_right _ hv)
  refine ⟨.tup [], _, F, by simp [er, erl], by simp [okV, okL], Le.refl F, ?_, rfl, rfl⟩
  have := hs.upd hm hl
  rwa [erl_append, erl_vi] at this
theorem g_Sort {P : Program} {rn : Ren} (Ly : Lays.n189 P rn) (hcb : callable P (rn.f 189) = true) {M0 M : MH} {v : V} {zs : List Int} (hg : Gr 1 M0 M v (zs.map vi)) (h62 : zs.length < 4611686018427387904) :
    VCall P (rn.f 189) [v] M (fun r M' => r = .tup [] ∧ Gr 1 M0 M' v ((sortI zs).map vi) ∧ ∀ q, blkV v ≠ some q → M' q = M q) := by
  rcases hg.own with ⟨h1, k, rfl⟩ | ⟨b, n, ex, rfl, h2, h3⟩
  · have hz : zs = [] := by simpa using h1
    subst hz
    intro H F hs hok
    have e : [V.sc (.sl none 0 0 true k)].map er = [.sl none 0 0 true k] := by simp [er]
    rw [e]
    refine (a_SortNone Ly hcb).mono ?_
    rintro r H' ⟨rfl, rfl⟩
    exact ⟨.tup [], M, F, by simp [er, erl], by simp [okV, okL], Le.refl F, hs, rfl, by simpa [sortI] using hg, fun _ _ => rfl⟩
  · refine (v_Sort Ly hcb (rest := []) (by simpa using h2) (by simpa using h3.symm) h62).mono ?_
    rintro r M' ⟨rfl, rfl⟩
    refine ⟨rfl, ?_, fun q hq => set_ne fun e => hq (by subst e; rfl)⟩
    rw [List.append_nil]
    exact hg.set (by simp [sortI_len])
end Go.M2

namespace Go.M2
open Go.Proofs
variable {M : MH}
def tAt (l : List TermS) (i : Nat) : TermS := l.getD i ⟨0, 0, 0, 0⟩
theorem tAt_eq {l : List TermS} {i : Nat} (h : i < l.length) : tAt l i = l[i] := by simp [tAt, h]
def TOk (vars : Int) (l : List TermS) : Prop := ∀ i, i < l.length → 0 ≤ (tAt l i).op ∧ (tAt l i).op ≤ 9 ∧ ((tAt l i).op = 1 → 0 ≤ (tAt l i).n ∧ (tAt l i).n < vars) ∧ (2 ≤ (tAt l i).op → 0 ≤ (tAt l i).a ∧ (tAt l i).a < (i : Int) ∧ 0 ≤ (tAt l i).b ∧ (tAt l i).b < (i : Int))
theorem TOk.of {vars : Int} {l : List TermS} {ks : List Int} (h : kindsF vars l = some ks) : TOk vars l ∧ 1 ≤ l.length ∧ l.length ≤ 40 := by
  unfold kindsF at h
  split at h
  · rename_i hc
    obtain ⟨h1, h2⟩ := kindsGo_at h
    refine ⟨fun i hi => ?_, hc.2.2.1, hc.2.2.2⟩
    obtain ⟨h3, h4⟩ := h2 i hi (by omega)
    rw [tAt_eq hi]
    rw [← h3] at h4
    have hl : (ks.take i).length = i := by simp; omega
    unfold kind1 at h4
    rw [hl] at h4
    repeat' split at h4
    all_goals first | exact absurd rfl h4 | omega
  · cases h
def ndK (l : List TermS) : Nat → Nat → Bool
  | 0, i => decide (i + 1 = l.length)
  | j + 1, i => ndK l j i || ((ndK l j (l.length - 1 - j) && decide (2 ≤ (tAt l (l.length - 1 - j)).op)) && (decide (i = (tAt l (l.length - 1 - j)).a.toNat) || decide (i = (tAt l (l.length - 1 - j)).b.toNat)))
def ndA (l : List TermS) : Nat → Bool := ndK l l.length
theorem ndK_keep {vars : Int} {l : List TermS} (h : TOk vars l) {i j : Nat} : ∀ {k : Nat}, j + k ≤ l.length → l.length ≤ i + j + 1 → ndK l (j + k) i = ndK l j i
  | 0, _, _ => rfl
  | k + 1, h1, h2 => by
    rw [← Nat.add_assoc, ndK, ndK_keep h (by omega) h2]
    cases h3 : ndK l (j + k) (l.length - 1 - (j + k)) && decide (2 ≤ (tAt l (l.length - 1 - (j + k))).op) with
    | false => simp
    | true =>
      simp only [Bool.and_eq_true, decide_eq_true_eq] at h3
      obtain ⟨_, _, _, h4⟩ := h (l.length - 1 - (j + k)) (by omega)
      obtain ⟨a1, a2, a3, a4⟩ := h4 h3.2
      have e1 : decide (i = (tAt l (l.length - 1 - (j + k))).a.toNat) = false := by simp; omega
      have e2 : decide (i = (tAt l (l.length - 1 - (j + k))).b.toNat) = false := by simp; omega
      rw [e1, e2]; simp
theorem ndK_last {vars : Int} {l : List TermS} (h : TOk vars l) {j : Nat} (hj : j < l.length) : ndK l j (l.length - 1 - j) = ndA l (l.length - 1 - j) := by
  unfold ndA
  have := ndK_keep h (i := l.length - 1 - j) (j := j) (k := l.length - j) (by omega) (by omega)
  rw [← this]; congr 1; omega
def isV (l : List TermS) (v i : Nat) : Bool := (ndA l i && decide ((tAt l i).op = 1)) && decide ((tAt l i).n = (v : Int))
def usP (l : List TermS) (v : Nat) : Bool := (List.range l.length).any (isV l v)
def usK (l : List TermS) (j v : Nat) : Bool := (List.range j).any fun k => isV l v (l.length - 1 - k)
theorem usK_succ {l : List TermS} {j v : Nat} : usK l (j + 1) v = (usK l j v || isV l v (l.length - 1 - j)) := by
  unfold usK; rw [List.range_succ, List.any_append]; simp
theorem usK_all {l : List TermS} {v : Nat} : usK l l.length v = usP l v := by
  unfold usK usP
  rw [Bool.eq_iff_iff, List.any_eq_true, List.any_eq_true]
  constructor
  · rintro ⟨k, hk, h⟩
    rw [List.mem_range] at hk
    exact ⟨l.length - 1 - k, List.mem_range.2 (by omega), h⟩
  · rintro ⟨k, hk, h⟩
    rw [List.mem_range] at hk
    exact ⟨l.length - 1 - k, List.mem_range.2 (by omega), by rw [show l.length - 1 - (l.length - 1 - k) = k by omega]; exact h⟩
def usF (l : List TermS) (v i : Nat) : Bool := (List.range i).any (isV l v)
theorem usF_succ {l : List TermS} {i v : Nat} : usF l v (i + 1) = (usF l v i || isV l v i) := by
  unfold usF; rw [List.range_succ, List.any_append]; simp
def toP (r : RuleS) (v : Nat) : Bool := usP r.when_ v || r.terms.any fun t => usP t v
def toF (n : Nat) (r : RuleS) : List Int := selL n (toP r)
def catU (n : Nat) (w : List TermS) (ts : List (List TermS)) : List Int := selL n (usP w) ++ (ts.map fun t => selL n (usP t)).flatten
theorem catU_snoc {n : Nat} {w : List TermS} {ts : List (List TermS)} {t : List TermS} : catU n w (ts ++ [t]) = catU n w ts ++ selL n (usP t) := by simp [catU]
theorem catU_len {n : Nat} {w : List TermS} {ts : List (List TermS)} : (catU n w ts).length ≤ n * (ts.length + 1) := by
  unfold catU
  rw [List.length_append, List.length_flatten]
  have h1 : (selL n (usP w)).length ≤ n := selL_len
  have : (((ts.map fun t => selL n (usP t)).map List.length)).sum ≤ n * ts.length := by
    induction ts with
    | nil => simp
    | cons t ts ih =>
      have h2 : (selL n (usP t)).length ≤ n := selL_len
      simp only [List.map_cons, List.sum_cons, List.length_cons, Nat.mul_add, Nat.mul_one]
      omega
  rw [Nat.mul_add, Nat.mul_one]; omega
theorem mem_catU {n : Nat} {r : RuleS} {x : Int} : x ∈ catU n r.when_ r.terms ↔ x ∈ toF n r := by
  unfold catU toF
  rw [List.mem_append, mem_selL, List.mem_flatten, mem_selL]
  constructor
  · rintro (⟨i, h1, h2, h3⟩ | ⟨l, hl, hx⟩)
    · exact ⟨i, h1, by simp [toP, h2], h3⟩
    · obtain ⟨t, ht, rfl⟩ := List.mem_map.1 hl
      obtain ⟨i, h1, h2, h3⟩ := mem_selL.1 hx
      refine ⟨i, h1, ?_, h3⟩
      simp only [toP, Bool.or_eq_true, List.any_eq_true]
      exact .inr ⟨t, ht, h2⟩
  · rintro ⟨i, h1, h2, h3⟩
    simp only [toP, Bool.or_eq_true, List.any_eq_true] at h2
    rcases h2 with h2 | ⟨t, ht, h2⟩
    · exact .inl ⟨i, h1, h2, h3⟩
    · exact .inr ⟨_, List.mem_map_of_mem ht, mem_selL.2 ⟨i, h1, h2, h3⟩⟩
def compF : List Int → List Int
  | [] => []
  | x :: t => match t with
    | [] => [x]
    | y :: _ => if x = y then compF t else x :: compF t
theorem compF_snoc : ∀ {l : List Int} {y x : Int}, compF (l ++ [y] ++ [x]) = if y = x then compF (l ++ [y]) else compF (l ++ [y]) ++ [x]
  | [], y, x => by
    simp only [List.nil_append, List.singleton_append, compF]
    split
    · rename_i e; rw [e]
    · rfl
  | [a], y, x => by
    simp only [List.singleton_append, List.cons_append, List.nil_append, compF]
    repeat' split
    all_goals (try subst_vars; rfl)
  | a :: b :: t, y, x => by
    have ih := compF_snoc (l := b :: t) (y := y) (x := x)
    simp only [List.cons_append] at ih ⊢
    rw [compF, compF, ih]
    split <;> split <;> simp
theorem compF_take {l : List Int} {m : Nat} (hm : 0 < m) (h : m < l.length) : compF (l.take (m + 1)) = if l[m] = l[m - 1] then compF (l.take m) else compF (l.take m) ++ [l[m]] := by
  obtain ⟨k, rfl⟩ : ∃ k, m = k + 1 := ⟨m - 1, by omega⟩
  have e1 : l.take (k + 1) = l.take k ++ [l[k]] := take_snoc (by omega)
  have e2 : l.take (k + 1 + 1) = l.take (k + 1) ++ [l[k + 1]] := take_snoc h
  rw [e2, e1, compF_snoc]
  simp only [Nat.add_sub_cancel]
  by_cases e : l[k] = l[k + 1]
  · rw [if_pos e, if_pos e.symm]
  · rw [if_neg e, if_neg (fun h => e h.symm)]
theorem compF_id {l : List Int} : ∀ {m : Nat}, m ≤ l.length → (∀ i (h : i < l.length), 0 < i → i < m → l[i] ≠ l[i - 1]) → compF (l.take m) = l.take m
  | 0, _, _ => by simp [compF]
  | 1, h, _ => by rw [take_snoc (by omega)]; simp [compF]
  | m + 2, h, hk => by
    rw [compF_take (by omega) (by omega), if_neg (by have := hk (m + 1) (by omega) (by omega) (by omega); simpa using this), compF_id (by omega) fun i h1 h2 h3 => hk i h1 h2 (by omega), take_snoc (i := m + 1) (by omega)]
theorem mem_compF {l : List Int} {x : Int} : x ∈ compF l ↔ x ∈ l := by
  induction l with
  | nil => simp [compF]
  | cons y t ih =>
    cases t with
    | nil => simp [compF]
    | cons z t =>
      rw [compF]
      split
      · rename_i e; subst e; rw [ih]; simp
      · rw [List.mem_cons, ih]
        exact List.mem_cons.symm
theorem compF_asc {l : List Int} (h : l.Pairwise (· ≤ ·)) : (compF l).Pairwise (· < ·) := by
  induction l with
  | nil => simp [compF]
  | cons y t ih =>
    have h2 := List.pairwise_cons.1 h
    cases t with
    | nil => simp [compF]
    | cons z t =>
      rw [compF]
      split
      · exact ih h2.2
      · rename_i hne
        refine List.pairwise_cons.2 ⟨fun b hb => ?_, ih h2.2⟩
        rw [mem_compF] at hb
        have h3 := h2.1 z (List.mem_cons_self ..)
        rcases List.mem_cons.1 hb with rfl | hb
        · omega
        · have := (List.pairwise_cons.1 h2.2).1 b hb; omega
theorem asc_eq : ∀ {a b : List Int}, a.Pairwise (· < ·) → b.Pairwise (· < ·) → (∀ x, x ∈ a ↔ x ∈ b) → a = b
  | [], [], _, _, _ => rfl
  | [], y :: t, _, _, h => absurd ((h y).2 (List.mem_cons_self ..)) (by simp)
  | x :: s, [], _, _, h => absurd ((h x).1 (List.mem_cons_self ..)) (by simp)
  | x :: s, y :: t, ha, hb, h => by
    have ha2 := List.pairwise_cons.1 ha
    have hb2 := List.pairwise_cons.1 hb
    have e : x = y := by
      rcases List.mem_cons.1 ((h x).1 (List.mem_cons_self ..)) with e | h1
      · exact e
      · rcases List.mem_cons.1 ((h y).2 (List.mem_cons_self ..)) with e | h2
        · exact e.symm
        · have := ha2.1 y h2; have := hb2.1 x h1; omega
    subst e
    rw [asc_eq ha2.2 hb2.2 fun z => ?_]
    constructor
    · intro hz
      rcases List.mem_cons.1 ((h z).1 (List.mem_cons_of_mem _ hz)) with e | h1
      · subst e; have := ha2.1 z hz; omega
      · exact h1
    · intro hz
      rcases List.mem_cons.1 ((h z).2 (List.mem_cons_of_mem _ hz)) with e | h1
      · subst e; have := hb2.1 z hz; omega
      · exact h1
theorem selL_asc {n : Nat} {p : Nat → Bool} : (selL n p).Pairwise (· < ·) := by
  unfold selL
  rw [List.pairwise_map]
  exact (List.Pairwise.filter _ List.pairwise_lt_range).imp fun h => by omega
theorem sortI_sorted {l : List Int} : (sortI l).Pairwise (· ≤ ·) := by
  have := List.pairwise_mergeSort (le := fun x y : Int => decide (x ≤ y)) (fun a b c h1 h2 => by simp at h1 h2 ⊢; omega) (fun a b => by simp; omega) l
  exact this.imp fun h => by simpa using h
theorem mem_sortI {l : List Int} {x : Int} : x ∈ sortI l ↔ x ∈ l := (List.mergeSort_perm l _).mem_iff
theorem comp_catU {n : Nat} {r : RuleS} : compF (sortI (catU n r.when_ r.terms)) = toF n r :=
  asc_eq (compF_asc sortI_sorted) selL_asc fun x => by rw [mem_compF, mem_sortI, mem_catU]
end Go.M2

namespace Go.M2
open Go.Proofs
variable {M : MH}
theorem setAtG_lo {α : Type} : ∀ {c l : List α} {o i : Nat}, i < o → (setAtG l o c)[i]? = l[i]?
  | [], l, o, i, _ => rfl
  | x :: t, l, o, i, h => by rw [setAtG, setAtG_lo (by omega), List.getElem?_set_ne (by omega)]
theorem t_Compact {b n : Nat} {ex : Bool} {zs : List Int} (hm : M b = some (zs.map vi)) (hn : zs.length = n) (hl : n ≤ 1048576) :
    VCall Try.prog n_slices_Compact_Sint_int [.sc (.sl (some (b, 0)) n n ex 1)] M (fun r M' => ∃ rest, r = .sc (.sl (some (b, 0)) (compF zs).length n ex 1) ∧ M' = M.set b ((compF zs).map vi ++ rest)) := by
  refine VCall.plain fun R hR => v_slices_Compact_Sint_int rfl ?_
  have idm := set_id hm
  have same : compF zs = zs → R (.sc (.sl (some (b, 0)) n n ex 1)) M := fun h => hR _ _ ⟨[], by rw [h, hn], by rw [h, List.append_nil, idm]⟩
  refine sS0 ?_
  refine cond_dec (fun h => ?_) (fun h => ?_)
  · refine sS0 ?_
    refine same ?_
    have := compF_id (l := zs) (m := zs.length) (Nat.le_refl _) fun i h1 h2 h3 => by omega
    rwa [List.take_length] at this
  · refine sS0 ?_
    refine loop_k (fun e M' => M = M' ∧ ∃ k : Nat, 1 ≤ k ∧ k ≤ n ∧ e 0 = .sc (.sl (some (b, 0)) n n ex 1) ∧ e 3 = .sc (.int .i64 k) ∧ ∀ i (h : i < zs.length), 0 < i → i < k → zs[i] ≠ zs[i - 1]) (fun e _ => ctrV n (e 3)) ?_ ?_
    · exact ⟨rfl, 1, by omega, by omega, sT0, by refine sS0 ?_; rfl, fun i h1 h2 h3 => by omega⟩
    · rintro e _ ⟨rfl, k, hk1, hk, e0, e3, hne⟩ K hK
      refine sS2 @e0 @e3 ?_
      refine cond_dec (fun h => ?_) (fun h => ?_)
      · have h1 : k < zs.length := by omega
        have h2 : k - 1 < zs.length := by omega
        have et : (k : Int) - 1 = ((k - 1 : Nat) : Int) := by omega
        have g1 := nth_vi h1
        have g2 := nth_vi h2
        refine sS6 @e0 @e3 @hm @et @g1 @g2 ?_
        refine cond_dec (fun heq => ?_) (fun heq => ?_)
        · have hs1 : slcV 1 (some (.int .i64 (k : Int))) none none (.sc (.sl (some (b, 0)) n n ex 1)) = some (.sc (.sl (some (b, k)) (n - k) (n - k) ex 1)) := by
            rw [slc_lo (by omega) (by omega) (by omega) (by omega)]; simp
          have base : compF (zs.take (k + 1)) = zs.take k := by
            rw [compF_take hk1 h1, if_pos heq]
            exact compF_id (by omega) fun i q1 q2 q3 => hne i q1 q2 (by omega)
          refine sS3 @e0 @e3 @hs1 ?_
          refine loop_k (fun e M' => ∃ (j kc : Nat) (L : List V), 1 ≤ j ∧ k + j ≤ n ∧ e 0 = .sc (.sl (some (b, 0)) n n ex 1) ∧ e 3 = .sc (.int .i64 kc) ∧ e 4 = .sc (.sl (some (b, k)) (n - k) (n - k) ex 1) ∧ e 5 = .sc (.int .i64 j) ∧ M' = M.set b L ∧ L.length = n ∧
            kc = (compF (zs.take (k + j))).length ∧ kc < k + j ∧ L.take kc = (compF (zs.take (k + j))).map vi ∧ ∀ i, k + j ≤ i + 1 → L[i]? = (zs.map vi)[i]?) (fun e _ => ctrV (n - k) (e 5)) ?_ ?_
          · refine ⟨1, k, zs.map vi, by omega, by omega, sT0, sT0, sT0, by refine sS0 ?_; rfl, idm.symm, by simp; omega, by rw [base]; simp; omega, by omega, by rw [base, List.map_take], fun i hi => rfl⟩
          · rintro e _ ⟨j, kc, L, hj1, hj, e0, e3, e4, e5, rfl, hL, hkc, hkj, hT, hD⟩ K2 hK2
            have hmb : (M.set b L) b = some L := set_same
            refine sS4 @e0 @e3 @e4 @e5 ?_
            have hzl : (zs.map vi).length = n := by simp; omega
            refine cond_dec (fun h => ?_) (fun h => ?_)
            · have q1 : k + j < zs.length := by omega
              have q2 : k + j - 1 < zs.length := by omega
              have r1 : L[k + j]? = some (.sc (.int .i64 zs[k + j])) := by rw [hD _ (by omega)]; exact nth_vi q1
              have r2 : L[k + (j - 1)]? = some (.sc (.int .i64 zs[k + j - 1])) := by rw [show k + (j - 1) = k + j - 1 by omega, hD _ (by omega)]; exact nth_vi q2
              have et2 : (j : Int) - 1 = ((j - 1 : Nat) : Int) := by omega
              have ct := compF_take (l := zs) (m := k + j) (by omega) q1
              refine sS8 @e0 @e3 @e4 @e5 @hmb @et2 @r1 @r2 ?_
              refine cond_dec (fun hq => ?_) (fun hq => ?_)
              · rw [if_neg hq] at ct
                refine sS6 @e0 @e3 @e4 @e5 @hmb @r1 ?_
                refine hK2 _ _ ⟨j + 1, kc + 1, L.set kc (.sc (.int .i64 zs[k + j])), by omega, by omega, sT0, by refine sS0 ?_; rfl, sT0, by refine sS0 ?_; rfl, rfl, by simp [hL], ?_, by omega, ?_, fun i hi => ?_⟩ (by refine sS2 @ctrV_int @e5 ?_; omega)
                · rw [← Nat.add_assoc, ct, List.length_append, ← hkc]; rfl
                · rw [← Nat.add_assoc, ct, take_snoc (by rw [List.length_set]; omega), List.take_set_of_le (Nat.le_refl _), hT, List.getElem_set_self, app_vi]
                · rw [List.getElem?_set_ne (by omega)]; exact hD i (by omega)
              · have hq := Decidable.not_not.1 hq
                rw [if_pos hq] at ct
                refine sS4 @e0 @e3 @e4 @e5 ?_
                refine hK2 _ _ ⟨j + 1, kc, L, by omega, by omega, sT0, sT0, sT0, by refine sS0 ?_; rfl, rfl, hL, ?_, by omega, ?_, fun i hi => hD i (by omega)⟩ (by refine sS2 @ctrV_int @e5 ?_; omega)
                · rw [← Nat.add_assoc, ct]; exact hkc
                · rw [← Nat.add_assoc, ct]; exact hT
            · obtain rfl : j = n - k := by omega
              have ej : k + (n - k) = zs.length := by omega
              rw [ej, List.take_length] at hT hkc
              have hs2 : slcV 1 (some (.int .i64 (kc : Int))) none none (.sc (.sl (some (b, 0)) n n ex 1)) = some (.sc (.sl (some (b, kc)) (n - kc) (n - kc) ex 1)) := by
                rw [slc_lo (by omega) (by omega) (by omega) (by omega)]; simp
              have hs3 : slcV 1 none (some (.int .i64 (kc : Int))) none (.sc (.sl (some (b, 0)) n n ex 1)) = some (.sc (.sl (some (b, 0)) kc n ex 1)) := by
                rw [slc_hi (by omega) (by omega) (by omega)]; simp
              refine sS3 @e0 @e3 @hs2 ?_
              simp only [clearV, hmb]
              rw [if_neg (by omega)]
              refine ⟨rfl, by simp; omega, ?_⟩
              refine sS1 @hs3 ?_
              refine hR _ _ ⟨(setAtG L kc ((zeros [AV.int .i64 0] (n - kc)).map .sc)).drop kc, by rw [hkc], ?_⟩
              congr 1
              rw [← hT]
              apply List.ext_getElem?
              intro i
              by_cases hi : i < kc
              · rw [setAtG_lo hi, List.getElem?_append_left (by simp; omega), List.getElem?_take, if_pos hi]
              · rw [List.getElem?_append_right (by simp; omega), List.getElem?_drop, List.length_take, Nat.min_eq_left (by omega), show kc + (i - kc) = i by omega]
        · refine sS2 @e0 @e3 ?_
          refine hK _ _ ⟨rfl, k + 1, by omega, by omega, sT0, by refine sS0 ?_; rfl, fun i q1 q2 q3 => ?_⟩ (by refine sS2 @ctrV_int @e3 ?_; omega)
          by_cases e : i = k
          · subst e; exact heq
          · exact hne i q1 q2 (by omega)
      · obtain rfl : k = n := by omega
        refine sS1 @e0 ?_
        refine same ?_
        have := compF_id (l := zs) (m := zs.length) (Nat.le_refl _) fun i h1 h2 h3 => hne i h1 h2 (by omega)
        rwa [List.take_length] at this
def dnV (v : V) : Nat := match er v with
  | .int _ i => (i + 1).toNat
  | _ => 0
@[go_sem] theorem dnV_int {k : IntKind} {i : Int} : dnV (.sc (.int k i)) = (i + 1).toNat := by simp [dnV, er]
end Go.M2

namespace Go.M2
open Go.Proofs Go.Shelf
set_option maxRecDepth 100000
def sort_ren : Ren := ⟨fun | 125 => 142 | 128 => 162 | 129 => 163 | 189 => 113 | 215 => 175 | 216 => 159 | 257 => 141 | 294 => 153 | 295 => 154 | 296 => 155 | 297 => 156 | 298 => 157 | 299 => 158 | 300 => 160 | 301 => 161 | 328 => 170 | 329 => 171 | 330 => 172 | 331 => 173 | 332 => 174 | 343 => 178 | n => n, fun | 0 => 0 | 3 => 3 | 4 => 4 | 5 => 5 | 9 => 9 | 28 => 26 | 46 => 136 | 51 => 154 | 53 => 156 | 131 => 151 | 182 => 145 | 183 => 146 | 218 => 160 | 222 => 164 | 228 => 166 | 229 => 167 | n => n, fun n => n⟩
theorem lays189 : Lays.n189 Try.prog sort_ren where
  mixed := by kernel_rfl
  f125 := Try.func142.trans (congrArg some (by kernel_rfl))
  f128 := Try.func162.trans (congrArg some (by kernel_rfl))
  f129 := Try.func163.trans (congrArg some (by kernel_rfl))
  f189 := Try.func113.trans (congrArg some (by kernel_rfl))
  f215 := Try.func175.trans (congrArg some (by kernel_rfl))
  f216 := Try.func159.trans (congrArg some (by kernel_rfl))
  f257 := Try.func141.trans (congrArg some (by kernel_rfl))
  f294 := Try.func153.trans (congrArg some (by kernel_rfl))
  f295 := Try.func154.trans (congrArg some (by kernel_rfl))
  f296 := Try.func155.trans (congrArg some (by kernel_rfl))
  f297 := Try.func156.trans (congrArg some (by kernel_rfl))
  f298 := Try.func157.trans (congrArg some (by kernel_rfl))
  f299 := Try.func158.trans (congrArg some (by kernel_rfl))
  f300 := Try.func160.trans (congrArg some (by kernel_rfl))
  f301 := Try.func161.trans (congrArg some (by kernel_rfl))
  f328 := Try.func170.trans (congrArg some (by kernel_rfl))
  f329 := Try.func171.trans (congrArg some (by kernel_rfl))
  f330 := Try.func172.trans (congrArg some (by kernel_rfl))
  f331 := Try.func173.trans (congrArg some (by kernel_rfl))
  f332 := Try.func174.trans (congrArg some (by kernel_rfl))
  f343 := Try.func178.trans (congrArg some (by kernel_rfl))
  t0 := Try.underlying0
  a0 := Try.isAgg0
  z0 := Try.sizeOf0
  v0 := Try.zeroValue0
  t3 := Try.underlying3
  a3 := Try.isAgg3
  z3 := Try.sizeOf3
  v3 := Try.zeroValue3
  t4 := Try.underlying4
  a4 := Try.isAgg4
  z4 := Try.sizeOf4
  v4 := Try.zeroValue4
  t5 := Try.underlying5
  a5 := Try.isAgg5
  z5 := Try.sizeOf5
  v5 := Try.zeroValue5
  t9 := Try.underlying9
  a9 := Try.isAgg9
  z9 := Try.sizeOf9
  v9 := Try.zeroValue9
  t28 := Try.underlying26
  a28 := Try.isAgg26
  z28 := Try.sizeOf26
  v28 := Try.zeroValue26
  t46 := Try.underlying136
  a46 := Try.isAgg136
  z46 := Try.sizeOf136
  v46 := Try.zeroValue136
  t51 := Try.underlying154
  a51 := Try.isAgg154
  z51 := Try.sizeOf154
  v51 := Try.zeroValue154
  t53 := Try.underlying156
  a53 := Try.isAgg156
  z53 := Try.sizeOf156
  v53 := Try.zeroValue156
  t131 := Try.underlying151
  a131 := Try.isAgg151
  z131 := Try.sizeOf151
  v131 := Try.zeroValue151
  t182 := Try.underlying145
  a182 := Try.isAgg145
  z182 := Try.sizeOf145
  v182 := Try.zeroValue145
  t183 := Try.underlying146
  a183 := Try.isAgg146
  z183 := Try.sizeOf146
  v183 := Try.zeroValue146
  t218 := Try.underlying160
  a218 := Try.isAgg160
  z218 := Try.sizeOf160
  v218 := Try.zeroValue160
  t222 := Try.underlying164
  a222 := Try.isAgg164
  z222 := Try.sizeOf164
  v222 := Try.zeroValue164
  t228 := Try.underlying166
  a228 := Try.isAgg166
  z228 := Try.sizeOf166
  v228 := Try.zeroValue166
  t229 := Try.underlying167
  a229 := Try.isAgg167
  z229 := Try.sizeOf167
  v229 := Try.zeroValue167
theorem t_SortInts {M0 M : MH} {v : V} {zs : List Int} (hg : Gr 1 M0 M v (zs.map vi)) (hl : zs.length < 4611686018427387904) :
    VCall Try.prog n_slices_Sort_Sint_int [v] M (fun r M' => r = .tup [] ∧ Gr 1 M0 M' v ((sortI zs).map vi) ∧ ∀ q, blkV v ≠ some q → M' q = M q) :=
  g_Sort lays189 (by kernel_rfl) hg hl
end Go.M2

namespace Go.M2
open Go.Proofs
variable {M : MH}
theorem mkL_at {n : Nat} {p : Nat → Bool} {i : Nat} (h : i < n) : ((mkL n p).map vb)[i]? = some (.sc (.bool (p i))) := by
  have h2 : i < (mkL n p).length := by rw [mkL_len]; exact h
  rw [nth_vb h2, mkL_get]
theorem mkL_lenv {n : Nat} {p : Nat → Bool} : ((mkL n p).map vb).length = n := by rw [len_vb', mkL_len]
theorem mkL_setv {n k : Nat} {p q : Nat → Bool} (h : ∀ i, i < n → q i = (p i || decide (i = k))) : ((mkL n p).map vb).set k (.sc (.bool true)) = (mkL n q).map vb := by rw [set_vb', mkL_set h]
theorem mkE {n : Nat} {p q : Nat → Bool} (h : ∀ i, i < n → p i = q i) : some ((mkL n p).map vb) = some ((mkL n q).map vb) := by rw [mkL_ext h]
theorem ndK_succ {l : List TermS} {j i : Nat} : ndK l (j + 1) i = (ndK l j i || ((ndK l j (l.length - 1 - j) && decide (2 ≤ (tAt l (l.length - 1 - j)).op)) && (decide (i = (tAt l (l.length - 1 - j)).a.toNat) || decide (i = (tAt l (l.length - 1 - j)).b.toNat)))) := rfl
theorem t_usedBy {v : V} {ts : List TermS} {nv : Nat} {ks : List Int} (hv : LT v ts) (hk : kindsF nv ts = some ks) (h5 : nv ≤ 5) :
    VCall Try.prog n_impl_usedBy [v, .sc (.int .i64 nv)] M (fun r M' => Gr 1 M M' r ((selL nv (usP ts)).map vi)) := by
  obtain ⟨hok, h1, h40⟩ := TOk.of hk
  refine VCall.plain fun R hR => v_impl_usedBy rfl ?_
  refine sS1 @hv.len ?_
  refine mks3 (by omega) (by simp [mostCells]; omega) (by simp [mostCells]; omega) ?_
  intro b5 hb5
  refine sS0 ?_
  refine mks3 (by omega) (by simp [mostCells]; omega) (by simp [mostCells]; omega) ?_
  intro b6 hb6
  simp (maxSteps := 2000000) (disch := first | omega | assumption | exact idP rfl | exact idP (bL rfl)) only [go_sem, reduceIte, Nat.reduceEqDiff, wpV_kd, wpV_tH, hv.len, zeros_vb', mkL_none]
  obtain ⟨n65, hM6⟩ := fresh_set hb6
  have hb6' := hM6
  have s1 : Sub M ((M.set b5 ((mkL ts.length fun _ => false).map vb)).set b6 ((mkL nv fun _ => false).map vb)) := ((Sub.refl M).set hb5).set hM6
  have q5 : ((M.set b5 ((mkL ts.length fun _ => false).map vb)).set b6 ((mkL nv fun _ => false).map vb)) b5 = some ((mkL ts.length fun _ => false).map vb) := by rw [set_ne (Ne.symm n65)]; exact set_same
  have q6 : ((M.set b5 ((mkL ts.length fun _ => false).map vb)).set b6 ((mkL nv fun _ => false).map vb)) b6 = some ((mkL nv fun _ => false).map vb) := set_same
  generalize (M.set b5 ((mkL ts.length fun _ => false).map vb)).set b6 ((mkL nv fun _ => false).map vb) = M1 at *
  have e1 : ((ts.length : Int) - 1).toNat = ts.length - 1 := by omega
  have hst : ((mkL ts.length fun _ => false).map vb).set (ts.length - 1) (.sc (.bool true)) = (mkL ts.length (ndK ts 0)).map vb := mkL_setv fun i hi => by
    simp only [ndK, Bool.false_or, decide_eq_decide]; omega
  have hl5 : ts.length - 1 + 1 ≤ ((mkL ts.length fun _ => false).map vb).length := by rw [mkL_lenv]; omega
  refine sS4 @q5 @e1 @hst @hv.len ?_
  refine loop_k (fun e M' => ∃ j : Nat, j ≤ ts.length ∧ e 0 = v ∧ e 5 = .sc (.sl (some (b5, 0)) ts.length ts.length true 1) ∧ e 6 = .sc (.sl (some (b6, 0)) nv nv true 1) ∧ e 7 = .sc (.int .i64 ((ts.length : Int) - 1 - j)) ∧ Sub M M' ∧
    M' b5 = some ((mkL ts.length (ndK ts j)).map vb) ∧ M' b6 = some ((mkL nv (usK ts j)).map vb)) (fun e _ => dnV (e 7)) ?_ ?_
  · refine ⟨0, by omega, sT0, sT0, sT0, by refine sS0 ?_; exact eqI (by omega), s1.set hb5, set_same, ?_⟩
    rw [set_ne n65, q6]
    congr 1
  · rintro e M2 ⟨j, hj, e0, e5, e6, e7, hsub, m5, m6⟩ K hK
    refine sS4 @e0 @e5 @e6 @e7 ?_
    refine cond_dec (fun h => ?_) (fun h => ?_)
    · have hi' : ts.length - 1 - j < ts.length := by omega
      have hnl := ndK_last hok (j := j) (by omega)
      have hns := fun x => ndK_succ (l := ts) (j := j) (i := x)
      have hus : ∀ w, usK ts (j + 1) w = _ := fun w => usK_succ
      obtain ⟨o1, o2, o3, o4⟩ := hok _ hi'
      have hat : atN 4 v (ts.length - 1 - j) = encT ts[ts.length - 1 - j] := hv.elt hi'
      rw [← tAt_eq hi'] at hat
      have et : (ts.length : Int) - 1 - j = ((ts.length - 1 - j : Nat) : Int) := by omega
      have g5 : ((mkL ts.length (ndK ts j)).map vb)[ts.length - 1 - j]? = some (.sc (.bool (ndA ts (ts.length - 1 - j)))) := by rw [mkL_at hi', hnl]
      unfold isV at hus
      generalize hI : ts.length - 1 - j = i at *
      generalize tAt ts i = t at *
      simp (maxSteps := 2000000) (disch := first | omega | assumption | exact idP rfl | exact idP (bL rfl)) only [go_sem, reduceIte, Nat.reduceEqDiff, wpV_kd, wpV_tH, e0, e5, e6, e7, et, hv.iaddr, hat, encT]
      intro b8 hb8
      have n58 : b5 ≠ b8 := fun e => by subst e; rw [m5] at hb8; cases hb8
      have n68 : b6 ≠ b8 := fun e => by subst e; rw [m6] at hb8; cases hb8
      have p5 := set_ne (l := [V.sc (AV.int IntKind.i64 t.op), V.sc (AV.int IntKind.i64 t.n), V.sc (AV.int IntKind.i64 t.a), V.sc (AV.int IntKind.i64 t.b)]) (M := M2) n58
      have p6 := set_ne (l := [V.sc (AV.int IntKind.i64 t.op), V.sc (AV.int IntKind.i64 t.n), V.sc (AV.int IntKind.i64 t.a), V.sc (AV.int IntKind.i64 t.b)]) (M := M2) n68
      have p8 := set_same (l := [V.sc (AV.int IntKind.i64 t.op), V.sc (AV.int IntKind.i64 t.n), V.sc (AV.int IntKind.i64 t.a), V.sc (AV.int IntKind.i64 t.b)]) (M := M2) (b := b8)
      have hs8 : Sub M (M2.set b8 [V.sc (AV.int IntKind.i64 t.op), V.sc (AV.int IntKind.i64 t.n), V.sc (AV.int IntKind.i64 t.a), V.sc (AV.int IntKind.i64 t.b)]) := hsub.set' hb8
      rw [m5] at p5
      rw [m6] at p6
      generalize M2.set b8 [V.sc (AV.int IntKind.i64 t.op), V.sc (AV.int IntKind.i64 t.n), V.sc (AV.int IntKind.i64 t.a), V.sc (AV.int IntKind.i64 t.b)] = M3 at *
      have e9 : (i : Int) - 1 = (ts.length : Int) - 1 - ((j + 1 : Nat) : Int) := by omega
      -- nothing is marked
      have same : (ndA ts i && decide (2 ≤ t.op)) = false → (ndA ts i && decide (t.op = 1)) = false → M3 b5 = some ((mkL ts.length (ndK ts (j + 1))).map vb) ∧ M3 b6 = some ((mkL nv (usK ts (j + 1))).map vb) := fun z1 z2 => by
        rw [p5, p6]
        exact ⟨mkE fun x _ => by rw [hns x, hnl, z1]; simp, mkE fun x _ => by rw [hus x, z2]; simp⟩
      cases hA : ndA ts i with
      | false =>
        rw [hA] at g5 same
        obtain ⟨k5, k6⟩ := same rfl rfl
        refine sS3 @p5 @g5 @et ?_
        exact hK _ _ ⟨j + 1, by omega, sT0, sT0, sT0, by refine sS0 ?_; exact eqI e9, hs8, k5, k6⟩ (by simp (maxSteps := 2000000) (disch := first | omega | assumption | exact idP rfl | exact idP (bL rfl)) only [go_sem, reduceIte, Nat.reduceEqDiff, wpV_kd, wpV_tH, dnV_int, e7]; omega)
      | true =>
        rw [hA] at g5 same hus hnl
        rw [hnl] at hns
        refine sS4 @p5 @g5 @p8 @et ?_
        refine cond_dec (fun z0 => ?_) (fun z0 => ?_)
        · obtain ⟨k5, k6⟩ := same (by simp; omega) (by simp; omega)
          refine sS0 ?_
          exact hK _ _ ⟨j + 1, by omega, sT0, sT0, sT0, by refine sS0 ?_; exact eqI e9, hs8, k5, k6⟩ (by simp (maxSteps := 2000000) (disch := first | omega | assumption | exact idP rfl | exact idP (bL rfl)) only [go_sem, reduceIte, Nat.reduceEqDiff, wpV_kd, wpV_tH, dnV_int, e7]; omega)
        · refine sS1 @p8 ?_
          refine cond_dec (fun z1 => ?_) (fun z1 => ?_)
          · obtain ⟨v1, v2⟩ := o3 z1
            have k5 : M3 b5 = some ((mkL ts.length (ndK ts (j + 1))).map vb) := by
              rw [p5]
              have z2 : decide (2 ≤ t.op) = false := by simp; omega
              exact mkE fun x _ => by rw [hns x, z2]; simp
            have ku : ((mkL nv (usK ts j)).map vb).set t.n.toNat (.sc (.bool true)) = (mkL nv (usK ts (j + 1))).map vb := mkL_setv fun x _ => by
              rw [hus, z1]
              simp only [decide_true, Bool.true_and]
              congr 1
              rw [decide_eq_decide]; omega
            have hl6 : t.n.toNat + 1 ≤ ((mkL nv (usK ts j)).map vb).length := by rw [mkL_lenv]; omega
            refine sS3 @p8 @p6 @ku ?_
            exact hK _ _ ⟨j + 1, by omega, sT0, sT0, sT0, by refine sS0 ?_; exact eqI e9, hs8.set hb6', by rw [set_ne (Ne.symm n65)]; exact k5, set_same⟩ (by simp (maxSteps := 2000000) (disch := first | omega | assumption | exact idP rfl | exact idP (bL rfl)) only [go_sem, reduceIte, Nat.reduceEqDiff, wpV_kd, wpV_tH, dnV_int, e7]; omega)
          · obtain ⟨a1, a2, a3, a4⟩ := o4 (by omega)
            have k6 : M3 b6 = some ((mkL nv (usK ts (j + 1))).map vb) := by
              rw [p6]
              have z2 : decide (t.op = 1) = false := by simpa using z1
              exact mkE fun x _ => by rw [hus x, z2]; simp
            have hl5 : t.a.toNat + 1 ≤ ((mkL ts.length (ndK ts j)).map vb).length := by rw [mkL_lenv]; omega
            have hl5b : t.b.toNat + 1 ≤ (((mkL ts.length (ndK ts j)).map vb).set t.a.toNat (.sc (.bool true))).length := by rw [List.length_set, mkL_lenv]; omega
            have k5 : (((mkL ts.length (ndK ts j)).map vb).set t.a.toNat (.sc (.bool true))).set t.b.toNat (.sc (.bool true)) = (mkL ts.length (ndK ts (j + 1))).map vb := by
              rw [mkL_setv (q := fun x => ndK ts j x || decide (x = t.a.toNat)) fun x _ => rfl]
              have z2 : decide (2 ≤ t.op) = true := by simp; omega
              exact mkL_setv fun x _ => by rw [hns x, z2]; simp [Bool.or_assoc]
            refine sS3 @p8 @p5 @k5 ?_
            exact hK _ _ ⟨j + 1, by omega, sT0, sT0, sT0, by refine sS0 ?_; exact eqI e9, hs8.set hb5, set_same, by rw [set_ne n65]; exact k6⟩ (by simp (maxSteps := 2000000) (disch := first | omega | assumption | exact idP rfl | exact idP (bL rfl)) only [go_sem, reduceIte, Nat.reduceEqDiff, wpV_kd, wpV_tH, dnV_int, e7]; omega)
    · obtain rfl : j = ts.length := by omega
      have hu : (mkL nv (usK ts ts.length)).map vb = (mkL nv (usP ts)).map vb := congrArg (List.map vb) (mkL_ext fun x _ => usK_all)
      rw [hu] at m6
      refine sS1 @e6 ?_
      refine loop_k (fun e M' => ∃ i : Nat, i ≤ nv ∧ e 60 = .sc (.sl (some (b6, 0)) nv nv true 1) ∧ e 61 = .sc (.int .i64 nv) ∧ e 62 = .sc (.int .i64 i) ∧ Gr 1 M2 M' (e 9) ((selL i (usP ts)).map vi)) (fun e _ => ctrV nv (e 62)) ?_ ?_
      · exact ⟨0, by omega, sT0, sT0, by refine sS0 ?_; rfl, by refine sS0 ?_; exact .nil (Sub.refl _)⟩
      · rintro e M3 ⟨i, hi, e60, e61, e62, hg⟩ K3 hK3
        have hsl : (selL i (usP ts)).length ≤ i := selL_len
        have m63 := hg.sub _ _ m6
        refine sS3 @e60 @e61 @e62 ?_
        refine cond_dec (fun h => ?_) (fun h => ?_)
        · have hi2 : i < nv := by omega
          have g6 := mkL_at (p := usP ts) hi2
          refine sS5 @e60 @e61 @e62 @m63 @g6 ?_
          refine cond_split (fun h2 => ?_) (fun h2 => ?_)
          · refine sS3 @e60 @e61 @e62 ?_
            intro bt hbt
            refine app_int hg hbt (by omega) (by omega) ?_
            intro s' M' hg' _
            refine sS3 @e60 @e61 @e62 ?_
            exact hK3 _ _ ⟨i + 1, by omega, sT0, sT0, by refine sS0 ?_; rfl, by refine sS0 ?_; rw [selL_succ, if_pos h2]; exact hg'⟩ (by refine sS2 @ctrV_int @e62 ?_; omega)
          · refine sS3 @e60 @e61 @e62 ?_
            exact hK3 _ _ ⟨i + 1, by omega, sT0, sT0, by refine sS0 ?_; rfl, by refine sS0 ?_; rw [selL_succ, if_neg (by simpa using h2)]; exact hg⟩ (by refine sS2 @ctrV_int @e62 ?_; omega)
        · obtain rfl : i = nv := by omega
          refine sS0 ?_
          refine (VCall.give0 hg fun u M4 hu hs2 => (t_cloneInt hu.li (by omega)).mono fun r M' hr => hr.base hs2).mono ?_
          rintro r M4 hg2
          refine sS0 ?_
          exact hR _ _ (hg2.base hsub)
theorem Ow.cells {l : List V} {v : V} (h : Ow 1 M v l) : lenS v = some l.length ∧ cellsS (l.length * 1) v M = some l := by
  rcases h with ⟨rfl, k, rfl⟩ | ⟨b, n, ex, rfl, h2, h3⟩
  · exact ⟨rfl, by simp [cellsS]⟩
  · have : n = l.length := by omega
    subst this
    refine ⟨rfl, ?_⟩
    simp only [cellsS, h2]
    split
    · rename_i h0; have : l = [] := List.eq_nil_of_length_eq_zero (by omega)
      rw [this]
    · rw [if_pos (by omega)]; simp
theorem vi_one {l : List Int} : (l.map vi).all oneV = true := by
  rw [List.all_eq_true]
  intro x hx
  obtain ⟨n, _, rfl⟩ := List.mem_map.1 hx
  rfl
theorem app_ints {M0 : MH} {s x : V} {K : V → MH → Prop} {by_ : Nat} {xs ys : List Int} (h : Gr 1 M0 M s (xs.map vi)) (hx : Ow 1 M x (ys.map vi)) (hb : xs.length + ys.length ≤ 68719476736) (hby : by_ ≤ 16)
    (hk : ∀ s' M', Gr 1 M0 M' s' ((xs ++ ys).map vi) → Oth M M' s s' → K s' M') : appV 1 by_ s x M K := by
  obtain ⟨h1, h2⟩ := hx.cells
  refine gr_appS h (by omega) h1 h2 (by simp) vi_one ?_ (by simp [mostCells]; omega) fun s' M' q1 q2 => hk s' M' (by rw [List.map_append]; exact q1) q2
  have : ((xs.map vi).length + (ys.map vi).length) * by_ ≤ ((xs.map vi).length + (ys.map vi).length) * 16 := Nat.mul_le_mul_left _ hby
  simp [mostCells] at this ⊢; omega
theorem t_Compact2 {M0 : MH} {v : V} {zs : List Int} (hg : Gr 1 M0 M v (zs.map vi)) (hl : zs.length ≤ 1048576) :
    VCall Try.prog n_slices_Compact_Sint_int [v] M (fun r M' => ∃ M2 u, (∀ {f : FuncId} {R : V → MH → Prop}, VCall Try.prog f [u] M2 R → VCall Try.prog f [r] M' R) ∧ Sub M0 M2 ∧ LI u (compF zs)) := by
  rcases hg.own with ⟨h1, k, rfl⟩ | ⟨b, n, ex, rfl, h2, h3⟩
  · have hz : zs = [] := by simpa using h1
    subst hz
    refine VCall.plain fun R hR => v_slices_Compact_Sint_int rfl ?_
    refine sS0 ?_
    exact hR _ _ ⟨M, _, fun h => h, hg.sub, .nil⟩
  · have hn : zs.length = n := by simpa using h3
    refine (t_Compact h2 hn (by omega)).mono ?_
    rintro r M' ⟨rest, rfl, rfl⟩
    have hb := hg.new b rfl
    refine ⟨_, _, fun h => VCall.give (.sl set_same (.refl _ _) (.refl _ _)) h, ?_, Ls.mk rfl (by simp) fun i hi => ⟨.sc (.int .i64 (compF zs)[i]), ?_, rfl⟩⟩
    · intro i l hi
      have hne : i ≠ b := fun e => by subst e; rw [hb] at hi; cases hi
      rw [del_ne hne, set_ne hne]; exact hg.sub i l hi
    · rw [List.drop_zero, List.getElem?_append_left (by simpa using hi)]
      exact nth_vi hi
theorem t_touchedBy {v : V} {s : SysS} {k : Nat} (hv : isSys s v) (hs : SysOk s) (hk : k < s.rules.length) :
    VCall Try.prog n_impl_touchedBy [v, .sc (.int .i64 k)] M (fun r M' => Gr 1 M M' r ((toF s.vars.length s.rules[k]).map vi)) := by
  obtain ⟨a, b, rfl, ha, hb⟩ := hv
  obtain ⟨x, y, z, hat, hx, hy, hz⟩ := hb.elt hk
  have h5 := hs.v5
  obtain ⟨hw2, hst, hsets⟩ := hs.rules _ (List.getElem_mem hk)
  obtain ⟨kw, hkw⟩ := kind_some hw2
  have hx1 := hx.one.1
  have hy1 := hy.one.1
  have hz1 := hz.one.1
  refine VCall.plain fun R hR => v_impl_touchedBy rfl ?_
  refine sS3 @hb.len @hb.iaddr @hat ?_
  intro b2 hb2 b5 hb5
  obtain ⟨n52, hM5⟩ := fresh_set hb5
  have q2 : ((M.set b2 [a, b]).set b5 [x, y, z]) b2 = some [a, b] := by rw [set_ne (Ne.symm n52)]; exact set_same
  have q5 : ((M.set b2 [a, b]).set b5 [x, y, z]) b5 = some [x, y, z] := set_same
  have s1 : Sub M ((M.set b2 [a, b]).set b5 [x, y, z]) := sB
  generalize (M.set b2 [a, b]).set b5 [x, y, z] = M1 at *
  refine sS3 @q2 @q5 @ha.len ?_
  refine (t_usedBy hx hkw (by omega)).mono ?_
  intro r0 M2 hg0
  have m2 := hg0.sub _ _ q2
  have m5 := hg0.sub _ _ q5
  refine sS3 @m2 @m5 @hz.len ?_
  have tl : s.rules[k].terms.length ≤ 5 := by have := hst; have := sets_le hsets (by omega); omega
  refine loop_k (fun e M' => ∃ i : Nat, i ≤ s.rules[k].terms.length ∧ e 2 = .sc (.ptr (some (b2, 0))) ∧ e 21 = z ∧ e 22 = .sc (.int .i64 s.rules[k].terms.length) ∧ e 23 = .sc (.int .i64 i) ∧ Gr 1 M1 M' (e 6) ((catU s.vars.length s.rules[k].when_ (s.rules[k].terms.take i)).map vi)) (fun e _ => ctrV s.rules[k].terms.length (e 23)) ?_ ?_
  · exact ⟨0, by omega, sT0, sT0, sT0, by refine sS0 ?_; rfl, by refine sS0 ?_; simpa [catU] using hg0⟩
  · rintro e M3 ⟨i, hi, e2, e21, e22, e23, hg⟩ K hK
    have p2 := hg.sub _ _ q2
    have hcl := catU_len (n := s.vars.length) (w := s.rules[k].when_) (ts := s.rules[k].terms.take i)
    rw [List.length_take, Nat.min_eq_left hi] at hcl
    have hcl2 : s.vars.length * (i + 1) ≤ 5 * (i + 1) := Nat.mul_le_mul_right _ h5
    refine sS4 @e2 @e21 @e22 @e23 ?_
    refine cond_dec (fun h => ?_) (fun h => ?_)
    · have hi' : i < s.rules[k].terms.length := by omega
      obtain ⟨ki, hki⟩ := kind_some (hsets.kind (by omega) hi')
      refine sS7 @e2 @e21 @e22 @e23 @hz.iaddr @p2 @ha.len ?_
      refine (t_usedBy (hz.elt hi') hki (by omega)).mono ?_
      intro r1 M4 hg1
      have hsl : (selL s.vars.length (usP s.rules[k].terms[i])).length ≤ s.vars.length := selL_len
      refine sS0 ?_
      refine app_ints (hg.more hg1.sub) hg1.own (by omega) (by omega) ?_
      intro s' M5 hg5 hoth
      refine sS4 @e2 @e21 @e22 @e23 ?_
      refine hK _ _ ⟨i + 1, by omega, sT0, sT0, sT0, by refine sS0 ?_; rfl, ?_⟩ (by refine sS2 @ctrV_int @e23 ?_; omega)
      refine sS0 ?_
      rw [take_snoc hi', catU_snoc]; exact hg5
    · obtain rfl : i = s.rules[k].terms.length := by omega
      rw [List.take_length] at hg hcl
      refine sS0 ?_
      refine (t_SortInts hg (by omega)).mono ?_
      rintro _ M4 ⟨rfl, hg4, -⟩
      refine sS0 ?_
      refine (t_Compact2 hg4 (by rw [sortI_len]; omega)).mono ?_
      rintro r4 M5 ⟨M6, u, hgive, hs6, hu⟩
      refine sS0 ?_
      rw [comp_catU] at hu
      have htl : (toF s.vars.length s.rules[k]).length ≤ s.vars.length := selL_len
      refine (hgive (t_cloneInt hu (by omega))).mono ?_
      intro r6 M7 hg7
      refine sS0 ?_
      exact hR _ _ (hg7.base (s1.trans hs6))
end Go.M2

namespace Go.M2
open Go.Proofs
variable {M : MH}
def In {α : Type} (L : V → List α → Prop) (v : V) (ys : List α) : Prop := L v ys ∨ (v = .sc .emp ∧ ys = [])
theorem In.get {α : Type} {L : V → List α → Prop} {v : V} {ys : List α} (h : In L v ys) (h0 : 0 < ys.length) : L v ys := by
  rcases h with h | ⟨_, rfl⟩
  · exact h
  · simp at h0
theorem In.len {α : Type} {L : V → List α → Prop} {v : V} {ys : List α} (h : In L v ys) (hl : ∀ v ys, L v ys → lenF (er v) = some (.int .i64 (ys.length : Int))) : lenF (er v) = some (.int .i64 (ys.length : Int)) := by
  rcases h with h | ⟨rfl, rfl⟩
  · exact hl _ _ h
  · rfl
abbrev XI : V → List Int → Prop := In LI
abbrev XT : V → List TermS → Prop := In LT
abbrev XVar : V → List VarS → Prop := In LVar
abbrev XTT : V → List (List TermS) → Prop := In (Ls (fun ts u => XT u ts))
def isRuleX (r : RuleS) (cs : List V) : Prop := ∃ a b c, cs = [a, b, c] ∧ XT a r.when_ ∧ XI b r.sets ∧ XTT c r.terms
abbrev XR : V → List RuleS → Prop := In (Lc 3 isRuleX)
def isSysX (s : SysS) (v : V) : Prop := ∃ a b, v = .agg [a, b] ∧ XVar a s.vars ∧ XR b s.rules
def mx : Nat := 9223372036854775807
theorem x_szIntS {v : V} {xs : List Int} {t : Int} (hv : XI v xs) (h0 : xs.length ≤ 9223372036854775807) (h1 : 0 ≤ t) (h2 : t ≤ 1048576) :
    VCall Try.prog n_laws_szIntS [v, .sc (.int .i64 t)] M (fun r M' => M = M' ∧ ∃ k : Int, r = .sc (.int .i64 k) ∧ k ≤ t ∧ (0 ≤ k → xs.length ≤ 1048576)) := by
  refine VCall.pure fun R hR => v_laws_szIntS rfl ?_
  have hl := hv.len fun _ _ h => h.len
  (repeat' (first | ((with_reducible first | refine cond_dec (fun h => ?_) (fun h => ?_) | refine guardK_dec (fun h => ?_) (fun h => ?_) | refine guardD3_dec (fun h => ?_) (fun h => ?_)) <;> first | (exfalso; omega) | (simp (maxSteps := 2000000) (disch := first | omega | assumption | exact idP rfl | exact idP (bL rfl)) only [go_sem, reduceIte, Nat.reduceEqDiff, wpV_kd, wpV_tH, h, hl]) | skip) | ((with_reducible first | refine cond_split (fun h => ?_) (fun h => ?_) | refine guardK_split (fun h => ?_) (fun h => ?_) | refine guardD3_split (fun h => ?_) (fun h => ?_)) <;> ((try simp only [Bool.not_eq_true', Bool.not_eq_false'] at h); first | (simp (maxSteps := 2000000) (disch := first | omega | assumption | exact idP rfl | exact idP (bL rfl)) only [go_sem, reduceIte, Nat.reduceEqDiff, wpV_kd, wpV_tH, h, hl]) | skip)) | (with_reducible intro bk hbk; try have hnk := (fresh_set hbk).1) | (simp (maxSteps := 2000000) (disch := first | omega | assumption | exact idP rfl | exact idP (bL rfl)) only [go_sem, reduceIte, Nat.reduceEqDiff, wpV_kd, wpV_tH, hl])))
  all_goals exact hR _ _ (sB) ⟨_, rfl, by omega, by omega⟩
theorem x_szTermS {v : V} {xs : List TermS} {t : Int} (hv : XT v xs) (h0 : xs.length ≤ 9223372036854775807) (h1 : 0 ≤ t) (h2 : t ≤ 1048576) :
    VCall Try.prog n_laws_szTermS [v, .sc (.int .i64 t)] M (fun r M' => M = M' ∧ ∃ k : Int, r = .sc (.int .i64 k) ∧ k ≤ t ∧ (0 ≤ k → xs.length ≤ 1048576)) := by
  refine VCall.pure fun R hR => v_laws_szTermS rfl ?_
  have hl := hv.len fun _ _ h => h.len
  (repeat' (first | ((with_reducible first | refine cond_dec (fun h => ?_) (fun h => ?_) | refine guardK_dec (fun h => ?_) (fun h => ?_) | refine guardD3_dec (fun h => ?_) (fun h => ?_)) <;> first | (exfalso; omega) | (simp (maxSteps := 2000000) (disch := first | omega | assumption | exact idP rfl | exact idP (bL rfl)) only [go_sem, reduceIte, Nat.reduceEqDiff, wpV_kd, wpV_tH, h, hl]) | skip) | ((with_reducible first | refine cond_split (fun h => ?_) (fun h => ?_) | refine guardK_split (fun h => ?_) (fun h => ?_) | refine guardD3_split (fun h => ?_) (fun h => ?_)) <;> ((try simp only [Bool.not_eq_true', Bool.not_eq_false'] at h); first | (simp (maxSteps := 2000000) (disch := first | omega | assumption | exact idP rfl | exact idP (bL rfl)) only [go_sem, reduceIte, Nat.reduceEqDiff, wpV_kd, wpV_tH, h, hl]) | skip)) | (with_reducible intro bk hbk; try have hnk := (fresh_set hbk).1) | (simp (maxSteps := 2000000) (disch := first | omega | assumption | exact idP rfl | exact idP (bL rfl)) only [go_sem, reduceIte, Nat.reduceEqDiff, wpV_kd, wpV_tH, hl])))
  all_goals exact hR _ _ (sB) ⟨_, rfl, by omega, by omega⟩
theorem x_szVarS {v : V} {xs : List VarS} {t : Int} (hv : XVar v xs) (h0 : xs.length ≤ 9223372036854775807) (h1 : 0 ≤ t) (h2 : t ≤ 1048576) :
    VCall Try.prog n_laws_szVarS [v, .sc (.int .i64 t)] M (fun r M' => M = M' ∧ ∃ k : Int, r = .sc (.int .i64 k) ∧ k ≤ t ∧ (0 ≤ k → xs.length ≤ 1048576)) := by
  refine VCall.pure fun R hR => v_laws_szVarS rfl ?_
  have hl := hv.len fun _ _ h => h.len
  (repeat' (first | ((with_reducible first | refine cond_dec (fun h => ?_) (fun h => ?_) | refine guardK_dec (fun h => ?_) (fun h => ?_) | refine guardD3_dec (fun h => ?_) (fun h => ?_)) <;> first | (exfalso; omega) | (simp (maxSteps := 2000000) (disch := first | omega | assumption | exact idP rfl | exact idP (bL rfl)) only [go_sem, reduceIte, Nat.reduceEqDiff, wpV_kd, wpV_tH, h, hl]) | skip) | ((with_reducible first | refine cond_split (fun h => ?_) (fun h => ?_) | refine guardK_split (fun h => ?_) (fun h => ?_) | refine guardD3_split (fun h => ?_) (fun h => ?_)) <;> ((try simp only [Bool.not_eq_true', Bool.not_eq_false'] at h); first | (simp (maxSteps := 2000000) (disch := first | omega | assumption | exact idP rfl | exact idP (bL rfl)) only [go_sem, reduceIte, Nat.reduceEqDiff, wpV_kd, wpV_tH, h, hl]) | skip)) | (with_reducible intro bk hbk; try have hnk := (fresh_set hbk).1) | (simp (maxSteps := 2000000) (disch := first | omega | assumption | exact idP rfl | exact idP (bL rfl)) only [go_sem, reduceIte, Nat.reduceEqDiff, wpV_kd, wpV_tH, hl])))
  all_goals exact hR _ _ (sB) ⟨_, rfl, by omega, by omega⟩
def LenOk {α : Type} (xs : List α) : Prop := xs.length ≤ 9223372036854775807
def RuleLen (r : RuleS) : Prop := LenOk r.when_ ∧ LenOk r.sets ∧ LenOk r.terms ∧ ∀ ts ∈ r.terms, LenOk ts
def RuleFit (r : RuleS) : Prop := r.when_.length ≤ 1048576 ∧ r.sets.length ≤ 1048576 ∧ r.terms.length ≤ 1048576 ∧ ∀ ts ∈ r.terms, ts.length ≤ 1048576
def SysLen (s : SysS) : Prop := LenOk s.vars ∧ LenOk s.rules ∧ ∀ r ∈ s.rules, RuleLen r
def SysFit (s : SysS) : Prop := s.vars.length ≤ 1048576 ∧ s.rules.length ≤ 1048576 ∧ ∀ r ∈ s.rules, RuleFit r
theorem x_szTermSS {v : V} {xs : List (List TermS)} {t : Int} (hv : XTT v xs) (h0 : LenOk xs) (hx : ∀ ts ∈ xs, LenOk ts) (h1 : 0 ≤ t) (h2 : t ≤ 1048576) :
    VCall Try.prog n_laws_szTermSS [v, .sc (.int .i64 t)] M (fun r M' => M = M' ∧ ∃ k : Int, r = .sc (.int .i64 k) ∧ k ≤ t ∧ (0 ≤ k → xs.length ≤ 1048576 ∧ ∀ ts ∈ xs, ts.length ≤ 1048576)) := by
  refine VCall.pure fun R hR => v_laws_szTermSS rfl ?_
  unfold LenOk at h0 hx
  have hl := hv.len fun _ _ h => h.len
  (repeat' (first | ((with_reducible first | refine cond_dec (fun h => ?_) (fun h => ?_) | refine guardK_dec (fun h => ?_) (fun h => ?_) | refine guardD3_dec (fun h => ?_) (fun h => ?_)) <;> first | (exfalso; omega) | (simp (maxSteps := 2000000) (disch := first | omega | assumption | exact idP rfl | exact idP (bL rfl)) only [go_sem, reduceIte, Nat.reduceEqDiff, wpV_kd, wpV_tH, h, hl]) | skip) | ((with_reducible first | refine cond_split (fun h => ?_) (fun h => ?_) | refine guardK_split (fun h => ?_) (fun h => ?_) | refine guardD3_split (fun h => ?_) (fun h => ?_)) <;> ((try simp only [Bool.not_eq_true', Bool.not_eq_false'] at h); first | (simp (maxSteps := 2000000) (disch := first | omega | assumption | exact idP rfl | exact idP (bL rfl)) only [go_sem, reduceIte, Nat.reduceEqDiff, wpV_kd, wpV_tH, h, hl]) | skip)) | (with_reducible intro bk hbk; try have hnk := (fresh_set hbk).1) | (simp (maxSteps := 2000000) (disch := first | omega | assumption | exact idP rfl | exact idP (bL rfl)) only [go_sem, reduceIte, Nat.reduceEqDiff, wpV_kd, wpV_tH, hl])))
  · exact hR _ _ (sB) ⟨_, rfl, by omega, by omega⟩
  · refine loop_k (fun e M' => M' = M ∧ ∃ (i : Nat) (k : Int), i ≤ xs.length ∧ e 0 = v ∧ e 1 = .sc (.int .i64 k) ∧ e 5 = .sc (.int .i64 i) ∧ 0 ≤ k ∧ k ≤ t ∧ ∀ j (hj : j < xs.length), j < i → xs[j].length ≤ 1048576) (fun e _ => ctrV xs.length (e 5)) ?_ ?_
    · exact ⟨rfl, 0, t - xs.length, by omega, sT0, sT0, by refine sS0 ?_; rfl, by omega, by omega, fun j _ h => by omega⟩
    · rintro e _ ⟨rfl, i, k, hi, e0, e1, e5, k0, k1, hj⟩ K hK
      refine sS4 @e0 @e1 @e5 @hl ?_
      refine cond_dec (fun h => ?_) (fun h => ?_)
      · have hi' : i < xs.length := by omega
        have hv' := hv.get (by omega)
        refine sS4 @e0 @e1 @e5 @hv'.iaddr ?_
        refine (x_szTermS (hv'.elt hi') (hx _ (List.getElem_mem hi')) k0 (by omega)).mono ?_
        rintro _ _ ⟨rfl, k2, rfl, q1, q2⟩
        (repeat' (first | ((with_reducible first | refine cond_dec (fun h => ?_) (fun h => ?_) | refine guardK_dec (fun h => ?_) (fun h => ?_) | refine guardD3_dec (fun h => ?_) (fun h => ?_)) <;> first | (exfalso; omega) | (simp (maxSteps := 2000000) (disch := first | omega | assumption | exact idP rfl | exact idP (bL rfl)) only [go_sem, reduceIte, Nat.reduceEqDiff, wpV_kd, wpV_tH, h]) | skip) | ((with_reducible first | refine cond_split (fun h => ?_) (fun h => ?_) | refine guardK_split (fun h => ?_) (fun h => ?_) | refine guardD3_split (fun h => ?_) (fun h => ?_)) <;> ((try simp only [Bool.not_eq_true', Bool.not_eq_false'] at h); first | (simp (maxSteps := 2000000) (disch := first | omega | assumption | exact idP rfl | exact idP (bL rfl)) only [go_sem, reduceIte, Nat.reduceEqDiff, wpV_kd, wpV_tH, h]) | skip)) | (with_reducible intro bk hbk; try have hnk := (fresh_set hbk).1) | (simp (maxSteps := 2000000) (disch := first | omega | assumption | exact idP rfl | exact idP (bL rfl)) only [go_sem, reduceIte, Nat.reduceEqDiff, wpV_kd, wpV_tH])))
        · exact hR _ _ (sB) ⟨_, rfl, by omega, by omega⟩
        · refine hK _ _ ⟨rfl, i + 1, k2, by omega, sT1 @e0, sT0, by refine sS1 @e5 ?_; rfl, by omega, by omega, fun j hj1 hj2 => ?_⟩ (by refine sS2 @ctrV_int @e5 ?_; omega)
          by_cases hji : j = i
          · subst hji; exact q2 (by omega)
          · exact hj j hj1 (by omega)
      · obtain rfl : i = xs.length := by omega
        refine sS1 @e1 ?_
        refine hR _ _ (sB) ⟨_, rfl, by omega, fun _ => ⟨by omega, fun ts hts => ?_⟩⟩
        obtain ⟨j, hj1, rfl⟩ := List.getElem_of_mem hts
        exact hj j hj1 (by omega)
theorem x_szRule {cs : List V} {r : RuleS} {t : Int} (hv : isRuleX r cs) (h0 : RuleLen r) (h1 : 0 ≤ t) (h2 : t ≤ 1048576) :
    VCall Try.prog n_laws_szRule [.agg cs, .sc (.int .i64 t)] M (fun r' M' => M = M' ∧ ∃ k : Int, r' = .sc (.int .i64 k) ∧ k ≤ t ∧ (0 ≤ k → RuleFit r)) := by
  refine VCall.pure fun R hR => v_laws_szRule rfl ?_
  obtain ⟨a, b, c, rfl, ha, hb, hc⟩ := hv
  obtain ⟨l1, l2, l3, l4⟩ := h0
  (repeat' (first | ((with_reducible first | refine cond_dec (fun h => ?_) (fun h => ?_) | refine guardK_dec (fun h => ?_) (fun h => ?_) | refine guardD3_dec (fun h => ?_) (fun h => ?_)) <;> first | (exfalso; omega) | (simp (maxSteps := 2000000) (disch := first | omega | assumption | exact idP rfl | exact idP (bL rfl)) only [go_sem, reduceIte, Nat.reduceEqDiff, wpV_kd, wpV_tH, h]) | skip) | ((with_reducible first | refine cond_split (fun h => ?_) (fun h => ?_) | refine guardK_split (fun h => ?_) (fun h => ?_) | refine guardD3_split (fun h => ?_) (fun h => ?_)) <;> ((try simp only [Bool.not_eq_true', Bool.not_eq_false'] at h); first | (simp (maxSteps := 2000000) (disch := first | omega | assumption | exact idP rfl | exact idP (bL rfl)) only [go_sem, reduceIte, Nat.reduceEqDiff, wpV_kd, wpV_tH, h]) | skip)) | (with_reducible intro bk hbk; try have hnk := (fresh_set hbk).1) | (simp (maxSteps := 2000000) (disch := first | omega | assumption | exact idP rfl | exact idP (bL rfl)) only [go_sem, reduceIte, Nat.reduceEqDiff, wpV_kd, wpV_tH])))
  refine (x_szTermS ha l1 h1 h2).mono ?_
  rintro _ _ ⟨rfl, k1, rfl, p1, p2⟩
  (repeat' (first | ((with_reducible first | refine cond_dec (fun h => ?_) (fun h => ?_) | refine guardK_dec (fun h => ?_) (fun h => ?_) | refine guardD3_dec (fun h => ?_) (fun h => ?_)) <;> first | (exfalso; omega) | (simp (maxSteps := 2000000) (disch := first | omega | assumption | exact idP rfl | exact idP (bL rfl)) only [go_sem, reduceIte, Nat.reduceEqDiff, wpV_kd, wpV_tH, h]) | skip) | ((with_reducible first | refine cond_split (fun h => ?_) (fun h => ?_) | refine guardK_split (fun h => ?_) (fun h => ?_) | refine guardD3_split (fun h => ?_) (fun h => ?_)) <;> ((try simp only [Bool.not_eq_true', Bool.not_eq_false'] at h); first | (simp (maxSteps := 2000000) (disch := first | omega | assumption | exact idP rfl | exact idP (bL rfl)) only [go_sem, reduceIte, Nat.reduceEqDiff, wpV_kd, wpV_tH, h]) | skip)) | (with_reducible intro bk hbk; try have hnk := (fresh_set hbk).1) | (simp (maxSteps := 2000000) (disch := first | omega | assumption | exact idP rfl | exact idP (bL rfl)) only [go_sem, reduceIte, Nat.reduceEqDiff, wpV_kd, wpV_tH])))
  · exact hR _ _ (sB) ⟨_, rfl, by omega, by omega⟩
  · refine (x_szIntS hb l2 (by omega) (by omega)).mono ?_
    rintro _ _ ⟨rfl, k2, rfl, q1, q2⟩
    (repeat' (first | ((with_reducible first | refine cond_dec (fun h => ?_) (fun h => ?_) | refine guardK_dec (fun h => ?_) (fun h => ?_) | refine guardD3_dec (fun h => ?_) (fun h => ?_)) <;> first | (exfalso; omega) | (simp (maxSteps := 2000000) (disch := first | omega | assumption | exact idP rfl | exact idP (bL rfl)) only [go_sem, reduceIte, Nat.reduceEqDiff, wpV_kd, wpV_tH, h]) | skip) | ((with_reducible first | refine cond_split (fun h => ?_) (fun h => ?_) | refine guardK_split (fun h => ?_) (fun h => ?_) | refine guardD3_split (fun h => ?_) (fun h => ?_)) <;> ((try simp only [Bool.not_eq_true', Bool.not_eq_false'] at h); first | (simp (maxSteps := 2000000) (disch := first | omega | assumption | exact idP rfl | exact idP (bL rfl)) only [go_sem, reduceIte, Nat.reduceEqDiff, wpV_kd, wpV_tH, h]) | skip)) | (with_reducible intro bk hbk; try have hnk := (fresh_set hbk).1) | (simp (maxSteps := 2000000) (disch := first | omega | assumption | exact idP rfl | exact idP (bL rfl)) only [go_sem, reduceIte, Nat.reduceEqDiff, wpV_kd, wpV_tH])))
    · exact hR _ _ (sB) ⟨_, rfl, by omega, by omega⟩
    · refine (x_szTermSS hc l3 l4 (by omega) (by omega)).mono ?_
      rintro _ _ ⟨rfl, k3, rfl, w1, w2⟩
      (repeat' (first | ((with_reducible first | refine cond_dec (fun h => ?_) (fun h => ?_) | refine guardK_dec (fun h => ?_) (fun h => ?_) | refine guardD3_dec (fun h => ?_) (fun h => ?_)) <;> first | (exfalso; omega) | (simp (maxSteps := 2000000) (disch := first | omega | assumption | exact idP rfl | exact idP (bL rfl)) only [go_sem, reduceIte, Nat.reduceEqDiff, wpV_kd, wpV_tH, h]) | skip) | ((with_reducible first | refine cond_split (fun h => ?_) (fun h => ?_) | refine guardK_split (fun h => ?_) (fun h => ?_) | refine guardD3_split (fun h => ?_) (fun h => ?_)) <;> ((try simp only [Bool.not_eq_true', Bool.not_eq_false'] at h); first | (simp (maxSteps := 2000000) (disch := first | omega | assumption | exact idP rfl | exact idP (bL rfl)) only [go_sem, reduceIte, Nat.reduceEqDiff, wpV_kd, wpV_tH, h]) | skip)) | (with_reducible intro bk hbk; try have hnk := (fresh_set hbk).1) | (simp (maxSteps := 2000000) (disch := first | omega | assumption | exact idP rfl | exact idP (bL rfl)) only [go_sem, reduceIte, Nat.reduceEqDiff, wpV_kd, wpV_tH])))
      · exact hR _ _ (sB) ⟨_, rfl, by omega, by omega⟩
      · exact hR _ _ (sB) ⟨_, rfl, by omega, fun h => ⟨p2 (by omega), q2 (by omega), (w2 h).1, (w2 h).2⟩⟩
theorem x_szRuleS {v : V} {xs : List RuleS} {t : Int} (hv : XR v xs) (h0 : LenOk xs) (hx : ∀ r ∈ xs, RuleLen r) (h1 : 0 ≤ t) (h2 : t ≤ 1048576) :
    VCall Try.prog n_laws_szRuleS [v, .sc (.int .i64 t)] M (fun r M' => M = M' ∧ ∃ k : Int, r = .sc (.int .i64 k) ∧ k ≤ t ∧ (0 ≤ k → xs.length ≤ 1048576 ∧ ∀ r ∈ xs, RuleFit r)) := by
  refine VCall.pure fun R hR => v_laws_szRuleS rfl ?_
  unfold LenOk at h0
  have hl := hv.len fun _ _ h => h.len
  (repeat' (first | ((with_reducible first | refine cond_dec (fun h => ?_) (fun h => ?_) | refine guardK_dec (fun h => ?_) (fun h => ?_) | refine guardD3_dec (fun h => ?_) (fun h => ?_)) <;> first | (exfalso; omega) | (simp (maxSteps := 2000000) (disch := first | omega | assumption | exact idP rfl | exact idP (bL rfl)) only [go_sem, reduceIte, Nat.reduceEqDiff, wpV_kd, wpV_tH, h, hl]) | skip) | ((with_reducible first | refine cond_split (fun h => ?_) (fun h => ?_) | refine guardK_split (fun h => ?_) (fun h => ?_) | refine guardD3_split (fun h => ?_) (fun h => ?_)) <;> ((try simp only [Bool.not_eq_true', Bool.not_eq_false'] at h); first | (simp (maxSteps := 2000000) (disch := first | omega | assumption | exact idP rfl | exact idP (bL rfl)) only [go_sem, reduceIte, Nat.reduceEqDiff, wpV_kd, wpV_tH, h, hl]) | skip)) | (with_reducible intro bk hbk; try have hnk := (fresh_set hbk).1) | (simp (maxSteps := 2000000) (disch := first | omega | assumption | exact idP rfl | exact idP (bL rfl)) only [go_sem, reduceIte, Nat.reduceEqDiff, wpV_kd, wpV_tH, hl])))
  · exact hR _ _ (sB) ⟨_, rfl, by omega, by omega⟩
  · refine loop_k (fun e M' => M' = M ∧ ∃ (i : Nat) (k : Int), i ≤ xs.length ∧ e 0 = v ∧ e 1 = .sc (.int .i64 k) ∧ e 5 = .sc (.int .i64 i) ∧ 0 ≤ k ∧ k ≤ t ∧ ∀ j (hj : j < xs.length), j < i → RuleFit xs[j]) (fun e _ => ctrV xs.length (e 5)) ?_ ?_
    · exact ⟨rfl, 0, t - xs.length, by omega, sT0, sT0, by refine sS0 ?_; rfl, by omega, by omega, fun j _ h => by omega⟩
    · rintro e _ ⟨rfl, i, k, hi, e0, e1, e5, k0, k1, hj⟩ K hK
      refine sS4 @e0 @e1 @e5 @hl ?_
      refine cond_dec (fun h => ?_) (fun h => ?_)
      · have hi' : i < xs.length := by omega
        have hv' := hv.get (by omega)
        have hcs := hv'.elt hi'
        have hrule := hcs
        obtain ⟨c1, c2, c3, hat, _, _, _⟩ := hcs
        rw [hat] at hrule
        refine sS5 @e0 @e1 @e5 @hv'.iaddr @hat ?_
        refine (x_szRule hrule (hx _ (List.getElem_mem hi')) k0 (by omega)).mono ?_
        rintro _ _ ⟨rfl, k2, rfl, q1, q2⟩
        (repeat' (first | ((with_reducible first | refine cond_dec (fun h => ?_) (fun h => ?_) | refine guardK_dec (fun h => ?_) (fun h => ?_) | refine guardD3_dec (fun h => ?_) (fun h => ?_)) <;> first | (exfalso; omega) | (simp (maxSteps := 2000000) (disch := first | omega | assumption | exact idP rfl | exact idP (bL rfl)) only [go_sem, reduceIte, Nat.reduceEqDiff, wpV_kd, wpV_tH, h]) | skip) | ((with_reducible first | refine cond_split (fun h => ?_) (fun h => ?_) | refine guardK_split (fun h => ?_) (fun h => ?_) | refine guardD3_split (fun h => ?_) (fun h => ?_)) <;> ((try simp only [Bool.not_eq_true', Bool.not_eq_false'] at h); first | (simp (maxSteps := 2000000) (disch := first | omega | assumption | exact idP rfl | exact idP (bL rfl)) only [go_sem, reduceIte, Nat.reduceEqDiff, wpV_kd, wpV_tH, h]) | skip)) | (with_reducible intro bk hbk; try have hnk := (fresh_set hbk).1) | (simp (maxSteps := 2000000) (disch := first | omega | assumption | exact idP rfl | exact idP (bL rfl)) only [go_sem, reduceIte, Nat.reduceEqDiff, wpV_kd, wpV_tH])))
        · exact hR _ _ (sB) ⟨_, rfl, by omega, by omega⟩
        · refine hK _ _ ⟨rfl, i + 1, k2, by omega, sT1 @e0, sT0, by refine sS1 @e5 ?_; rfl, by omega, by omega, fun j hj1 hj2 => ?_⟩ (by refine sS2 @ctrV_int @e5 ?_; omega)
          by_cases hji : j = i
          · subst hji; exact q2 (by omega)
          · exact hj j hj1 (by omega)
      · obtain rfl : i = xs.length := by omega
        refine sS1 @e1 ?_
        refine hR _ _ (sB) ⟨_, rfl, by omega, fun _ => ⟨by omega, fun ts hts => ?_⟩⟩
        obtain ⟨j, hj1, rfl⟩ := List.getElem_of_mem hts
        exact hj j hj1 (by omega)
theorem x_szSystem {v : V} {s : SysS} {t : Int} (hv : isSysX s v) (h0 : SysLen s) (h1 : 0 ≤ t) (h2 : t ≤ 1048576) :
    VCall Try.prog n_laws_szSystem [v, .sc (.int .i64 t)] M (fun r M' => M = M' ∧ ∃ k : Int, r = .sc (.int .i64 k) ∧ k ≤ t ∧ (0 ≤ k → SysFit s)) := by
  refine VCall.pure fun R hR => v_laws_szSystem rfl ?_
  obtain ⟨a, b, rfl, ha, hb⟩ := hv
  obtain ⟨l1, l2, l3⟩ := h0
  (repeat' (first | ((with_reducible first | refine cond_dec (fun h => ?_) (fun h => ?_) | refine guardK_dec (fun h => ?_) (fun h => ?_) | refine guardD3_dec (fun h => ?_) (fun h => ?_)) <;> first | (exfalso; omega) | (simp (maxSteps := 2000000) (disch := first | omega | assumption | exact idP rfl | exact idP (bL rfl)) only [go_sem, reduceIte, Nat.reduceEqDiff, wpV_kd, wpV_tH, h]) | skip) | ((with_reducible first | refine cond_split (fun h => ?_) (fun h => ?_) | refine guardK_split (fun h => ?_) (fun h => ?_) | refine guardD3_split (fun h => ?_) (fun h => ?_)) <;> ((try simp only [Bool.not_eq_true', Bool.not_eq_false'] at h); first | (simp (maxSteps := 2000000) (disch := first | omega | assumption | exact idP rfl | exact idP (bL rfl)) only [go_sem, reduceIte, Nat.reduceEqDiff, wpV_kd, wpV_tH, h]) | skip)) | (with_reducible intro bk hbk; try have hnk := (fresh_set hbk).1) | (simp (maxSteps := 2000000) (disch := first | omega | assumption | exact idP rfl | exact idP (bL rfl)) only [go_sem, reduceIte, Nat.reduceEqDiff, wpV_kd, wpV_tH])))
  refine (x_szVarS ha l1 h1 h2).mono ?_
  rintro _ _ ⟨rfl, k1, rfl, p1, p2⟩
  (repeat' (first | ((with_reducible first | refine cond_dec (fun h => ?_) (fun h => ?_) | refine guardK_dec (fun h => ?_) (fun h => ?_) | refine guardD3_dec (fun h => ?_) (fun h => ?_)) <;> first | (exfalso; omega) | (simp (maxSteps := 2000000) (disch := first | omega | assumption | exact idP rfl | exact idP (bL rfl)) only [go_sem, reduceIte, Nat.reduceEqDiff, wpV_kd, wpV_tH, h]) | skip) | ((with_reducible first | refine cond_split (fun h => ?_) (fun h => ?_) | refine guardK_split (fun h => ?_) (fun h => ?_) | refine guardD3_split (fun h => ?_) (fun h => ?_)) <;> ((try simp only [Bool.not_eq_true', Bool.not_eq_false'] at h); first | (simp (maxSteps := 2000000) (disch := first | omega | assumption | exact idP rfl | exact idP (bL rfl)) only [go_sem, reduceIte, Nat.reduceEqDiff, wpV_kd, wpV_tH, h]) | skip)) | (with_reducible intro bk hbk; try have hnk := (fresh_set hbk).1) | (simp (maxSteps := 2000000) (disch := first | omega | assumption | exact idP rfl | exact idP (bL rfl)) only [go_sem, reduceIte, Nat.reduceEqDiff, wpV_kd, wpV_tH])))
  · exact hR _ _ (sB) ⟨_, rfl, by omega, by omega⟩
  · refine (x_szRuleS hb l2 l3 (by omega) (by omega)).mono ?_
    rintro _ _ ⟨rfl, k2, rfl, q1, q2⟩
    (repeat' (first | ((with_reducible first | refine cond_dec (fun h => ?_) (fun h => ?_) | refine guardK_dec (fun h => ?_) (fun h => ?_) | refine guardD3_dec (fun h => ?_) (fun h => ?_)) <;> first | (exfalso; omega) | (simp (maxSteps := 2000000) (disch := first | omega | assumption | exact idP rfl | exact idP (bL rfl)) only [go_sem, reduceIte, Nat.reduceEqDiff, wpV_kd, wpV_tH, h]) | skip) | ((with_reducible first | refine cond_split (fun h => ?_) (fun h => ?_) | refine guardK_split (fun h => ?_) (fun h => ?_) | refine guardD3_split (fun h => ?_) (fun h => ?_)) <;> ((try simp only [Bool.not_eq_true', Bool.not_eq_false'] at h); first | (simp (maxSteps := 2000000) (disch := first | omega | assumption | exact idP rfl | exact idP (bL rfl)) only [go_sem, reduceIte, Nat.reduceEqDiff, wpV_kd, wpV_tH, h]) | skip)) | (with_reducible intro bk hbk; try have hnk := (fresh_set hbk).1) | (simp (maxSteps := 2000000) (disch := first | omega | assumption | exact idP rfl | exact idP (bL rfl)) only [go_sem, reduceIte, Nat.reduceEqDiff, wpV_kd, wpV_tH])))
    · exact hR _ _ (sB) ⟨_, rfl, by omega, by omega⟩
    · exact hR _ _ (sB) ⟨_, rfl, by omega, fun h => ⟨p2 (by omega), (q2 h).1, (q2 h).2⟩⟩
end Go.M2

namespace Go.M2
open Go.Proofs
variable {M : MH}
theorem x_toIntS {v : V} {xs : List Int} (hv : XI v xs) (hl : xs.length ≤ 1048576) : VCall Try.prog n_laws_toIntS [v] M (fun r M' => Gr 1 M M' r (xs.map vi)) := by
  refine VCall.plain fun R hR => v_laws_toIntS rfl ?_
  have hlen := hv.len fun _ _ h => h.len
  refine sS1 @hlen ?_
  refine mks3 (by omega) (by simp [mostCells]; omega) (by simp [mostCells]; omega) ?_
  intro b3 hb3
  simp (maxSteps := 2000000) (disch := first | omega | assumption | exact idP rfl | exact idP (bL rfl)) only [go_sem, reduceIte, Nat.reduceEqDiff, wpV_kd, wpV_tH, zeros_vi]
  refine loop_k (fun e M' => ∃ i : Nat, i ≤ xs.length ∧ e 0 = v ∧ e 3 = .sc (.sl (some (b3, 0)) xs.length xs.length true 1) ∧ e 4 = .sc (.int .i64 i) ∧ Sub M M' ∧ M' b3 = some ((xs.take i ++ List.replicate (xs.length - i) 0).map vi)) (fun e _ => ctrV xs.length (e 4)) ?_ ?_
  · exact ⟨0, by omega, sT0, sT0, by refine sS0 ?_; rfl, (Sub.refl _).set hb3, by refine sS0 ?_; simp⟩
  · rintro e M1 ⟨i, hi, e0, e3, e4, hsub, hm⟩ K hK
    refine sS4 @e0 @e3 @e4 @hlen ?_
    refine cond_dec (fun h => ?_) (fun h => ?_)
    · have hi' : i < xs.length := by omega
      have hv' := hv.get (by omega)
      have hso : i < ((xs.take i ++ List.replicate (xs.length - i) 0).map vi).length := by rw [len_vi]; simp; omega
      simp (maxSteps := 2000000) (disch := first | omega | assumption | exact idP rfl | exact idP (bL rfl)) only [go_sem, reduceIte, Nat.reduceEqDiff, wpV_kd, wpV_tH, e0, e3, e4, hv'.iaddr, hv'.at hi', hm]
      refine hK _ _ ⟨i + 1, by omega, sT0, sT0, by refine sS0 ?_; rfl, hsub.set hb3, ?_⟩ (by refine sS2 @ctrV_int @e4 ?_; omega)
      refine sS0 ?_
      rw [set_vi, show xs.length - i = (xs.length - (i + 1)) + 1 by omega, List.replicate_succ, take_snoc hi', List.set_append_right _ _ (by simp; omega)]
      have : i - (xs.take i).length = 0 := by simp; omega
      rw [this]
      simp only [List.set_cons_zero, List.append_assoc, List.singleton_append]
    · obtain rfl : i = xs.length := by omega
      simp only [List.take_length, Nat.sub_self, List.replicate_zero, List.append_nil] at hm
      refine sS1 @e3 ?_
      exact hR _ _ ⟨hsub, fun b' h' => by simp [blkV] at h'; subst h'; exact hb3, .inr ⟨b3, _, true, rfl, hm, by rw [len_vi]; omega⟩⟩
theorem f_toIntS {v : V} {xs : List Int} (hv : XI v xs) (hl : xs.length ≤ 1048576) : VCall Try.prog n_laws_toIntS [v] M (fun r M' => M = M' ∧ LI r xs) :=
  (VCall.fr1 (x_toIntS hv hl)).mono fun r M' ⟨h1, h2⟩ => ⟨h1, h2.li⟩
theorem x_toVar {x : VarS} : VCall Try.prog n_laws_toVar [.agg (encVar x)] M (fun r M' => M = M' ∧ r = .agg (encVar x)) := by
  refine VCall.pure fun R hR => v_laws_toVar rfl ?_
  simp (maxSteps := 2000000) (disch := first | omega | assumption | exact idP rfl | exact idP (bL rfl)) only [go_sem, reduceIte, Nat.reduceEqDiff, wpV_kd, wpV_tH, encVar]
  intro b1 hb1
  try simp (maxSteps := 2000000) (disch := first | omega | assumption | exact idP rfl | exact idP (bL rfl)) only [go_sem, reduceIte, Nat.reduceEqDiff, wpV_kd, wpV_tH]
  intro b2 hb2
  try simp (maxSteps := 2000000) (disch := first | omega | assumption | exact idP rfl | exact idP (bL rfl)) only [go_sem, reduceIte, Nat.reduceEqDiff, wpV_kd, wpV_tH]
  intro b3 hb3
  have n21 := (fresh_set hb2).1
  have n32 := (fresh_set hb3).1
  have n31 := (fresh_set (fresh_set hb3).2).1
  refine sS0 ?_
  exact hR _ _ (Sub.set (sB) (fresh_set hb2).2) rfl
theorem x_toTerm {x : TermS} : VCall Try.prog n_laws_toTerm [.agg (encT x)] M (fun r M' => M = M' ∧ r = .agg (encT x)) := by
  refine VCall.pure fun R hR => v_laws_toTerm rfl ?_
  simp (maxSteps := 2000000) (disch := first | omega | assumption | exact idP rfl | exact idP (bL rfl)) only [go_sem, reduceIte, Nat.reduceEqDiff, wpV_kd, wpV_tH, encT]
  intro b1 hb1
  try simp (maxSteps := 2000000) (disch := first | omega | assumption | exact idP rfl | exact idP (bL rfl)) only [go_sem, reduceIte, Nat.reduceEqDiff, wpV_kd, wpV_tH]
  intro b2 hb2
  try simp (maxSteps := 2000000) (disch := first | omega | assumption | exact idP rfl | exact idP (bL rfl)) only [go_sem, reduceIte, Nat.reduceEqDiff, wpV_kd, wpV_tH]
  intro b3 hb3
  have n21 := (fresh_set hb2).1
  have n32 := (fresh_set hb3).1
  have n31 := (fresh_set (fresh_set hb3).2).1
  refine sS0 ?_
  exact hR _ _ (Sub.set (sB) (fresh_set hb2).2) rfl
theorem x_eqIntS {v w : V} {xs ys : List Int} (hv : LI v xs) (hw : LI w ys) (hl : xs.length ≤ 1048576) : VCall Try.prog n_laws_eqIntS [v, w] M (fun r M' => M = M' ∧ r = .sc (.bool (decide (xs = ys)))) := by
  refine VCall.pure fun R hR => v_laws_eqIntS rfl ?_
  (repeat' (first | ((with_reducible first | refine cond_dec (fun h => ?_) (fun h => ?_) | refine guardK_dec (fun h => ?_) (fun h => ?_) | refine guardD3_dec (fun h => ?_) (fun h => ?_)) <;> first | (exfalso; omega) | (simp (maxSteps := 2000000) (disch := first | omega | assumption | exact idP rfl | exact idP (bL rfl)) only [go_sem, reduceIte, Nat.reduceEqDiff, wpV_kd, wpV_tH, h, hv.len, hw.len]) | skip) | ((with_reducible first | refine cond_split (fun h => ?_) (fun h => ?_) | refine guardK_split (fun h => ?_) (fun h => ?_) | refine guardD3_split (fun h => ?_) (fun h => ?_)) <;> ((try simp only [Bool.not_eq_true', Bool.not_eq_false'] at h); first | (simp (maxSteps := 2000000) (disch := first | omega | assumption | exact idP rfl | exact idP (bL rfl)) only [go_sem, reduceIte, Nat.reduceEqDiff, wpV_kd, wpV_tH, h, hv.len, hw.len]) | skip)) | (with_reducible intro bk hbk; try have hnk := (fresh_set hbk).1) | (simp (maxSteps := 2000000) (disch := first | omega | assumption | exact idP rfl | exact idP (bL rfl)) only [go_sem, reduceIte, Nat.reduceEqDiff, wpV_kd, wpV_tH, hv.len, hw.len])))
  · refine hR _ _ (sB) ?_
    have : ¬ xs = ys := fun e => by subst e; omega
    simp [this]
  · have hlen : xs.length = ys.length := by omega
    refine loop_k (fun e M' => M' = M ∧ ∃ i : Nat, i ≤ xs.length ∧ e 0 = v ∧ e 1 = w ∧ e 5 = .sc (.int .i64 i) ∧ xs.take i = ys.take i) (fun e _ => ctrV xs.length (e 5)) ?_ ?_
    · exact ⟨rfl, 0, by omega, sT0, sT0, by refine sS0 ?_; rfl, rfl⟩
    · rintro e _ ⟨rfl, i, hi, e0, e1, e5, ht⟩ K hK
      refine sS4 @e0 @e1 @e5 @hv.len ?_
      refine cond_dec (fun h => ?_) (fun h => ?_)
      · have hi1 : i < xs.length := by omega
        have hi2 : i < ys.length := by omega
        simp (maxSteps := 2000000) (disch := first | omega | assumption | exact idP rfl | exact idP (bL rfl)) only [go_sem, reduceIte, Nat.reduceEqDiff, wpV_kd, wpV_tH, e0, e1, e5, hv.iaddr, hw.iaddr, hv.at hi1, hw.at hi2]
        refine cond_dec (fun h2 => ?_) (fun h2 => ?_)
        · refine sS0 ?_
          refine hR _ _ (sB) ?_
          have : ¬ xs = ys := fun e => by subst e; exact h2 rfl
          simp [this]
        · refine sS3 @e0 @e1 @e5 ?_
          exact hK _ _ ⟨rfl, i + 1, by omega, sT0, sT0, by refine sS0 ?_; rfl, by rw [take_snoc hi1, take_snoc hi2, ht, Decidable.not_not.1 h2]⟩ (by refine sS2 @ctrV_int @e5 ?_; omega)
      · obtain rfl : i = xs.length := by omega
        refine sS0 ?_
        refine hR _ _ (sB) ?_
        rw [List.take_length, hlen, List.take_length] at ht
        simp [ht]
end Go.M2

namespace Go.M2
open Go.Proofs
variable {M : MH}
theorem x_eqVar {x : VarS} : VCall Try.prog n_laws_eqVar [.agg (encVar x), .agg (encVar x)] M (fun r M' => M = M' ∧ r = .sc (.bool true)) := by
  refine VCall.pure fun R hR => v_laws_eqVar rfl ?_
  (repeat' (first | ((with_reducible first | refine cond_dec (fun h => ?_) (fun h => ?_) | refine guardK_dec (fun h => ?_) (fun h => ?_) | refine guardD3_dec (fun h => ?_) (fun h => ?_)) <;> first | (exfalso; omega) | (simp (maxSteps := 2000000) (disch := first | omega | assumption | exact idP rfl | exact idP (bL rfl)) only [go_sem, reduceIte, Nat.reduceEqDiff, wpV_kd, wpV_tH, h, encVar]) | skip) | ((with_reducible first | refine cond_split (fun h => ?_) (fun h => ?_) | refine guardK_split (fun h => ?_) (fun h => ?_) | refine guardD3_split (fun h => ?_) (fun h => ?_)) <;> ((try simp only [Bool.not_eq_true', Bool.not_eq_false'] at h); first | (simp (maxSteps := 2000000) (disch := first | omega | assumption | exact idP rfl | exact idP (bL rfl)) only [go_sem, reduceIte, Nat.reduceEqDiff, wpV_kd, wpV_tH, h, encVar]) | skip)) | (with_reducible intro bk hbk; try have hnk := (fresh_set hbk).1) | (simp (maxSteps := 2000000) (disch := first | omega | assumption | exact idP rfl | exact idP (bL rfl)) only [go_sem, reduceIte, Nat.reduceEqDiff, wpV_kd, wpV_tH, encVar])))
  all_goals exact hR _ _ (sB) rfl
theorem x_eqTerm {x : TermS} : VCall Try.prog n_laws_eqTerm [.agg (encT x), .agg (encT x)] M (fun r M' => M = M' ∧ r = .sc (.bool true)) := by
  refine VCall.pure fun R hR => v_laws_eqTerm rfl ?_
  (repeat' (first | ((with_reducible first | refine cond_dec (fun h => ?_) (fun h => ?_) | refine guardK_dec (fun h => ?_) (fun h => ?_) | refine guardD3_dec (fun h => ?_) (fun h => ?_)) <;> first | (exfalso; omega) | (simp (maxSteps := 2000000) (disch := first | omega | assumption | exact idP rfl | exact idP (bL rfl)) only [go_sem, reduceIte, Nat.reduceEqDiff, wpV_kd, wpV_tH, h, encT]) | skip) | ((with_reducible first | refine cond_split (fun h => ?_) (fun h => ?_) | refine guardK_split (fun h => ?_) (fun h => ?_) | refine guardD3_split (fun h => ?_) (fun h => ?_)) <;> ((try simp only [Bool.not_eq_true', Bool.not_eq_false'] at h); first | (simp (maxSteps := 2000000) (disch := first | omega | assumption | exact idP rfl | exact idP (bL rfl)) only [go_sem, reduceIte, Nat.reduceEqDiff, wpV_kd, wpV_tH, h, encT]) | skip)) | (with_reducible intro bk hbk; try have hnk := (fresh_set hbk).1) | (simp (maxSteps := 2000000) (disch := first | omega | assumption | exact idP rfl | exact idP (bL rfl)) only [go_sem, reduceIte, Nat.reduceEqDiff, wpV_kd, wpV_tH, encT])))
  all_goals exact hR _ _ (sB) rfl
theorem x_eqVarS {v w : V} {xs : List VarS} (hv : LVar v xs) (hw : LVar w xs) (hl : xs.length ≤ 1048576) : VCall Try.prog n_laws_eqVarS [v, w] M (fun r M' => M = M' ∧ r = .sc (.bool true)) := by
  refine VCall.pure fun R hR => v_laws_eqVarS rfl ?_
  (repeat' (first | ((with_reducible first | refine cond_dec (fun h => ?_) (fun h => ?_) | refine guardK_dec (fun h => ?_) (fun h => ?_) | refine guardD3_dec (fun h => ?_) (fun h => ?_)) <;> first | (exfalso; omega) | (simp (maxSteps := 2000000) (disch := first | omega | assumption | exact idP rfl | exact idP (bL rfl)) only [go_sem, reduceIte, Nat.reduceEqDiff, wpV_kd, wpV_tH, h, hv.len, hw.len]) | skip) | ((with_reducible first | refine cond_split (fun h => ?_) (fun h => ?_) | refine guardK_split (fun h => ?_) (fun h => ?_) | refine guardD3_split (fun h => ?_) (fun h => ?_)) <;> ((try simp only [Bool.not_eq_true', Bool.not_eq_false'] at h); first | (simp (maxSteps := 2000000) (disch := first | omega | assumption | exact idP rfl | exact idP (bL rfl)) only [go_sem, reduceIte, Nat.reduceEqDiff, wpV_kd, wpV_tH, h, hv.len, hw.len]) | skip)) | (with_reducible intro bk hbk; try have hnk := (fresh_set hbk).1) | (simp (maxSteps := 2000000) (disch := first | omega | assumption | exact idP rfl | exact idP (bL rfl)) only [go_sem, reduceIte, Nat.reduceEqDiff, wpV_kd, wpV_tH, hv.len, hw.len])))
  refine loop_k (fun e M' => M' = M ∧ ∃ i : Nat, i ≤ xs.length ∧ e 0 = v ∧ e 1 = w ∧ e 5 = .sc (.int .i64 i)) (fun e _ => ctrV xs.length (e 5)) ?_ ?_
  · exact ⟨rfl, 0, by omega, sT0, sT0, by refine sS0 ?_; rfl⟩
  · rintro e _ ⟨rfl, i, hi, e0, e1, e5⟩ K hK
    refine sS4 @e0 @e1 @e5 @hv.len ?_
    refine cond_dec (fun h => ?_) (fun h => ?_)
    · have hi1 : i < xs.length := by omega
      have a1 : atN 3 v i = encVar xs[i] := hv.elt hi1
      have a2 : atN 3 w i = encVar xs[i] := hw.elt hi1
      refine sS7 @e0 @e1 @e5 @hv.iaddr @hw.iaddr @a1 @a2 ?_
      refine x_eqVar.mono ?_
      rintro _ _ ⟨rfl, rfl⟩
      refine sS3 @e0 @e1 @e5 ?_
      exact hK _ _ ⟨rfl, i + 1, by omega, sT0, sT0, by refine sS0 ?_; rfl⟩ (by refine sS2 @ctrV_int @e5 ?_; omega)
    · refine sS0 ?_
      exact hR _ _ (sB) rfl
theorem x_eqTermS {v w : V} {xs : List TermS} (hv : LT v xs) (hw : LT w xs) (hl : xs.length ≤ 1048576) : VCall Try.prog n_laws_eqTermS [v, w] M (fun r M' => M = M' ∧ r = .sc (.bool true)) := by
  refine VCall.pure fun R hR => v_laws_eqTermS rfl ?_
  (repeat' (first | ((with_reducible first | refine cond_dec (fun h => ?_) (fun h => ?_) | refine guardK_dec (fun h => ?_) (fun h => ?_) | refine guardD3_dec (fun h => ?_) (fun h => ?_)) <;> first | (exfalso; omega) | (simp (maxSteps := 2000000) (disch := first | omega | assumption | exact idP rfl | exact idP (bL rfl)) only [go_sem, reduceIte, Nat.reduceEqDiff, wpV_kd, wpV_tH, h, hv.len, hw.len]) | skip) | ((with_reducible first | refine cond_split (fun h => ?_) (fun h => ?_) | refine guardK_split (fun h => ?_) (fun h => ?_) | refine guardD3_split (fun h => ?_) (fun h => ?_)) <;> ((try simp only [Bool.not_eq_true', Bool.not_eq_false'] at h); first | (simp (maxSteps := 2000000) (disch := first | omega | assumption | exact idP rfl | exact idP (bL rfl)) only [go_sem, reduceIte, Nat.reduceEqDiff, wpV_kd, wpV_tH, h, hv.len, hw.len]) | skip)) | (with_reducible intro bk hbk; try have hnk := (fresh_set hbk).1) | (simp (maxSteps := 2000000) (disch := first | omega | assumption | exact idP rfl | exact idP (bL rfl)) only [go_sem, reduceIte, Nat.reduceEqDiff, wpV_kd, wpV_tH, hv.len, hw.len])))
  refine loop_k (fun e M' => M' = M ∧ ∃ i : Nat, i ≤ xs.length ∧ e 0 = v ∧ e 1 = w ∧ e 5 = .sc (.int .i64 i)) (fun e _ => ctrV xs.length (e 5)) ?_ ?_
  · exact ⟨rfl, 0, by omega, sT0, sT0, by refine sS0 ?_; rfl⟩
  · rintro e _ ⟨rfl, i, hi, e0, e1, e5⟩ K hK
    refine sS4 @e0 @e1 @e5 @hv.len ?_
    refine cond_dec (fun h => ?_) (fun h => ?_)
    · have hi1 : i < xs.length := by omega
      have a1 : atN 4 v i = encT xs[i] := hv.elt hi1
      have a2 : atN 4 w i = encT xs[i] := hw.elt hi1
      refine sS7 @e0 @e1 @e5 @hv.iaddr @hw.iaddr @a1 @a2 ?_
      refine x_eqTerm.mono ?_
      rintro _ _ ⟨rfl, rfl⟩
      refine sS3 @e0 @e1 @e5 ?_
      exact hK _ _ ⟨rfl, i + 1, by omega, sT0, sT0, by refine sS0 ?_; rfl⟩ (by refine sS2 @ctrV_int @e5 ?_; omega)
    · refine sS0 ?_
      exact hR _ _ (sB) rfl
theorem x_eqTermSS {v w : V} {xs : List (List TermS)} (hv : LTT v xs) (hw : LTT w xs) (hl : xs.length ≤ 1048576) (hl2 : ∀ ts ∈ xs, ts.length ≤ 1048576) : VCall Try.prog n_laws_eqTermSS [v, w] M (fun r M' => M = M' ∧ r = .sc (.bool true)) := by
  refine VCall.pure fun R hR => v_laws_eqTermSS rfl ?_
  (repeat' (first | ((with_reducible first | refine cond_dec (fun h => ?_) (fun h => ?_) | refine guardK_dec (fun h => ?_) (fun h => ?_) | refine guardD3_dec (fun h => ?_) (fun h => ?_)) <;> first | (exfalso; omega) | (simp (maxSteps := 2000000) (disch := first | omega | assumption | exact idP rfl | exact idP (bL rfl)) only [go_sem, reduceIte, Nat.reduceEqDiff, wpV_kd, wpV_tH, h, hv.len, hw.len]) | skip) | ((with_reducible first | refine cond_split (fun h => ?_) (fun h => ?_) | refine guardK_split (fun h => ?_) (fun h => ?_) | refine guardD3_split (fun h => ?_) (fun h => ?_)) <;> ((try simp only [Bool.not_eq_true', Bool.not_eq_false'] at h); first | (simp (maxSteps := 2000000) (disch := first | omega | assumption | exact idP rfl | exact idP (bL rfl)) only [go_sem, reduceIte, Nat.reduceEqDiff, wpV_kd, wpV_tH, h, hv.len, hw.len]) | skip)) | (with_reducible intro bk hbk; try have hnk := (fresh_set hbk).1) | (simp (maxSteps := 2000000) (disch := first | omega | assumption | exact idP rfl | exact idP (bL rfl)) only [go_sem, reduceIte, Nat.reduceEqDiff, wpV_kd, wpV_tH, hv.len, hw.len])))
  refine loop_k (fun e M' => M' = M ∧ ∃ i : Nat, i ≤ xs.length ∧ e 0 = v ∧ e 1 = w ∧ e 5 = .sc (.int .i64 i)) (fun e _ => ctrV xs.length (e 5)) ?_ ?_
  · exact ⟨rfl, 0, by omega, sT0, sT0, by refine sS0 ?_; rfl⟩
  · rintro e _ ⟨rfl, i, hi, e0, e1, e5⟩ K hK
    refine sS4 @e0 @e1 @e5 @hv.len ?_
    refine cond_dec (fun h => ?_) (fun h => ?_)
    · have hi1 : i < xs.length := by omega
      refine sS5 @e0 @e1 @e5 @hv.iaddr @hw.iaddr ?_
      refine (x_eqTermS (hv.elt hi1) (hw.elt hi1) (hl2 _ (List.getElem_mem hi1))).mono ?_
      rintro _ _ ⟨rfl, rfl⟩
      refine sS3 @e0 @e1 @e5 ?_
      exact hK _ _ ⟨rfl, i + 1, by omega, sT0, sT0, by refine sS0 ?_; rfl⟩ (by refine sS2 @ctrV_int @e5 ?_; omega)
    · refine sS0 ?_
      exact hR _ _ (sB) rfl
theorem x_eqRule {cs ds : List V} {r : RuleS} (hv : isRule r cs) (hw : isRule r ds) (hf : RuleFit r) : VCall Try.prog n_laws_eqRule [.agg cs, .agg ds] M (fun r' M' => M = M' ∧ r' = .sc (.bool true)) := by
  refine VCall.pure fun R hR => v_laws_eqRule rfl ?_
  obtain ⟨a, b, c, rfl, ha, hb, hc⟩ := hv
  obtain ⟨a', b', c', rfl, ha', hb', hc'⟩ := hw
  obtain ⟨f1, f2, f3, f4⟩ := hf
  have ei : decide (r.sets = r.sets) = true := by simp
  (repeat' (first | ((with_reducible first | refine cond_dec (fun h => ?_) (fun h => ?_) | refine guardK_dec (fun h => ?_) (fun h => ?_) | refine guardD3_dec (fun h => ?_) (fun h => ?_)) <;> first | (exfalso; omega) | (simp (maxSteps := 2000000) (disch := first | omega | assumption | exact idP rfl | exact idP (bL rfl)) only [go_sem, reduceIte, Nat.reduceEqDiff, wpV_kd, wpV_tH, h, ei]) | skip) | ((with_reducible first | refine cond_split (fun h => ?_) (fun h => ?_) | refine guardK_split (fun h => ?_) (fun h => ?_) | refine guardD3_split (fun h => ?_) (fun h => ?_)) <;> ((try simp only [Bool.not_eq_true', Bool.not_eq_false'] at h); first | (simp (maxSteps := 2000000) (disch := first | omega | assumption | exact idP rfl | exact idP (bL rfl)) only [go_sem, reduceIte, Nat.reduceEqDiff, wpV_kd, wpV_tH, h, ei]) | skip)) | ((with_reducible refine (x_eqTermS ha ha' f1).mono ?_); rintro _ _ ⟨rfl, rfl⟩) | ((with_reducible refine (x_eqIntS hb hb' f2).mono ?_); rintro _ _ ⟨rfl, rfl⟩) | ((with_reducible refine (x_eqTermSS hc hc' f3 f4).mono ?_); rintro _ _ ⟨rfl, rfl⟩) | (with_reducible intro bk hbk; try have hnk := (fresh_set hbk).1) | (simp (maxSteps := 2000000) (disch := first | omega | assumption | exact idP rfl | exact idP (bL rfl)) only [go_sem, reduceIte, Nat.reduceEqDiff, wpV_kd, wpV_tH, ei])))
  all_goals exact hR _ _ (sB) rfl
theorem x_eqRuleS {v w : V} {xs : List RuleS} (hv : LR v xs) (hw : LR w xs) (hl : xs.length ≤ 1048576) (hl2 : ∀ r ∈ xs, RuleFit r) : VCall Try.prog n_laws_eqRuleS [v, w] M (fun r M' => M = M' ∧ r = .sc (.bool true)) := by
  refine VCall.pure fun R hR => v_laws_eqRuleS rfl ?_
  (repeat' (first | ((with_reducible first | refine cond_dec (fun h => ?_) (fun h => ?_) | refine guardK_dec (fun h => ?_) (fun h => ?_) | refine guardD3_dec (fun h => ?_) (fun h => ?_)) <;> first | (exfalso; omega) | (simp (maxSteps := 2000000) (disch := first | omega | assumption | exact idP rfl | exact idP (bL rfl)) only [go_sem, reduceIte, Nat.reduceEqDiff, wpV_kd, wpV_tH, h, hv.len, hw.len]) | skip) | ((with_reducible first | refine cond_split (fun h => ?_) (fun h => ?_) | refine guardK_split (fun h => ?_) (fun h => ?_) | refine guardD3_split (fun h => ?_) (fun h => ?_)) <;> ((try simp only [Bool.not_eq_true', Bool.not_eq_false'] at h); first | (simp (maxSteps := 2000000) (disch := first | omega | assumption | exact idP rfl | exact idP (bL rfl)) only [go_sem, reduceIte, Nat.reduceEqDiff, wpV_kd, wpV_tH, h, hv.len, hw.len]) | skip)) | (with_reducible intro bk hbk; try have hnk := (fresh_set hbk).1) | (simp (maxSteps := 2000000) (disch := first | omega | assumption | exact idP rfl | exact idP (bL rfl)) only [go_sem, reduceIte, Nat.reduceEqDiff, wpV_kd, wpV_tH, hv.len, hw.len])))
  refine loop_k (fun e M' => M' = M ∧ ∃ i : Nat, i ≤ xs.length ∧ e 0 = v ∧ e 1 = w ∧ e 5 = .sc (.int .i64 i)) (fun e _ => ctrV xs.length (e 5)) ?_ ?_
  · exact ⟨rfl, 0, by omega, sT0, sT0, by refine sS0 ?_; rfl⟩
  · rintro e _ ⟨rfl, i, hi, e0, e1, e5⟩ K hK
    refine sS4 @e0 @e1 @e5 @hv.len ?_
    refine cond_dec (fun h => ?_) (fun h => ?_)
    · have hi1 : i < xs.length := by omega
      have r1 := hv.elt hi1
      have r2 := hw.elt hi1
      have s1 := r1
      have s2 := r2
      obtain ⟨c1, c2, c3, hat, _, _, _⟩ := r1
      obtain ⟨d1, d2, d3, hat2, _, _, _⟩ := r2
      rw [hat] at s1
      rw [hat2] at s2
      refine sS7 @e0 @e1 @e5 @hv.iaddr @hw.iaddr @hat @hat2 ?_
      refine (x_eqRule s1 s2 (hl2 _ (List.getElem_mem hi1))).mono ?_
      rintro _ _ ⟨rfl, rfl⟩
      refine sS3 @e0 @e1 @e5 ?_
      exact hK _ _ ⟨rfl, i + 1, by omega, sT0, sT0, by refine sS0 ?_; rfl⟩ (by refine sS2 @ctrV_int @e5 ?_; omega)
    · refine sS0 ?_
      exact hR _ _ (sB) rfl
theorem x_eqSystem {v w : V} {s : SysS} (hv : isSys s v) (hw : isSys s w) (hf : SysFit s) : VCall Try.prog n_laws_eqSystem [v, w] M (fun r M' => M = M' ∧ r = .sc (.bool true)) := by
  refine VCall.pure fun R hR => v_laws_eqSystem rfl ?_
  obtain ⟨a, b, rfl, ha, hb⟩ := hv
  obtain ⟨a', b', rfl, ha', hb'⟩ := hw
  obtain ⟨f1, f2, f3⟩ := hf
  (repeat' (first | ((with_reducible first | refine cond_dec (fun h => ?_) (fun h => ?_) | refine guardK_dec (fun h => ?_) (fun h => ?_) | refine guardD3_dec (fun h => ?_) (fun h => ?_)) <;> first | (exfalso; omega) | (simp (maxSteps := 2000000) (disch := first | omega | assumption | exact idP rfl | exact idP (bL rfl)) only [go_sem, reduceIte, Nat.reduceEqDiff, wpV_kd, wpV_tH, h]) | skip) | ((with_reducible first | refine cond_split (fun h => ?_) (fun h => ?_) | refine guardK_split (fun h => ?_) (fun h => ?_) | refine guardD3_split (fun h => ?_) (fun h => ?_)) <;> ((try simp only [Bool.not_eq_true', Bool.not_eq_false'] at h); first | (simp (maxSteps := 2000000) (disch := first | omega | assumption | exact idP rfl | exact idP (bL rfl)) only [go_sem, reduceIte, Nat.reduceEqDiff, wpV_kd, wpV_tH, h]) | skip)) | ((with_reducible refine (x_eqVarS ha ha' f1).mono ?_); rintro _ _ ⟨rfl, rfl⟩) | ((with_reducible refine (x_eqRuleS hb hb' f2 f3).mono ?_); rintro _ _ ⟨rfl, rfl⟩) | (with_reducible intro bk hbk; try have hnk := (fresh_set hbk).1) | (simp (maxSteps := 2000000) (disch := first | omega | assumption | exact idP rfl | exact idP (bL rfl)) only [go_sem, reduceIte, Nat.reduceEqDiff, wpV_kd, wpV_tH])))
  all_goals exact hR _ _ (sB) rfl
end Go.M2

namespace Go.M2
open Go.Proofs
variable {M : MH}
def catV {α : Type} (enc : α → List V) (xs : List α) : List V := (xs.map enc).flatten
theorem catV_len {α : Type} {enc : α → List V} {sz : Nat} (he : ∀ x, (enc x).length = sz) : ∀ xs : List α, (catV enc xs).length = xs.length * sz
  | [] => by simp [catV]
  | x :: t => by
    have := catV_len he t
    simp only [catV, List.map_cons, List.flatten_cons, List.length_append, he, List.length_cons, Nat.succ_mul] at this ⊢
    omega
theorem catV_snoc {α : Type} {enc : α → List V} {xs : List α} {x : α} : catV enc (xs ++ [x]) = catV enc xs ++ enc x := by simp [catV]
theorem zeros_cat {α : Type} {enc : α → List V} {z : α} {zs : List AV} (h : enc z = zs.map V.sc) (n : Nat) : (zeros zs n).map V.sc = catV enc (List.replicate n z) := by
  induction n with
  | zero => rfl
  | succ n ih => simp only [zeros, catV, List.replicate_succ, List.flatten_cons, List.map_append, List.map_cons] at ih ⊢; rw [ih, h]
theorem cat_set {α : Type} {enc : α → List V} {z x : α} {xs : List α} {sz m o : Nat} (he : ∀ x, (enc x).length = sz) (ho : o = xs.length * sz) :
    setAtG (catV enc xs ++ catV enc (List.replicate (m + 1) z)) o (enc x) = catV enc (xs ++ [x]) ++ catV enc (List.replicate m z) := by
  have h1 := catV_len he xs
  have e1 : catV enc (List.replicate (m + 1) z) = enc z ++ catV enc (List.replicate m z) := by simp [catV, List.replicate_succ]
  rw [e1, setAtG_mid _ _ _ (by simp [he]; omega), catV_snoc, List.take_left' (by omega)]
  congr 1
  rw [← List.append_assoc, List.drop_left' (by simp [he]; omega)]
theorem x_toVarS {v : V} {xs : List VarS} (hv : XVar v xs) (hl : xs.length ≤ 1048576) : VCall Try.prog n_laws_toVarS [v] M (fun r M' => Gr 3 M M' r (catV encVar xs)) := by
  refine VCall.plain fun R hR => v_laws_toVarS rfl ?_
  have hlen := hv.len fun _ _ h => h.len
  refine sS1 @hlen ?_
  refine mks3 (by omega) (by simp [mostCells]; omega) (by simp [mostCells]; omega) ?_
  intro b3 hb3
  simp (maxSteps := 2000000) (disch := first | omega | assumption | exact idP rfl | exact idP (bL rfl)) only [go_sem, reduceIte, Nat.reduceEqDiff, wpV_kd, wpV_tH, zeros_cat (enc := encVar) (z := ⟨0, 0, 0⟩) (zs := [AV.int .i64 0, AV.int .i64 0, AV.int .i64 0]) rfl]
  have henc : ∀ x, (encVar x).length = 3 := fun x => rfl
  refine loop_k (fun e M' => ∃ i : Nat, i ≤ xs.length ∧ e 0 = v ∧ e 3 = .sc (.sl (some (b3, 0)) xs.length xs.length true 3) ∧ e 4 = .sc (.int .i64 i) ∧ Sub M M' ∧ M' b3 = some (catV encVar (xs.take i) ++ catV encVar (List.replicate (xs.length - i) ⟨0, 0, 0⟩))) (fun e _ => ctrV xs.length (e 4)) ?_ ?_
  · exact ⟨0, by omega, sT0, sT0, by refine sS0 ?_; rfl, (Sub.refl _).set hb3, by refine sS0 ?_; simp [catV]⟩
  · rintro e M1 ⟨i, hi, e0, e3, e4, hsub, hm⟩ K hK
    refine sS4 @e0 @e3 @e4 @hlen ?_
    refine cond_dec (fun h => ?_) (fun h => ?_)
    · have hi' : i < xs.length := by omega
      have hv' := hv.get (by omega)
      have a1 : atN 3 v i = encVar xs[i] := hv'.elt hi'
      refine sS5 @e0 @e3 @e4 @hv'.iaddr @a1 ?_
      refine x_toVar.mono ?_
      rintro _ _ ⟨rfl, rfl⟩
      refine sS4 @e0 @e3 @e4 @hm ?_
      have hti : (xs.take i).length = i := by simp; omega
      refine ⟨henc _, by simp [encVar, oneV, er, oneA], ?_, ?_⟩
      · rw [List.length_append, catV_len henc, catV_len henc, hti, List.length_replicate]; omega
      rw [show xs.length - i = (xs.length - (i + 1)) + 1 by omega, cat_set henc (by rw [hti]), ← take_snoc hi']
      refine sS3 @e0 @e3 @e4 ?_
      exact hK _ _ ⟨i + 1, by omega, sT0, sT0, by refine sS0 ?_; rfl, hsub.set hb3, sT0⟩ (by refine sS2 @ctrV_int @e4 ?_; omega)
    · obtain rfl : i = xs.length := by omega
      simp only [List.take_length, Nat.sub_self, List.replicate_zero] at hm
      refine sS1 @e3 ?_
      exact hR _ _ ⟨hsub, fun b' h' => by simp [blkV] at h'; subst h'; exact hb3, .inr ⟨b3, _, true, rfl, by simpa [catV] using hm, catV_len henc xs⟩⟩
theorem x_toTermS {v : V} {xs : List TermS} (hv : XT v xs) (hl : xs.length ≤ 1048576) : VCall Try.prog n_laws_toTermS [v] M (fun r M' => Gr 4 M M' r (catV encT xs)) := by
  refine VCall.plain fun R hR => v_laws_toTermS rfl ?_
  have hlen := hv.len fun _ _ h => h.len
  refine sS1 @hlen ?_
  refine mks3 (by omega) (by simp [mostCells]; omega) (by simp [mostCells]; omega) ?_
  intro b3 hb3
  simp (maxSteps := 2000000) (disch := first | omega | assumption | exact idP rfl | exact idP (bL rfl)) only [go_sem, reduceIte, Nat.reduceEqDiff, wpV_kd, wpV_tH, zeros_cat (enc := encT) (z := ⟨0, 0, 0, 0⟩) (zs := [AV.int .i64 0, AV.int .i64 0, AV.int .i64 0, AV.int .i64 0]) rfl]
  have henc : ∀ x, (encT x).length = 4 := fun x => rfl
  refine loop_k (fun e M' => ∃ i : Nat, i ≤ xs.length ∧ e 0 = v ∧ e 3 = .sc (.sl (some (b3, 0)) xs.length xs.length true 4) ∧ e 4 = .sc (.int .i64 i) ∧ Sub M M' ∧ M' b3 = some (catV encT (xs.take i) ++ catV encT (List.replicate (xs.length - i) ⟨0, 0, 0, 0⟩))) (fun e _ => ctrV xs.length (e 4)) ?_ ?_
  · exact ⟨0, by omega, sT0, sT0, by refine sS0 ?_; rfl, (Sub.refl _).set hb3, by refine sS0 ?_; simp [catV]⟩
  · rintro e M1 ⟨i, hi, e0, e3, e4, hsub, hm⟩ K hK
    refine sS4 @e0 @e3 @e4 @hlen ?_
    refine cond_dec (fun h => ?_) (fun h => ?_)
    · have hi' : i < xs.length := by omega
      have hv' := hv.get (by omega)
      have a1 : atN 4 v i = encT xs[i] := hv'.elt hi'
      refine sS5 @e0 @e3 @e4 @hv'.iaddr @a1 ?_
      refine x_toTerm.mono ?_
      rintro _ _ ⟨rfl, rfl⟩
      refine sS4 @e0 @e3 @e4 @hm ?_
      have hti : (xs.take i).length = i := by simp; omega
      refine ⟨henc _, by simp [encT, oneV, er, oneA], ?_, ?_⟩
      · rw [List.length_append, catV_len henc, catV_len henc, hti, List.length_replicate]; omega
      rw [show xs.length - i = (xs.length - (i + 1)) + 1 by omega, cat_set henc (by rw [hti]), ← take_snoc hi']
      refine sS3 @e0 @e3 @e4 ?_
      exact hK _ _ ⟨i + 1, by omega, sT0, sT0, by refine sS0 ?_; rfl, hsub.set hb3, sT0⟩ (by refine sS2 @ctrV_int @e4 ?_; omega)
    · obtain rfl : i = xs.length := by omega
      simp only [List.take_length, Nat.sub_self, List.replicate_zero] at hm
      refine sS1 @e3 ?_
      exact hR _ _ ⟨hsub, fun b' h' => by simp [blkV] at h'; subst h'; exact hb3, .inr ⟨b3, _, true, rfl, by simpa [catV] using hm, catV_len henc xs⟩⟩
theorem catV_at {α : Type} {enc : α → List V} {sz : Nat} (he : ∀ x, (enc x).length = sz) {xs : List α} {i : Nat} (hi : i < xs.length) : ((catV enc xs).drop (i * sz)).take sz = enc xs[i] := by
  have e1 : xs = xs.take i ++ xs[i] :: xs.drop (i + 1) := by rw [← List.drop_eq_getElem_cons hi, List.take_append_drop]
  have e2 : catV enc xs = catV enc (xs.take i) ++ (enc xs[i] ++ catV enc (xs.drop (i + 1))) := by
    have e3 : catV enc xs = catV enc (xs.take i ++ xs[i] :: xs.drop (i + 1)) := congrArg (catV enc) e1
    rw [e3]
    simp only [catV, List.map_append, List.map_cons, List.flatten_append, List.flatten_cons]
  have h3 := catV_len he (xs.take i)
  have h4 : (xs.take i).length = i := by simp; omega
  rw [e2, List.drop_left' (by rw [h3, h4]), List.take_left' (he _)]
theorem f_toVarS {v : V} {xs : List VarS} (hv : XVar v xs) (hl : xs.length ≤ 1048576) : VCall Try.prog n_laws_toVarS [v] M (fun r M' => M = M' ∧ LVar r xs) :=
  (VCall.fr1 (x_toVarS hv hl)).mono fun r M' ⟨h1, h2⟩ => ⟨h1, h2.lc (by omega) (catV_len (sz := 3) (enc := encVar) (fun _ => rfl) xs) fun i hi => catV_at (sz := 3) (enc := encVar) (fun _ => rfl) hi⟩
theorem f_toTermS {v : V} {xs : List TermS} (hv : XT v xs) (hl : xs.length ≤ 1048576) : VCall Try.prog n_laws_toTermS [v] M (fun r M' => M = M' ∧ LT r xs) :=
  (VCall.fr1 (x_toTermS hv hl)).mono fun r M' ⟨h1, h2⟩ => ⟨h1, h2.lc (by omega) (catV_len (sz := 4) (enc := encT) (fun _ => rfl) xs) fun i hi => catV_at (sz := 4) (enc := encT) (fun _ => rfl) hi⟩
end Go.M2

namespace Go.M2
open Go.Proofs
variable {M : MH}
theorem f_toTermSS {v : V} {xs : List (List TermS)} (hv : XTT v xs) (hl : xs.length ≤ 1048576) (hx : ∀ ts ∈ xs, ts.length ≤ 1048576) : VCall Try.prog n_laws_toTermSS [v] M (fun r M' => M = M' ∧ LTT r xs) := by
  refine VCall.froz fun R hP hG => v_laws_toTermSS rfl ?_
  have hlen := hv.len fun _ _ h => h.len
  refine sS1 @hlen ?_
  refine mks3 (by omega) (by simp [mostCells]; omega) (by simp [mostCells]; omega) ?_
  intro b3 hb3
  simp (maxSteps := 2000000) (disch := first | omega | assumption | exact idP rfl | exact idP (bL rfl)) only [go_sem, reduceIte, Nat.reduceEqDiff, wpV_kd, wpV_tH, zeros_nil]
  refine loop_k (fun e M' => ∃ (i : Nat) (us : List V), i ≤ xs.length ∧ e 0 = v ∧ e 3 = .sc (.sl (some (b3, 0)) xs.length xs.length true 1) ∧ e 4 = .sc (.int .i64 i) ∧ Sub M M' ∧ M' b3 = some (us ++ List.replicate (xs.length - i) nil1) ∧ Cs (fun ts u => LT u ts) us (xs.take i)) (fun e _ => ctrV xs.length (e 4)) ?_ ?_
  · exact ⟨0, [], by omega, sT0, sT0, by refine sS0 ?_; rfl, (Sub.refl _).set hb3, by refine sS0 ?_; simp, .nil⟩
  · rintro e M1 ⟨i, us, hi, e0, e3, e4, hsub, hm, hc⟩ K hK
    have hul : us.length = i := by have := hc.1; simp at this; omega
    refine sS4 @e0 @e3 @e4 @hlen ?_
    refine cond_dec (fun h => ?_) (fun h => ?_)
    · have hi' : i < xs.length := by omega
      have hv' := hv.get (by omega)
      obtain ⟨q, hq⟩ : ∃ q, xs.length - i = q + 1 := ⟨xs.length - i - 1, by omega⟩
      rw [hq, List.replicate_succ] at hm
      refine sS4 @e0 @e3 @e4 @hv'.iaddr ?_
      refine (f_toTermS (hv'.elt hi') (hx _ (List.getElem_mem hi'))).mono ?_
      rintro r _ ⟨rfl, hr⟩
      have hr1 := hr.one.1
      have hr2 := hr.one.2
      have hsm : (us ++ nil1 :: List.replicate q nil1).set i r = us ++ r :: List.replicate q nil1 := set_mid hul
      have hnl3 : i < (us ++ nil1 :: List.replicate q nil1).length := by simp; omega
      refine sS6 @e0 @e3 @e4 @hm @hr2 @hsm ?_
      refine hK _ _ ⟨i + 1, us ++ [r], by omega, sT0, sT0, by refine sS0 ?_; rfl, hsub.set hb3, by refine sS0 ?_; simp [show xs.length - (i + 1) = q by omega], ?_⟩ (by refine sS2 @ctrV_int @e4 ?_; omega)
      rw [take_snoc hi']
      exact hc.snoc hr
    · obtain rfl : i = xs.length := by omega
      rw [List.take_length] at hc
      refine sS1 @e3 ?_
      exact hG _ _ 1 us ⟨hsub, fun b' h' => by simp [blkV] at h'; subst h'; exact hb3, .inr ⟨b3, _, true, rfl, by simpa using hm, by omega⟩⟩ fun u hu => hu.lsC hc
theorem f_toRule {cs : List V} {r : RuleS} (hv : isRuleX r cs) (hf : RuleFit r) : VCall Try.prog n_laws_toRule [.agg cs] M (fun r' M' => M = M' ∧ ∃ ds, r' = .agg ds ∧ isRule r ds) := by
  refine VCall.pure fun R hR => v_laws_toRule rfl ?_
  obtain ⟨a, b, c, rfl, ha, hb, hc⟩ := hv
  obtain ⟨f1, f2, f3, f4⟩ := hf
  refine sS0 ?_
  intro b1 hb1
  try simp (maxSteps := 2000000) (disch := first | omega | assumption | exact idP rfl | exact idP (bL rfl)) only [go_sem, reduceIte, Nat.reduceEqDiff, wpV_kd, wpV_tH]
  intro b2 hb2
  try simp (maxSteps := 2000000) (disch := first | omega | assumption | exact idP rfl | exact idP (bL rfl)) only [go_sem, reduceIte, Nat.reduceEqDiff, wpV_kd, wpV_tH]
  intro b3 hb3
  have n21 := (fresh_set hb2).1
  have n32 := (fresh_set hb3).1
  have n31 := (fresh_set (fresh_set hb3).2).1
  refine sS0 ?_
  refine (f_toTermS ha f1).mono ?_
  rintro x _ ⟨rfl, hx⟩
  have hx1 := hx.one.1
  have hx2 := hx.one.2
  refine sS1 @hx2 ?_
  refine (f_toIntS hb f2).mono ?_
  rintro y _ ⟨rfl, hy⟩
  have hy1 := hy.one.1
  have hy2 := hy.one.2
  refine sS1 @hy2 ?_
  refine (f_toTermSS hc f3 f4).mono ?_
  rintro z _ ⟨rfl, hz⟩
  have hz1 := hz.one.1
  have hz2 := hz.one.2
  refine sS1 @hz2 ?_
  refine hR _ _ ?_ ⟨_, rfl, x, y, z, rfl, hx, hy, hz⟩
  repeat (first | exact Sub.refl _ | assumption | (refine Sub.set ?_ (fresh_set hb2).2) | (refine Sub.set ?_ (fresh_set (fresh_set hb3).2).2) | (refine Sub.set' ?_ (by assumption)))
abbrev T3 := {l : List V // l.length = 3}
def z3 : T3 := ⟨[nil1, nil1, nil1], rfl⟩
theorem f_toRuleS {v : V} {xs : List RuleS} (hv : XR v xs) (hl : xs.length ≤ 1048576) (hx : ∀ r ∈ xs, RuleFit r) : VCall Try.prog n_laws_toRuleS [v] M (fun r M' => M = M' ∧ LR r xs) := by
  refine VCall.froz fun R hP hG => v_laws_toRuleS rfl ?_
  have hlen := hv.len fun _ _ h => h.len
  have henc : ∀ x : T3, x.val.length = 3 := fun x => x.property
  refine sS1 @hlen ?_
  refine mks3 (by omega) (by simp [mostCells]; omega) (by simp [mostCells]; omega) ?_
  intro b3 hb3
  simp (maxSteps := 2000000) (disch := first | omega | assumption | exact idP rfl | exact idP (bL rfl)) only [go_sem, reduceIte, Nat.reduceEqDiff, wpV_kd, wpV_tH, zeros_cat (enc := fun x : T3 => x.val) (z := z3) (zs := [AV.sl none 0 0 true 0, AV.sl none 0 0 true 0, AV.sl none 0 0 true 0]) rfl]
  refine loop_k (fun e M' => ∃ (i : Nat) (us : List T3), i ≤ xs.length ∧ us.length = i ∧ e 0 = v ∧ e 3 = .sc (.sl (some (b3, 0)) xs.length xs.length true 3) ∧ e 4 = .sc (.int .i64 i) ∧ Sub M M' ∧ M' b3 = some (catV (fun x : T3 => x.val) us ++ catV (fun x : T3 => x.val) (List.replicate (xs.length - i) z3)) ∧ ∀ j (h1 : j < xs.length) (h2 : j < us.length), isRule xs[j] us[j].val) (fun e _ => ctrV xs.length (e 4)) ?_ ?_
  · exact ⟨0, [], by omega, rfl, sT0, sT0, by refine sS0 ?_; rfl, (Sub.refl _).set hb3, by refine sS0 ?_; simp [catV], fun j _ h => by simp at h⟩
  · rintro e M1 ⟨i, us, hi, hul, e0, e3, e4, hsub, hm, hc⟩ K hK
    refine sS4 @e0 @e3 @e4 @hlen ?_
    refine cond_dec (fun h => ?_) (fun h => ?_)
    · have hi' : i < xs.length := by omega
      have hv' := hv.get (by omega)
      have hcs := hv'.elt hi'
      have hrule := hcs
      obtain ⟨c1, c2, c3, hat, _, _, _⟩ := hcs
      rw [hat] at hrule
      refine sS5 @e0 @e3 @e4 @hv'.iaddr @hat ?_
      refine (f_toRule hrule (hx _ (List.getElem_mem hi'))).mono ?_
      rintro _ _ ⟨rfl, ds, rfl, hr⟩
      have hr0 := hr
      obtain ⟨x, y, z, rfl, hx1, hx2, hx3⟩ := hr
      refine sS4 @e0 @e3 @e4 @hm ?_
      refine ⟨rfl, by simp [hx1.one.1, hx2.one.1, hx3.one.1], ?_, ?_⟩
      · rw [List.length_append, catV_len henc, catV_len henc, hul, List.length_replicate]; omega
      rw [show xs.length - i = (xs.length - (i + 1)) + 1 by omega, cat_set (x := (⟨[x, y, z], rfl⟩ : T3)) henc (by rw [hul])]
      refine sS3 @e0 @e3 @e4 ?_
      refine hK _ _ ⟨i + 1, us ++ [⟨[x, y, z], rfl⟩], by omega, by simp [hul], sT0, sT0, by refine sS0 ?_; rfl, hsub.set hb3, sT0, fun j h1 h2 => ?_⟩ (by refine sS2 @ctrV_int @e4 ?_; omega)
      by_cases hj : j < us.length
      · rw [List.getElem_append_left hj]; exact hc j h1 hj
      · obtain rfl : j = us.length := by simp at h2; omega
        subst hul
        simpa using hr0
    · obtain rfl : i = xs.length := by omega
      refine sS1 @e3 ?_
      exact hG _ _ 3 (catV (fun x : T3 => x.val) us) ⟨hsub, fun b' h' => by simp [blkV] at h'; subst h'; exact hb3, .inr ⟨b3, _, true, rfl, by simpa [catV] using hm, by rw [catV_len henc, hul]⟩⟩ fun u hu => hu.lc (by omega) (by rw [catV_len henc, hul]) fun j hj => by rw [catV_at henc (by omega)]; exact hc j hj (by omega)
theorem f_toSystem {v : V} {s : SysS} (hv : isSysX s v) (hf : SysFit s) : VCall Try.prog n_laws_toSystem [v] M (fun r' M' => M = M' ∧ isSys s r') := by
  refine VCall.pure fun R hR => v_laws_toSystem rfl ?_
  obtain ⟨a, b, rfl, ha, hb⟩ := hv
  obtain ⟨f1, f2, f3⟩ := hf
  refine sS0 ?_
  intro b1 hb1
  try simp (maxSteps := 2000000) (disch := first | omega | assumption | exact idP rfl | exact idP (bL rfl)) only [go_sem, reduceIte, Nat.reduceEqDiff, wpV_kd, wpV_tH]
  intro b2 hb2
  try simp (maxSteps := 2000000) (disch := first | omega | assumption | exact idP rfl | exact idP (bL rfl)) only [go_sem, reduceIte, Nat.reduceEqDiff, wpV_kd, wpV_tH]
  intro b3 hb3
  have n21 := (fresh_set hb2).1
  have n32 := (fresh_set hb3).1
  have n31 := (fresh_set (fresh_set hb3).2).1
  refine sS0 ?_
  refine (f_toVarS ha f1).mono ?_
  rintro x _ ⟨rfl, hx⟩
  have hx1 := hx.one.1
  have hx2 := hx.one.2
  refine sS1 @hx2 ?_
  refine (f_toRuleS hb f2 f3).mono ?_
  rintro y _ ⟨rfl, hy⟩
  have hy1 := hy.one.1
  have hy2 := hy.one.2
  refine sS1 @hy2 ?_
  refine hR _ _ ?_ ⟨x, y, rfl, hx, hy⟩
  repeat (first | exact Sub.refl _ | assumption | (refine Sub.set ?_ (fresh_set hb2).2) | (refine Sub.set ?_ (fresh_set (fresh_set hb3).2).2) | (refine Sub.set' ?_ (by assumption)))
end Go.M2

namespace Go.M2
open Go.Proofs
variable {M : MH}
theorem Mem.base {M0 M1 M : MH} {f : List (Nat × List V)} (h : Mem M1 M f) (hs : Sub M0 M1) : Mem M0 M f := ⟨hs.trans h.sub, fun p hp => hs.none (h.new p hp), h.nd, h.at_⟩
theorem Mem.tail {M0 M : MH} {p : Nat × List V} {f : List (Nat × List V)} (h : Mem M0 M (p :: f)) : Mem M0 M f := Mem.right (f := [p]) h
theorem Mem.hd {M0 M : MH} {b : Nat} {l : List V} {f : List (Nat × List V)} (h : Mem M0 M ((b, l) :: f)) : M b = some l := h.at_ _ (List.mem_cons_self ..)
def One (v : V) : Prop := oneV v = true ∧ cellsV v = some [v]
theorem Ow.flat {sz : Nat} {M : MH} {v : V} {l : List V} (h : Ow sz M v l) : flat v := by
  rcases h with ⟨_, k, rfl⟩ | ⟨b, n, ex, rfl, _⟩ <;> simp [Go.M2.flat]
theorem catV_flat {α : Type} {enc : α → List V} (he : ∀ x, flatL (enc x)) : ∀ xs : List α, flatL (catV enc xs)
  | [] => by simp [catV, flatL]
  | x :: t => flatL_all.2 fun v hv => by
    have ih := catV_flat he t
    simp only [catV, List.map_cons, List.flatten_cons, List.mem_append] at hv
    rcases hv with h1 | h1
    · exact flatL_all.1 (he x) v h1
    · exact flatL_all.1 ih v h1
theorem encT_flat (x : TermS) : flatL (encT x) := by simp [encT, flatL, flat]
end Go.M2

namespace Go.M2
open Go.Proofs
variable {M : MH}
def isU (n : Int) (u : V) : Prop := u = .sc (.int .u8 n) ∧ 0 ≤ n ∧ n ≤ 255
abbrev LU : V → List Int → Prop := Ls isU
abbrev XU : V → List Int → Prop := In LU
theorem LU.at {v : V} {ys : List Int} (h : LU v ys) {i : Nat} (hi : i < ys.length) : ∃ n : Int, at1 v i = .sc (.int .u8 n) ∧ 0 ≤ n ∧ n ≤ 255 := by
  obtain ⟨h1, h2, h3⟩ := h.elt hi
  exact ⟨_, h1, h2, h3⟩
def rdC (w : V) (p : Int) : List V := [w, .sc (.int .i64 p)]
structure Rdr (w : V) (code : List Int) : Prop where
  u : XU w code
  l : code.length ≤ 2000
end Go.M2

namespace Go.M2
open Go.Proofs
variable {M : MH}
section
variable {M0 M M' : MH} {rb : Nat} {X Y l : List V}
theorem Sub.rd (h : Sub (M0.set rb X) M) : Sub (M0.set rb Y) (M.set rb Y) := fun b l hb => by
  by_cases e : b = rb
  · subst e; rw [set_same] at hb ⊢; exact hb
  · rw [set_ne e] at hb ⊢; exact h b l (by rw [set_ne e]; exact hb)
theorem Gr.rd {sz : Nat} {s : V} (h : Gr sz (M0.set rb X) M s l) : Gr sz (M0.set rb Y) (M.set rb Y) s l := by
  have hne : ∀ b, blkV s = some b → b ≠ rb := fun b hb e => by
    have := h.new b hb
    rw [e, set_same] at this; cases this
  refine ⟨h.sub.rd, fun b hb => ?_, ?_⟩
  · rw [set_ne (hne b hb)]
    have := h.new b hb
    rwa [set_ne (hne b hb)] at this
  · rcases h.own with ⟨e, k, e2⟩ | ⟨b, n, ex, rfl, h1, h2⟩
    · exact .inl ⟨e, k, e2⟩
    · exact .inr ⟨b, n, ex, rfl, by rw [set_ne (hne b rfl)]; exact h1, h2⟩
theorem Mem.rd {fp : List (Nat × List V)} (h : Mem (M0.set rb X) M fp) : Mem (M0.set rb Y) (M.set rb Y) fp := by
  have hne : ∀ p ∈ fp, p.1 ≠ rb := fun p hp e => by
    have := h.new p hp
    rw [e, set_same] at this; cases this
  refine ⟨h.sub.rd, fun p hp => ?_, h.nd, fun p hp => ?_⟩
  · have := h.new p hp
    rw [set_ne (hne p hp)] at this ⊢; exact this
  · rw [set_ne (hne p hp)]; exact h.at_ p hp
end
structure RS (M0 : MH) (rb : Nat) (w : V) (M : MH) (p : Int) : Prop where
  at_ : M rb = some (rdC w p)
  sub : Sub (M0.set rb (rdC w p)) M
section
variable {M0 M M' : MH} {rb b : Nat} {w : V} {p q : Int} {l : List V}
theorem RS.start (h : M rb = some (rdC w p)) : RS M rb w M p := ⟨h, by rw [set_id h]; exact Sub.refl M⟩
theorem RS.set (h : RS M0 rb w M p) (q : Int) : RS M0 rb w (M.set rb (rdC w q)) q := ⟨set_same, h.sub.rd⟩
theorem RS.more (h : RS M0 rb w M p) (hs : Sub M M') : RS M0 rb w M' p := ⟨hs _ _ h.at_, h.sub.trans hs⟩
theorem RS.to (h : RS M0 rb w M p) (hs : Sub (M.set rb (rdC w q)) M') : RS M0 rb w M' q := (h.set q).more hs
theorem RS.ne (h : RS M0 rb w M p) (hb : M b = none) : b ≠ rb := fun e => by rw [e, h.at_] at hb; cases hb
theorem RS.gone (h : RS M0 rb w M p) (hb : M b = none) : M0 b = none := by
  have := h.sub.none hb
  rwa [set_ne (h.ne hb)] at this
end
def fpG (v : V) (l : List V) : List (Nat × List V) := match blkV v with
  | some b => [(b, l)]
  | none => []
def OwS (sz : Nat) (v : V) (l : List V) : Prop := (l = [] ∧ ∃ k, v = .sc (.sl none 0 0 true k)) ∨ ∃ b n ex, v = .sc (.sl (some (b, 0)) n n ex sz) ∧ l.length = n * sz
theorem Ow.sh {sz : Nat} {v : V} {l : List V} (h : Ow sz M v l) : OwS sz v l ∧ ∀ q ∈ fpG v l, M q.1 = some q.2 := by
  rcases h with ⟨rfl, k, rfl⟩ | ⟨b, n, ex, rfl, h1, h2⟩
  · exact ⟨.inl ⟨rfl, k, rfl⟩, fun q hq => (by cases hq)⟩
  · exact ⟨.inr ⟨b, n, ex, rfl, h2⟩, fun q hq => by simp [fpG, blkV] at hq; subst hq; exact h1⟩
theorem OwS.ow {sz : Nat} {v : V} {l : List V} (h : OwS sz v l) (hm : ∀ q ∈ fpG v l, M q.1 = some q.2) : Ow sz M v l := by
  rcases h with ⟨rfl, k, rfl⟩ | ⟨b, n, ex, rfl, h2⟩
  · exact .inl ⟨rfl, k, rfl⟩
  · exact .inr ⟨b, n, ex, rfl, hm (b, l) (by simp [fpG, blkV]), h2⟩
theorem OwS.tr {sz : Nat} {v : V} {l l' : List V} {g : List (Nat × List V)} (h : OwS sz v l) (ht : Tr l l' g) : ∃ u, Tr [v] [u] (fpG v l ++ g) ∧ Fr sz u l' := by
  rcases h with ⟨rfl, k, rfl⟩ | ⟨b, n, ex, rfl, h2⟩
  · cases ht
    exact ⟨_, .refl _, .inl ⟨rfl, k, rfl⟩⟩
  · exact ⟨_, by simpa [fpG, blkV] using Tr.sl (o := 0) (n := n) (c := n) (k := sz) (ex := ex) (b := b) ht .nil, .inr ⟨(b, 0), n, n, ex, sz, by simp, by rw [ht.len, h2]⟩⟩
theorem OwS.one {sz : Nat} {v : V} {l : List V} (h : OwS sz v l) : One v := by
  rcases h with ⟨rfl, k, rfl⟩ | ⟨b, n, ex, rfl, h2⟩ <;> exact ⟨rfl, rfl⟩
theorem Mem.app {B M M' : MH} {sz' : Nat} {s s' : V} {l l' : List V} {f : List (Nat × List V)} (h : Mem B M (fpG s l ++ f)) (hg : Gr sz' B M' s' l') (ho : Oth M M' s s') : Mem B M' (fpG s' l' ++ f) := by
  have hf := h.right
  have hsf : ∀ p ∈ f, blkV s ≠ some p.1 := fun p hp e => by
    have hnd := h.nd
    simp only [fpG, e, Nd2, List.cons_append, List.nil_append, List.map_cons, List.nodup_cons, List.mem_map] at hnd
    exact hnd.1 ⟨p, hp, rfl⟩
  have hat : ∀ p ∈ f, M' p.1 = some p.2 := fun p hp => (ho _ _ (hf.at_ p hp) (hsf p hp)).1
  have hne : ∀ p ∈ f, blkV s' ≠ some p.1 := fun p hp => (ho _ _ (hf.at_ p hp) (hsf p hp)).2
  refine ⟨hg.sub, fun p hp => ?_, ?_, fun p hp => ?_⟩
  · rcases List.mem_append.1 hp with h1 | h1
    · exact hg.new _ (by simp only [fpG] at h1; split at h1 <;> simp_all)
    · exact hf.new p h1
  · cases hb : blkV s' with
    | none => simpa [fpG, hb] using hf.nd
    | some b =>
      simp only [fpG, hb, Nd2, List.cons_append, List.nil_append, List.map_cons, List.nodup_cons, List.mem_map]
      exact ⟨fun ⟨p, hp, e⟩ => hne p hp (by rw [hb, e]), hf.nd⟩
  · rcases List.mem_append.1 hp with h1 | h1
    · exact hg.own.sh.2 p h1
    · exact hat p h1
theorem Gr.mem {B M : MH} {sz : Nat} {s : V} {l : List V} (h : Gr sz B M s l) : Mem B M (fpG s l) := by
  refine ⟨h.sub, fun p hp => h.new _ (by simp only [fpG] at hp; split at hp <;> simp_all), ?_, fun p hp => h.own.sh.2 p hp⟩
  unfold fpG
  split <;> simp [Nd2]
theorem Mem.gr {B M : MH} {sz : Nat} {s : V} {l : List V} {f : List (Nat × List V)} (h : Mem B M (fpG s l ++ f)) (ho : OwS sz s l) : Gr sz B M s l :=
  ⟨h.sub, fun b hb => h.new (b, l) (List.mem_append_left _ (by simp [fpG, hb])), ho.ow fun q hq => h.at_ q (List.mem_append_left _ hq)⟩
section
variable {P : Program} {f : FuncId} {args : List V}
theorem VCall.frB {q : MH → V → Prop} (h : VCall P f args M (fun r M' => ∃ B r' g, Tr [r] [r'] g ∧ Mem B M' g ∧ q B r')) : VCall P f args M (fun r M' => q M' r) :=
  VCall.of fun R hR => h.mono fun r M' => by
    rintro ⟨B, r', g, h1, h2, h3⟩
    let M1 : MH := fun i => if inF g i then M' i else B i
    have e : delF M1 g = B := by
      funext i
      simp only [delF, M1]
      split
      · rename_i hin
        obtain ⟨l, hl⟩ := inF_iff.1 hin
        exact (h2.new _ hl).symm
      · rfl
    have hz := h1.fz (M := M1) (fun q hq => by simp only [M1]; rw [if_pos (inF_iff.2 ⟨q.2, hq⟩)]; exact h2.at_ q hq) h2.nd
    rw [e] at hz
    refine hR r r' M' M1 B (fun i l hi => ?_) hz h3
    simp only [M1] at hi
    split at hi
    · exact hi
    · exact h2.sub _ _ hi
variable {args' : List V} {R R' : V → MH → Prop} {fp : List (Nat × List V)}
end
section
variable {P : Program} {f : FuncId} {a1 a2 : List V} {rb : Nat} {w : V} {p : Int}
end
end Go.M2

namespace Go.M2
open Go.Proofs
variable {M : MH}
def DT (p d : Int) (m n : Nat) (c : List V) (p' : Int) : Prop := p ≤ p' ∧ p' ≤ p + d ∧ ∃ ts : List TermS, c = catV encT ts ∧ m ≤ ts.length ∧ ts.length ≤ n
theorem DT.flat {p d p' : Int} {m n : Nat} {c : List V} (h : DT p d m n c p') : flatL c := by
  obtain ⟨_, _, ts, rfl, _⟩ := h
  exact catV_flat encT_flat ts
theorem t_TermsValid {v : V} {ts : List TermS} {vars : Int} (hv : LT v ts) : VCall Try.prog n_spec_TermsValid [v, .sc (.int .i64 vars)] M (fun r M' => M = M' ∧ r = .sc (.bool (kindsF vars ts).isSome)) := by
  refine VCall.pure fun R hR => v_spec_TermsValid rfl ?_
  refine sS0 ?_
  refine (t_KindsOf hv).mono ?_
  rintro r _ ⟨rfl, hr⟩
  cases hk : kindsF vars ts with
  | none =>
    rw [hk] at hr
    simp only [kRes] at hr
    subst hr
    refine sS0 ?_
    exact hR _ _ (sB) (by simp [hk])
  | some ks =>
    rw [hk] at hr
    have hr : LI r ks := hr
    obtain ⟨_, _, q1, q2, _, q3⟩ := kindsF_some hk
    refine sS1 @hr.len ?_
    exact hR _ _ (sB) (by refine eqB ?_; simp only [decide_eq_true_eq, hk, Option.isSome_some, iff_true]; omega)
end Go.M2

namespace Go.M2
open Go.Proofs
variable {M : MH}
theorem SysFit.sz {s : SysS} (h : SysFit s) : SysSz s := ⟨h.1, h.2.1, fun r hr => (h.2.2 r hr).2.1⟩
end Go.M2

namespace Go.M2
open Go.Proofs
def EV {α : Type} (E : α → List V → Prop) : Heap → α → List AV → Prop := fun H x cs => ∃ vs : List V, erl vs = cs ∧ okL H vs ∧ E x vs
theorem erl_len : ∀ l : List V, (erl l).length = l.length
  | [] => rfl
  | v :: t => by simp only [erl, List.length_cons, erl_len t]
theorem erl_app : ∀ a b : List V, erl (a ++ b) = erl a ++ erl b
  | [], b => rfl
  | v :: t, b => by simp only [List.cons_append, erl, erl_app t b]
theorem okL_app {H : Heap} : ∀ {a b : List V}, okL H a → okL H b → okL H (a ++ b)
  | [], b, _, h => h
  | v :: t, b, h, k => by
    simp only [List.cons_append, okL] at h ⊢
    exact ⟨h.1, okL_app h.2 k⟩
theorem lift_cells {α : Type} {E : α → List V → Prop} {H : Heap} {b sz : Nat} : ∀ {xs : List α} {o : Nat}, (∀ i (h : i < xs.length), ∃ cs, cs.length = sz ∧ Rd H b (o + i * sz) cs ∧ EV E H xs[i] cs) →
    ∃ vs : List V, vs.length = xs.length * sz ∧ Rd H b o (erl vs) ∧ okL H vs ∧ ∀ i (h : i < xs.length), E xs[i] ((vs.drop (i * sz)).take sz)
  | [], o, _ => ⟨[], by simp, Rd.nil _ _ _, by simp [okL], fun i h => by simp at h⟩
  | x :: t, o, h => by
    obtain ⟨cs, h1, h2, us, h3, h4, h5⟩ := h 0 (by simp)
    obtain ⟨vs, k1, k2, k3, k4⟩ := lift_cells (xs := t) (o := o + sz) (E := E) (H := H) (b := b) (sz := sz) (fun i hi => by
      obtain ⟨cs, q1, q2, q3⟩ := h (i + 1) (by simp; omega)
      exact ⟨cs, q1, by rw [show o + sz + i * sz = o + (i + 1) * sz by rw [Nat.succ_mul]; omega]; exact q2, by simpa using q3⟩)
    have hu : us.length = sz := by rw [← erl_len, h3]; exact h1
    refine ⟨us ++ vs, by simp [hu, k1, Nat.succ_mul]; omega, ?_, okL_app h4 k3, fun i hi => ?_⟩
    · intro i y hy
      rw [erl_app] at hy
      by_cases hlt : i < (erl us).length
      · rw [List.getElem?_append_left hlt, h3] at hy
        have := h2 i y hy
        simpa using this
      · rw [List.getElem?_append_right (by omega)] at hy
        have e1 : (erl us).length = sz := by rw [erl_len]; exact hu
        rw [e1] at hy hlt
        have := k2 (i - sz) y hy
        rwa [show o + sz + (i - sz) = o + i by omega] at this
    · cases i with
      | zero => simpa [List.take_left' hu] using h5
      | succ i =>
        have := k4 i (by simpa using hi)
        have e2 : (us ++ vs).drop ((i + 1) * sz) = vs.drop (i * sz) := by
          rw [show (i + 1) * sz = us.length + i * sz by rw [Nat.succ_mul, hu]; omega, List.drop_append]
          simp
        rw [e2]
        simpa using this
theorem lift_slice {α : Type} {E : α → List V → Prop} {H : Heap} {sz : Nat} {v : AV} {xs : List α} (h : InS sz (EV E) H v xs) : ∃ v', er v' = v ∧ okV H v' ∧ In (Lc sz E) v' xs := by
  rcases h with ⟨A, c, ex, k, rfl, h⟩ | ⟨rfl, rfl⟩
  · obtain ⟨vs, h1, h2, h3, h4⟩ := lift_cells h
    exact ⟨.fs A xs.length c ex k vs, rfl, by simp only [okV]; exact ⟨h2, h3⟩, .inl (.inr ⟨A, c, ex, k, vs, rfl, by omega, fun i hi => h4 i hi⟩)⟩
  · exact ⟨.sc .emp, rfl, by simp [okV], .inr ⟨rfl, rfl⟩⟩
def E1 {α : Type} (E : α → V → Prop) : α → List V → Prop := fun a cs => ∃ u, cs = [u] ∧ E a u
theorem lc1_ls {α : Type} {E : α → V → Prop} {v : V} {ys : List α} (h : Lc 1 (E1 E) v ys) : Ls E v ys := by
  rcases h with h | ⟨A, c, ex, k, xs, rfl, hl, h⟩
  · exact .inl h
  · refine .inr ⟨A, c, ex, k, xs, rfl, by omega, fun i hi => ?_⟩
    obtain ⟨u, h1, h2⟩ := h i hi
    have h3 : xs[i]? = some u := by
      have := congrArg (fun l => l[0]?) h1
      simpa [atN, List.getElem?_take, List.getElem?_drop] using this
    have h4 : at1 (.fs A ys.length c ex k xs) i = u := by
      simp [at1, List.getD_eq_getElem?_getD, h3]
    rw [h4]; exact h2
section
open Go.ChangeShapes Go.WideShapes Go.ChangeAt Go.RowKit
variable {HH : Type} {enc : TypeId × Value → HH} {P : Program} {W : World} {t e : TypeId} {fuel : Nat} {cs : List Value} {x : DataW HH × List MemPlace}
def LiftE {α : Type} (W : World) (E : α → List V → Prop) (a : α) (cs : List Value) : Prop := ∃ vs, erl vs = cs.map (avC W.heap.size) ∧ okL (heap0 W) vs ∧ E a vs
theorem in_list {α : Type} {E : α → List V → Prop} {good : α → Prop} {sz : Nat} (ht : P.underlying t = some (.slice e)) (hsz : P.cellsOf e = sz) (h0 : 0 < sz)
    (he : ∀ n cs x, DataW.trod enc P W 0 (fun _ => true) true n e cs = some x → ∃ a, LiftE W E a cs ∧ good a)
    (h : DataW.trod enc P W 0 (fun _ => true) true fuel t cs = some x) : ∃ xs : List α, LiftE W (E1 (fun (ys : List α) u => In (Lc sz E) u ys)) xs cs ∧ (xs.length ≤ 9223372036854775807 ∧ ∀ a ∈ xs, good a) := by
  obtain ⟨v, xs, rfl, h1, h2, h3⟩ := in_slice (E := EV E) (good := good) ht hsz h0 (fun n cs x hx => by
    obtain ⟨a, ⟨vs, h1, h2, h3⟩, h4⟩ := he n cs x hx
    exact ⟨a, ⟨vs, h1, h2, h3⟩, h4⟩) h
  obtain ⟨u, k1, k2, k3⟩ := lift_slice h1
  exact ⟨xs, ⟨[u], by simp [erl, k1], by simp only [okL]; exact ⟨k2, trivial⟩, u, rfl, k3⟩, h3, h2⟩
theorem in_list1 {α : Type} {E : α → V → Prop} {good : α → Prop} (ht : P.underlying t = some (.slice e)) (hsz : P.cellsOf e = 1)
    (he : ∀ n cs x, DataW.trod enc P W 0 (fun _ => true) true n e cs = some x → ∃ a, LiftE W (E1 E) a cs ∧ good a)
    (h : DataW.trod enc P W 0 (fun _ => true) true fuel t cs = some x) : ∃ xs : List α, LiftE W (E1 (fun (ys : List α) u => In (Ls E) u ys)) xs cs ∧ (xs.length ≤ 9223372036854775807 ∧ ∀ a ∈ xs, good a) := by
  obtain ⟨xs, ⟨vs, h1, h2, u, rfl, h3⟩, h4⟩ := in_list ht hsz (by omega) he h
  exact ⟨xs, ⟨[u], h1, h2, u, rfl, h3.imp lc1_ls id⟩, h4⟩
theorem in_n (ht : P.underlying t = some (.int .i64)) (h : DataW.trod enc P W 0 (fun _ => true) true fuel t cs = some x) : ∃ n, LiftE W (E1 isI) n cs ∧ (-9223372036854775808 ≤ n ∧ n ≤ 9223372036854775807) := by
  obtain ⟨n, rfl, h1⟩ := in_int ht h
  exact ⟨n, ⟨[.sc (.int .i64 n)], rfl, by simp [okL, okV], _, rfl, rfl⟩, h1⟩
theorem LiftE.one {α : Type} {E : α → V → Prop} {a : α} {c : Value} (h : LiftE W (E1 E) a [c]) : ∃ u, er u = avC W.heap.size c ∧ okV (heap0 W) u ∧ E a u := by
  obtain ⟨vs, h1, h2, u, rfl, h3⟩ := h
  simp only [erl, List.map_cons, List.map_nil, List.cons.injEq, and_true] at h1
  simp only [okL] at h2
  exact ⟨u, h1, h2.1, h3⟩
end
theorem calls_of_vcall {P : Program} {f : FuncId} {vs : List Value} {vv : List V} {W : World} (h : VCall P f vv (fun _ => none) (fun r M' => (fun _ => none) = M' ∧ r = .sc (.bool true)))
    (he : vv.map er = vs.map (avT W.heap.size)) (ho : okL (heap0 W) vv) : Calls P f vs.toArray W (fun e w' => e = .returned (.bool true) ∧ Go.RowKit.Below W.heap.size W w') := by
  refine calls_of_acall ?_
  rw [← he]
  refine (h (heap0 W) (heap0 W) ⟨rfl, fun b _ => .inr rfl, fun b l hb => by cases hb⟩ ho).mono ?_
  rintro a H' ⟨r, M', F', rfl, _, _, _, _, rfl⟩
  rfl
end Go.M2

namespace Go.M2
open Go.Proofs
open Go.ChangeShapes Go.WideShapes Go.ChangeAt Go.RowKit
variable {HH : Type} {enc : TypeId × Value → HH} {W : World} {fuel : Nat} {cs : List Value} {x : DataW HH × List MemPlace}
theorem list4 {α : Type} {l : List α} (h : l.length = 4) : ∃ a b c d, l = [a, b, c, d] := by
  match l, h with
  | [a, b, c, d], _ => exact ⟨a, b, c, d, rfl⟩
theorem list3 {α : Type} {l : List α} (h : l.length = 3) : ∃ a b c, l = [a, b, c] := by
  match l, h with
  | [a, b, c], _ => exact ⟨a, b, c, rfl⟩
theorem in_i64 (h : DataW.trod enc Try.prog W 0 (fun _ => true) true fuel 3 cs = some x) : ∃ n : Int, cs = [.int .i64 n] := by
  obtain ⟨n, h1, _⟩ := in_int Try.underlying3 h
  exact ⟨n, h1⟩
theorem in_term (h : DataW.trod enc Try.prog W 0 (fun _ => true) true fuel 138 cs = some x) : ∃ t : TermS, LiftE W isT t cs ∧ True := by
  have c3 : Try.prog.cellsOf 3 = 1 := by kernel_rfl
  obtain ⟨xs, n, _, _, hl, hxl, hf⟩ := DataW.trod_struct Try.underlying138 h
  have hxl : xs.length = 4 := hxl
  have hl : cs.length = 4 := hl.trans (by kernel_rfl)
  obtain ⟨a, b, c, d, rfl⟩ := list4 hl
  have f0 := hf 0 ⟨ "Op", 3, 0, false, "", "", 0⟩ rfl
  have f1 := hf 1 ⟨ "N", 3, 1, false, "", "", 8⟩ rfl
  have f2 := hf 2 ⟨ "A", 3, 2, false, "", "", 16⟩ rfl
  have f3 := hf 3 ⟨ "B", 3, 3, false, "", "", 24⟩ rfl
  rw [List.getElem?_eq_getElem (by omega), c3] at f0 f1 f2 f3
  obtain ⟨n0, e0⟩ := in_i64 f0
  obtain ⟨n1, e1⟩ := in_i64 f1
  obtain ⟨n2, e2⟩ := in_i64 f2
  obtain ⟨n3, e3⟩ := in_i64 f3
  simp only [List.drop_zero, List.drop_succ_cons, List.take_succ_cons, List.take_zero, List.cons.injEq, and_true] at e0 e1 e2 e3
  subst e0 e1 e2 e3
  exact ⟨⟨n0, n1, n2, n3⟩, ⟨encT ⟨n0, n1, n2, n3⟩, rfl, by simp [encT, okL, okV], rfl⟩, trivial⟩
theorem in_var (h : DataW.trod enc Try.prog W 0 (fun _ => true) true fuel 93 cs = some x) : ∃ t : VarS, LiftE W isVar t cs ∧ True := by
  have c3 : Try.prog.cellsOf 3 = 1 := by kernel_rfl
  obtain ⟨xs, n, _, _, hl, hxl, hf⟩ := DataW.trod_struct Try.underlying93 h
  have hxl : xs.length = 3 := hxl
  have hl : cs.length = 3 := hl.trans (by kernel_rfl)
  obtain ⟨a, b, c, rfl⟩ := list3 hl
  have f0 := hf 0 ⟨ "Low", 3, 0, false, "", "", 0⟩ rfl
  have f1 := hf 1 ⟨ "High", 3, 1, false, "", "", 8⟩ rfl
  have f2 := hf 2 ⟨ "First", 3, 2, false, "", "", 16⟩ rfl
  rw [List.getElem?_eq_getElem (by omega), c3] at f0 f1 f2
  obtain ⟨n0, e0⟩ := in_i64 f0
  obtain ⟨n1, e1⟩ := in_i64 f1
  obtain ⟨n2, e2⟩ := in_i64 f2
  simp only [List.drop_zero, List.drop_succ_cons, List.take_succ_cons, List.take_zero, List.cons.injEq, and_true] at e0 e1 e2
  subst e0 e1 e2
  exact ⟨⟨n0, n1, n2⟩, ⟨encVar ⟨n0, n1, n2⟩, rfl, by simp [encVar, okL, okV], rfl⟩, trivial⟩
theorem in_ints (h : DataW.trod enc Try.prog W 0 (fun _ => true) true fuel 26 cs = some x) : ∃ ns : List Int, LiftE W (E1 (fun (ys : List Int) u => XI u ys)) ns cs ∧ LenOk ns := by
  obtain ⟨ns, h1, h2, _⟩ := in_list1 (E := isI) (good := fun n => -9223372036854775808 ≤ n ∧ n ≤ 9223372036854775807) Try.underlying26 (by kernel_rfl) (fun n cs x h => in_n Try.underlying3 h) h
  exact ⟨ns, h1, h2⟩
theorem in_terms (h : DataW.trod enc Try.prog W 0 (fun _ => true) true fuel 84 cs = some x) : ∃ ts : List TermS, LiftE W (E1 (fun (ys : List TermS) u => XT u ys)) ts cs ∧ LenOk ts := by
  obtain ⟨ns, h1, h2, _⟩ := in_list (E := isT) (good := fun _ => True) (sz := 4) Try.underlying84 (by kernel_rfl) (by omega) (fun n cs x h => in_term h) h
  exact ⟨ns, h1, h2⟩
theorem in_vars (h : DataW.trod enc Try.prog W 0 (fun _ => true) true fuel 22 cs = some x) : ∃ ts : List VarS, LiftE W (E1 (fun (ys : List VarS) u => XVar u ys)) ts cs ∧ LenOk ts := by
  obtain ⟨ns, h1, h2, _⟩ := in_list (E := isVar) (good := fun _ => True) (sz := 3) Try.underlying22 (by kernel_rfl) (by omega) (fun n cs x h => in_var h) h
  exact ⟨ns, h1, h2⟩
theorem in_termss (h : DataW.trod enc Try.prog W 0 (fun _ => true) true fuel 85 cs = some x) : ∃ ts : List (List TermS), LiftE W (E1 (fun (ys : List (List TermS)) u => XTT u ys)) ts cs ∧ (LenOk ts ∧ ∀ t ∈ ts, LenOk t) :=
  in_list1 (E := fun (ts : List TermS) u => XT u ts) (good := fun ts => LenOk ts) Try.underlying85 (by kernel_rfl) (fun n cs x h => in_terms h) h
theorem in_rule (h : DataW.trod enc Try.prog W 0 (fun _ => true) true fuel 87 cs = some x) : ∃ r : RuleS, LiftE W isRuleX r cs ∧ RuleLen r := by
  obtain ⟨xs, n, _, _, hl, hxl, hf⟩ := DataW.trod_struct Try.underlying87 h
  have hxl : xs.length = 3 := hxl
  have hl : cs.length = 3 := hl.trans (by kernel_rfl)
  have c1 : Try.prog.cellsOf 84 = 1 := by kernel_rfl
  have c2 : Try.prog.cellsOf 26 = 1 := by kernel_rfl
  have c3 : Try.prog.cellsOf 85 = 1 := by kernel_rfl
  obtain ⟨a, b, c, rfl⟩ := list3 hl
  have f0 := hf 0 ⟨ "When", 84, 0, false, "", "", 0⟩ rfl
  have f1 := hf 1 ⟨ "Sets", 26, 1, false, "", "", 24⟩ rfl
  have f2 := hf 2 ⟨ "Terms", 85, 2, false, "", "", 48⟩ rfl
  rw [List.getElem?_eq_getElem (by omega)] at f0 f1 f2
  simp only [c1, c2, c3, List.drop_zero, List.drop_succ_cons, List.take_succ_cons, List.take_zero] at f0 f1 f2
  obtain ⟨n0, e0, g0⟩ := in_terms f0
  obtain ⟨n1, e1, g1⟩ := in_ints f1
  obtain ⟨n2, e2, g2, g3⟩ := in_termss f2
  obtain ⟨u0, p0, q0, r0⟩ := e0.one
  obtain ⟨u1, p1, q1, r1⟩ := e1.one
  obtain ⟨u2, p2, q2, r2⟩ := e2.one
  exact ⟨⟨n0, n1, n2⟩, ⟨[u0, u1, u2], by simp [erl, p0, p1, p2], by simp only [okL]; exact ⟨q0, q1, q2, trivial⟩, u0, u1, u2, rfl, r0, r1, r2⟩, g0, g1, g2, g3⟩
theorem in_rules (h : DataW.trod enc Try.prog W 0 (fun _ => true) true fuel 23 cs = some x) : ∃ rs : List RuleS, LiftE W (E1 (fun (ys : List RuleS) u => XR u ys)) rs cs ∧ (LenOk rs ∧ ∀ r ∈ rs, RuleLen r) :=
  in_list (E := isRuleX) (good := RuleLen) (sz := 3) Try.underlying23 (by kernel_rfl) (by omega) (fun n cs x h => in_rule h) h
def UpV {α : Type} (W : World) (E : α → V → Prop) (a : α) (v : Value) : Prop := ∃ u, er u = avT W.heap.size v ∧ okV (heap0 W) u ∧ E a u
theorem up_system {v : Value} (hv : ∃ a, v = .agg a) (h : DataW.trod enc Try.prog W 0 (fun _ => true) true fuel 25 v.cells.toList = some x) : ∃ s : SysS, UpV W (fun (s : SysS) u => isSysX s u) s v ∧ SysLen s := by
  obtain ⟨cs, rfl⟩ := hv
  have c1 : Try.prog.cellsOf 22 = 1 := by kernel_rfl
  have c2 : Try.prog.cellsOf 23 = 1 := by kernel_rfl
  obtain ⟨xs, n, _, _, hl, hxl, hf⟩ := DataW.trod_struct Try.underlying25 h
  have hxl : xs.length = 2 := hxl
  have hl : cs.toList.length = 2 := hl.trans (by kernel_rfl)
  obtain ⟨a, b, hab⟩ : ∃ a b, cs.toList = [a, b] := by
    match hcs : cs.toList, hl with
    | [a, b], _ => exact ⟨a, b, rfl⟩
  have f0 := hf 0 ⟨ "Vars", 22, 0, false, "", "", 0⟩ rfl
  have f1 := hf 1 ⟨ "Rules", 23, 1, false, "", "", 24⟩ rfl
  rw [List.getElem?_eq_getElem (by omega)] at f0 f1
  simp only [Value.cells, hab, c1, c2, List.drop_zero, List.drop_succ_cons, List.take_succ_cons, List.take_zero] at f0 f1
  obtain ⟨n0, e0, g0⟩ := in_vars f0
  obtain ⟨n1, e1, g1, g2⟩ := in_rules f1
  obtain ⟨u0, p0, q0, r0⟩ := e0.one
  obtain ⟨u1, p1, q1, r1⟩ := e1.one
  refine ⟨⟨n0, n1⟩, ⟨.agg [u0, u1], ?_, by simp only [okV, okL]; exact ⟨q0, q1, trivial⟩, u0, u1, rfl, r0, r1⟩, g0, g1, g2⟩
  simp [er, erl, avT, hab, p0, p1]
end Go.M2

namespace Go.M2
open Go.Proofs
open Go.ChangeShapes Go.WideShapes Go.ChangeAt Go.RowKit
variable {M : MH}
variable {HH : Type} {enc : TypeId × Value → HH} {W : World} {fuel : Nat} {cs : List Value} {x : DataW HH × List MemPlace}
end Go.M2

namespace Go.M2
open Go.Proofs
variable {M : MH}
end Go.M2

namespace Go.M2
open Go.Proofs
variable {M : MH}
theorem Tr.inv1 {x : V} {l' : List V} {fp : List (Nat × List V)} (h : Tr [x] l' fp) : (l' = [x] ∧ fp = []) ∨ (∃ b o n c ex k cs cs' g, x = .sc (.sl (some (b, o)) n c ex k) ∧ l' = [.fs (some (b, o)) n c ex k (cs'.drop o)] ∧ Tr cs cs' g ∧ fp = (b, cs) :: g) ∨ (∃ a a', l' = [V.agg a'] ∧ x = .agg a) ∨ (∃ a a', l' = [V.tup a'] ∧ x = .tup a) := by
  cases h with
  | keep v h1 => cases h1; exact .inl ⟨rfl, rfl⟩
  | sl h1 h2 => cases h2; exact .inr (.inl ⟨_, _, _, _, _, _, _, _, _, rfl, rfl, h1, by simp⟩)
  | agg h1 h2 => cases h2; exact .inr (.inr (.inl ⟨_, _, rfl, rfl⟩))
  | tup h1 h2 => cases h2; exact .inr (.inr (.inr ⟨_, _, rfl, rfl⟩))
theorem Tr.uncons {x : V} {t l' : List V} {fp : List (Nat × List V)} (h : Tr (x :: t) l' fp) : ∃ x' t' f1 f2, l' = x' :: t' ∧ fp = f1 ++ f2 ∧ Tr [x] [x'] f1 ∧ Tr t t' f2 := by
  obtain ⟨a', b', f1, f2, rfl, rfl, h1, h2⟩ := Tr.split (a := [x]) (b := t) (b' := []) (by simpa using h)
  have := h1.len
  match a', this with
  | [x'], _ => exact ⟨x', b', f1, f2, rfl, rfl, h1, h2⟩
structure OwnS (M0 M : MH) (s : SysS) (x y : V) (x' y' : V) (fp : List (Nat × List V)) : Prop where
  tr : Tr [x, y] [x', y'] fp
  mem : Mem M0 M fp
  fl : flatL [x, y]
  ff : ∀ q ∈ fp, flatL q.2
  lx : LVar x' s.vars
  ly : LR y' s.rules
end Go.M2

namespace Go.M2
open Go.Proofs
variable {M : MH}
theorem Dn.nil1 {k : Nat} : Dn M M (.sc (.sl none 0 0 true k)) (fun u => LI u []) := ⟨_, [], .refl _, .nil (Sub.refl _), by simp [flat], fun q hq => (by cases hq), .nil⟩
theorem Dn.nilS {M' : MH} {k : Nat} (h : Sub M M') : Dn M M' (.sc (.sl none 0 0 true k)) (fun u => LI u []) := ⟨_, [], .refl _, .nil h, by simp [flat], fun q hq => (by cases hq), .nil⟩
theorem Gr.dnI {M' : MH} {v : V} {ys : List Int} (h : Gr 1 M M' v (ys.map vi)) : Dn M M' v (fun u => LI u ys) := h.dn (flatL_vi ys) fun u hu => hu.li
end Go.M2

namespace Go.M2
open Go.Proofs
variable {M : MH}
theorem OwnS.more {M0 M M' : MH} {s : SysS} {x y x' y' : V} {fp : List (Nat × List V)} (h : OwnS M0 M s x y x' y' fp) (hs : Sub M M') : OwnS M0 M' s x y x' y' fp := ⟨h.tr, h.mem.more hs, h.fl, h.ff, h.lx, h.ly⟩
end Go.M2
