/- The law's function FnExactRoundFair. -/
import Derived.Test.YtkojebodimpfaaaKq6
set_option linter.unusedVariables false
set_option linter.unusedSimpArgs false
set_option maxRecDepth 10000
set_option maxHeartbeats 4000000
namespace Go.M2
open Go.Proofs
variable {M : MH}
theorem law_RoundFair {v : V} {s : SysS} (hv : isSysX s v) (hl : SysLen s) {w1 : V} {xs1 : List Int} (hw1 : XI w1 xs1) (hx1 : LenOk xs1) {w2 : V} {xs2 : List Int} (hw2 : XI w2 xs2) (hx2 : LenOk xs2) {w3 : V} {xs3 : List Int} (hw3 : XI w3 xs3) (hx3 : LenOk xs3) {w4 : V} {xs4 : List Int} (hw4 : XI w4 xs4) (hx4 : LenOk xs4) :
    VCall Try.prog n_laws_FnExactRoundFair [v, w1, w2, w3, w4] M (fun r M' => M = M' ∧ r = .sc (.bool true)) := by
  refine VCall.pure fun R hR => v_laws_FnExactRoundFair rfl ?_
  have hv0 := hv
  obtain ⟨a, b, rfl, ha, hb⟩ := hv
  unfold LenOk at hx1
  have hlen1 := hw1.len fun _ _ h => h.len
  unfold LenOk at hx2
  have hlen2 := hw2.len fun _ _ h => h.len
  unfold LenOk at hx3
  have hlen3 := hw3.len fun _ _ h => h.len
  unfold LenOk at hx4
  have hlen4 := hw4.len fun _ _ h => h.len
  (repeat' (first | ((first | with_reducible refine cond_dec (fun h => ?_) (fun h => ?_) | with_reducible refine guardK_dec (fun h => ?_) (fun h => ?_) | with_reducible refine guardD3_dec (fun h => ?_) (fun h => ?_)) <;> first | (exfalso; omega) | (simp (maxSteps := 2000000) (disch := first | omega | assumption | exact idP rfl | exact idP (bL rfl)) only [go_sem, reduceIte, Nat.reduceEqDiff, h, hlen1, hlen2, hlen3, hlen4]) | skip) | ((first | with_reducible refine cond_split (fun h => ?_) (fun h => ?_) | with_reducible refine guardK_split (fun h => ?_) (fun h => ?_) | with_reducible refine guardD3_split (fun h => ?_) (fun h => ?_)) <;> ((try simp only [Bool.not_eq_true', Bool.not_eq_false'] at h); first | (simp (maxSteps := 2000000) (disch := first | omega | assumption | exact idP rfl | exact idP (bL rfl)) only [go_sem, reduceIte, Nat.reduceEqDiff, h, hlen1, hlen2, hlen3, hlen4]) | skip)) | (with_reducible intro bk hbk; try have hnk := (fresh_set hbk).1) | (simp (maxSteps := 2000000) (disch := first | omega | assumption | exact idP rfl | exact idP (bL rfl)) only [go_sem, reduceIte, Nat.reduceEqDiff, hlen1, hlen2, hlen3, hlen4])))
  · exact hR _ _ (by (repeat (first | exact Sub.refl _ | assumption | (refine Sub.set' ?_ (by assumption))))) rfl
  · exact hR _ _ (by (repeat (first | exact Sub.refl _ | assumption | (refine Sub.set' ?_ (by assumption))))) rfl
  · exact hR _ _ (by (repeat (first | exact Sub.refl _ | assumption | (refine Sub.set' ?_ (by assumption))))) rfl
  · exact hR _ _ (by (repeat (first | exact Sub.refl _ | assumption | (refine Sub.set' ?_ (by assumption))))) rfl
  refine (x_szSystem hv0 hl (by omega) (by omega)).mono ?_
  rintro _ _ ⟨rfl, k, rfl, hk1, hk⟩
  (repeat' (first | ((first | with_reducible refine cond_dec (fun h => ?_) (fun h => ?_) | with_reducible refine guardK_dec (fun h => ?_) (fun h => ?_) | with_reducible refine guardD3_dec (fun h => ?_) (fun h => ?_)) <;> first | (exfalso; omega) | (simp (maxSteps := 2000000) (disch := first | omega | assumption | exact idP rfl | exact idP (bL rfl)) only [go_sem, reduceIte, Nat.reduceEqDiff, h]) | skip) | ((first | with_reducible refine cond_split (fun h => ?_) (fun h => ?_) | with_reducible refine guardK_split (fun h => ?_) (fun h => ?_) | with_reducible refine guardD3_split (fun h => ?_) (fun h => ?_)) <;> ((try simp only [Bool.not_eq_true', Bool.not_eq_false'] at h); first | (simp (maxSteps := 2000000) (disch := first | omega | assumption | exact idP rfl | exact idP (bL rfl)) only [go_sem, reduceIte, Nat.reduceEqDiff, h]) | skip)) | (with_reducible intro bk hbk; try have hnk := (fresh_set hbk).1) | (simp (maxSteps := 2000000) (disch := first | omega | assumption | exact idP rfl | exact idP (bL rfl)) only [go_sem, reduceIte, Nat.reduceEqDiff])))
  · exact hR _ _ (by (repeat (first | exact Sub.refl _ | assumption | (refine Sub.set' ?_ (by assumption))))) rfl
  have hf := hk (by omega)
  have hxl1 : xs1.length ≤ 1048576 := by omega
  have hxl2 : xs2.length ≤ 1048576 := by omega
  have hxl3 : xs3.length ≤ 1048576 := by omega
  have hxl4 : xs4.length ≤ 1048576 := by omega
  refine (f_toSystem hv0 hf).mono ?_
  rintro s1 _ ⟨rfl, hs1⟩
  simp (maxSteps := 2000000) (disch := first | omega | assumption | exact idP rfl | exact idP (bL rfl)) only [go_sem, reduceIte, Nat.reduceEqDiff]
  refine (f_toIntS hw1 hxl1).mono ?_
  rintro y1 _ ⟨rfl, hy1⟩
  simp (maxSteps := 2000000) (disch := first | omega | assumption | exact idP rfl | exact idP (bL rfl)) only [go_sem, reduceIte, Nat.reduceEqDiff]
  refine (f_toIntS hw2 hxl2).mono ?_
  rintro y2 _ ⟨rfl, hy2⟩
  simp (maxSteps := 2000000) (disch := first | omega | assumption | exact idP rfl | exact idP (bL rfl)) only [go_sem, reduceIte, Nat.reduceEqDiff]
  refine (f_toIntS hw3 hxl3).mono ?_
  rintro y3 _ ⟨rfl, hy3⟩
  simp (maxSteps := 2000000) (disch := first | omega | assumption | exact idP rfl | exact idP (bL rfl)) only [go_sem, reduceIte, Nat.reduceEqDiff]
  refine (f_toIntS hw4 hxl4).mono ?_
  rintro y4 _ ⟨rfl, hy4⟩
  simp (maxSteps := 2000000) (disch := first | omega | assumption | exact idP rfl | exact idP (bL rfl)) only [go_sem, reduceIte, Nat.reduceEqDiff]
  refine (t_RoundFair hs1 hy1 hxl1 hy2 hxl2 hy3 hxl3 hy4 hxl4).mono ?_
  rintro _ _ ⟨rfl, rfl⟩
  simp (maxSteps := 2000000) (disch := first | omega | assumption | exact idP rfl | exact idP (bL rfl)) only [go_sem, reduceIte, Nat.reduceEqDiff]
  refine (f_toSystem hv0 hf).mono ?_
  rintro s2 _ ⟨rfl, hs2⟩
  have hs20 := hs2
  obtain ⟨a2, b2, rfl, ha2, hb2⟩ := hs2
  simp (maxSteps := 2000000) (disch := first | omega | assumption | exact idP rfl | exact idP (bL rfl)) only [go_sem, reduceIte, Nat.reduceEqDiff, ha2.one.1, ha2.one.2, hb2.one.1, hb2.one.2]
  intro b7 hb7
  have n7 := (fresh_set hb7).1
  have o1 := ha2.one.1
  have o2 := hb2.one.1
  simp (maxSteps := 2000000) (disch := first | omega | assumption | exact idP rfl | exact idP (bL rfl)) only [go_sem, reduceIte, Nat.reduceEqDiff]
  refine (f_toIntS hw1 hxl1).mono ?_
  rintro q1 _ ⟨rfl, hq1⟩
  simp (maxSteps := 2000000) (disch := first | omega | assumption | exact idP rfl | exact idP (bL rfl)) only [go_sem, reduceIte, Nat.reduceEqDiff]
  refine (f_toIntS hw2 hxl2).mono ?_
  rintro q2 _ ⟨rfl, hq2⟩
  simp (maxSteps := 2000000) (disch := first | omega | assumption | exact idP rfl | exact idP (bL rfl)) only [go_sem, reduceIte, Nat.reduceEqDiff]
  refine (f_toIntS hw3 hxl3).mono ?_
  rintro q3 _ ⟨rfl, hq3⟩
  simp (maxSteps := 2000000) (disch := first | omega | assumption | exact idP rfl | exact idP (bL rfl)) only [go_sem, reduceIte, Nat.reduceEqDiff]
  refine (f_toIntS hw4 hxl4).mono ?_
  rintro q4 _ ⟨rfl, hq4⟩
  simp (maxSteps := 2000000) (disch := first | omega | assumption | exact idP rfl | exact idP (bL rfl)) only [go_sem, reduceIte, Nat.reduceEqDiff]
  refine (t_impRoundFair hs20 hf.sz hq1 hxl1 hq2 hxl2 hq3 hxl3 hq4 hxl4).mono ?_
  rintro _ _ ⟨rfl, rfl⟩
  generalize fairF s xs1 xs2 xs3 xs4 = t
  cases t
  all_goals simp (maxSteps := 2000000) (disch := first | omega | assumption | exact idP rfl | exact idP (bL rfl)) only [go_sem, reduceIte, Nat.reduceEqDiff, beq_self_eq_true, Bool.not_true, BEq.rfl]
  all_goals refine (f_toSystem hv0 hf).mono ?_
  all_goals rintro s3 _ ⟨rfl, hs3⟩
  all_goals simp (maxSteps := 2000000) (disch := first | omega | assumption | exact idP rfl | exact idP (bL rfl)) only [go_sem, reduceIte, Nat.reduceEqDiff]
  all_goals refine (x_eqSystem hs20 hs3 hf).mono ?_
  all_goals rintro _ _ ⟨rfl, rfl⟩
  all_goals simp (maxSteps := 2000000) (disch := first | omega | assumption | exact idP rfl | exact idP (bL rfl)) only [go_sem, reduceIte, Nat.reduceEqDiff]
  all_goals refine (f_toIntS hw1 hxl1).mono ?_
  all_goals rintro z1 _ ⟨rfl, hz1⟩
  all_goals simp (maxSteps := 2000000) (disch := first | omega | assumption | exact idP rfl | exact idP (bL rfl)) only [go_sem, reduceIte, Nat.reduceEqDiff]
  all_goals refine (x_eqIntS hq1 hz1 hxl1).mono ?_
  all_goals rintro _ _ ⟨rfl, rfl⟩
  all_goals have ei1 : decide (xs1 = xs1) = true := by simp
  all_goals simp (maxSteps := 2000000) (disch := first | omega | assumption | exact idP rfl | exact idP (bL rfl)) only [go_sem, reduceIte, Nat.reduceEqDiff, ei1]
  all_goals refine (f_toIntS hw2 hxl2).mono ?_
  all_goals rintro z2 _ ⟨rfl, hz2⟩
  all_goals simp (maxSteps := 2000000) (disch := first | omega | assumption | exact idP rfl | exact idP (bL rfl)) only [go_sem, reduceIte, Nat.reduceEqDiff]
  all_goals refine (x_eqIntS hq2 hz2 hxl2).mono ?_
  all_goals rintro _ _ ⟨rfl, rfl⟩
  all_goals have ei2 : decide (xs2 = xs2) = true := by simp
  all_goals simp (maxSteps := 2000000) (disch := first | omega | assumption | exact idP rfl | exact idP (bL rfl)) only [go_sem, reduceIte, Nat.reduceEqDiff, ei2]
  all_goals refine (f_toIntS hw3 hxl3).mono ?_
  all_goals rintro z3 _ ⟨rfl, hz3⟩
  all_goals simp (maxSteps := 2000000) (disch := first | omega | assumption | exact idP rfl | exact idP (bL rfl)) only [go_sem, reduceIte, Nat.reduceEqDiff]
  all_goals refine (x_eqIntS hq3 hz3 hxl3).mono ?_
  all_goals rintro _ _ ⟨rfl, rfl⟩
  all_goals have ei3 : decide (xs3 = xs3) = true := by simp
  all_goals simp (maxSteps := 2000000) (disch := first | omega | assumption | exact idP rfl | exact idP (bL rfl)) only [go_sem, reduceIte, Nat.reduceEqDiff, ei3]
  all_goals refine (f_toIntS hw4 hxl4).mono ?_
  all_goals rintro z4 _ ⟨rfl, hz4⟩
  all_goals simp (maxSteps := 2000000) (disch := first | omega | assumption | exact idP rfl | exact idP (bL rfl)) only [go_sem, reduceIte, Nat.reduceEqDiff]
  all_goals refine (x_eqIntS hq4 hz4 hxl4).mono ?_
  all_goals rintro _ _ ⟨rfl, rfl⟩
  all_goals have ei4 : decide (xs4 = xs4) = true := by simp
  all_goals simp (maxSteps := 2000000) (disch := first | omega | assumption | exact idP rfl | exact idP (bL rfl)) only [go_sem, reduceIte, Nat.reduceEqDiff, ei4]
  all_goals exact hR _ _ (by (repeat (first | exact Sub.refl _ | assumption | (refine Sub.set' ?_ (by assumption))))) rfl
end Go.M2
