/- Contracts of a law's frame: what is the same is found the same. -/
import Derived.Test.YtpglaahejpkkdaaGreatKd6
import Derived.Test.YtpglaahejpkkdaaGreatChecked
namespace Go.M2
open Go.Proofs
set_option linter.unusedVariables false
set_option linter.unusedSimpArgs false
set_option maxRecDepth 10000
set_option maxHeartbeats 4000000
variable {M : MH}
theorem x_eqVar {x : VarS} : VCall Tryz.prog n_laws_eqVar [.agg (encVar x), .agg (encVar x)] M (fun r M' => M = M' ∧ r = .sc (.bool true)) := by
  refine VCall.pure fun R hR => v_laws_eqVar rfl ?_
  (repeat' (first | ((first | with_reducible refine cond_dec (fun h => ?_) (fun h => ?_) | with_reducible refine guardK_dec (fun h => ?_) (fun h => ?_) | with_reducible refine guardD3_dec (fun h => ?_) (fun h => ?_)) <;> first | (exfalso; omega) | (simp (maxSteps := 2000000) (disch := first | omega | assumption | exact idP rfl | exact idP (bL rfl)) only [go_sem, reduceIte, Nat.reduceEqDiff, h, encVar]) | skip) | ((first | with_reducible refine cond_split (fun h => ?_) (fun h => ?_) | with_reducible refine guardK_split (fun h => ?_) (fun h => ?_) | with_reducible refine guardD3_split (fun h => ?_) (fun h => ?_)) <;> ((try simp only [Bool.not_eq_true', Bool.not_eq_false'] at h); first | (simp (maxSteps := 2000000) (disch := first | omega | assumption | exact idP rfl | exact idP (bL rfl)) only [go_sem, reduceIte, Nat.reduceEqDiff, h, encVar]) | skip)) | (with_reducible intro bk hbk; try have hnk := (fresh_set hbk).1) | (simp (maxSteps := 2000000) (disch := first | omega | assumption | exact idP rfl | exact idP (bL rfl)) only [go_sem, reduceIte, Nat.reduceEqDiff, encVar])))
  all_goals exact hR _ _ (by (repeat (first | exact Sub.refl _ | assumption | (refine Sub.set' ?_ (by assumption))))) rfl
theorem x_eqTerm {x : TermS} : VCall Tryz.prog n_laws_eqTerm [.agg (encT x), .agg (encT x)] M (fun r M' => M = M' ∧ r = .sc (.bool true)) := by
  refine VCall.pure fun R hR => v_laws_eqTerm rfl ?_
  (repeat' (first | ((first | with_reducible refine cond_dec (fun h => ?_) (fun h => ?_) | with_reducible refine guardK_dec (fun h => ?_) (fun h => ?_) | with_reducible refine guardD3_dec (fun h => ?_) (fun h => ?_)) <;> first | (exfalso; omega) | (simp (maxSteps := 2000000) (disch := first | omega | assumption | exact idP rfl | exact idP (bL rfl)) only [go_sem, reduceIte, Nat.reduceEqDiff, h, encT]) | skip) | ((first | with_reducible refine cond_split (fun h => ?_) (fun h => ?_) | with_reducible refine guardK_split (fun h => ?_) (fun h => ?_) | with_reducible refine guardD3_split (fun h => ?_) (fun h => ?_)) <;> ((try simp only [Bool.not_eq_true', Bool.not_eq_false'] at h); first | (simp (maxSteps := 2000000) (disch := first | omega | assumption | exact idP rfl | exact idP (bL rfl)) only [go_sem, reduceIte, Nat.reduceEqDiff, h, encT]) | skip)) | (with_reducible intro bk hbk; try have hnk := (fresh_set hbk).1) | (simp (maxSteps := 2000000) (disch := first | omega | assumption | exact idP rfl | exact idP (bL rfl)) only [go_sem, reduceIte, Nat.reduceEqDiff, encT])))
  all_goals exact hR _ _ (by (repeat (first | exact Sub.refl _ | assumption | (refine Sub.set' ?_ (by assumption))))) rfl
theorem x_eqVarS {v w : V} {xs : List VarS} (hv : LVar v xs) (hw : LVar w xs) (hl : xs.length ≤ 1048576) : VCall Tryz.prog n_laws_eqVarS [v, w] M (fun r M' => M = M' ∧ r = .sc (.bool true)) := by
  refine VCall.pure fun R hR => v_laws_eqVarS rfl ?_
  (repeat' (first | ((first | with_reducible refine cond_dec (fun h => ?_) (fun h => ?_) | with_reducible refine guardK_dec (fun h => ?_) (fun h => ?_) | with_reducible refine guardD3_dec (fun h => ?_) (fun h => ?_)) <;> first | (exfalso; omega) | (simp (maxSteps := 2000000) (disch := first | omega | assumption | exact idP rfl | exact idP (bL rfl)) only [go_sem, reduceIte, Nat.reduceEqDiff, h, hv.len, hw.len]) | skip) | ((first | with_reducible refine cond_split (fun h => ?_) (fun h => ?_) | with_reducible refine guardK_split (fun h => ?_) (fun h => ?_) | with_reducible refine guardD3_split (fun h => ?_) (fun h => ?_)) <;> ((try simp only [Bool.not_eq_true', Bool.not_eq_false'] at h); first | (simp (maxSteps := 2000000) (disch := first | omega | assumption | exact idP rfl | exact idP (bL rfl)) only [go_sem, reduceIte, Nat.reduceEqDiff, h, hv.len, hw.len]) | skip)) | (with_reducible intro bk hbk; try have hnk := (fresh_set hbk).1) | (simp (maxSteps := 2000000) (disch := first | omega | assumption | exact idP rfl | exact idP (bL rfl)) only [go_sem, reduceIte, Nat.reduceEqDiff, hv.len, hw.len])))
  refine loop_k (fun e M' => M' = M ∧ ∃ i : Nat, i ≤ xs.length ∧ e 0 = v ∧ e 1 = w ∧ e 5 = .sc (.int .i64 i)) (fun e _ => ctrV xs.length (e 5)) ?_ ?_
  · exact ⟨rfl, 0, by omega, by simp (maxSteps := 2000000) (disch := first | omega | assumption | exact idP rfl | exact idP (bL rfl)) only [go_sem, reduceIte, Nat.reduceEqDiff], by simp (maxSteps := 2000000) (disch := first | omega | assumption | exact idP rfl | exact idP (bL rfl)) only [go_sem, reduceIte, Nat.reduceEqDiff], by simp (maxSteps := 2000000) (disch := first | omega | assumption | exact idP rfl | exact idP (bL rfl)) only [go_sem, reduceIte, Nat.reduceEqDiff]; rfl⟩
  · rintro e _ ⟨rfl, i, hi, e0, e1, e5⟩ K hK
    simp (maxSteps := 2000000) (disch := first | omega | assumption | exact idP rfl | exact idP (bL rfl)) only [go_sem, reduceIte, Nat.reduceEqDiff, e0, e1, e5, hv.len]
    refine cond_dec (fun h => ?_) (fun h => ?_)
    · have hi1 : i < xs.length := by omega
      have a1 : atN 3 v i = encVar xs[i] := hv.elt hi1
      have a2 : atN 3 w i = encVar xs[i] := hw.elt hi1
      simp (maxSteps := 2000000) (disch := first | omega | assumption | exact idP rfl | exact idP (bL rfl)) only [go_sem, reduceIte, Nat.reduceEqDiff, e0, e1, e5, hv.iaddr, hw.iaddr, a1, a2]
      refine x_eqVar.mono ?_
      rintro _ _ ⟨rfl, rfl⟩
      simp (maxSteps := 2000000) (disch := first | omega | assumption | exact idP rfl | exact idP (bL rfl)) only [go_sem, reduceIte, Nat.reduceEqDiff, e0, e1, e5]
      exact hK _ _ ⟨rfl, i + 1, by omega, by simp (maxSteps := 2000000) (disch := first | omega | assumption | exact idP rfl | exact idP (bL rfl)) only [go_sem, reduceIte, Nat.reduceEqDiff], by simp (maxSteps := 2000000) (disch := first | omega | assumption | exact idP rfl | exact idP (bL rfl)) only [go_sem, reduceIte, Nat.reduceEqDiff], by simp (maxSteps := 2000000) (disch := first | omega | assumption | exact idP rfl | exact idP (bL rfl)) only [go_sem, reduceIte, Nat.reduceEqDiff]; rfl⟩ (by simp (maxSteps := 2000000) (disch := first | omega | assumption | exact idP rfl | exact idP (bL rfl)) only [go_sem, reduceIte, Nat.reduceEqDiff, ctrV_int, e5]; omega)
    · simp (maxSteps := 2000000) (disch := first | omega | assumption | exact idP rfl | exact idP (bL rfl)) only [go_sem, reduceIte, Nat.reduceEqDiff]
      exact hR _ _ (by (repeat (first | exact Sub.refl _ | assumption | (refine Sub.set' ?_ (by assumption))))) rfl
theorem x_eqTermS {v w : V} {xs : List TermS} (hv : LT v xs) (hw : LT w xs) (hl : xs.length ≤ 1048576) : VCall Tryz.prog n_laws_eqTermS [v, w] M (fun r M' => M = M' ∧ r = .sc (.bool true)) := by
  refine VCall.pure fun R hR => v_laws_eqTermS rfl ?_
  (repeat' (first | ((first | with_reducible refine cond_dec (fun h => ?_) (fun h => ?_) | with_reducible refine guardK_dec (fun h => ?_) (fun h => ?_) | with_reducible refine guardD3_dec (fun h => ?_) (fun h => ?_)) <;> first | (exfalso; omega) | (simp (maxSteps := 2000000) (disch := first | omega | assumption | exact idP rfl | exact idP (bL rfl)) only [go_sem, reduceIte, Nat.reduceEqDiff, h, hv.len, hw.len]) | skip) | ((first | with_reducible refine cond_split (fun h => ?_) (fun h => ?_) | with_reducible refine guardK_split (fun h => ?_) (fun h => ?_) | with_reducible refine guardD3_split (fun h => ?_) (fun h => ?_)) <;> ((try simp only [Bool.not_eq_true', Bool.not_eq_false'] at h); first | (simp (maxSteps := 2000000) (disch := first | omega | assumption | exact idP rfl | exact idP (bL rfl)) only [go_sem, reduceIte, Nat.reduceEqDiff, h, hv.len, hw.len]) | skip)) | (with_reducible intro bk hbk; try have hnk := (fresh_set hbk).1) | (simp (maxSteps := 2000000) (disch := first | omega | assumption | exact idP rfl | exact idP (bL rfl)) only [go_sem, reduceIte, Nat.reduceEqDiff, hv.len, hw.len])))
  refine loop_k (fun e M' => M' = M ∧ ∃ i : Nat, i ≤ xs.length ∧ e 0 = v ∧ e 1 = w ∧ e 5 = .sc (.int .i64 i)) (fun e _ => ctrV xs.length (e 5)) ?_ ?_
  · exact ⟨rfl, 0, by omega, by simp (maxSteps := 2000000) (disch := first | omega | assumption | exact idP rfl | exact idP (bL rfl)) only [go_sem, reduceIte, Nat.reduceEqDiff], by simp (maxSteps := 2000000) (disch := first | omega | assumption | exact idP rfl | exact idP (bL rfl)) only [go_sem, reduceIte, Nat.reduceEqDiff], by simp (maxSteps := 2000000) (disch := first | omega | assumption | exact idP rfl | exact idP (bL rfl)) only [go_sem, reduceIte, Nat.reduceEqDiff]; rfl⟩
  · rintro e _ ⟨rfl, i, hi, e0, e1, e5⟩ K hK
    simp (maxSteps := 2000000) (disch := first | omega | assumption | exact idP rfl | exact idP (bL rfl)) only [go_sem, reduceIte, Nat.reduceEqDiff, e0, e1, e5, hv.len]
    refine cond_dec (fun h => ?_) (fun h => ?_)
    · have hi1 : i < xs.length := by omega
      have a1 : atN 4 v i = encT xs[i] := hv.elt hi1
      have a2 : atN 4 w i = encT xs[i] := hw.elt hi1
      simp (maxSteps := 2000000) (disch := first | omega | assumption | exact idP rfl | exact idP (bL rfl)) only [go_sem, reduceIte, Nat.reduceEqDiff, e0, e1, e5, hv.iaddr, hw.iaddr, a1, a2]
      refine x_eqTerm.mono ?_
      rintro _ _ ⟨rfl, rfl⟩
      simp (maxSteps := 2000000) (disch := first | omega | assumption | exact idP rfl | exact idP (bL rfl)) only [go_sem, reduceIte, Nat.reduceEqDiff, e0, e1, e5]
      exact hK _ _ ⟨rfl, i + 1, by omega, by simp (maxSteps := 2000000) (disch := first | omega | assumption | exact idP rfl | exact idP (bL rfl)) only [go_sem, reduceIte, Nat.reduceEqDiff], by simp (maxSteps := 2000000) (disch := first | omega | assumption | exact idP rfl | exact idP (bL rfl)) only [go_sem, reduceIte, Nat.reduceEqDiff], by simp (maxSteps := 2000000) (disch := first | omega | assumption | exact idP rfl | exact idP (bL rfl)) only [go_sem, reduceIte, Nat.reduceEqDiff]; rfl⟩ (by simp (maxSteps := 2000000) (disch := first | omega | assumption | exact idP rfl | exact idP (bL rfl)) only [go_sem, reduceIte, Nat.reduceEqDiff, ctrV_int, e5]; omega)
    · simp (maxSteps := 2000000) (disch := first | omega | assumption | exact idP rfl | exact idP (bL rfl)) only [go_sem, reduceIte, Nat.reduceEqDiff]
      exact hR _ _ (by (repeat (first | exact Sub.refl _ | assumption | (refine Sub.set' ?_ (by assumption))))) rfl
theorem x_eqTermSS {v w : V} {xs : List (List TermS)} (hv : LTT v xs) (hw : LTT w xs) (hl : xs.length ≤ 1048576) (hl2 : ∀ ts ∈ xs, ts.length ≤ 1048576) : VCall Tryz.prog n_laws_eqTermSS [v, w] M (fun r M' => M = M' ∧ r = .sc (.bool true)) := by
  refine VCall.pure fun R hR => v_laws_eqTermSS rfl ?_
  (repeat' (first | ((first | with_reducible refine cond_dec (fun h => ?_) (fun h => ?_) | with_reducible refine guardK_dec (fun h => ?_) (fun h => ?_) | with_reducible refine guardD3_dec (fun h => ?_) (fun h => ?_)) <;> first | (exfalso; omega) | (simp (maxSteps := 2000000) (disch := first | omega | assumption | exact idP rfl | exact idP (bL rfl)) only [go_sem, reduceIte, Nat.reduceEqDiff, h, hv.len, hw.len]) | skip) | ((first | with_reducible refine cond_split (fun h => ?_) (fun h => ?_) | with_reducible refine guardK_split (fun h => ?_) (fun h => ?_) | with_reducible refine guardD3_split (fun h => ?_) (fun h => ?_)) <;> ((try simp only [Bool.not_eq_true', Bool.not_eq_false'] at h); first | (simp (maxSteps := 2000000) (disch := first | omega | assumption | exact idP rfl | exact idP (bL rfl)) only [go_sem, reduceIte, Nat.reduceEqDiff, h, hv.len, hw.len]) | skip)) | (with_reducible intro bk hbk; try have hnk := (fresh_set hbk).1) | (simp (maxSteps := 2000000) (disch := first | omega | assumption | exact idP rfl | exact idP (bL rfl)) only [go_sem, reduceIte, Nat.reduceEqDiff, hv.len, hw.len])))
  refine loop_k (fun e M' => M' = M ∧ ∃ i : Nat, i ≤ xs.length ∧ e 0 = v ∧ e 1 = w ∧ e 5 = .sc (.int .i64 i)) (fun e _ => ctrV xs.length (e 5)) ?_ ?_
  · exact ⟨rfl, 0, by omega, by simp (maxSteps := 2000000) (disch := first | omega | assumption | exact idP rfl | exact idP (bL rfl)) only [go_sem, reduceIte, Nat.reduceEqDiff], by simp (maxSteps := 2000000) (disch := first | omega | assumption | exact idP rfl | exact idP (bL rfl)) only [go_sem, reduceIte, Nat.reduceEqDiff], by simp (maxSteps := 2000000) (disch := first | omega | assumption | exact idP rfl | exact idP (bL rfl)) only [go_sem, reduceIte, Nat.reduceEqDiff]; rfl⟩
  · rintro e _ ⟨rfl, i, hi, e0, e1, e5⟩ K hK
    simp (maxSteps := 2000000) (disch := first | omega | assumption | exact idP rfl | exact idP (bL rfl)) only [go_sem, reduceIte, Nat.reduceEqDiff, e0, e1, e5, hv.len]
    refine cond_dec (fun h => ?_) (fun h => ?_)
    · have hi1 : i < xs.length := by omega
      simp (maxSteps := 2000000) (disch := first | omega | assumption | exact idP rfl | exact idP (bL rfl)) only [go_sem, reduceIte, Nat.reduceEqDiff, e0, e1, e5, hv.iaddr, hw.iaddr]
      refine (x_eqTermS (hv.elt hi1) (hw.elt hi1) (hl2 _ (List.getElem_mem hi1))).mono ?_
      rintro _ _ ⟨rfl, rfl⟩
      simp (maxSteps := 2000000) (disch := first | omega | assumption | exact idP rfl | exact idP (bL rfl)) only [go_sem, reduceIte, Nat.reduceEqDiff, e0, e1, e5]
      exact hK _ _ ⟨rfl, i + 1, by omega, by simp (maxSteps := 2000000) (disch := first | omega | assumption | exact idP rfl | exact idP (bL rfl)) only [go_sem, reduceIte, Nat.reduceEqDiff], by simp (maxSteps := 2000000) (disch := first | omega | assumption | exact idP rfl | exact idP (bL rfl)) only [go_sem, reduceIte, Nat.reduceEqDiff], by simp (maxSteps := 2000000) (disch := first | omega | assumption | exact idP rfl | exact idP (bL rfl)) only [go_sem, reduceIte, Nat.reduceEqDiff]; rfl⟩ (by simp (maxSteps := 2000000) (disch := first | omega | assumption | exact idP rfl | exact idP (bL rfl)) only [go_sem, reduceIte, Nat.reduceEqDiff, ctrV_int, e5]; omega)
    · simp (maxSteps := 2000000) (disch := first | omega | assumption | exact idP rfl | exact idP (bL rfl)) only [go_sem, reduceIte, Nat.reduceEqDiff]
      exact hR _ _ (by (repeat (first | exact Sub.refl _ | assumption | (refine Sub.set' ?_ (by assumption))))) rfl
theorem x_eqRule {cs ds : List V} {r : RuleS} (hv : isRule r cs) (hw : isRule r ds) (hf : RuleFit r) : VCall Tryz.prog n_laws_eqRule [.agg cs, .agg ds] M (fun r' M' => M = M' ∧ r' = .sc (.bool true)) := by
  refine VCall.pure fun R hR => v_laws_eqRule rfl ?_
  obtain ⟨a, b, c, rfl, ha, hb, hc⟩ := hv
  obtain ⟨a', b', c', rfl, ha', hb', hc'⟩ := hw
  obtain ⟨f1, f2, f3, f4⟩ := hf
  have ei : decide (r.sets = r.sets) = true := by simp
  (repeat' (first | ((first | with_reducible refine cond_dec (fun h => ?_) (fun h => ?_) | with_reducible refine guardK_dec (fun h => ?_) (fun h => ?_) | with_reducible refine guardD3_dec (fun h => ?_) (fun h => ?_)) <;> first | (exfalso; omega) | (simp (maxSteps := 2000000) (disch := first | omega | assumption | exact idP rfl | exact idP (bL rfl)) only [go_sem, reduceIte, Nat.reduceEqDiff, h, ei]) | skip) | ((first | with_reducible refine cond_split (fun h => ?_) (fun h => ?_) | with_reducible refine guardK_split (fun h => ?_) (fun h => ?_) | with_reducible refine guardD3_split (fun h => ?_) (fun h => ?_)) <;> ((try simp only [Bool.not_eq_true', Bool.not_eq_false'] at h); first | (simp (maxSteps := 2000000) (disch := first | omega | assumption | exact idP rfl | exact idP (bL rfl)) only [go_sem, reduceIte, Nat.reduceEqDiff, h, ei]) | skip)) | ((with_reducible refine (x_eqTermS ha ha' f1).mono ?_); rintro _ _ ⟨rfl, rfl⟩) | ((with_reducible refine (x_eqIntS hb hb' f2).mono ?_); rintro _ _ ⟨rfl, rfl⟩) | ((with_reducible refine (x_eqTermSS hc hc' f3 f4).mono ?_); rintro _ _ ⟨rfl, rfl⟩) | (with_reducible intro bk hbk; try have hnk := (fresh_set hbk).1) | (simp (maxSteps := 2000000) (disch := first | omega | assumption | exact idP rfl | exact idP (bL rfl)) only [go_sem, reduceIte, Nat.reduceEqDiff, ei])))
  all_goals exact hR _ _ (by (repeat (first | exact Sub.refl _ | assumption | (refine Sub.set' ?_ (by assumption))))) rfl
theorem x_eqRuleS {v w : V} {xs : List RuleS} (hv : LR v xs) (hw : LR w xs) (hl : xs.length ≤ 1048576) (hl2 : ∀ r ∈ xs, RuleFit r) : VCall Tryz.prog n_laws_eqRuleS [v, w] M (fun r M' => M = M' ∧ r = .sc (.bool true)) := by
  refine VCall.pure fun R hR => v_laws_eqRuleS rfl ?_
  (repeat' (first | ((first | with_reducible refine cond_dec (fun h => ?_) (fun h => ?_) | with_reducible refine guardK_dec (fun h => ?_) (fun h => ?_) | with_reducible refine guardD3_dec (fun h => ?_) (fun h => ?_)) <;> first | (exfalso; omega) | (simp (maxSteps := 2000000) (disch := first | omega | assumption | exact idP rfl | exact idP (bL rfl)) only [go_sem, reduceIte, Nat.reduceEqDiff, h, hv.len, hw.len]) | skip) | ((first | with_reducible refine cond_split (fun h => ?_) (fun h => ?_) | with_reducible refine guardK_split (fun h => ?_) (fun h => ?_) | with_reducible refine guardD3_split (fun h => ?_) (fun h => ?_)) <;> ((try simp only [Bool.not_eq_true', Bool.not_eq_false'] at h); first | (simp (maxSteps := 2000000) (disch := first | omega | assumption | exact idP rfl | exact idP (bL rfl)) only [go_sem, reduceIte, Nat.reduceEqDiff, h, hv.len, hw.len]) | skip)) | (with_reducible intro bk hbk; try have hnk := (fresh_set hbk).1) | (simp (maxSteps := 2000000) (disch := first | omega | assumption | exact idP rfl | exact idP (bL rfl)) only [go_sem, reduceIte, Nat.reduceEqDiff, hv.len, hw.len])))
  refine loop_k (fun e M' => M' = M ∧ ∃ i : Nat, i ≤ xs.length ∧ e 0 = v ∧ e 1 = w ∧ e 5 = .sc (.int .i64 i)) (fun e _ => ctrV xs.length (e 5)) ?_ ?_
  · exact ⟨rfl, 0, by omega, by simp (maxSteps := 2000000) (disch := first | omega | assumption | exact idP rfl | exact idP (bL rfl)) only [go_sem, reduceIte, Nat.reduceEqDiff], by simp (maxSteps := 2000000) (disch := first | omega | assumption | exact idP rfl | exact idP (bL rfl)) only [go_sem, reduceIte, Nat.reduceEqDiff], by simp (maxSteps := 2000000) (disch := first | omega | assumption | exact idP rfl | exact idP (bL rfl)) only [go_sem, reduceIte, Nat.reduceEqDiff]; rfl⟩
  · rintro e _ ⟨rfl, i, hi, e0, e1, e5⟩ K hK
    simp (maxSteps := 2000000) (disch := first | omega | assumption | exact idP rfl | exact idP (bL rfl)) only [go_sem, reduceIte, Nat.reduceEqDiff, e0, e1, e5, hv.len]
    refine cond_dec (fun h => ?_) (fun h => ?_)
    · have hi1 : i < xs.length := by omega
      have r1 := hv.elt hi1
      have r2 := hw.elt hi1
      have s1 := r1
      have s2 := r2
      obtain ⟨c1, c2, c3, hat, _, _, _⟩ := r1
      obtain ⟨d1, d2, d3, hat2, _, _, _⟩ := r2
      rw [hat] at s1
      rw [hat2] at s2
      simp (maxSteps := 2000000) (disch := first | omega | assumption | exact idP rfl | exact idP (bL rfl)) only [go_sem, reduceIte, Nat.reduceEqDiff, e0, e1, e5, hv.iaddr, hw.iaddr, hat, hat2]
      refine (x_eqRule s1 s2 (hl2 _ (List.getElem_mem hi1))).mono ?_
      rintro _ _ ⟨rfl, rfl⟩
      simp (maxSteps := 2000000) (disch := first | omega | assumption | exact idP rfl | exact idP (bL rfl)) only [go_sem, reduceIte, Nat.reduceEqDiff, e0, e1, e5]
      exact hK _ _ ⟨rfl, i + 1, by omega, by simp (maxSteps := 2000000) (disch := first | omega | assumption | exact idP rfl | exact idP (bL rfl)) only [go_sem, reduceIte, Nat.reduceEqDiff], by simp (maxSteps := 2000000) (disch := first | omega | assumption | exact idP rfl | exact idP (bL rfl)) only [go_sem, reduceIte, Nat.reduceEqDiff], by simp (maxSteps := 2000000) (disch := first | omega | assumption | exact idP rfl | exact idP (bL rfl)) only [go_sem, reduceIte, Nat.reduceEqDiff]; rfl⟩ (by simp (maxSteps := 2000000) (disch := first | omega | assumption | exact idP rfl | exact idP (bL rfl)) only [go_sem, reduceIte, Nat.reduceEqDiff, ctrV_int, e5]; omega)
    · simp (maxSteps := 2000000) (disch := first | omega | assumption | exact idP rfl | exact idP (bL rfl)) only [go_sem, reduceIte, Nat.reduceEqDiff]
      exact hR _ _ (by (repeat (first | exact Sub.refl _ | assumption | (refine Sub.set' ?_ (by assumption))))) rfl
theorem x_eqSystem {v w : V} {s : SysS} (hv : isSys s v) (hw : isSys s w) (hf : SysFit s) : VCall Tryz.prog n_laws_eqSystem [v, w] M (fun r M' => M = M' ∧ r = .sc (.bool true)) := by
  refine VCall.pure fun R hR => v_laws_eqSystem rfl ?_
  obtain ⟨a, b, rfl, ha, hb⟩ := hv
  obtain ⟨a', b', rfl, ha', hb'⟩ := hw
  obtain ⟨f1, f2, f3⟩ := hf
  (repeat' (first | ((first | with_reducible refine cond_dec (fun h => ?_) (fun h => ?_) | with_reducible refine guardK_dec (fun h => ?_) (fun h => ?_) | with_reducible refine guardD3_dec (fun h => ?_) (fun h => ?_)) <;> first | (exfalso; omega) | (simp (maxSteps := 2000000) (disch := first | omega | assumption | exact idP rfl | exact idP (bL rfl)) only [go_sem, reduceIte, Nat.reduceEqDiff, h]) | skip) | ((first | with_reducible refine cond_split (fun h => ?_) (fun h => ?_) | with_reducible refine guardK_split (fun h => ?_) (fun h => ?_) | with_reducible refine guardD3_split (fun h => ?_) (fun h => ?_)) <;> ((try simp only [Bool.not_eq_true', Bool.not_eq_false'] at h); first | (simp (maxSteps := 2000000) (disch := first | omega | assumption | exact idP rfl | exact idP (bL rfl)) only [go_sem, reduceIte, Nat.reduceEqDiff, h]) | skip)) | ((with_reducible refine (x_eqVarS ha ha' f1).mono ?_); rintro _ _ ⟨rfl, rfl⟩) | ((with_reducible refine (x_eqRuleS hb hb' f2 f3).mono ?_); rintro _ _ ⟨rfl, rfl⟩) | (with_reducible intro bk hbk; try have hnk := (fresh_set hbk).1) | (simp (maxSteps := 2000000) (disch := first | omega | assumption | exact idP rfl | exact idP (bL rfl)) only [go_sem, reduceIte, Nat.reduceEqDiff])))
  all_goals exact hR _ _ (by (repeat (first | exact Sub.refl _ | assumption | (refine Sub.set' ?_ (by assumption))))) rfl
end Go.M2

namespace Go.M2
open Go.Proofs
set_option linter.unusedVariables false
set_option linter.unusedSimpArgs false
set_option maxRecDepth 10000
set_option maxHeartbeats 4000000
variable {M : MH}
def catV {α : Type} (enc : α → List V) (xs : List α) : List V := (xs.map enc).flatten
theorem catV_len {α : Type} {enc : α → List V} {sz : Nat} (he : ∀ x, (enc x).length = sz) : ∀ xs : List α, (catV enc xs).length = xs.length * sz
  | [] => by simp [catV]
  | x :: t => by
    have := catV_len he t
    simp only [catV, List.map_cons, List.flatten_cons, List.length_append, he, List.length_cons, Nat.succ_mul] at this ⊢
    omega
theorem catV_snoc {α : Type} {enc : α → List V} {xs : List α} {x : α} : catV enc (xs ++ [x]) = catV enc xs ++ enc x := by simp [catV]
theorem zeros_cat {α : Type} {enc : α → List V} {z : α} {zs : List AV} (h : enc z = zs.map V.sc) (n : Nat) : (zeros zs n).map V.sc = catV enc (List.replicate n z) := by
  induction n with
  | zero => rfl
  | succ n ih => simp only [zeros, catV, List.replicate_succ, List.flatten_cons, List.map_append, List.map_cons] at ih ⊢; rw [ih, h]
theorem cat_set {α : Type} {enc : α → List V} {z x : α} {xs : List α} {sz m o : Nat} (he : ∀ x, (enc x).length = sz) (ho : o = xs.length * sz) :
    setAtG (catV enc xs ++ catV enc (List.replicate (m + 1) z)) o (enc x) = catV enc (xs ++ [x]) ++ catV enc (List.replicate m z) := by
  have h1 := catV_len he xs
  have e1 : catV enc (List.replicate (m + 1) z) = enc z ++ catV enc (List.replicate m z) := by simp [catV, List.replicate_succ]
  rw [e1, setAtG_mid _ _ _ (by simp [he]; omega), catV_snoc, List.take_left' (by omega)]
  congr 1
  rw [← List.append_assoc, List.drop_left' (by simp [he]; omega)]
theorem x_toVarS {v : V} {xs : List VarS} (hv : XVar v xs) (hl : xs.length ≤ 1048576) : VCall Tryz.prog n_laws_toVarS [v] M (fun r M' => Gr 3 M M' r (catV encVar xs)) := by
  refine VCall.plain fun R hR => v_laws_toVarS rfl ?_
  have hlen := hv.len fun _ _ h => h.len
  simp (maxSteps := 2000000) (disch := first | omega | assumption | exact idP rfl | exact idP (bL rfl)) only [go_sem, reduceIte, Nat.reduceEqDiff, hlen]
  refine mks3 (by omega) (by simp [mostCells]; omega) (by simp [mostCells]; omega) ?_
  intro b3 hb3
  simp (maxSteps := 2000000) (disch := first | omega | assumption | exact idP rfl | exact idP (bL rfl)) only [go_sem, reduceIte, Nat.reduceEqDiff, zeros_cat (enc := encVar) (z := ⟨0, 0, 0⟩) (zs := [AV.int .i64 0, AV.int .i64 0, AV.int .i64 0]) rfl]
  have henc : ∀ x, (encVar x).length = 3 := fun x => rfl
  refine loop_k (fun e M' => ∃ i : Nat, i ≤ xs.length ∧ e 0 = v ∧ e 3 = .sc (.sl (some (b3, 0)) xs.length xs.length true 3) ∧ e 4 = .sc (.int .i64 i) ∧ Sub M M' ∧ M' b3 = some (catV encVar (xs.take i) ++ catV encVar (List.replicate (xs.length - i) ⟨0, 0, 0⟩))) (fun e _ => ctrV xs.length (e 4)) ?_ ?_
  · exact ⟨0, by omega, by simp (maxSteps := 2000000) (disch := first | omega | assumption | exact idP rfl | exact idP (bL rfl)) only [go_sem, reduceIte, Nat.reduceEqDiff], by simp (maxSteps := 2000000) (disch := first | omega | assumption | exact idP rfl | exact idP (bL rfl)) only [go_sem, reduceIte, Nat.reduceEqDiff], by simp (maxSteps := 2000000) (disch := first | omega | assumption | exact idP rfl | exact idP (bL rfl)) only [go_sem, reduceIte, Nat.reduceEqDiff]; rfl, (Sub.refl _).set hb3, by simp (maxSteps := 2000000) (disch := first | omega | assumption | exact idP rfl | exact idP (bL rfl)) only [go_sem, reduceIte, Nat.reduceEqDiff]; simp [catV]⟩
  · rintro e M1 ⟨i, hi, e0, e3, e4, hsub, hm⟩ K hK
    simp (maxSteps := 2000000) (disch := first | omega | assumption | exact idP rfl | exact idP (bL rfl)) only [go_sem, reduceIte, Nat.reduceEqDiff, e0, e3, e4, hlen]
    refine cond_dec (fun h => ?_) (fun h => ?_)
    · have hi' : i < xs.length := by omega
      have hv' := hv.get (by omega)
      have a1 : atN 3 v i = encVar xs[i] := hv'.elt hi'
      simp (maxSteps := 2000000) (disch := first | omega | assumption | exact idP rfl | exact idP (bL rfl)) only [go_sem, reduceIte, Nat.reduceEqDiff, e0, e3, e4, hv'.iaddr, a1]
      refine x_toVar.mono ?_
      rintro _ _ ⟨rfl, rfl⟩
      simp (maxSteps := 2000000) (disch := first | omega | assumption | exact idP rfl | exact idP (bL rfl)) only [go_sem, reduceIte, Nat.reduceEqDiff, e0, e3, e4, hm]
      have hti : (xs.take i).length = i := by simp; omega
      refine ⟨henc _, by simp [encVar, oneV, er, oneA], ?_, ?_⟩
      · rw [List.length_append, catV_len henc, catV_len henc, hti, List.length_replicate]; omega
      rw [show xs.length - i = (xs.length - (i + 1)) + 1 by omega, cat_set henc (by rw [hti]), ← take_snoc hi']
      simp (maxSteps := 2000000) (disch := first | omega | assumption | exact idP rfl | exact idP (bL rfl)) only [go_sem, reduceIte, Nat.reduceEqDiff, e0, e3, e4]
      exact hK _ _ ⟨i + 1, by omega, by simp (maxSteps := 2000000) (disch := first | omega | assumption | exact idP rfl | exact idP (bL rfl)) only [go_sem, reduceIte, Nat.reduceEqDiff], by simp (maxSteps := 2000000) (disch := first | omega | assumption | exact idP rfl | exact idP (bL rfl)) only [go_sem, reduceIte, Nat.reduceEqDiff], by simp (maxSteps := 2000000) (disch := first | omega | assumption | exact idP rfl | exact idP (bL rfl)) only [go_sem, reduceIte, Nat.reduceEqDiff]; rfl, hsub.set hb3, by simp (maxSteps := 2000000) (disch := first | omega | assumption | exact idP rfl | exact idP (bL rfl)) only [go_sem, reduceIte, Nat.reduceEqDiff]⟩ (by simp (maxSteps := 2000000) (disch := first | omega | assumption | exact idP rfl | exact idP (bL rfl)) only [go_sem, reduceIte, Nat.reduceEqDiff, ctrV_int, e4]; omega)
    · obtain rfl : i = xs.length := by omega
      simp only [List.take_length, Nat.sub_self, List.replicate_zero] at hm
      simp (maxSteps := 2000000) (disch := first | omega | assumption | exact idP rfl | exact idP (bL rfl)) only [go_sem, reduceIte, Nat.reduceEqDiff, e3]
      exact hR _ _ ⟨hsub, fun b' h' => by simp [blkV] at h'; subst h'; exact hb3, .inr ⟨b3, _, true, rfl, by simpa [catV] using hm, catV_len henc xs⟩⟩
theorem x_toTermS {v : V} {xs : List TermS} (hv : XT v xs) (hl : xs.length ≤ 1048576) : VCall Tryz.prog n_laws_toTermS [v] M (fun r M' => Gr 4 M M' r (catV encT xs)) := by
  refine VCall.plain fun R hR => v_laws_toTermS rfl ?_
  have hlen := hv.len fun _ _ h => h.len
  simp (maxSteps := 2000000) (disch := first | omega | assumption | exact idP rfl | exact idP (bL rfl)) only [go_sem, reduceIte, Nat.reduceEqDiff, hlen]
  refine mks3 (by omega) (by simp [mostCells]; omega) (by simp [mostCells]; omega) ?_
  intro b3 hb3
  simp (maxSteps := 2000000) (disch := first | omega | assumption | exact idP rfl | exact idP (bL rfl)) only [go_sem, reduceIte, Nat.reduceEqDiff, zeros_cat (enc := encT) (z := ⟨0, 0, 0, 0⟩) (zs := [AV.int .i64 0, AV.int .i64 0, AV.int .i64 0, AV.int .i64 0]) rfl]
  have henc : ∀ x, (encT x).length = 4 := fun x => rfl
  refine loop_k (fun e M' => ∃ i : Nat, i ≤ xs.length ∧ e 0 = v ∧ e 3 = .sc (.sl (some (b3, 0)) xs.length xs.length true 4) ∧ e 4 = .sc (.int .i64 i) ∧ Sub M M' ∧ M' b3 = some (catV encT (xs.take i) ++ catV encT (List.replicate (xs.length - i) ⟨0, 0, 0, 0⟩))) (fun e _ => ctrV xs.length (e 4)) ?_ ?_
  · exact ⟨0, by omega, by simp (maxSteps := 2000000) (disch := first | omega | assumption | exact idP rfl | exact idP (bL rfl)) only [go_sem, reduceIte, Nat.reduceEqDiff], by simp (maxSteps := 2000000) (disch := first | omega | assumption | exact idP rfl | exact idP (bL rfl)) only [go_sem, reduceIte, Nat.reduceEqDiff], by simp (maxSteps := 2000000) (disch := first | omega | assumption | exact idP rfl | exact idP (bL rfl)) only [go_sem, reduceIte, Nat.reduceEqDiff]; rfl, (Sub.refl _).set hb3, by simp (maxSteps := 2000000) (disch := first | omega | assumption | exact idP rfl | exact idP (bL rfl)) only [go_sem, reduceIte, Nat.reduceEqDiff]; simp [catV]⟩
  · rintro e M1 ⟨i, hi, e0, e3, e4, hsub, hm⟩ K hK
    simp (maxSteps := 2000000) (disch := first | omega | assumption | exact idP rfl | exact idP (bL rfl)) only [go_sem, reduceIte, Nat.reduceEqDiff, e0, e3, e4, hlen]
    refine cond_dec (fun h => ?_) (fun h => ?_)
    · have hi' : i < xs.length := by omega
      have hv' := hv.get (by omega)
      have a1 : atN 4 v i = encT xs[i] := hv'.elt hi'
      simp (maxSteps := 2000000) (disch := first | omega | assumption | exact idP rfl | exact idP (bL rfl)) only [go_sem, reduceIte, Nat.reduceEqDiff, e0, e3, e4, hv'.iaddr, a1]
      refine x_toTerm.mono ?_
      rintro _ _ ⟨rfl, rfl⟩
      simp (maxSteps := 2000000) (disch := first | omega | assumption | exact idP rfl | exact idP (bL rfl)) only [go_sem, reduceIte, Nat.reduceEqDiff, e0, e3, e4, hm]
      have hti : (xs.take i).length = i := by simp; omega
      refine ⟨henc _, by simp [encT, oneV, er, oneA], ?_, ?_⟩
      · rw [List.length_append, catV_len henc, catV_len henc, hti, List.length_replicate]; omega
      rw [show xs.length - i = (xs.length - (i + 1)) + 1 by omega, cat_set henc (by rw [hti]), ← take_snoc hi']
      simp (maxSteps := 2000000) (disch := first | omega | assumption | exact idP rfl | exact idP (bL rfl)) only [go_sem, reduceIte, Nat.reduceEqDiff, e0, e3, e4]
      exact hK _ _ ⟨i + 1, by omega, by simp (maxSteps := 2000000) (disch := first | omega | assumption | exact idP rfl | exact idP (bL rfl)) only [go_sem, reduceIte, Nat.reduceEqDiff], by simp (maxSteps := 2000000) (disch := first | omega | assumption | exact idP rfl | exact idP (bL rfl)) only [go_sem, reduceIte, Nat.reduceEqDiff], by simp (maxSteps := 2000000) (disch := first | omega | assumption | exact idP rfl | exact idP (bL rfl)) only [go_sem, reduceIte, Nat.reduceEqDiff]; rfl, hsub.set hb3, by simp (maxSteps := 2000000) (disch := first | omega | assumption | exact idP rfl | exact idP (bL rfl)) only [go_sem, reduceIte, Nat.reduceEqDiff]⟩ (by simp (maxSteps := 2000000) (disch := first | omega | assumption | exact idP rfl | exact idP (bL rfl)) only [go_sem, reduceIte, Nat.reduceEqDiff, ctrV_int, e4]; omega)
    · obtain rfl : i = xs.length := by omega
      simp only [List.take_length, Nat.sub_self, List.replicate_zero] at hm
      simp (maxSteps := 2000000) (disch := first | omega | assumption | exact idP rfl | exact idP (bL rfl)) only [go_sem, reduceIte, Nat.reduceEqDiff, e3]
      exact hR _ _ ⟨hsub, fun b' h' => by simp [blkV] at h'; subst h'; exact hb3, .inr ⟨b3, _, true, rfl, by simpa [catV] using hm, catV_len henc xs⟩⟩
theorem catV_at {α : Type} {enc : α → List V} {sz : Nat} (he : ∀ x, (enc x).length = sz) {xs : List α} {i : Nat} (hi : i < xs.length) : ((catV enc xs).drop (i * sz)).take sz = enc xs[i] := by
  have e1 : xs = xs.take i ++ xs[i] :: xs.drop (i + 1) := by rw [← List.drop_eq_getElem_cons hi, List.take_append_drop]
  have e2 : catV enc xs = catV enc (xs.take i) ++ (enc xs[i] ++ catV enc (xs.drop (i + 1))) := by
    have e3 : catV enc xs = catV enc (xs.take i ++ xs[i] :: xs.drop (i + 1)) := congrArg (catV enc) e1
    rw [e3]
    simp only [catV, List.map_append, List.map_cons, List.flatten_append, List.flatten_cons]
  have h3 := catV_len he (xs.take i)
  have h4 : (xs.take i).length = i := by simp; omega
  rw [e2, List.drop_left' (by rw [h3, h4]), List.take_left' (he _)]
theorem f_toVarS {v : V} {xs : List VarS} (hv : XVar v xs) (hl : xs.length ≤ 1048576) : VCall Tryz.prog n_laws_toVarS [v] M (fun r M' => M = M' ∧ LVar r xs) :=
  (VCall.fr1 (x_toVarS hv hl)).mono fun r M' ⟨h1, h2⟩ => ⟨h1, h2.lc (by omega) (catV_len (sz := 3) (enc := encVar) (fun _ => rfl) xs) fun i hi => catV_at (sz := 3) (enc := encVar) (fun _ => rfl) hi⟩
theorem f_toTermS {v : V} {xs : List TermS} (hv : XT v xs) (hl : xs.length ≤ 1048576) : VCall Tryz.prog n_laws_toTermS [v] M (fun r M' => M = M' ∧ LT r xs) :=
  (VCall.fr1 (x_toTermS hv hl)).mono fun r M' ⟨h1, h2⟩ => ⟨h1, h2.lc (by omega) (catV_len (sz := 4) (enc := encT) (fun _ => rfl) xs) fun i hi => catV_at (sz := 4) (enc := encT) (fun _ => rfl) hi⟩
end Go.M2

namespace Go.M2
open Go.Proofs
set_option linter.unusedVariables false
set_option linter.unusedSimpArgs false
set_option maxRecDepth 10000
set_option maxHeartbeats 4000000
variable {M : MH}
theorem f_toTermSS {v : V} {xs : List (List TermS)} (hv : XTT v xs) (hl : xs.length ≤ 1048576) (hx : ∀ ts ∈ xs, ts.length ≤ 1048576) : VCall Tryz.prog n_laws_toTermSS [v] M (fun r M' => M = M' ∧ LTT r xs) := by
  refine VCall.froz fun R hP hG => v_laws_toTermSS rfl ?_
  have hlen := hv.len fun _ _ h => h.len
  simp (maxSteps := 2000000) (disch := first | omega | assumption | exact idP rfl | exact idP (bL rfl)) only [go_sem, reduceIte, Nat.reduceEqDiff, hlen]
  refine mks3 (by omega) (by simp [mostCells]; omega) (by simp [mostCells]; omega) ?_
  intro b3 hb3
  simp (maxSteps := 2000000) (disch := first | omega | assumption | exact idP rfl | exact idP (bL rfl)) only [go_sem, reduceIte, Nat.reduceEqDiff, zeros_nil]
  refine loop_k (fun e M' => ∃ (i : Nat) (us : List V), i ≤ xs.length ∧ e 0 = v ∧ e 3 = .sc (.sl (some (b3, 0)) xs.length xs.length true 1) ∧ e 4 = .sc (.int .i64 i) ∧ Sub M M' ∧ M' b3 = some (us ++ List.replicate (xs.length - i) nil1) ∧ Cs (fun ts u => LT u ts) us (xs.take i)) (fun e _ => ctrV xs.length (e 4)) ?_ ?_
  · exact ⟨0, [], by omega, by simp (maxSteps := 2000000) (disch := first | omega | assumption | exact idP rfl | exact idP (bL rfl)) only [go_sem, reduceIte, Nat.reduceEqDiff], by simp (maxSteps := 2000000) (disch := first | omega | assumption | exact idP rfl | exact idP (bL rfl)) only [go_sem, reduceIte, Nat.reduceEqDiff], by simp (maxSteps := 2000000) (disch := first | omega | assumption | exact idP rfl | exact idP (bL rfl)) only [go_sem, reduceIte, Nat.reduceEqDiff]; rfl, (Sub.refl _).set hb3, by simp (maxSteps := 2000000) (disch := first | omega | assumption | exact idP rfl | exact idP (bL rfl)) only [go_sem, reduceIte, Nat.reduceEqDiff]; simp, .nil⟩
  · rintro e M1 ⟨i, us, hi, e0, e3, e4, hsub, hm, hc⟩ K hK
    have hul : us.length = i := by have := hc.1; simp at this; omega
    simp (maxSteps := 2000000) (disch := first | omega | assumption | exact idP rfl | exact idP (bL rfl)) only [go_sem, reduceIte, Nat.reduceEqDiff, e0, e3, e4, hlen]
    refine cond_dec (fun h => ?_) (fun h => ?_)
    · have hi' : i < xs.length := by omega
      have hv' := hv.get (by omega)
      obtain ⟨q, hq⟩ : ∃ q, xs.length - i = q + 1 := ⟨xs.length - i - 1, by omega⟩
      rw [hq, List.replicate_succ] at hm
      simp (maxSteps := 2000000) (disch := first | omega | assumption | exact idP rfl | exact idP (bL rfl)) only [go_sem, reduceIte, Nat.reduceEqDiff, e0, e3, e4, hv'.iaddr]
      refine (f_toTermS (hv'.elt hi') (hx _ (List.getElem_mem hi'))).mono ?_
      rintro r _ ⟨rfl, hr⟩
      have hr1 := hr.one.1
      have hr2 := hr.one.2
      have hsm : (us ++ nil1 :: List.replicate q nil1).set i r = us ++ r :: List.replicate q nil1 := set_mid hul
      have hnl3 : i < (us ++ nil1 :: List.replicate q nil1).length := by simp; omega
      simp (maxSteps := 2000000) (disch := first | omega | assumption | exact idP rfl | exact idP (bL rfl)) only [go_sem, reduceIte, Nat.reduceEqDiff, e0, e3, e4, hm, hr2, hsm]
      refine hK _ _ ⟨i + 1, us ++ [r], by omega, by simp (maxSteps := 2000000) (disch := first | omega | assumption | exact idP rfl | exact idP (bL rfl)) only [go_sem, reduceIte, Nat.reduceEqDiff], by simp (maxSteps := 2000000) (disch := first | omega | assumption | exact idP rfl | exact idP (bL rfl)) only [go_sem, reduceIte, Nat.reduceEqDiff], by simp (maxSteps := 2000000) (disch := first | omega | assumption | exact idP rfl | exact idP (bL rfl)) only [go_sem, reduceIte, Nat.reduceEqDiff]; rfl, hsub.set hb3, by simp (maxSteps := 2000000) (disch := first | omega | assumption | exact idP rfl | exact idP (bL rfl)) only [go_sem, reduceIte, Nat.reduceEqDiff]; simp [show xs.length - (i + 1) = q by omega], ?_⟩ (by simp (maxSteps := 2000000) (disch := first | omega | assumption | exact idP rfl | exact idP (bL rfl)) only [go_sem, reduceIte, Nat.reduceEqDiff, ctrV_int, e4]; omega)
      rw [take_snoc hi']
      exact hc.snoc hr
    · obtain rfl : i = xs.length := by omega
      rw [List.take_length] at hc
      simp (maxSteps := 2000000) (disch := first | omega | assumption | exact idP rfl | exact idP (bL rfl)) only [go_sem, reduceIte, Nat.reduceEqDiff, e3]
      exact hG _ _ 1 us ⟨hsub, fun b' h' => by simp [blkV] at h'; subst h'; exact hb3, .inr ⟨b3, _, true, rfl, by simpa using hm, by omega⟩⟩ fun u hu => hu.lsC hc
theorem f_toRule {cs : List V} {r : RuleS} (hv : isRuleX r cs) (hf : RuleFit r) : VCall Tryz.prog n_laws_toRule [.agg cs] M (fun r' M' => M = M' ∧ ∃ ds, r' = .agg ds ∧ isRule r ds) := by
  refine VCall.pure fun R hR => v_laws_toRule rfl ?_
  obtain ⟨a, b, c, rfl, ha, hb, hc⟩ := hv
  obtain ⟨f1, f2, f3, f4⟩ := hf
  simp (maxSteps := 2000000) (disch := first | omega | assumption | exact idP rfl | exact idP (bL rfl)) only [go_sem, reduceIte, Nat.reduceEqDiff]
  intro b1 hb1
  try simp (maxSteps := 2000000) (disch := first | omega | assumption | exact idP rfl | exact idP (bL rfl)) only [go_sem, reduceIte, Nat.reduceEqDiff]
  intro b2 hb2
  try simp (maxSteps := 2000000) (disch := first | omega | assumption | exact idP rfl | exact idP (bL rfl)) only [go_sem, reduceIte, Nat.reduceEqDiff]
  intro b3 hb3
  have n21 := (fresh_set hb2).1
  have n32 := (fresh_set hb3).1
  have n31 := (fresh_set (fresh_set hb3).2).1
  simp (maxSteps := 2000000) (disch := first | omega | assumption | exact idP rfl | exact idP (bL rfl)) only [go_sem, reduceIte, Nat.reduceEqDiff]
  refine (f_toTermS ha f1).mono ?_
  rintro x _ ⟨rfl, hx⟩
  have hx1 := hx.one.1
  have hx2 := hx.one.2
  simp (maxSteps := 2000000) (disch := first | omega | assumption | exact idP rfl | exact idP (bL rfl)) only [go_sem, reduceIte, Nat.reduceEqDiff, hx2]
  refine (f_toIntS hb f2).mono ?_
  rintro y _ ⟨rfl, hy⟩
  have hy1 := hy.one.1
  have hy2 := hy.one.2
  simp (maxSteps := 2000000) (disch := first | omega | assumption | exact idP rfl | exact idP (bL rfl)) only [go_sem, reduceIte, Nat.reduceEqDiff, hy2]
  refine (f_toTermSS hc f3 f4).mono ?_
  rintro z _ ⟨rfl, hz⟩
  have hz1 := hz.one.1
  have hz2 := hz.one.2
  simp (maxSteps := 2000000) (disch := first | omega | assumption | exact idP rfl | exact idP (bL rfl)) only [go_sem, reduceIte, Nat.reduceEqDiff, hz2]
  refine hR _ _ ?_ ⟨_, rfl, x, y, z, rfl, hx, hy, hz⟩
  repeat (first | exact Sub.refl _ | assumption | (refine Sub.set ?_ (fresh_set hb2).2) | (refine Sub.set ?_ (fresh_set (fresh_set hb3).2).2) | (refine Sub.set' ?_ (by assumption)))
abbrev T3 := {l : List V // l.length = 3}
def z3 : T3 := ⟨[nil1, nil1, nil1], rfl⟩
theorem f_toRuleS {v : V} {xs : List RuleS} (hv : XR v xs) (hl : xs.length ≤ 1048576) (hx : ∀ r ∈ xs, RuleFit r) : VCall Tryz.prog n_laws_toRuleS [v] M (fun r M' => M = M' ∧ LR r xs) := by
  refine VCall.froz fun R hP hG => v_laws_toRuleS rfl ?_
  have hlen := hv.len fun _ _ h => h.len
  have henc : ∀ x : T3, x.val.length = 3 := fun x => x.property
  simp (maxSteps := 2000000) (disch := first | omega | assumption | exact idP rfl | exact idP (bL rfl)) only [go_sem, reduceIte, Nat.reduceEqDiff, hlen]
  refine mks3 (by omega) (by simp [mostCells]; omega) (by simp [mostCells]; omega) ?_
  intro b3 hb3
  simp (maxSteps := 2000000) (disch := first | omega | assumption | exact idP rfl | exact idP (bL rfl)) only [go_sem, reduceIte, Nat.reduceEqDiff, zeros_cat (enc := fun x : T3 => x.val) (z := z3) (zs := [AV.sl none 0 0 true 0, AV.sl none 0 0 true 0, AV.sl none 0 0 true 0]) rfl]
  refine loop_k (fun e M' => ∃ (i : Nat) (us : List T3), i ≤ xs.length ∧ us.length = i ∧ e 0 = v ∧ e 3 = .sc (.sl (some (b3, 0)) xs.length xs.length true 3) ∧ e 4 = .sc (.int .i64 i) ∧ Sub M M' ∧ M' b3 = some (catV (fun x : T3 => x.val) us ++ catV (fun x : T3 => x.val) (List.replicate (xs.length - i) z3)) ∧ ∀ j (h1 : j < xs.length) (h2 : j < us.length), isRule xs[j] us[j].val) (fun e _ => ctrV xs.length (e 4)) ?_ ?_
  · exact ⟨0, [], by omega, rfl, by simp (maxSteps := 2000000) (disch := first | omega | assumption | exact idP rfl | exact idP (bL rfl)) only [go_sem, reduceIte, Nat.reduceEqDiff], by simp (maxSteps := 2000000) (disch := first | omega | assumption | exact idP rfl | exact idP (bL rfl)) only [go_sem, reduceIte, Nat.reduceEqDiff], by simp (maxSteps := 2000000) (disch := first | omega | assumption | exact idP rfl | exact idP (bL rfl)) only [go_sem, reduceIte, Nat.reduceEqDiff]; rfl, (Sub.refl _).set hb3, by simp (maxSteps := 2000000) (disch := first | omega | assumption | exact idP rfl | exact idP (bL rfl)) only [go_sem, reduceIte, Nat.reduceEqDiff]; simp [catV], fun j _ h => by simp at h⟩
  · rintro e M1 ⟨i, us, hi, hul, e0, e3, e4, hsub, hm, hc⟩ K hK
    simp (maxSteps := 2000000) (disch := first | omega | assumption | exact idP rfl | exact idP (bL rfl)) only [go_sem, reduceIte, Nat.reduceEqDiff, e0, e3, e4, hlen]
    refine cond_dec (fun h => ?_) (fun h => ?_)
    · have hi' : i < xs.length := by omega
      have hv' := hv.get (by omega)
      have hcs := hv'.elt hi'
      have hrule := hcs
      obtain ⟨c1, c2, c3, hat, _, _, _⟩ := hcs
      rw [hat] at hrule
      simp (maxSteps := 2000000) (disch := first | omega | assumption | exact idP rfl | exact idP (bL rfl)) only [go_sem, reduceIte, Nat.reduceEqDiff, e0, e3, e4, hv'.iaddr, hat]
      refine (f_toRule hrule (hx _ (List.getElem_mem hi'))).mono ?_
      rintro _ _ ⟨rfl, ds, rfl, hr⟩
      have hr0 := hr
      obtain ⟨x, y, z, rfl, hx1, hx2, hx3⟩ := hr
      simp (maxSteps := 2000000) (disch := first | omega | assumption | exact idP rfl | exact idP (bL rfl)) only [go_sem, reduceIte, Nat.reduceEqDiff, e0, e3, e4, hm]
      refine ⟨rfl, by simp [hx1.one.1, hx2.one.1, hx3.one.1], ?_, ?_⟩
      · rw [List.length_append, catV_len henc, catV_len henc, hul, List.length_replicate]; omega
      rw [show xs.length - i = (xs.length - (i + 1)) + 1 by omega, cat_set (x := (⟨[x, y, z], rfl⟩ : T3)) henc (by rw [hul])]
      simp (maxSteps := 2000000) (disch := first | omega | assumption | exact idP rfl | exact idP (bL rfl)) only [go_sem, reduceIte, Nat.reduceEqDiff, e0, e3, e4]
      refine hK _ _ ⟨i + 1, us ++ [⟨[x, y, z], rfl⟩], by omega, by simp [hul], by simp (maxSteps := 2000000) (disch := first | omega | assumption | exact idP rfl | exact idP (bL rfl)) only [go_sem, reduceIte, Nat.reduceEqDiff], by simp (maxSteps := 2000000) (disch := first | omega | assumption | exact idP rfl | exact idP (bL rfl)) only [go_sem, reduceIte, Nat.reduceEqDiff], by simp (maxSteps := 2000000) (disch := first | omega | assumption | exact idP rfl | exact idP (bL rfl)) only [go_sem, reduceIte, Nat.reduceEqDiff]; rfl, hsub.set hb3, by simp (maxSteps := 2000000) (disch := first | omega | assumption | exact idP rfl | exact idP (bL rfl)) only [go_sem, reduceIte, Nat.reduceEqDiff], fun j h1 h2 => ?_⟩ (by simp (maxSteps := 2000000) (disch := first | omega | assumption | exact idP rfl | exact idP (bL rfl)) only [go_sem, reduceIte, Nat.reduceEqDiff, ctrV_int, e4]; omega)
      by_cases hj : j < us.length
      · rw [List.getElem_append_left hj]; exact hc j h1 hj
      · obtain rfl : j = us.length := by simp at h2; omega
        subst hul
        simpa using hr0
    · obtain rfl : i = xs.length := by omega
      simp (maxSteps := 2000000) (disch := first | omega | assumption | exact idP rfl | exact idP (bL rfl)) only [go_sem, reduceIte, Nat.reduceEqDiff, e3]
      exact hG _ _ 3 (catV (fun x : T3 => x.val) us) ⟨hsub, fun b' h' => by simp [blkV] at h'; subst h'; exact hb3, .inr ⟨b3, _, true, rfl, by simpa [catV] using hm, by rw [catV_len henc, hul]⟩⟩ fun u hu => hu.lc (by omega) (by rw [catV_len henc, hul]) fun j hj => by rw [catV_at henc (by omega)]; exact hc j hj (by omega)
theorem f_toSystem {v : V} {s : SysS} (hv : isSysX s v) (hf : SysFit s) : VCall Tryz.prog n_laws_toSystem [v] M (fun r' M' => M = M' ∧ isSys s r') := by
  refine VCall.pure fun R hR => v_laws_toSystem rfl ?_
  obtain ⟨a, b, rfl, ha, hb⟩ := hv
  obtain ⟨f1, f2, f3⟩ := hf
  simp (maxSteps := 2000000) (disch := first | omega | assumption | exact idP rfl | exact idP (bL rfl)) only [go_sem, reduceIte, Nat.reduceEqDiff]
  intro b1 hb1
  try simp (maxSteps := 2000000) (disch := first | omega | assumption | exact idP rfl | exact idP (bL rfl)) only [go_sem, reduceIte, Nat.reduceEqDiff]
  intro b2 hb2
  try simp (maxSteps := 2000000) (disch := first | omega | assumption | exact idP rfl | exact idP (bL rfl)) only [go_sem, reduceIte, Nat.reduceEqDiff]
  intro b3 hb3
  have n21 := (fresh_set hb2).1
  have n32 := (fresh_set hb3).1
  have n31 := (fresh_set (fresh_set hb3).2).1
  simp (maxSteps := 2000000) (disch := first | omega | assumption | exact idP rfl | exact idP (bL rfl)) only [go_sem, reduceIte, Nat.reduceEqDiff]
  refine (f_toVarS ha f1).mono ?_
  rintro x _ ⟨rfl, hx⟩
  have hx1 := hx.one.1
  have hx2 := hx.one.2
  simp (maxSteps := 2000000) (disch := first | omega | assumption | exact idP rfl | exact idP (bL rfl)) only [go_sem, reduceIte, Nat.reduceEqDiff, hx2]
  refine (f_toRuleS hb f2 f3).mono ?_
  rintro y _ ⟨rfl, hy⟩
  have hy1 := hy.one.1
  have hy2 := hy.one.2
  simp (maxSteps := 2000000) (disch := first | omega | assumption | exact idP rfl | exact idP (bL rfl)) only [go_sem, reduceIte, Nat.reduceEqDiff, hy2]
  refine hR _ _ ?_ ⟨x, y, rfl, hx, hy⟩
  repeat (first | exact Sub.refl _ | assumption | (refine Sub.set ?_ (fresh_set hb2).2) | (refine Sub.set ?_ (fresh_set (fresh_set hb3).2).2) | (refine Sub.set' ?_ (by assumption)))
end Go.M2

namespace Go.M2
open Go.Proofs
set_option linter.unusedVariables false
set_option linter.unusedSimpArgs false
set_option maxRecDepth 10000
set_option maxHeartbeats 4000000
variable {M : MH}
theorem SysFit.sz {s : SysS} (h : SysFit s) : SysSz s := ⟨h.1, h.2.1, fun r hr => (h.2.2 r hr).2.1⟩
end Go.M2

namespace Go.M2
open Go.Proofs
set_option linter.unusedVariables false
set_option linter.unusedSimpArgs false
def EV {α : Type} (E : α → List V → Prop) : Heap → α → List AV → Prop := fun H x cs => ∃ vs : List V, erl vs = cs ∧ okL H vs ∧ E x vs
theorem erl_len : ∀ l : List V, (erl l).length = l.length
  | [] => rfl
  | v :: t => by simp only [erl, List.length_cons, erl_len t]
theorem erl_app : ∀ a b : List V, erl (a ++ b) = erl a ++ erl b
  | [], b => rfl
  | v :: t, b => by simp only [List.cons_append, erl, erl_app t b]
theorem okL_app {H : Heap} : ∀ {a b : List V}, okL H a → okL H b → okL H (a ++ b)
  | [], b, _, h => h
  | v :: t, b, h, k => by
    simp only [List.cons_append, okL] at h ⊢
    exact ⟨h.1, okL_app h.2 k⟩
theorem lift_cells {α : Type} {E : α → List V → Prop} {H : Heap} {b sz : Nat} : ∀ {xs : List α} {o : Nat}, (∀ i (h : i < xs.length), ∃ cs, cs.length = sz ∧ Rd H b (o + i * sz) cs ∧ EV E H xs[i] cs) →
    ∃ vs : List V, vs.length = xs.length * sz ∧ Rd H b o (erl vs) ∧ okL H vs ∧ ∀ i (h : i < xs.length), E xs[i] ((vs.drop (i * sz)).take sz)
  | [], o, _ => ⟨[], by simp, Rd.nil _ _ _, by simp [okL], fun i h => by simp at h⟩
  | x :: t, o, h => by
    obtain ⟨cs, h1, h2, us, h3, h4, h5⟩ := h 0 (by simp)
    obtain ⟨vs, k1, k2, k3, k4⟩ := lift_cells (xs := t) (o := o + sz) (E := E) (H := H) (b := b) (sz := sz) (fun i hi => by
      obtain ⟨cs, q1, q2, q3⟩ := h (i + 1) (by simp; omega)
      exact ⟨cs, q1, by rw [show o + sz + i * sz = o + (i + 1) * sz by rw [Nat.succ_mul]; omega]; exact q2, by simpa using q3⟩)
    have hu : us.length = sz := by rw [← erl_len, h3]; exact h1
    refine ⟨us ++ vs, by simp [hu, k1, Nat.succ_mul]; omega, ?_, okL_app h4 k3, fun i hi => ?_⟩
    · intro i y hy
      rw [erl_app] at hy
      by_cases hlt : i < (erl us).length
      · rw [List.getElem?_append_left hlt, h3] at hy
        have := h2 i y hy
        simpa using this
      · rw [List.getElem?_append_right (by omega)] at hy
        have e1 : (erl us).length = sz := by rw [erl_len]; exact hu
        rw [e1] at hy hlt
        have := k2 (i - sz) y hy
        rwa [show o + sz + (i - sz) = o + i by omega] at this
    · cases i with
      | zero => simpa [List.take_left' hu] using h5
      | succ i =>
        have := k4 i (by simpa using hi)
        have e2 : (us ++ vs).drop ((i + 1) * sz) = vs.drop (i * sz) := by
          rw [show (i + 1) * sz = us.length + i * sz by rw [Nat.succ_mul, hu]; omega, List.drop_append]
          simp
        rw [e2]
        simpa using this
theorem lift_slice {α : Type} {E : α → List V → Prop} {H : Heap} {sz : Nat} {v : AV} {xs : List α} (h : InS sz (EV E) H v xs) : ∃ v', er v' = v ∧ okV H v' ∧ In (Lc sz E) v' xs := by
  rcases h with ⟨A, c, ex, k, rfl, h⟩ | ⟨rfl, rfl⟩
  · obtain ⟨vs, h1, h2, h3, h4⟩ := lift_cells h
    exact ⟨.fs A xs.length c ex k vs, rfl, by simp only [okV]; exact ⟨h2, h3⟩, .inl (.inr ⟨A, c, ex, k, vs, rfl, by omega, fun i hi => h4 i hi⟩)⟩
  · exact ⟨.sc .emp, rfl, by simp [okV], .inr ⟨rfl, rfl⟩⟩
def E1 {α : Type} (E : α → V → Prop) : α → List V → Prop := fun a cs => ∃ u, cs = [u] ∧ E a u
theorem lc1_ls {α : Type} {E : α → V → Prop} {v : V} {ys : List α} (h : Lc 1 (E1 E) v ys) : Ls E v ys := by
  rcases h with h | ⟨A, c, ex, k, xs, rfl, hl, h⟩
  · exact .inl h
  · refine .inr ⟨A, c, ex, k, xs, rfl, by omega, fun i hi => ?_⟩
    obtain ⟨u, h1, h2⟩ := h i hi
    have h3 : xs[i]? = some u := by
      have := congrArg (fun l => l[0]?) h1
      simpa [atN, List.getElem?_take, List.getElem?_drop] using this
    have h4 : at1 (.fs A ys.length c ex k xs) i = u := by
      simp [at1, List.getD_eq_getElem?_getD, h3]
    rw [h4]; exact h2
section
open Go.ChangeShapes Go.WideShapes Go.ChangeAt Go.RowKit
variable {HH : Type} {enc : TypeId × Value → HH} {P : Program} {W : World} {t e : TypeId} {fuel : Nat} {cs : List Value} {x : DataW HH × List MemPlace}
def LiftE {α : Type} (W : World) (E : α → List V → Prop) (a : α) (cs : List Value) : Prop := ∃ vs, erl vs = cs.map (avC W.heap.size) ∧ okL (heap0 W) vs ∧ E a vs
theorem in_list {α : Type} {E : α → List V → Prop} {good : α → Prop} {sz : Nat} (ht : P.underlying t = some (.slice e)) (hsz : P.cellsOf e = sz) (h0 : 0 < sz)
    (he : ∀ n cs x, DataW.trod enc P W 0 (fun _ => true) true n e cs = some x → ∃ a, LiftE W E a cs ∧ good a)
    (h : DataW.trod enc P W 0 (fun _ => true) true fuel t cs = some x) : ∃ xs : List α, LiftE W (E1 (fun (ys : List α) u => In (Lc sz E) u ys)) xs cs ∧ (xs.length ≤ 9223372036854775807 ∧ ∀ a ∈ xs, good a) := by
  obtain ⟨v, xs, rfl, h1, h2, h3⟩ := in_slice (E := EV E) (good := good) ht hsz h0 (fun n cs x hx => by
    obtain ⟨a, ⟨vs, h1, h2, h3⟩, h4⟩ := he n cs x hx
    exact ⟨a, ⟨vs, h1, h2, h3⟩, h4⟩) h
  obtain ⟨u, k1, k2, k3⟩ := lift_slice h1
  exact ⟨xs, ⟨[u], by simp [erl, k1], by simp only [okL]; exact ⟨k2, trivial⟩, u, rfl, k3⟩, h3, h2⟩
theorem in_list1 {α : Type} {E : α → V → Prop} {good : α → Prop} (ht : P.underlying t = some (.slice e)) (hsz : P.cellsOf e = 1)
    (he : ∀ n cs x, DataW.trod enc P W 0 (fun _ => true) true n e cs = some x → ∃ a, LiftE W (E1 E) a cs ∧ good a)
    (h : DataW.trod enc P W 0 (fun _ => true) true fuel t cs = some x) : ∃ xs : List α, LiftE W (E1 (fun (ys : List α) u => In (Ls E) u ys)) xs cs ∧ (xs.length ≤ 9223372036854775807 ∧ ∀ a ∈ xs, good a) := by
  obtain ⟨xs, ⟨vs, h1, h2, u, rfl, h3⟩, h4⟩ := in_list ht hsz (by omega) he h
  exact ⟨xs, ⟨[u], h1, h2, u, rfl, h3.imp lc1_ls id⟩, h4⟩
theorem in_n (ht : P.underlying t = some (.int .i64)) (h : DataW.trod enc P W 0 (fun _ => true) true fuel t cs = some x) : ∃ n, LiftE W (E1 isI) n cs ∧ (-9223372036854775808 ≤ n ∧ n ≤ 9223372036854775807) := by
  obtain ⟨n, rfl, h1⟩ := in_int ht h
  exact ⟨n, ⟨[.sc (.int .i64 n)], rfl, by simp [okL, okV], _, rfl, rfl⟩, h1⟩
theorem LiftE.one {α : Type} {E : α → V → Prop} {a : α} {c : Value} (h : LiftE W (E1 E) a [c]) : ∃ u, er u = avC W.heap.size c ∧ okV (heap0 W) u ∧ E a u := by
  obtain ⟨vs, h1, h2, u, rfl, h3⟩ := h
  simp only [erl, List.map_cons, List.map_nil, List.cons.injEq, and_true] at h1
  simp only [okL] at h2
  exact ⟨u, h1, h2.1, h3⟩
end
theorem calls_of_vcall {P : Program} {f : FuncId} {vs : List Value} {vv : List V} {W : World} (h : VCall P f vv (fun _ => none) (fun r M' => (fun _ => none) = M' ∧ r = .sc (.bool true)))
    (he : vv.map er = vs.map (avT W.heap.size)) (ho : okL (heap0 W) vv) : Calls P f vs.toArray W (fun e w' => e = .returned (.bool true) ∧ Go.RowKit.Below W.heap.size W w') := by
  refine calls_of_acall ?_
  rw [← he]
  refine (h (heap0 W) (heap0 W) ⟨rfl, fun b _ => .inr rfl, fun b l hb => by cases hb⟩ ho).mono ?_
  rintro a H' ⟨r, M', F', rfl, _, _, _, _, rfl⟩
  rfl
end Go.M2

namespace Go.M2
open Go.Proofs
open Go.ChangeShapes Go.WideShapes Go.ChangeAt Go.RowKit
set_option linter.unusedVariables false
variable {HH : Type} {enc : TypeId × Value → HH} {W : World} {fuel : Nat} {cs : List Value} {x : DataW HH × List MemPlace}
theorem list4 {α : Type} {l : List α} (h : l.length = 4) : ∃ a b c d, l = [a, b, c, d] := by
  match l, h with
  | [a, b, c, d], _ => exact ⟨a, b, c, d, rfl⟩
theorem list3 {α : Type} {l : List α} (h : l.length = 3) : ∃ a b c, l = [a, b, c] := by
  match l, h with
  | [a, b, c], _ => exact ⟨a, b, c, rfl⟩
theorem in_i64 (h : DataW.trod enc Tryz.prog W 0 (fun _ => true) true fuel 3 cs = some x) : ∃ n : Int, cs = [.int .i64 n] := by
  obtain ⟨n, h1, _⟩ := in_int Tryz.underlying3 h
  exact ⟨n, h1⟩
theorem in_term (h : DataW.trod enc Tryz.prog W 0 (fun _ => true) true fuel 88 cs = some x) : ∃ t : TermS, LiftE W isT t cs ∧ True := by
  have c3 : Tryz.prog.cellsOf 3 = 1 := by kernel_rfl
  obtain ⟨xs, n, _, _, hl, hxl, hf⟩ := DataW.trod_struct Tryz.underlying88 h
  have hxl : xs.length = 4 := hxl
  have hl : cs.length = 4 := hl.trans (by kernel_rfl)
  obtain ⟨a, b, c, d, rfl⟩ := list4 hl
  have f0 := hf 0 ⟨ "Op", 3, 0, false, "", "", 0⟩ rfl
  have f1 := hf 1 ⟨ "N", 3, 1, false, "", "", 8⟩ rfl
  have f2 := hf 2 ⟨ "A", 3, 2, false, "", "", 16⟩ rfl
  have f3 := hf 3 ⟨ "B", 3, 3, false, "", "", 24⟩ rfl
  rw [List.getElem?_eq_getElem (by omega), c3] at f0 f1 f2 f3
  obtain ⟨n0, e0⟩ := in_i64 f0
  obtain ⟨n1, e1⟩ := in_i64 f1
  obtain ⟨n2, e2⟩ := in_i64 f2
  obtain ⟨n3, e3⟩ := in_i64 f3
  simp only [List.drop_zero, List.drop_succ_cons, List.take_succ_cons, List.take_zero, List.cons.injEq, and_true] at e0 e1 e2 e3
  subst e0 e1 e2 e3
  exact ⟨⟨n0, n1, n2, n3⟩, ⟨encT ⟨n0, n1, n2, n3⟩, rfl, by simp [encT, okL, okV], rfl⟩, trivial⟩
theorem in_var (h : DataW.trod enc Tryz.prog W 0 (fun _ => true) true fuel 105 cs = some x) : ∃ t : VarS, LiftE W isVar t cs ∧ True := by
  have c3 : Tryz.prog.cellsOf 3 = 1 := by kernel_rfl
  obtain ⟨xs, n, _, _, hl, hxl, hf⟩ := DataW.trod_struct Tryz.underlying105 h
  have hxl : xs.length = 3 := hxl
  have hl : cs.length = 3 := hl.trans (by kernel_rfl)
  obtain ⟨a, b, c, rfl⟩ := list3 hl
  have f0 := hf 0 ⟨ "Low", 3, 0, false, "", "", 0⟩ rfl
  have f1 := hf 1 ⟨ "High", 3, 1, false, "", "", 8⟩ rfl
  have f2 := hf 2 ⟨ "First", 3, 2, false, "", "", 16⟩ rfl
  rw [List.getElem?_eq_getElem (by omega), c3] at f0 f1 f2
  obtain ⟨n0, e0⟩ := in_i64 f0
  obtain ⟨n1, e1⟩ := in_i64 f1
  obtain ⟨n2, e2⟩ := in_i64 f2
  simp only [List.drop_zero, List.drop_succ_cons, List.take_succ_cons, List.take_zero, List.cons.injEq, and_true] at e0 e1 e2
  subst e0 e1 e2
  exact ⟨⟨n0, n1, n2⟩, ⟨encVar ⟨n0, n1, n2⟩, rfl, by simp [encVar, okL, okV], rfl⟩, trivial⟩
theorem in_ints (h : DataW.trod enc Tryz.prog W 0 (fun _ => true) true fuel 26 cs = some x) : ∃ ns : List Int, LiftE W (E1 (fun (ys : List Int) u => XI u ys)) ns cs ∧ LenOk ns := by
  obtain ⟨ns, h1, h2, _⟩ := in_list1 (E := isI) (good := fun n => -9223372036854775808 ≤ n ∧ n ≤ 9223372036854775807) Tryz.underlying26 (by kernel_rfl) (fun n cs x h => in_n Tryz.underlying3 h) h
  exact ⟨ns, h1, h2⟩
theorem in_terms (h : DataW.trod enc Tryz.prog W 0 (fun _ => true) true fuel 43 cs = some x) : ∃ ts : List TermS, LiftE W (E1 (fun (ys : List TermS) u => XT u ys)) ts cs ∧ LenOk ts := by
  obtain ⟨ns, h1, h2, _⟩ := in_list (E := isT) (good := fun _ => True) (sz := 4) Tryz.underlying43 (by kernel_rfl) (by omega) (fun n cs x h => in_term h) h
  exact ⟨ns, h1, h2⟩
theorem in_vars (h : DataW.trod enc Tryz.prog W 0 (fun _ => true) true fuel 22 cs = some x) : ∃ ts : List VarS, LiftE W (E1 (fun (ys : List VarS) u => XVar u ys)) ts cs ∧ LenOk ts := by
  obtain ⟨ns, h1, h2, _⟩ := in_list (E := isVar) (good := fun _ => True) (sz := 3) Tryz.underlying22 (by kernel_rfl) (by omega) (fun n cs x h => in_var h) h
  exact ⟨ns, h1, h2⟩
theorem in_termss (h : DataW.trod enc Tryz.prog W 0 (fun _ => true) true fuel 99 cs = some x) : ∃ ts : List (List TermS), LiftE W (E1 (fun (ys : List (List TermS)) u => XTT u ys)) ts cs ∧ (LenOk ts ∧ ∀ t ∈ ts, LenOk t) :=
  in_list1 (E := fun (ts : List TermS) u => XT u ts) (good := fun ts => LenOk ts) Tryz.underlying99 (by kernel_rfl) (fun n cs x h => in_terms h) h
theorem in_rule (h : DataW.trod enc Tryz.prog W 0 (fun _ => true) true fuel 101 cs = some x) : ∃ r : RuleS, LiftE W isRuleX r cs ∧ RuleLen r := by
  obtain ⟨xs, n, _, _, hl, hxl, hf⟩ := DataW.trod_struct Tryz.underlying101 h
  have hxl : xs.length = 3 := hxl
  have hl : cs.length = 3 := hl.trans (by kernel_rfl)
  have c1 : Tryz.prog.cellsOf 43 = 1 := by kernel_rfl
  have c2 : Tryz.prog.cellsOf 26 = 1 := by kernel_rfl
  have c3 : Tryz.prog.cellsOf 99 = 1 := by kernel_rfl
  obtain ⟨a, b, c, rfl⟩ := list3 hl
  have f0 := hf 0 ⟨ "When", 43, 0, false, "", "", 0⟩ rfl
  have f1 := hf 1 ⟨ "Sets", 26, 1, false, "", "", 24⟩ rfl
  have f2 := hf 2 ⟨ "Terms", 99, 2, false, "", "", 48⟩ rfl
  rw [List.getElem?_eq_getElem (by omega)] at f0 f1 f2
  simp only [c1, c2, c3, List.drop_zero, List.drop_succ_cons, List.take_succ_cons, List.take_zero] at f0 f1 f2
  obtain ⟨n0, e0, g0⟩ := in_terms f0
  obtain ⟨n1, e1, g1⟩ := in_ints f1
  obtain ⟨n2, e2, g2, g3⟩ := in_termss f2
  obtain ⟨u0, p0, q0, r0⟩ := e0.one
  obtain ⟨u1, p1, q1, r1⟩ := e1.one
  obtain ⟨u2, p2, q2, r2⟩ := e2.one
  exact ⟨⟨n0, n1, n2⟩, ⟨[u0, u1, u2], by simp [erl, p0, p1, p2], by simp only [okL]; exact ⟨q0, q1, q2, trivial⟩, u0, u1, u2, rfl, r0, r1, r2⟩, g0, g1, g2, g3⟩
theorem in_rules (h : DataW.trod enc Tryz.prog W 0 (fun _ => true) true fuel 23 cs = some x) : ∃ rs : List RuleS, LiftE W (E1 (fun (ys : List RuleS) u => XR u ys)) rs cs ∧ (LenOk rs ∧ ∀ r ∈ rs, RuleLen r) :=
  in_list (E := isRuleX) (good := RuleLen) (sz := 3) Tryz.underlying23 (by kernel_rfl) (by omega) (fun n cs x h => in_rule h) h
def UpV {α : Type} (W : World) (E : α → V → Prop) (a : α) (v : Value) : Prop := ∃ u, er u = avT W.heap.size v ∧ okV (heap0 W) u ∧ E a u
theorem up_system {v : Value} (hv : ∃ a, v = .agg a) (h : DataW.trod enc Tryz.prog W 0 (fun _ => true) true fuel 25 v.cells.toList = some x) : ∃ s : SysS, UpV W (fun (s : SysS) u => isSysX s u) s v ∧ SysLen s := by
  obtain ⟨cs, rfl⟩ := hv
  have c1 : Tryz.prog.cellsOf 22 = 1 := by kernel_rfl
  have c2 : Tryz.prog.cellsOf 23 = 1 := by kernel_rfl
  obtain ⟨xs, n, _, _, hl, hxl, hf⟩ := DataW.trod_struct Tryz.underlying25 h
  have hxl : xs.length = 2 := hxl
  have hl : cs.toList.length = 2 := hl.trans (by kernel_rfl)
  obtain ⟨a, b, hab⟩ : ∃ a b, cs.toList = [a, b] := by
    match hcs : cs.toList, hl with
    | [a, b], _ => exact ⟨a, b, rfl⟩
  have f0 := hf 0 ⟨ "Vars", 22, 0, false, "", "", 0⟩ rfl
  have f1 := hf 1 ⟨ "Rules", 23, 1, false, "", "", 24⟩ rfl
  rw [List.getElem?_eq_getElem (by omega)] at f0 f1
  simp only [Value.cells, hab, c1, c2, List.drop_zero, List.drop_succ_cons, List.take_succ_cons, List.take_zero] at f0 f1
  obtain ⟨n0, e0, g0⟩ := in_vars f0
  obtain ⟨n1, e1, g1, g2⟩ := in_rules f1
  obtain ⟨u0, p0, q0, r0⟩ := e0.one
  obtain ⟨u1, p1, q1, r1⟩ := e1.one
  refine ⟨⟨n0, n1⟩, ⟨.agg [u0, u1], ?_, by simp only [okV, okL]; exact ⟨q0, q1, trivial⟩, u0, u1, rfl, r0, r1⟩, g0, g1, g2⟩
  simp [er, erl, avT, hab, p0, p1]
theorem avT_sl {N : Nat} {v : Value} (h : ∀ a, v ≠ .agg a) : avT N v = avC N v := by
  unfold avT
  split
  · rename_i a; exact absurd rfl (h a)
  · rfl
theorem up_ints {v : Value} (hv : ∀ a, v ≠ .agg a) (h : DataW.trod enc Tryz.prog W 0 (fun _ => true) true fuel 26 v.cells.toList = some x) : ∃ ns : List Int, UpV W (fun (ns : List Int) u => XI u ns) ns v ∧ LenOk ns := by
  obtain ⟨ns, e, g⟩ := in_ints h
  have hc : v.cells.toList = [v] := by
    cases v <;> first | rfl | exact absurd rfl (hv _)
  rw [hc] at e
  obtain ⟨u, p, q, r⟩ := e.one
  exact ⟨ns, ⟨u, by rw [avT_sl hv]; exact p, q, r⟩, g⟩
theorem up_terms {v : Value} (hv : ∀ a, v ≠ .agg a) (h : DataW.trod enc Tryz.prog W 0 (fun _ => true) true fuel 43 v.cells.toList = some x) : ∃ ns : List TermS, UpV W (fun (ns : List TermS) u => XT u ns) ns v ∧ LenOk ns := by
  obtain ⟨ns, e, g⟩ := in_terms h
  have hc : v.cells.toList = [v] := by
    cases v <;> first | rfl | exact absurd rfl (hv _)
  rw [hc] at e
  obtain ⟨u, p, q, r⟩ := e.one
  exact ⟨ns, ⟨u, by rw [avT_sl hv]; exact p, q, r⟩, g⟩
end Go.M2

namespace Go.M2
open Go.Proofs
set_option linter.unusedVariables false
set_option linter.unusedSimpArgs false
set_option maxRecDepth 10000
set_option maxHeartbeats 4000000
variable {M : MH}
def whB (s : SysS) (ts : List TermS) (n : Nat) : Bool := decide (evalF ts (stGo s.vars (n : Int)) = 1)
noncomputable def tOk (s : SysS) (ts : List TermS) : Bool := sysB s && kindIs (s.vars.length : Int) 2 ts
theorem tOk_iff {s : SysS} {ts : List TermS} : tOk s ts = true ↔ SysOk s ∧ kindIs (s.vars.length : Int) 2 ts = true := by
  unfold tOk
  rw [Bool.and_eq_true, sysB_iff]
theorem kindIs_some {vars k : Int} {ts : List TermS} (h : kindIs vars k ts = true) : ∃ ks, kindsF vars ts = some ks := by
  unfold kindIs at h
  split at h
  · rename_i ks h2; exact ⟨ks, h2⟩
  · cases h
theorem mkL_setB {n k : Nat} {p q : Nat → Bool} {b : Bool} (h : ∀ i, i < n → q i = if i = k then b else p i) : (mkL n p).set k b = mkL n q := by
  apply List.ext_getElem
  · simp [mkL]
  · intro i h1 h2
    rw [List.getElem_set, mkL_get, mkL_get]
    rw [mkL_len] at h2
    rw [h i h2]
    by_cases e : k = i
    · subst e; simp
    · rw [if_neg e, if_neg (fun e' => e e'.symm)]
theorem t_where {v w : V} {s : SysS} {ts : List TermS} {N : Nat} (hv : isSys s v) (hs : SysOk s) (hw : LT w ts) (hk : kindIs (s.vars.length : Int) 2 ts = true) (hN : sizeF s.vars = (N : Int)) :
    VCall Tryz.prog n_impl_where [v, w] M (fun r M' => Gr 1 M M' r ((mkL N (whB s ts)).map vb)) := by
  refine VCall.plain fun R hR => v_impl_where rfl ?_
  have hv0 := hv
  obtain ⟨a, b, rfl, ha, hb⟩ := hv
  obtain ⟨ks, hks⟩ := kindIs_some hk
  have hsz := hs.sz
  (repeat' (first | ((first | with_reducible refine cond_dec (fun h => ?_) (fun h => ?_) | with_reducible refine guardK_dec (fun h => ?_) (fun h => ?_) | with_reducible refine guardD3_dec (fun h => ?_) (fun h => ?_)) <;> first | (exfalso; omega) | (simp (maxSteps := 2000000) (disch := first | omega | assumption | exact idP rfl | exact idP (bL rfl)) only [go_sem, reduceIte, Nat.reduceEqDiff, h]) | skip) | ((first | with_reducible refine cond_split (fun h => ?_) (fun h => ?_) | with_reducible refine guardK_split (fun h => ?_) (fun h => ?_) | with_reducible refine guardD3_split (fun h => ?_) (fun h => ?_)) <;> ((try simp only [Bool.not_eq_true', Bool.not_eq_false'] at h); first | (simp (maxSteps := 2000000) (disch := first | omega | assumption | exact idP rfl | exact idP (bL rfl)) only [go_sem, reduceIte, Nat.reduceEqDiff, h]) | skip)) | ((with_reducible refine (t_impSize ha hs.vars hs.v5).mono ?_); rintro _ _ ⟨rfl, rfl⟩) | (with_reducible intro bk hbk; try have hnk := (fresh_set hbk).1) | (simp (maxSteps := 2000000) (disch := first | omega | assumption | exact idP rfl | exact idP (bL rfl)) only [go_sem, reduceIte, Nat.reduceEqDiff])))
  rw [hN]
  refine mks3 (by omega) (by simp [mostCells]; omega) (by simp [mostCells]; omega) ?_
  intro b5 hb5
  simp (maxSteps := 2000000) (disch := first | omega | assumption | exact idP rfl | exact idP (bL rfl)) only [go_sem, reduceIte, Nat.reduceEqDiff, zeros_vb', mkL_none]
  refine loop_k (fun e M' => ∃ i : Nat, i ≤ N ∧ e 1 = w ∧ e 2 = .sc (.ptr (some (bk, 0))) ∧ e 5 = .sc (.sl (some (b5, 0)) N N true 1) ∧ e 12 = .sc (.int .i64 N) ∧ e 13 = .sc (.int .i64 i) ∧ Sub (M.set bk [a, b]) M' ∧ M' b5 = some ((mkL N (fun j => decide (j < i) && whB s ts j)).map vb)) (fun e _ => ctrV N (e 13)) ?_ ?_
  · refine ⟨0, by omega, by simp (maxSteps := 2000000) (disch := first | omega | assumption | exact idP rfl | exact idP (bL rfl)) only [go_sem, reduceIte, Nat.reduceEqDiff], by simp (maxSteps := 2000000) (disch := first | omega | assumption | exact idP rfl | exact idP (bL rfl)) only [go_sem, reduceIte, Nat.reduceEqDiff], by simp (maxSteps := 2000000) (disch := first | omega | assumption | exact idP rfl | exact idP (bL rfl)) only [go_sem, reduceIte, Nat.reduceEqDiff], by simp (maxSteps := 2000000) (disch := first | omega | assumption | exact idP rfl | exact idP (bL rfl)) only [go_sem, reduceIte, Nat.reduceEqDiff], by simp (maxSteps := 2000000) (disch := first | omega | assumption | exact idP rfl | exact idP (bL rfl)) only [go_sem, reduceIte, Nat.reduceEqDiff]; rfl, (Sub.refl _).set hb5, ?_⟩
    simp (maxSteps := 2000000) (disch := first | omega | assumption | exact idP rfl | exact idP (bL rfl)) only [go_sem, reduceIte, Nat.reduceEqDiff]
    rw [mkL_ext]
    intro i hi; simp
  · rintro e M1 ⟨i, hi, e1, e2, e5, e12, e13, hsub, hm⟩ K hK
    have hm2 := hsub bk _ set_same
    simp (maxSteps := 2000000) (disch := first | omega | assumption | exact idP rfl | exact idP (bL rfl)) only [go_sem, reduceIte, Nat.reduceEqDiff, e1, e2, e5, e12, e13]
    refine cond_dec (fun h => ?_) (fun h => ?_)
    · have hi' : i < N := by omega
      have hso : i < ((mkL N (fun j => decide (j < i) && whB s ts j)).map vb).length := by rw [len_vb', mkL_len]; omega
      simp (maxSteps := 2000000) (disch := first | omega | assumption | exact idP rfl | exact idP (bL rfl)) only [go_sem, reduceIte, Nat.reduceEqDiff, e1, e2, e5, e12, e13, hm2]
      refine (f_stateAt hv0 hs (n := (i : Int)) (by omega) (by omega)).mono ?_
      rintro st _ ⟨rfl, hst⟩
      simp (maxSteps := 2000000) (disch := first | omega | assumption | exact idP rfl | exact idP (bL rfl)) only [go_sem, reduceIte, Nat.reduceEqDiff, e1, e2, e5, e12, e13, hm2]
      have hin : StIn s.vars (stGo s.vars (i : Int)) := stGo_in hs.vars
      refine (t_eval hw hst hks (hin.ok hs) (by rw [stGo_len]; omega)).mono ?_
      rintro _ _ ⟨rfl, rfl⟩
      simp (maxSteps := 2000000) (disch := first | omega | assumption | exact idP rfl | exact idP (bL rfl)) only [go_sem, reduceIte, Nat.reduceEqDiff, e1, e2, e5, e12, e13, hm2, hm]
      refine hK _ _ ⟨i + 1, by omega, by simp (maxSteps := 2000000) (disch := first | omega | assumption | exact idP rfl | exact idP (bL rfl)) only [go_sem, reduceIte, Nat.reduceEqDiff], by simp (maxSteps := 2000000) (disch := first | omega | assumption | exact idP rfl | exact idP (bL rfl)) only [go_sem, reduceIte, Nat.reduceEqDiff], by simp (maxSteps := 2000000) (disch := first | omega | assumption | exact idP rfl | exact idP (bL rfl)) only [go_sem, reduceIte, Nat.reduceEqDiff], by simp (maxSteps := 2000000) (disch := first | omega | assumption | exact idP rfl | exact idP (bL rfl)) only [go_sem, reduceIte, Nat.reduceEqDiff], by simp (maxSteps := 2000000) (disch := first | omega | assumption | exact idP rfl | exact idP (bL rfl)) only [go_sem, reduceIte, Nat.reduceEqDiff]; rfl, hsub.set hb5, ?_⟩ (by simp (maxSteps := 2000000) (disch := first | omega | assumption | exact idP rfl | exact idP (bL rfl)) only [go_sem, reduceIte, Nat.reduceEqDiff, ctrV_int, e13]; omega)
      simp (maxSteps := 2000000) (disch := first | omega | assumption | exact idP rfl | exact idP (bL rfl)) only [go_sem, reduceIte, Nat.reduceEqDiff]
      rw [set_vb', mkL_setB]
      intro j hj
      by_cases e : j = i
      · subst e; simp [whB]
      · rw [if_neg e]
        have : decide (j < i + 1) = decide (j < i) := decide_eq_decide.2 (by omega)
        rw [this]
    · obtain rfl : i = N := by omega
      simp (maxSteps := 2000000) (disch := first | omega | assumption | exact idP rfl | exact idP (bL rfl)) only [go_sem, reduceIte, Nat.reduceEqDiff, e5]
      rw [mkL_ext (q := whB s ts) (fun j hj => by simp [hj])] at hm
      exact hR _ _ ⟨fun b' l hl => hsub b' l ((Sub.refl M).set' hbk b' l hl), fun b' h' => by simp [blkV] at h'; subst h'; exact ((Sub.refl M).set' hbk).none hb5, .inr ⟨b5, i, true, rfl, hm, by rw [len_vb', mkL_len]; omega⟩⟩
theorem t_truthOf {v w : V} {s : SysS} {ts : List TermS} (hv : isSys s v) (hz : SysSz s) (hw : LT w ts) : VCall Tryz.prog n_impl_truthOf [v, w] M (fun r M' => M = M' ∧ r = .sc (.bool (tOk s ts))) := by
  refine VCall.pure fun R hR => v_impl_truthOf rfl ?_
  have hv0 := hv
  obtain ⟨a, b, rfl, ha, hb⟩ := hv
  (repeat' (first | ((first | with_reducible refine cond_dec (fun h => ?_) (fun h => ?_) | with_reducible refine guardK_dec (fun h => ?_) (fun h => ?_) | with_reducible refine guardD3_dec (fun h => ?_) (fun h => ?_)) <;> first | (exfalso; omega) | (simp (maxSteps := 2000000) (disch := first | omega | assumption | exact idP rfl | exact idP (bL rfl)) only [go_sem, reduceIte, Nat.reduceEqDiff, h, ha.len]) | skip) | ((first | with_reducible refine cond_split (fun h => ?_) (fun h => ?_) | with_reducible refine guardK_split (fun h => ?_) (fun h => ?_) | with_reducible refine guardD3_split (fun h => ?_) (fun h => ?_)) <;> ((try simp only [Bool.not_eq_true', Bool.not_eq_false'] at h); first | (simp (maxSteps := 2000000) (disch := first | omega | assumption | exact idP rfl | exact idP (bL rfl)) only [go_sem, reduceIte, Nat.reduceEqDiff, h, ha.len]) | skip)) | ((with_reducible refine (t_impSystemValid hv0 hz).mono ?_); rintro _ _ ⟨rfl, rfl⟩) | (with_reducible intro bk hbk; try have hnk := (fresh_set hbk).1) | (simp (maxSteps := 2000000) (disch := first | omega | assumption | exact idP rfl | exact idP (bL rfl)) only [go_sem, reduceIte, Nat.reduceEqDiff, ha.len])))
  · refine (t_kindOf hw).mono ?_
    rintro _ _ ⟨rfl, k, rfl, hk⟩
    simp (maxSteps := 2000000) (disch := first | omega | assumption | exact idP rfl | exact idP (bL rfl)) only [go_sem, reduceIte, Nat.reduceEqDiff]
    exact hR _ _ (by (repeat (first | exact Sub.refl _ | assumption | (refine Sub.set' ?_ (by assumption))))) (eqB (by simp [tOk, h]; exact hk 2 (by omega)))
  · exact hR _ _ (by (repeat (first | exact Sub.refl _ | assumption | (refine Sub.set' ?_ (by assumption))))) (by simp [tOk, h])
end Go.M2

namespace Go.M2
open Go.Proofs
set_option linter.unusedVariables false
set_option linter.unusedSimpArgs false
set_option maxRecDepth 10000
set_option maxHeartbeats 4000000
variable {M : MH}
noncomputable def swF (s : SysS) (ts : List TermS) : List Int := if tOk s ts = true then selL (sizeF s.vars).toNat (whB s ts) else []
theorem swF_ok (s : SysS) (ts : List TermS) : SetOk 400 (swF s ts) := by
  unfold swF
  split
  · rename_i h
    have := (tOk_iff.1 h).1.sz
    exact (selL_ok _).mono (by omega)
  · exact fun i hi => by simp at hi
theorem swF_len (s : SysS) (ts : List TermS) : (swF s ts).length ≤ 400 := by
  unfold swF
  split
  · rename_i h
    have := (tOk_iff.1 h).1.sz
    exact Nat.le_trans selL_len (by omega)
  · simp
theorem t_StatesWhere {v w : V} {s : SysS} {ts : List TermS} (hv : isSys s v) (hw : LT w ts) : VCall Tryz.prog n_spec_StatesWhere [v, w] M (fun r M' => M = M' ∧ LI r (swF s ts)) := by
  refine VCall.froz fun R hP hG => v_spec_StatesWhere rfl ?_
  have hv0 := hv
  obtain ⟨a, b, rfl, ha, hb⟩ := hv
  simp (maxSteps := 2000000) (disch := first | omega | assumption | exact idP rfl | exact idP (bL rfl)) only [go_sem, reduceIte, Nat.reduceEqDiff]
  intro b2 hb2 b5 hb5
  have hne := (fresh_set hb5).1
  simp (maxSteps := 2000000) (disch := first | omega | assumption | exact idP rfl | exact idP (bL rfl)) only [go_sem, reduceIte, Nat.reduceEqDiff]
  refine (t_SystemValidS hv0).mono ?_
  rintro _ _ ⟨rfl, rfl⟩
  have fail : tOk s ts = false → R (.sc (.sl (some (b5, 0)) 0 0 true 1)) ((M.set b2 [a, b]).set b5 []) := fun hf =>
    hG _ _ 1 [] (Gr.new' ((Sub.refl M).set' hb2) hb5 rfl) fun u hu => by
      unfold swF
      rw [if_neg (by rw [hf]; simp)]
      exact hu.li (ys := [])
  cases h1 : sysB s with
  | false =>
    (repeat' (first | ((first | with_reducible refine cond_dec (fun h => ?_) (fun h => ?_) | with_reducible refine guardK_dec (fun h => ?_) (fun h => ?_) | with_reducible refine guardD3_dec (fun h => ?_) (fun h => ?_)) <;> first | (exfalso; omega) | (simp (maxSteps := 2000000) (disch := first | omega | assumption | exact idP rfl | exact idP (bL rfl)) only [go_sem, reduceIte, Nat.reduceEqDiff, h, ha.len, h1]) | skip) | ((first | with_reducible refine cond_split (fun h => ?_) (fun h => ?_) | with_reducible refine guardK_split (fun h => ?_) (fun h => ?_) | with_reducible refine guardD3_split (fun h => ?_) (fun h => ?_)) <;> ((try simp only [Bool.not_eq_true', Bool.not_eq_false'] at h); first | (simp (maxSteps := 2000000) (disch := first | omega | assumption | exact idP rfl | exact idP (bL rfl)) only [go_sem, reduceIte, Nat.reduceEqDiff, h, ha.len, h1]) | skip)) | ((with_reducible refine (t_l2Is hw).mono ?_); rintro _ _ ⟨rfl, rfl⟩) | (with_reducible intro bk hbk; try have hnk := (fresh_set hbk).1) | (simp (maxSteps := 2000000) (disch := first | omega | assumption | exact idP rfl | exact idP (bL rfl)) only [go_sem, reduceIte, Nat.reduceEqDiff, ha.len, h1])))
    all_goals exact fail (by simp [tOk, h1])
  | true =>
    simp (maxSteps := 2000000) (disch := first | omega | assumption | exact idP rfl | exact idP (bL rfl)) only [go_sem, reduceIte, Nat.reduceEqDiff, h1, ha.len]
    refine (t_l2Is hw).mono ?_
    rintro _ _ ⟨rfl, rfl⟩
    cases h2 : kindIs (s.vars.length : Int) 2 ts with
    | false =>
      simp (maxSteps := 2000000) (disch := first | omega | assumption | exact idP rfl | exact idP (bL rfl)) only [go_sem, reduceIte, Nat.reduceEqDiff, h2]
      exact fail (by simp [tOk, h1, h2])
    | true =>
      have hok : tOk s ts = true := by simp [tOk, h1, h2]
      have hs := (sysB_iff s).1 h1
      obtain ⟨ks, hks⟩ := kindIs_some h2
      have hsz := hs.sz
      obtain ⟨N, hN⟩ : ∃ N : Nat, sizeF s.vars = (N : Int) := ⟨(sizeF s.vars).toNat, by omega⟩
      simp (maxSteps := 2000000) (disch := first | omega | assumption | exact idP rfl | exact idP (bL rfl)) only [go_sem, reduceIte, Nat.reduceEqDiff, h2]
      refine loop_k (fun e M' => ∃ i : Nat, i ≤ N ∧ e 1 = w ∧ e 2 = .sc (.ptr (some (b2, 0))) ∧ e 6 = .sc (.int .i64 i) ∧ Gr 1 (M.set b2 [a, b]) M' (e 5) ((selL i (whB s ts)).map vi)) (fun e _ => ctrV N (e 6)) ?_ ?_
      · exact ⟨0, by omega, by simp (maxSteps := 2000000) (disch := first | omega | assumption | exact idP rfl | exact idP (bL rfl)) only [go_sem, reduceIte, Nat.reduceEqDiff], by simp (maxSteps := 2000000) (disch := first | omega | assumption | exact idP rfl | exact idP (bL rfl)) only [go_sem, reduceIte, Nat.reduceEqDiff], by simp (maxSteps := 2000000) (disch := first | omega | assumption | exact idP rfl | exact idP (bL rfl)) only [go_sem, reduceIte, Nat.reduceEqDiff]; rfl, by simp (maxSteps := 2000000) (disch := first | omega | assumption | exact idP rfl | exact idP (bL rfl)) only [go_sem, reduceIte, Nat.reduceEqDiff]; exact Gr.new' (Sub.refl _) hb5 rfl⟩
      · rintro e M1 ⟨i, hi, e1, e2, e6, hg⟩ K hK
        have hm2 := hg.sub b2 _ set_same
        have hsl : (selL i (whB s ts)).length ≤ i := selL_len
        simp (maxSteps := 2000000) (disch := first | omega | assumption | exact idP rfl | exact idP (bL rfl)) only [go_sem, reduceIte, Nat.reduceEqDiff, e1, e2, e6, hm2]
        refine (t_SizeOf hv0 hs).mono ?_
        rintro _ _ ⟨rfl, rfl⟩
        rw [hN]
        simp (maxSteps := 2000000) (disch := first | omega | assumption | exact idP rfl | exact idP (bL rfl)) only [go_sem, reduceIte, Nat.reduceEqDiff, e1, e2, e6, hm2]
        refine cond_dec (fun h => ?_) (fun h => ?_)
        · simp (maxSteps := 2000000) (disch := first | omega | assumption | exact idP rfl | exact idP (bL rfl)) only [go_sem, reduceIte, Nat.reduceEqDiff, e1, e2, e6, hm2]
          refine (f_l4State hv0 hs (n := (i : Int)) (by omega) (by omega)).mono ?_
          rintro st _ ⟨rfl, hst⟩
          simp (maxSteps := 2000000) (disch := first | omega | assumption | exact idP rfl | exact idP (bL rfl)) only [go_sem, reduceIte, Nat.reduceEqDiff, e1, e2, e6, hm2]
          have hin : StIn s.vars (stGo s.vars (i : Int)) := stGo_in hs.vars
          refine (t_l2Last hw hst hks (hin.ok hs) (by rw [stGo_len]; omega)).mono ?_
          rintro _ _ ⟨rfl, rfl⟩
          simp (maxSteps := 2000000) (disch := first | omega | assumption | exact idP rfl | exact idP (bL rfl)) only [go_sem, reduceIte, Nat.reduceEqDiff, e1, e2, e6, hm2]
          refine cond_dec (fun h3 => ?_) (fun h3 => ?_)
          · simp (maxSteps := 2000000) (disch := first | omega | assumption | exact idP rfl | exact idP (bL rfl)) only [go_sem, reduceIte, Nat.reduceEqDiff, e1, e2, e6, hm2]
            intro bt hbt
            refine app_int hg hbt (by omega) (by omega) ?_
            intro s' M' hg' _
            simp (maxSteps := 2000000) (disch := first | omega | assumption | exact idP rfl | exact idP (bL rfl)) only [go_sem, reduceIte, Nat.reduceEqDiff, e1, e2, e6]
            exact hK _ _ ⟨i + 1, by omega, by simp (maxSteps := 2000000) (disch := first | omega | assumption | exact idP rfl | exact idP (bL rfl)) only [go_sem, reduceIte, Nat.reduceEqDiff, e1], by simp (maxSteps := 2000000) (disch := first | omega | assumption | exact idP rfl | exact idP (bL rfl)) only [go_sem, reduceIte, Nat.reduceEqDiff, e2], by simp (maxSteps := 2000000) (disch := first | omega | assumption | exact idP rfl | exact idP (bL rfl)) only [go_sem, reduceIte, Nat.reduceEqDiff]; rfl, by simp (maxSteps := 2000000) (disch := first | omega | assumption | exact idP rfl | exact idP (bL rfl)) only [go_sem, reduceIte, Nat.reduceEqDiff]; rw [selL_succ, if_pos (by simp [whB, h3])]; exact hg'⟩ (by simp (maxSteps := 2000000) (disch := first | omega | assumption | exact idP rfl | exact idP (bL rfl)) only [go_sem, reduceIte, Nat.reduceEqDiff, ctrV_int, e6]; omega)
          · simp (maxSteps := 2000000) (disch := first | omega | assumption | exact idP rfl | exact idP (bL rfl)) only [go_sem, reduceIte, Nat.reduceEqDiff, e1, e2, e6, hm2]
            exact hK _ _ ⟨i + 1, by omega, by simp (maxSteps := 2000000) (disch := first | omega | assumption | exact idP rfl | exact idP (bL rfl)) only [go_sem, reduceIte, Nat.reduceEqDiff, e1], by simp (maxSteps := 2000000) (disch := first | omega | assumption | exact idP rfl | exact idP (bL rfl)) only [go_sem, reduceIte, Nat.reduceEqDiff, e2], by simp (maxSteps := 2000000) (disch := first | omega | assumption | exact idP rfl | exact idP (bL rfl)) only [go_sem, reduceIte, Nat.reduceEqDiff]; rfl, by simp (maxSteps := 2000000) (disch := first | omega | assumption | exact idP rfl | exact idP (bL rfl)) only [go_sem, reduceIte, Nat.reduceEqDiff]; rw [selL_succ, if_neg (by simp [whB, h3])]; exact hg⟩ (by simp (maxSteps := 2000000) (disch := first | omega | assumption | exact idP rfl | exact idP (bL rfl)) only [go_sem, reduceIte, Nat.reduceEqDiff, ctrV_int, e6]; omega)
        · obtain rfl : i = N := by omega
          simp (maxSteps := 2000000) (disch := first | omega | assumption | exact idP rfl | exact idP (bL rfl)) only [go_sem, reduceIte, Nat.reduceEqDiff]
          refine hG _ _ _ _ (hg.base ((Sub.refl M).set' hb2)) fun u hu => ?_
          have h3 := hu.li
          unfold swF
          rw [if_pos hok, hN]
          exact h3
end Go.M2

namespace Go.M2
open Go.Proofs
set_option linter.unusedVariables false
set_option linter.unusedSimpArgs false
set_option maxRecDepth 10000
set_option maxHeartbeats 4000000
variable {M : MH}
theorem t_goodIn {v w : V} {s : SysS} {ts : List TermS} (hv : isSys s v) (hz : SysSz s) (hw : LT w ts) :
    VCall Tryz.prog n_impl_goodIn [v, w] M (fun r M' => M = M' ∧ ((tOk s ts = true ∧ ∃ g, r = .tup [g, .sc (.bool true)] ∧ LB g (mkL (sizeF s.vars).toNat (whB s ts))) ∨ (tOk s ts = false ∧ r = .tup [.sc (.sl none 0 0 true 0), .sc (.bool false)]))) := by
  refine VCall.froz2 fun R hP hG => v_impl_goodIn rfl ?_
  have hv0 := hv
  obtain ⟨a, b, rfl, ha, hb⟩ := hv
  (repeat' (first | ((first | with_reducible refine cond_dec (fun h => ?_) (fun h => ?_) | with_reducible refine guardK_dec (fun h => ?_) (fun h => ?_) | with_reducible refine guardD3_dec (fun h => ?_) (fun h => ?_)) <;> first | (exfalso; omega) | (simp (maxSteps := 2000000) (disch := first | omega | assumption | exact idP rfl | exact idP (bL rfl)) only [go_sem, reduceIte, Nat.reduceEqDiff, h]) | skip) | ((first | with_reducible refine cond_split (fun h => ?_) (fun h => ?_) | with_reducible refine guardK_split (fun h => ?_) (fun h => ?_) | with_reducible refine guardD3_split (fun h => ?_) (fun h => ?_)) <;> ((try simp only [Bool.not_eq_true', Bool.not_eq_false'] at h); first | (simp (maxSteps := 2000000) (disch := first | omega | assumption | exact idP rfl | exact idP (bL rfl)) only [go_sem, reduceIte, Nat.reduceEqDiff, h]) | skip)) | ((with_reducible refine (t_truthOf hv0 hz hw).mono ?_); rintro _ _ ⟨rfl, rfl⟩) | (with_reducible intro bk hbk; try have hnk := (fresh_set hbk).1) | (simp (maxSteps := 2000000) (disch := first | omega | assumption | exact idP rfl | exact idP (bL rfl)) only [go_sem, reduceIte, Nat.reduceEqDiff])))
  · exact hP _ _ (by (repeat (first | exact Sub.refl _ | assumption | (refine Sub.set' ?_ (by assumption))))) (.inr ⟨h, rfl⟩)
  · obtain ⟨hs, hk⟩ := tOk_iff.1 h
    have hsz := hs.sz
    refine (t_where hv0 hs hw hk (N := (sizeF s.vars).toNat) (by omega)).mono ?_
    rintro g M1 hg
    simp (maxSteps := 2000000) (disch := first | omega | assumption | exact idP rfl | exact idP (bL rfl)) only [go_sem, reduceIte, Nat.reduceEqDiff]
    exact hG _ _ _ _ _ (hg.base ((Sub.refl M).set' hbk)) fun u hu => .inl ⟨h, u, rfl, hu.lb⟩
def holdsI (N : Nat) (tab : List (List Int)) (p : Nat → Bool) (xs : List Int) : Bool := !(xs.any fun x => p x.toNat && (tab.getD x.toNat []).any fun m => inL xs m.toNat && !p m.toNat)
theorem t_holdsWithin {v g w : V} {s : SysS} {p : Nat → Bool} {xs : List Int} (hv : isSys s v) (hs : SysOk s) (hg : LB g (mkL (sizeF s.vars).toNat p)) (hset : SetOk (sizeF s.vars) xs) (hw : LI w xs) (hl : xs.length ≤ 1048576) :
    VCall Tryz.prog n_impl_holdsWithin [v, g, w] M (fun r M' => M = M' ∧ r = .sc (.bool (holdsI (sizeF s.vars).toNat (tabF s) p xs))) := by
  refine VCall.pure fun R hR => v_impl_holdsWithin rfl ?_
  have hv0 := hv
  obtain ⟨a, b, rfl, ha, hb⟩ := hv
  have hsz := hs.sz
  have htl := tabF_len s
  have hle : ((tabF s).length : Int) = sizeF s.vars := by omega
  obtain ⟨N, hN⟩ : ∃ N : Nat, sizeF s.vars = (N : Int) := ⟨(sizeF s.vars).toNat, by omega⟩
  have hN2 : (sizeF s.vars).toNat = N := by omega
  rw [hN2] at hg htl hR
  have hg1 := hg.one.1
  have hg2 := hg.one.2
  simp (maxSteps := 2000000) (disch := first | omega | assumption | exact idP rfl | exact idP (bL rfl)) only [go_sem, reduceIte, Nat.reduceEqDiff, hg1, hg2]
  intro b3 hb3 b4 hb4
  have n34 := (fresh_set hb4).1
  simp (maxSteps := 2000000) (disch := first | omega | assumption | exact idP rfl | exact idP (bL rfl)) only [go_sem, reduceIte, Nat.reduceEqDiff, hg1, hg2]
  refine (t_impSize ha hs.vars hs.v5).mono ?_
  rintro _ _ ⟨rfl, rfl⟩
  simp (maxSteps := 2000000) (disch := first | omega | assumption | exact idP rfl | exact idP (bL rfl)) only [go_sem, reduceIte, Nat.reduceEqDiff, hg1, hg2]
  rw [hN]
  refine (f_marks hw (by omega) hl (by rw [← hN]; exact hset.in)).mono ?_
  rintro m _ ⟨rfl, hm⟩
  have hm1 := hm.one.1
  have hm2 := hm.one.2
  simp (maxSteps := 2000000) (disch := first | omega | assumption | exact idP rfl | exact idP (bL rfl)) only [go_sem, reduceIte, Nat.reduceEqDiff, hm1, hm2]
  intro b7 hb7
  have n7 := (fresh_set hb7).1
  have hb7' := (fresh_set hb7).2
  have n73 := (fresh_set hb7').1
  simp (maxSteps := 2000000) (disch := first | omega | assumption | exact idP rfl | exact idP (bL rfl)) only [go_sem, reduceIte, Nat.reduceEqDiff, hm1, hm2]
  refine (f_nexts hv0 hs).mono ?_
  rintro t _ ⟨rfl, ht⟩
  have ht1 := ht.one.1
  have ht2 := ht.one.2
  simp (maxSteps := 2000000) (disch := first | omega | assumption | exact idP rfl | exact idP (bL rfl)) only [go_sem, reduceIte, Nat.reduceEqDiff, ht1, ht2]
  intro b8 hb8
  have n8 := (fresh_set hb8).1
  have hb8' := (fresh_set hb8).2
  have n84 := (fresh_set hb8').1
  have hb8'' := (fresh_set hb8').2
  have n83 := (fresh_set hb8'').1
  have hin : ∀ x ∈ xs, 0 ≤ x ∧ x < (N : Int) := by rw [← hN]; exact hset.in
  have htin := tabF_in hs
  rw [htl] at htin
  generalize hM : ((((M.set b3 [a, b]).set b4 [g]).set b7 [m]).set b8 [t]) = M4 at *
  have q4 : M4 b4 = some [g] := by rw [← hM]; simp (maxSteps := 2000000) (disch := first | omega | assumption | exact idP rfl | exact idP (bL rfl)) only [go_sem, reduceIte, Nat.reduceEqDiff]
  have q7 : M4 b7 = some [m] := by rw [← hM]; simp (maxSteps := 2000000) (disch := first | omega | assumption | exact idP rfl | exact idP (bL rfl)) only [go_sem, reduceIte, Nat.reduceEqDiff]
  have q8 : M4 b8 = some [t] := by rw [← hM]; simp (maxSteps := 2000000) (disch := first | omega | assumption | exact idP rfl | exact idP (bL rfl)) only [go_sem, reduceIte, Nat.reduceEqDiff]
  have inner : ∀ y : Int, 0 ≤ y → y < (N : Int) → VCall Tryz.prog n_impl_holdsWithin_1_1 (.sc (.int .i64 y) :: [.sc (.ptr (some (b7, 0))), .sc (.ptr (some (b4, 0)))]) M4 (fun r M' => M4 = M' ∧ r = .sc (.bool (inL xs y.toNat && !p y.toNat))) := by
    intro y y0 y1
    have i1 : y.toNat < (mkL N (inL xs)).length := by rw [mkL_len]; omega
    have i2 : y.toNat < (mkL N p).length := by rw [mkL_len]; omega
    have w1 := hm.iaddr (k := .i64) (a := y) y0 (by rw [mkL_len]; omega)
    have w2 := hg.iaddr (k := .i64) (a := y) y0 (by rw [mkL_len]; omega)
    refine VCall.pure fun R hR => v_impl_holdsWithin_1_1 rfl ?_
    cases c1 : inL xs y.toNat <;> cases c2 : p y.toNat
    all_goals simp (maxSteps := 2000000) (disch := first | omega | assumption | exact idP rfl | exact idP (bL rfl)) only [go_sem, reduceIte, Nat.reduceEqDiff, q4, q7, w1, w2, hm.at i1, hg.at i2, mkL_get, c1, c2]
    all_goals exact hR _ _ (by (repeat (first | exact Sub.refl _ | assumption | (refine Sub.set' ?_ (by assumption))))) (by simp [c1, c2])
  have outer : ∀ y ∈ xs, VCall Tryz.prog n_impl_holdsWithin_1 (.sc (.int .i64 y) :: [.sc (.ptr (some (b4, 0))), .sc (.ptr (some (b8, 0))), .sc (.ptr (some (b7, 0)))]) M4 (fun r M' => M4 = M' ∧ r = .sc (.bool (p y.toNat && ((tabF s).getD y.toNat []).any fun m => inL xs m.toNat && !p m.toNat))) := by
    intro y hy
    obtain ⟨y0, y1⟩ := hin y hy
    have i2 : y.toNat < (mkL N p).length := by rw [mkL_len]; omega
    have i3 : y.toNat < (tabF s).length := by omega
    have w2 := hg.iaddr (k := .i64) (a := y) y0 (by rw [mkL_len]; omega)
    have w3 := ht.iaddr (k := .i64) (a := y) y0 (by omega)
    have hrow := ht.elt i3
    have hri := htin _ (List.getElem_mem i3)
    have hgd : (tabF s).getD y.toNat [] = (tabF s)[y.toNat] := by simp [List.getD, i3]
    refine VCall.pure fun R hR => v_impl_holdsWithin_1 rfl ?_
    rw [hgd] at hR
    cases c2 : p y.toNat with
    | false =>
      simp (maxSteps := 2000000) (disch := first | omega | assumption | exact idP rfl | exact idP (bL rfl)) only [go_sem, reduceIte, Nat.reduceEqDiff, q4, q7, q8, w2, hg.at i2, mkL_get, c2]
      exact hR _ _ (by (repeat (first | exact Sub.refl _ | assumption | (refine Sub.set' ?_ (by assumption))))) (by simp [c2])
    | true =>
      simp (maxSteps := 2000000) (disch := first | omega | assumption | exact idP rfl | exact idP (bL rfl)) only [go_sem, reduceIte, Nat.reduceEqDiff, q4, q7, q8, w2, w3, hg.at i2, mkL_get, c2]
      refine (t_ContainsInt hrow hri.1 (fun z hz => inner z (hri.2 z hz).1 (hri.2 z hz).2)).mono ?_
      rintro _ _ ⟨rfl, rfl⟩
      simp (maxSteps := 2000000) (disch := first | omega | assumption | exact idP rfl | exact idP (bL rfl)) only [go_sem, reduceIte, Nat.reduceEqDiff]
      exact hR _ _ (by (repeat (first | exact Sub.refl _ | assumption | (refine Sub.set' ?_ (by assumption))))) (by simp [c2])
  refine (t_ContainsInt hw hl outer).mono ?_
  rintro _ _ ⟨rfl, rfl⟩
  simp (maxSteps := 2000000) (disch := first | omega | assumption | exact idP rfl | exact idP (bL rfl)) only [go_sem, reduceIte, Nat.reduceEqDiff]
  exact hR _ _ (by rw [← hM]; (repeat (first | exact Sub.refl _ | assumption | (refine Sub.set' ?_ (by assumption))))) rfl
noncomputable def shownI (s : SysS) (ts : List TermS) (xs : List Int) : Bool := tOk s ts && (setV s xs && closedI s xs) && holdsI (sizeF s.vars).toNat (tabF s) (whB s ts) xs && whB s ts (firstN s).toNat
theorem t_impShownWithin {v w x : V} {s : SysS} {ts : List TermS} {xs : List Int} (hv : isSys s v) (hz : SysSz s) (hw : LT w ts) (hx : LI x xs) (hl : xs.length ≤ 1048576) :
    VCall Tryz.prog n_impl_ShownWithin [v, w, x] M (fun r M' => M = M' ∧ r = .sc (.bool (shownI s ts xs))) := by
  refine VCall.pure fun R hR => v_impl_ShownWithin rfl ?_
  have hv0 := hv
  obtain ⟨a, b, rfl, ha, hb⟩ := hv
  (repeat' (first | ((first | with_reducible refine cond_dec (fun h => ?_) (fun h => ?_) | with_reducible refine guardK_dec (fun h => ?_) (fun h => ?_) | with_reducible refine guardD3_dec (fun h => ?_) (fun h => ?_)) <;> first | (exfalso; omega) | (simp (maxSteps := 2000000) (disch := first | omega | assumption | exact idP rfl | exact idP (bL rfl)) only [go_sem, reduceIte, Nat.reduceEqDiff, h]) | skip) | ((first | with_reducible refine cond_split (fun h => ?_) (fun h => ?_) | with_reducible refine guardK_split (fun h => ?_) (fun h => ?_) | with_reducible refine guardD3_split (fun h => ?_) (fun h => ?_)) <;> ((try simp only [Bool.not_eq_true', Bool.not_eq_false'] at h); first | (simp (maxSteps := 2000000) (disch := first | omega | assumption | exact idP rfl | exact idP (bL rfl)) only [go_sem, reduceIte, Nat.reduceEqDiff, h]) | skip)) | (with_reducible intro bk hbk; try have hnk := (fresh_set hbk).1) | (simp (maxSteps := 2000000) (disch := first | omega | assumption | exact idP rfl | exact idP (bL rfl)) only [go_sem, reduceIte, Nat.reduceEqDiff])))
  refine (t_goodIn hv0 hz hw).mono ?_
  rintro _ _ ⟨rfl, ⟨hk, g, rfl, hg⟩ | ⟨hk, rfl⟩⟩
  · obtain ⟨hs, hk2⟩ := tOk_iff.1 hk
    have hsz := hs.sz
    simp (maxSteps := 2000000) (disch := first | omega | assumption | exact idP rfl | exact idP (bL rfl)) only [go_sem, reduceIte, Nat.reduceEqDiff]
    refine (t_impClosed hv0 hz hx hl).mono ?_
    rintro _ _ ⟨rfl, rfl⟩
    cases hcl : (setV s xs && closedI s xs) with
    | false =>
      simp (maxSteps := 2000000) (disch := first | omega | assumption | exact idP rfl | exact idP (bL rfl)) only [go_sem, reduceIte, Nat.reduceEqDiff]
      exact hR _ _ (by (repeat (first | exact Sub.refl _ | assumption | (refine Sub.set' ?_ (by assumption))))) (by simp only [shownI, hcl, Bool.and_false, Bool.false_and])
    | true =>
      obtain ⟨_, hset⟩ := setV_iff.1 (Bool.and_eq_true_iff.1 hcl).1
      simp (maxSteps := 2000000) (disch := first | omega | assumption | exact idP rfl | exact idP (bL rfl)) only [go_sem, reduceIte, Nat.reduceEqDiff]
      refine (t_holdsWithin hv0 hs hg hset hx hl).mono ?_
      rintro _ _ ⟨rfl, rfl⟩
      cases hho : holdsI (sizeF s.vars).toNat (tabF s) (whB s ts) xs with
      | false =>
        simp (maxSteps := 2000000) (disch := first | omega | assumption | exact idP rfl | exact idP (bL rfl)) only [go_sem, reduceIte, Nat.reduceEqDiff]
        exact hR _ _ (by (repeat (first | exact Sub.refl _ | assumption | (refine Sub.set' ?_ (by assumption))))) (by simp only [shownI, hho, Bool.and_false, Bool.false_and])
      | true =>
        have hfb := firstN_bd hs
        simp (maxSteps := 2000000) (disch := first | omega | assumption | exact idP rfl | exact idP (bL rfl)) only [go_sem, reduceIte, Nat.reduceEqDiff]
        refine (t_first hv0 hs).mono ?_
        rintro f _ ⟨rfl, hf⟩
        simp (maxSteps := 2000000) (disch := first | omega | assumption | exact idP rfl | exact idP (bL rfl)) only [go_sem, reduceIte, Nat.reduceEqDiff]
        refine (t_number ha hf hs.vars hs.v5 (first_in hs)).mono ?_
        rintro _ _ ⟨rfl, rfl⟩
        have e9 : numF s.vars (firstF s) = firstN s := rfl
        have q1 : (firstN s).toNat < (mkL (sizeF s.vars).toNat (whB s ts)).length := by rw [mkL_len]; omega
        have w1 := hg.iaddr (k := .i64) (a := firstN s) (by omega) (by rw [mkL_len]; omega)
        simp (maxSteps := 2000000) (disch := first | omega | assumption | exact idP rfl | exact idP (bL rfl)) only [go_sem, reduceIte, Nat.reduceEqDiff, e9, w1, hg.at q1, mkL_get]
        exact hR _ _ (by (repeat (first | exact Sub.refl _ | assumption | (refine Sub.set' ?_ (by assumption))))) (by simp only [shownI, hk, hcl, hho, Bool.true_and])
  · simp (maxSteps := 2000000) (disch := first | omega | assumption | exact idP rfl | exact idP (bL rfl)) only [go_sem, reduceIte, Nat.reduceEqDiff]
    exact hR _ _ (by (repeat (first | exact Sub.refl _ | assumption | (refine Sub.set' ?_ (by assumption))))) (by simp [shownI, hk])
end Go.M2

namespace Go.M2
open Go.Proofs
set_option linter.unusedVariables false
set_option linter.unusedSimpArgs false
set_option maxRecDepth 10000
set_option maxHeartbeats 4000000
variable {M : MH}
def boB (xs ys : List Int) (i : Nat) : Bool := inL xs i && inL ys i
noncomputable def boF (xs ys : List Int) : List Int := if setB 400 xs = true ∧ setB 400 ys = true then selL 400 (boB xs ys) else []
theorem t_l4Mix0 {v w : V} {xs ys : List Int} (hv : LI v xs) (hw : LI w ys) (hl : xs.length ≤ 1048576) (hl2 : ys.length ≤ 1048576) : VCall Tryz.prog n_spec_l4Mix [v, w, .sc (.int .i64 0)] M (fun r M' => M = M' ∧ LI r (boF xs ys)) := by
  refine VCall.froz fun R hP hG => v_spec_l4Mix rfl ?_
  (repeat' (first | ((first | with_reducible refine cond_dec (fun h => ?_) (fun h => ?_) | with_reducible refine guardK_dec (fun h => ?_) (fun h => ?_) | with_reducible refine guardD3_dec (fun h => ?_) (fun h => ?_)) <;> first | (exfalso; omega) | (simp (maxSteps := 2000000) (disch := first | omega | assumption | exact idP rfl | exact idP (bL rfl)) only [go_sem, reduceIte, Nat.reduceEqDiff, h]) | skip) | ((first | with_reducible refine cond_split (fun h => ?_) (fun h => ?_) | with_reducible refine guardK_split (fun h => ?_) (fun h => ?_) | with_reducible refine guardD3_split (fun h => ?_) (fun h => ?_)) <;> ((try simp only [Bool.not_eq_true', Bool.not_eq_false'] at h); first | (simp (maxSteps := 2000000) (disch := first | omega | assumption | exact idP rfl | exact idP (bL rfl)) only [go_sem, reduceIte, Nat.reduceEqDiff, h]) | skip)) | ((with_reducible refine (t_l4Set hv hl).mono ?_); rintro _ _ ⟨rfl, rfl⟩) | ((with_reducible refine (t_l4Set hw hl2).mono ?_); rintro _ _ ⟨rfl, rfl⟩) | (with_reducible intro bk hbk; try have hnk := (fresh_set hbk).1) | (simp (maxSteps := 2000000) (disch := first | omega | assumption | exact idP rfl | exact idP (bL rfl)) only [go_sem, reduceIte, Nat.reduceEqDiff])))
  · refine hG _ _ 1 [] (Gr.new' (Sub.refl _) hbk rfl) fun u hu => ?_
    unfold boF
    rw [if_neg (by intro hh; rw [h] at hh; simp at hh)]
    exact hu.li (ys := [])
  · refine hG _ _ 1 [] (Gr.new' (Sub.refl _) hbk rfl) fun u hu => ?_
    unfold boF
    rw [if_neg (by intro hh; rw [h] at hh; simp at hh)]
    exact hu.li (ys := [])
  · rename_i h1
    have hi1 := (setB_iff.1 h1).in
    have hi2 := (setB_iff.1 h).in
    refine (f_l4Marks (n := 400) hv (by omega) hl hi1).mono ?_
    rintro m1 _ ⟨rfl, hm1⟩
    simp (maxSteps := 2000000) (disch := first | omega | assumption | exact idP rfl | exact idP (bL rfl)) only [go_sem, reduceIte, Nat.reduceEqDiff]
    refine (f_l4Marks (n := 400) hw (by omega) hl2 hi2).mono ?_
    rintro m2 _ ⟨rfl, hm2⟩
    simp (maxSteps := 2000000) (disch := first | omega | assumption | exact idP rfl | exact idP (bL rfl)) only [go_sem, reduceIte, Nat.reduceEqDiff]
    refine loop_k (fun e M' => ∃ i : Nat, i ≤ 400 ∧ e 2 = .sc (.int .i64 0) ∧ e 8 = m1 ∧ e 9 = m2 ∧ e 10 = .sc (.int .i64 i) ∧ Gr 1 M M' (e 7) ((selL i (boB xs ys)).map vi)) (fun e _ => ctrV 400 (e 10)) ?_ ?_
    · exact ⟨0, by omega, by simp (maxSteps := 2000000) (disch := first | omega | assumption | exact idP rfl | exact idP (bL rfl)) only [go_sem, reduceIte, Nat.reduceEqDiff], by simp (maxSteps := 2000000) (disch := first | omega | assumption | exact idP rfl | exact idP (bL rfl)) only [go_sem, reduceIte, Nat.reduceEqDiff], by simp (maxSteps := 2000000) (disch := first | omega | assumption | exact idP rfl | exact idP (bL rfl)) only [go_sem, reduceIte, Nat.reduceEqDiff], by simp (maxSteps := 2000000) (disch := first | omega | assumption | exact idP rfl | exact idP (bL rfl)) only [go_sem, reduceIte, Nat.reduceEqDiff]; rfl, by simp (maxSteps := 2000000) (disch := first | omega | assumption | exact idP rfl | exact idP (bL rfl)) only [go_sem, reduceIte, Nat.reduceEqDiff]; exact Gr.new' (Sub.refl _) hbk rfl⟩
    · rintro e M1 ⟨i, hi, e2, e8, e9, e10, hg⟩ K hK
      have hsl : (selL i (boB xs ys)).length ≤ i := selL_len
      simp (maxSteps := 2000000) (disch := first | omega | assumption | exact idP rfl | exact idP (bL rfl)) only [go_sem, reduceIte, Nat.reduceEqDiff, e2, e8, e9, e10]
      refine cond_dec (fun h => ?_) (fun h => ?_)
      · have q1 : i < (mkL 400 (inL xs)).length := by rw [mkL_len]; omega
        have q2 : i < (mkL 400 (inL ys)).length := by rw [mkL_len]; omega
        have w1 := hm1.iaddr (k := .i64) (a := (i : Int)) (by omega) (by rw [mkL_len]; omega)
        have w2 := hm2.iaddr (k := .i64) (a := (i : Int)) (by omega) (by rw [mkL_len]; omega)
        have fin1 : boB xs ys i = true → ∀ (e' : EnvV) (M' : MH), e' 2 = .sc (.int .i64 0) → e' 8 = m1 → e' 9 = m2 → e' 10 = .sc (.int .i64 ((i : Int) + 1)) → Gr 1 M M' (e' 7) ((selL i (boB xs ys) ++ [(i : Int)]).map vi) → K e' M' := fun hb e' M' g2 g8 g9 g10 g7 =>
          hK _ _ ⟨i + 1, by omega, g2, g8, g9, g10, by rw [selL_succ, if_pos hb]; exact g7⟩ (by rw [g10, e10]; simp (maxSteps := 2000000) (disch := first | omega | assumption | exact idP rfl | exact idP (bL rfl)) only [go_sem, reduceIte, Nat.reduceEqDiff, ctrV_int]; omega)
        have fin2 : boB xs ys i = false → ∀ (e' : EnvV) (M' : MH), e' 2 = .sc (.int .i64 0) → e' 8 = m1 → e' 9 = m2 → e' 10 = .sc (.int .i64 ((i : Int) + 1)) → Gr 1 M M' (e' 7) ((selL i (boB xs ys)).map vi) → K e' M' := fun hb e' M' g2 g8 g9 g10 g7 =>
          hK _ _ ⟨i + 1, by omega, g2, g8, g9, g10, by rw [selL_succ, if_neg (by rw [hb]; simp)]; exact g7⟩ (by rw [g10, e10]; simp (maxSteps := 2000000) (disch := first | omega | assumption | exact idP rfl | exact idP (bL rfl)) only [go_sem, reduceIte, Nat.reduceEqDiff, ctrV_int]; omega)
        cases b1 : inL xs i <;> cases b2 : inL ys i
        all_goals (repeat' (first | ((first | with_reducible refine cond_dec (fun h => ?_) (fun h => ?_) | with_reducible refine guardK_dec (fun h => ?_) (fun h => ?_) | with_reducible refine guardD3_dec (fun h => ?_) (fun h => ?_)) <;> first | (exfalso; omega) | (simp (maxSteps := 2000000) (disch := first | omega | assumption | exact idP rfl | exact idP (bL rfl)) only [go_sem, reduceIte, Nat.reduceEqDiff, h, e2, e8, e9, e10, w1, w2, hm1.at q1, hm2.at q2, mkL_get, b1, b2]) | skip) | ((first | with_reducible refine cond_split (fun h => ?_) (fun h => ?_) | with_reducible refine guardK_split (fun h => ?_) (fun h => ?_) | with_reducible refine guardD3_split (fun h => ?_) (fun h => ?_)) <;> ((try simp only [Bool.not_eq_true', Bool.not_eq_false'] at h); first | (simp (maxSteps := 2000000) (disch := first | omega | assumption | exact idP rfl | exact idP (bL rfl)) only [go_sem, reduceIte, Nat.reduceEqDiff, h, e2, e8, e9, e10, w1, w2, hm1.at q1, hm2.at q2, mkL_get, b1, b2]) | skip)) | (with_reducible intro bk hbk; try have hnk := (fresh_set hbk).1) | (simp (maxSteps := 2000000) (disch := first | omega | assumption | exact idP rfl | exact idP (bL rfl)) only [go_sem, reduceIte, Nat.reduceEqDiff, e2, e8, e9, e10, w1, w2, hm1.at q1, hm2.at q2, mkL_get, b1, b2])))
        all_goals first
          | exact fin2 (by simp [boB, b1, b2]) _ _ (by simp (maxSteps := 2000000) (disch := first | omega | assumption | exact idP rfl | exact idP (bL rfl)) only [go_sem, reduceIte, Nat.reduceEqDiff]) (by simp (maxSteps := 2000000) (disch := first | omega | assumption | exact idP rfl | exact idP (bL rfl)) only [go_sem, reduceIte, Nat.reduceEqDiff]) (by simp (maxSteps := 2000000) (disch := first | omega | assumption | exact idP rfl | exact idP (bL rfl)) only [go_sem, reduceIte, Nat.reduceEqDiff]) (by simp (maxSteps := 2000000) (disch := first | omega | assumption | exact idP rfl | exact idP (bL rfl)) only [go_sem, reduceIte, Nat.reduceEqDiff]) (by simp (maxSteps := 2000000) (disch := first | omega | assumption | exact idP rfl | exact idP (bL rfl)) only [go_sem, reduceIte, Nat.reduceEqDiff]; exact hg)
          | (refine app_int hg (by assumption) (by omega) (by omega) ?_
             intro s' M' hg' _
             simp (maxSteps := 2000000) (disch := first | omega | assumption | exact idP rfl | exact idP (bL rfl)) only [go_sem, reduceIte, Nat.reduceEqDiff, e2, e8, e9, e10]
             exact fin1 (by simp [boB, b1, b2]) _ _ (by simp (maxSteps := 2000000) (disch := first | omega | assumption | exact idP rfl | exact idP (bL rfl)) only [go_sem, reduceIte, Nat.reduceEqDiff]) (by simp (maxSteps := 2000000) (disch := first | omega | assumption | exact idP rfl | exact idP (bL rfl)) only [go_sem, reduceIte, Nat.reduceEqDiff]) (by simp (maxSteps := 2000000) (disch := first | omega | assumption | exact idP rfl | exact idP (bL rfl)) only [go_sem, reduceIte, Nat.reduceEqDiff]) (by simp (maxSteps := 2000000) (disch := first | omega | assumption | exact idP rfl | exact idP (bL rfl)) only [go_sem, reduceIte, Nat.reduceEqDiff]) (by simp (maxSteps := 2000000) (disch := first | omega | assumption | exact idP rfl | exact idP (bL rfl)) only [go_sem, reduceIte, Nat.reduceEqDiff]; exact hg'))
          | skip
      · obtain rfl : i = 400 := by omega
        simp (maxSteps := 2000000) (disch := first | omega | assumption | exact idP rfl | exact idP (bL rfl)) only [go_sem, reduceIte, Nat.reduceEqDiff]
        refine hG _ _ _ _ hg fun u hu => ?_
        unfold boF
        rw [if_pos ⟨h1, by assumption⟩]
        exact hu.li
theorem t_SetBoth {v w : V} {xs ys : List Int} (hv : LI v xs) (hw : LI w ys) (hl : xs.length ≤ 1048576) (hl2 : ys.length ≤ 1048576) : VCall Tryz.prog n_spec_SetBoth [v, w] M (fun r M' => M = M' ∧ LI r (boF xs ys)) := by
  refine VCall.froz fun R hP hG => v_spec_SetBoth rfl ?_
  simp (maxSteps := 2000000) (disch := first | omega | assumption | exact idP rfl | exact idP (bL rfl)) only [go_sem, reduceIte, Nat.reduceEqDiff]
  refine (t_l4Mix0 hv hw hl hl2).mono ?_
  rintro r _ ⟨rfl, hr⟩
  simp (maxSteps := 2000000) (disch := first | omega | assumption | exact idP rfl | exact idP (bL rfl)) only [go_sem, reduceIte, Nat.reduceEqDiff]
  exact hP _ _ (Sub.refl _) hr
theorem boF_len (xs ys : List Int) : (boF xs ys).length ≤ 400 := by
  unfold boF
  split
  · exact selL_len
  · simp
noncomputable def hwF (s : SysS) (ts : List TermS) (xs : List Int) : List Int := woF (boF (nextN s (boF xs (swF s ts))) xs) (swF s ts)
noncomputable def holdsS (s : SysS) (ts : List TermS) (xs : List Int) : Bool := setV s xs && (kindIs (s.vars.length : Int) 2 ts && decide ((hwF s ts xs).length = 0))
theorem t_specHoldsWithin {v w x : V} {s : SysS} {ts : List TermS} {xs : List Int} (hv : isSys s v) (hw : LT w ts) (hx : LI x xs) (hl : xs.length ≤ 1048576) :
    VCall Tryz.prog n_spec_HoldsWithin [v, w, x] M (fun r M' => M = M' ∧ r = .sc (.bool (holdsS s ts xs))) := by
  refine VCall.pure fun R hR => v_spec_HoldsWithin rfl ?_
  have hv0 := hv
  obtain ⟨a, b, rfl, ha, hb⟩ := hv
  have hsl := swF_len s ts
  have hb1 := boF_len xs (swF s ts)
  have hb2 := boF_len (nextN s (boF xs (swF s ts))) xs
  have hn1 := nextN_len (s := s) (xs := boF xs (swF s ts))
  simp (maxSteps := 2000000) (disch := first | omega | assumption | exact idP rfl | exact idP (bL rfl)) only [go_sem, reduceIte, Nat.reduceEqDiff]
  intro b3 hb3
  refine (t_specSetValid hv0 hx hl).mono ?_
  rintro _ _ ⟨rfl, rfl⟩
  cases h1 : setV s xs with
  | false =>
    (repeat' (first | ((first | with_reducible refine cond_dec (fun h => ?_) (fun h => ?_) | with_reducible refine guardK_dec (fun h => ?_) (fun h => ?_) | with_reducible refine guardD3_dec (fun h => ?_) (fun h => ?_)) <;> first | (exfalso; omega) | (simp (maxSteps := 2000000) (disch := first | omega | assumption | exact idP rfl | exact idP (bL rfl)) only [go_sem, reduceIte, Nat.reduceEqDiff, h, ha.len]) | skip) | ((first | with_reducible refine cond_split (fun h => ?_) (fun h => ?_) | with_reducible refine guardK_split (fun h => ?_) (fun h => ?_) | with_reducible refine guardD3_split (fun h => ?_) (fun h => ?_)) <;> ((try simp only [Bool.not_eq_true', Bool.not_eq_false'] at h); first | (simp (maxSteps := 2000000) (disch := first | omega | assumption | exact idP rfl | exact idP (bL rfl)) only [go_sem, reduceIte, Nat.reduceEqDiff, h, ha.len]) | skip)) | ((with_reducible refine (t_l2Is hw).mono ?_); rintro _ _ ⟨rfl, rfl⟩) | (with_reducible intro bk hbk; try have hnk := (fresh_set hbk).1) | (simp (maxSteps := 2000000) (disch := first | omega | assumption | exact idP rfl | exact idP (bL rfl)) only [go_sem, reduceIte, Nat.reduceEqDiff, ha.len])))
    all_goals exact hR _ _ (by (repeat (first | exact Sub.refl _ | assumption | (refine Sub.set' ?_ (by assumption))))) (by simp [holdsS, h1])
  | true =>
    simp (maxSteps := 2000000) (disch := first | omega | assumption | exact idP rfl | exact idP (bL rfl)) only [go_sem, reduceIte, Nat.reduceEqDiff, ha.len]
    refine (t_l2Is hw).mono ?_
    rintro _ _ ⟨rfl, rfl⟩
    cases h2 : kindIs (s.vars.length : Int) 2 ts with
    | false =>
      simp (maxSteps := 2000000) (disch := first | omega | assumption | exact idP rfl | exact idP (bL rfl)) only [go_sem, reduceIte, Nat.reduceEqDiff]
      exact hR _ _ (by (repeat (first | exact Sub.refl _ | assumption | (refine Sub.set' ?_ (by assumption))))) (by simp [holdsS, h1, h2])
    | true =>
      simp (maxSteps := 2000000) (disch := first | omega | assumption | exact idP rfl | exact idP (bL rfl)) only [go_sem, reduceIte, Nat.reduceEqDiff]
      refine (t_StatesWhere hv0 hw).mono ?_
      rintro q _ ⟨rfl, hq⟩
      simp (maxSteps := 2000000) (disch := first | omega | assumption | exact idP rfl | exact idP (bL rfl)) only [go_sem, reduceIte, Nat.reduceEqDiff]
      refine (t_SetBoth hx hq hl (by omega)).mono ?_
      rintro q2 _ ⟨rfl, hq2⟩
      simp (maxSteps := 2000000) (disch := first | omega | assumption | exact idP rfl | exact idP (bL rfl)) only [go_sem, reduceIte, Nat.reduceEqDiff]
      refine (t_NextNumbers hv0 hq2 (by omega)).mono ?_
      rintro q3 _ ⟨rfl, hq3⟩
      simp (maxSteps := 2000000) (disch := first | omega | assumption | exact idP rfl | exact idP (bL rfl)) only [go_sem, reduceIte, Nat.reduceEqDiff]
      refine (t_SetBoth hq3 hx (by omega) hl).mono ?_
      rintro q4 _ ⟨rfl, hq4⟩
      simp (maxSteps := 2000000) (disch := first | omega | assumption | exact idP rfl | exact idP (bL rfl)) only [go_sem, reduceIte, Nat.reduceEqDiff]
      refine (t_SetWithout hq4 hq (by omega) (by omega)).mono ?_
      rintro q5 _ ⟨rfl, hq5⟩
      simp (maxSteps := 2000000) (disch := first | omega | assumption | exact idP rfl | exact idP (bL rfl)) only [go_sem, reduceIte, Nat.reduceEqDiff, hq5.len]
      exact hR _ _ (by (repeat (first | exact Sub.refl _ | assumption | (refine Sub.set' ?_ (by assumption))))) (by simp [holdsS, hwF, h1, h2])
noncomputable def shownS (s : SysS) (ts : List TermS) (xs : List Int) : Bool := closedS s xs && (holdsS s ts xs && decide (firstN s ∈ swF s ts))
theorem t_specShownWithin {v w x : V} {s : SysS} {ts : List TermS} {xs : List Int} (hv : isSys s v) (hw : LT w ts) (hx : LI x xs) (hl : xs.length ≤ 1048576) :
    VCall Tryz.prog n_spec_ShownWithin [v, w, x] M (fun r M' => M = M' ∧ r = .sc (.bool (shownS s ts xs))) := by
  refine VCall.pure fun R hR => v_spec_ShownWithin rfl ?_
  have hv0 := hv
  obtain ⟨a, b, rfl, ha, hb⟩ := hv
  have hsl := swF_len s ts
  simp (maxSteps := 2000000) (disch := first | omega | assumption | exact idP rfl | exact idP (bL rfl)) only [go_sem, reduceIte, Nat.reduceEqDiff]
  intro b3 hb3
  refine (t_specClosed hv0 hx hl).mono ?_
  rintro _ _ ⟨rfl, rfl⟩
  cases h1 : closedS s xs with
  | false =>
    (repeat' (first | ((first | with_reducible refine cond_dec (fun h => ?_) (fun h => ?_) | with_reducible refine guardK_dec (fun h => ?_) (fun h => ?_) | with_reducible refine guardD3_dec (fun h => ?_) (fun h => ?_)) <;> first | (exfalso; omega) | (simp (maxSteps := 2000000) (disch := first | omega | assumption | exact idP rfl | exact idP (bL rfl)) only [go_sem, reduceIte, Nat.reduceEqDiff, h]) | skip) | ((first | with_reducible refine cond_split (fun h => ?_) (fun h => ?_) | with_reducible refine guardK_split (fun h => ?_) (fun h => ?_) | with_reducible refine guardD3_split (fun h => ?_) (fun h => ?_)) <;> ((try simp only [Bool.not_eq_true', Bool.not_eq_false'] at h); first | (simp (maxSteps := 2000000) (disch := first | omega | assumption | exact idP rfl | exact idP (bL rfl)) only [go_sem, reduceIte, Nat.reduceEqDiff, h]) | skip)) | ((with_reducible refine (t_specHoldsWithin hv0 hw hx hl).mono ?_); rintro _ _ ⟨rfl, rfl⟩) | (with_reducible intro bk hbk; try have hnk := (fresh_set hbk).1) | (simp (maxSteps := 2000000) (disch := first | omega | assumption | exact idP rfl | exact idP (bL rfl)) only [go_sem, reduceIte, Nat.reduceEqDiff])))
    all_goals exact hR _ _ (by (repeat (first | exact Sub.refl _ | assumption | (refine Sub.set' ?_ (by assumption))))) (by simp [shownS, h1])
  | true =>
    simp (maxSteps := 2000000) (disch := first | omega | assumption | exact idP rfl | exact idP (bL rfl)) only [go_sem, reduceIte, Nat.reduceEqDiff]
    refine (t_specHoldsWithin hv0 hw hx hl).mono ?_
    rintro _ _ ⟨rfl, rfl⟩
    cases h2 : holdsS s ts xs with
    | false =>
      simp (maxSteps := 2000000) (disch := first | omega | assumption | exact idP rfl | exact idP (bL rfl)) only [go_sem, reduceIte, Nat.reduceEqDiff]
      exact hR _ _ (by (repeat (first | exact Sub.refl _ | assumption | (refine Sub.set' ?_ (by assumption))))) (by simp [shownS, h1, h2])
    | true =>
      have hs : SysOk s := by
        unfold holdsS at h2
        exact (setV_iff.1 (Bool.and_eq_true_iff.1 h2).1).1
      simp (maxSteps := 2000000) (disch := first | omega | assumption | exact idP rfl | exact idP (bL rfl)) only [go_sem, reduceIte, Nat.reduceEqDiff]
      refine (t_StatesWhere hv0 hw).mono ?_
      rintro q _ ⟨rfl, hq⟩
      simp (maxSteps := 2000000) (disch := first | omega | assumption | exact idP rfl | exact idP (bL rfl)) only [go_sem, reduceIte, Nat.reduceEqDiff]
      refine (VCall.fr1 (t_FirstState hv0 hs)).mono ?_
      rintro f _ ⟨rfl, hf⟩
      simp (maxSteps := 2000000) (disch := first | omega | assumption | exact idP rfl | exact idP (bL rfl)) only [go_sem, reduceIte, Nat.reduceEqDiff]
      refine (t_l4Number ha hf.li hs.vars hs.v5 (first_in hs)).mono ?_
      rintro _ _ ⟨rfl, rfl⟩
      simp (maxSteps := 2000000) (disch := first | omega | assumption | exact idP rfl | exact idP (bL rfl)) only [go_sem, reduceIte, Nat.reduceEqDiff]
      refine (t_l2Has hq (by omega)).mono ?_
      rintro _ _ ⟨rfl, rfl⟩
      simp (maxSteps := 2000000) (disch := first | omega | assumption | exact idP rfl | exact idP (bL rfl)) only [go_sem, reduceIte, Nat.reduceEqDiff]
      refine hR _ _ (by (repeat (first | exact Sub.refl _ | assumption | (refine Sub.set' ?_ (by assumption))))) ?_
      have e9 : numF s.vars (firstF s) = firstN s := rfl
      simp only [shownS, h1, h2, Bool.true_and, e9]
theorem inL_swF {s : SysS} {ts : List TermS} (hk : tOk s ts = true) (i : Nat) : inL (swF s ts) i = (decide (i < (sizeF s.vars).toNat) && whB s ts i) := by
  unfold swF
  rw [if_pos hk, Bool.eq_iff_iff]
  simp only [inL, decide_eq_true_eq, mem_selL, Bool.and_eq_true]
  constructor
  · rintro ⟨j, h1, h2, h3⟩
    obtain rfl : j = i := by omega
    exact ⟨h1, h2⟩
  · rintro ⟨h1, h2⟩
    exact ⟨i, h1, h2, rfl⟩
theorem mem_boF {xs ys : List Int} (h1 : SetOk 400 xs) (h2 : SetOk 400 ys) {x : Int} : x ∈ boF xs ys ↔ x ∈ xs ∧ x ∈ ys := by
  unfold boF
  rw [if_pos ⟨setB_iff.2 h1, setB_iff.2 h2⟩, mem_selL]
  constructor
  · rintro ⟨i, hi, hp, rfl⟩
    simpa [boB, inL] using hp
  · rintro ⟨q1, q2⟩
    have := h1.in x q1
    refine ⟨x.toNat, by omega, ?_, by omega⟩
    simp only [boB, inL, Int.toNat_of_nonneg this.1, Bool.and_eq_true, decide_eq_true_eq]
    exact ⟨q1, q2⟩
theorem mem_woF {xs ys : List Int} (h1 : SetOk 400 xs) (h2 : SetOk 400 ys) {x : Int} : x ∈ woF xs ys ↔ x ∈ xs ∧ ¬ x ∈ ys := by
  unfold woF
  rw [if_pos ⟨setB_iff.2 h1, setB_iff.2 h2⟩, mem_selL]
  constructor
  · rintro ⟨i, hi, hp, rfl⟩
    simpa [woB, inL] using hp
  · rintro ⟨q1, q2⟩
    have := h1.in x q1
    refine ⟨x.toNat, by omega, ?_, by omega⟩
    simp only [woB, inL, Int.toNat_of_nonneg this.1, Bool.and_eq_true, decide_eq_true_eq, Bool.not_eq_true', decide_eq_false_iff_not]
    exact ⟨q1, q2⟩
theorem boF_ok (xs ys : List Int) : SetOk 400 (boF xs ys) := by
  unfold boF
  split
  · exact (selL_ok _).mono (by omega)
  · exact fun i hi => by simp at hi
theorem boF_set {n : Int} {xs ys : List Int} (h : SetOk n xs) (hn : n ≤ 400) (hy : SetOk 400 ys) : SetOk n (boF xs ys) := by
  intro i hi hik
  have h1 := boF_ok xs ys i hi hik
  have h2 : (boF xs ys)[i] ∈ xs := ((mem_boF (h.mono hn) hy).1 (List.getElem_mem hi)).1
  have h3 := h.in _ h2
  exact ⟨⟨h3.1, by omega⟩, h1.2⟩
theorem mem_nextN {s : SysS} {xs : List Int} (hs : SysOk s) (h : SetOk (sizeF s.vars) xs) {y : Int} : y ∈ nextN s xs ↔ ∃ x ∈ xs, y ∈ (tabF s).getD x.toNat [] := by
  have hsz := hs.sz
  have htl := tabF_len s
  unfold nextN
  rw [if_pos (setV_iff.2 ⟨hs, h⟩), mem_selL]
  constructor
  · rintro ⟨i, hi, hp, rfl⟩
    obtain ⟨x, hx, hp⟩ := List.any_eq_true.1 hp
    exact ⟨x, hx, by simpa using hp⟩
  · rintro ⟨x, hx, hy⟩
    have hxi := h.in x hx
    have i3 : x.toNat < (tabF s).length := by omega
    have hgd : (tabF s).getD x.toNat [] = (tabF s)[x.toNat] := by simp [List.getD, i3]
    have hyi := (tabF_in hs _ (List.getElem_mem i3)).2 y (by rw [← hgd]; exact hy)
    refine ⟨y.toNat, by omega, ?_, by omega⟩
    exact List.any_eq_true.2 ⟨x, hx, by simpa [Int.toNat_of_nonneg hyi.1] using hy⟩
theorem holds_eq (s : SysS) (ts : List TermS) (xs : List Int) : holdsS s ts xs = (tOk s ts && setB (sizeF s.vars) xs && holdsI (sizeF s.vars).toNat (tabF s) (whB s ts) xs) := by
  unfold holdsS
  cases h1 : sysB s with
  | false => simp [tOk, setV, h1]
  | true =>
    cases h2 : kindIs (s.vars.length : Int) 2 ts with
    | false => simp [tOk, h2]
    | true =>
      have hk : tOk s ts = true := by simp [tOk, h1, h2]
      have hs := (sysB_iff s).1 h1
      cases h3 : setB (sizeF s.vars) xs with
      | false => simp [setV, h3]
      | true =>
        have hset := setB_iff.1 h3
        have hv : setV s xs = true := setV_iff.2 ⟨hs, hset⟩
        have hsz := hs.sz
        have htl := tabF_len s
        have h4 : SetOk 400 xs := hset.mono (by omega)
        have hsw := swF_ok s ts
        have hb1 : SetOk (sizeF s.vars) (boF xs (swF s ts)) := boF_set hset (by omega) hsw
        rw [hv, hk, Bool.true_and, Bool.true_and, Bool.true_and, Bool.true_and, Bool.eq_iff_iff, decide_eq_true_eq, List.length_eq_zero_iff]
        unfold hwF holdsI
        rw [Bool.not_eq_true', ← Bool.not_eq_true, List.any_eq_true]
        have hsx : ∀ x : Int, 0 ≤ x → x < sizeF s.vars → (x ∈ swF s ts ↔ whB s ts x.toNat = true) := fun x q1 q2 => by
          have := inL_swF hk x.toNat
          unfold inL at this
          rw [Int.toNat_of_nonneg q1] at this
          have q3 : x.toNat < (sizeF s.vars).toNat := by omega
          simp only [q3, decide_true, Bool.true_and] at this
          rw [← this, decide_eq_true_eq]
        constructor
        · rintro h0 ⟨x, hx, hp⟩
          rw [Bool.and_eq_true, List.any_eq_true] at hp
          obtain ⟨hp, y, hy, hq⟩ := hp
          rw [Bool.and_eq_true, Bool.not_eq_true'] at hq
          have hxi := hset.in x hx
          have i3 : x.toNat < (tabF s).length := by omega
          have hgd : (tabF s).getD x.toNat [] = (tabF s)[x.toNat] := by simp [List.getD, i3]
          have hyi := (tabF_in hs _ (List.getElem_mem i3)).2 y (by rw [← hgd]; exact hy)
          have hyx : y ∈ xs := by simpa [inL, Int.toNat_of_nonneg hyi.1] using hq.1
          have hyn : y ∈ nextN s (boF xs (swF s ts)) := (mem_nextN hs hb1).2 ⟨x, (mem_boF h4 hsw).2 ⟨hx, (hsx x hxi.1 hxi.2).2 hp⟩, hy⟩
          have : y ∈ woF (boF (nextN s (boF xs (swF s ts))) xs) (swF s ts) := (mem_woF (boF_ok _ _) hsw).2 ⟨(mem_boF (nextN_ok _ _) h4).2 ⟨hyn, hyx⟩, fun hc => by
            have := (hsx y hyi.1 (by omega)).1 hc
            rw [hq.2] at this; cases this⟩
          rw [h0] at this; cases this
        · intro h0
          refine List.eq_nil_iff_forall_not_mem.2 fun y hy => h0 ?_
          obtain ⟨hy1, hy2⟩ := (mem_woF (boF_ok _ _) hsw).1 hy
          obtain ⟨hy3, hy4⟩ := (mem_boF (nextN_ok _ _) h4).1 hy1
          obtain ⟨x, hx, hxy⟩ := (mem_nextN hs hb1).1 hy3
          obtain ⟨hx1, hx2⟩ := (mem_boF h4 hsw).1 hx
          have hxi := hset.in x hx1
          have hyi := hset.in y hy4
          refine ⟨x, hx1, ?_⟩
          rw [Bool.and_eq_true, List.any_eq_true]
          refine ⟨(hsx x hxi.1 hxi.2).1 hx2, y, hxy, ?_⟩
          rw [Bool.and_eq_true, Bool.not_eq_true']
          refine ⟨by simpa [inL, Int.toNat_of_nonneg hyi.1] using hy4, ?_⟩
          cases hq : whB s ts y.toNat with
          | false => rfl
          | true => exact absurd ((hsx y hyi.1 hyi.2).2 hq) hy2
theorem shown_eq (s : SysS) (ts : List TermS) (xs : List Int) : shownS s ts xs = shownI s ts xs := by
  unfold shownS shownI
  rw [closed_eq, holds_eq]
  cases h1 : setV s xs with
  | false => simp
  | true =>
    obtain ⟨hs, hset⟩ := setV_iff.1 h1
    cases hk : tOk s ts with
    | false => simp
    | true =>
      have h3 := setB_iff.2 hset
      have hfb := firstN_bd hs
      have e : decide (firstN s ∈ swF s ts) = whB s ts (firstN s).toNat := by
        have := inL_swF hk (firstN s).toNat
        unfold inL at this
        rw [Int.toNat_of_nonneg hfb.1] at this
        rw [this]
        have q3 : (firstN s).toNat < (sizeF s.vars).toNat := by omega
        simp [q3]
      rw [h3, e]
      cases closedI s xs <;> cases holdsI (sizeF s.vars).toNat (tabF s) (whB s ts) xs <;> rfl
end Go.M2

namespace Go.M2
open Go.Proofs
set_option linter.unusedVariables false
set_option linter.unusedSimpArgs false
set_option maxRecDepth 10000
set_option maxHeartbeats 4000000
variable {M : MH}
theorem law_ShownWithin {v w x : V} {s : SysS} {ts : List TermS} {xs : List Int} (hv : isSysX s v) (hl : SysLen s) (hw : XT w ts) (htl : LenOk ts) (hx : XI x xs) (hxl0 : LenOk xs) :
    VCall Tryz.prog n_laws_FnExactShownWithin [v, w, x] M (fun r M' => M = M' ∧ r = .sc (.bool true)) := by
  refine VCall.pure fun R hR => v_laws_FnExactShownWithin rfl ?_
  have hv0 := hv
  obtain ⟨a, b, rfl, ha, hb⟩ := hv
  unfold LenOk at htl hxl0
  have hlen := hx.len fun _ _ h => h.len
  (repeat' (first | ((first | with_reducible refine cond_dec (fun h => ?_) (fun h => ?_) | with_reducible refine guardK_dec (fun h => ?_) (fun h => ?_) | with_reducible refine guardD3_dec (fun h => ?_) (fun h => ?_)) <;> first | (exfalso; omega) | (simp (maxSteps := 2000000) (disch := first | omega | assumption | exact idP rfl | exact idP (bL rfl)) only [go_sem, reduceIte, Nat.reduceEqDiff, h, hlen]) | skip) | ((first | with_reducible refine cond_split (fun h => ?_) (fun h => ?_) | with_reducible refine guardK_split (fun h => ?_) (fun h => ?_) | with_reducible refine guardD3_split (fun h => ?_) (fun h => ?_)) <;> ((try simp only [Bool.not_eq_true', Bool.not_eq_false'] at h); first | (simp (maxSteps := 2000000) (disch := first | omega | assumption | exact idP rfl | exact idP (bL rfl)) only [go_sem, reduceIte, Nat.reduceEqDiff, h, hlen]) | skip)) | (with_reducible intro bk hbk; try have hnk := (fresh_set hbk).1) | (simp (maxSteps := 2000000) (disch := first | omega | assumption | exact idP rfl | exact idP (bL rfl)) only [go_sem, reduceIte, Nat.reduceEqDiff, hlen])))
  · exact hR _ _ (by (repeat (first | exact Sub.refl _ | assumption | (refine Sub.set' ?_ (by assumption))))) rfl
  · refine (x_szSystem hv0 hl (by omega) (by omega)).mono ?_
    rintro _ _ ⟨rfl, k, rfl, hk1, hk⟩
    (repeat' (first | ((first | with_reducible refine cond_dec (fun h => ?_) (fun h => ?_) | with_reducible refine guardK_dec (fun h => ?_) (fun h => ?_) | with_reducible refine guardD3_dec (fun h => ?_) (fun h => ?_)) <;> first | (exfalso; omega) | (simp (maxSteps := 2000000) (disch := first | omega | assumption | exact idP rfl | exact idP (bL rfl)) only [go_sem, reduceIte, Nat.reduceEqDiff, h]) | skip) | ((first | with_reducible refine cond_split (fun h => ?_) (fun h => ?_) | with_reducible refine guardK_split (fun h => ?_) (fun h => ?_) | with_reducible refine guardD3_split (fun h => ?_) (fun h => ?_)) <;> ((try simp only [Bool.not_eq_true', Bool.not_eq_false'] at h); first | (simp (maxSteps := 2000000) (disch := first | omega | assumption | exact idP rfl | exact idP (bL rfl)) only [go_sem, reduceIte, Nat.reduceEqDiff, h]) | skip)) | (with_reducible intro bk hbk; try have hnk := (fresh_set hbk).1) | (simp (maxSteps := 2000000) (disch := first | omega | assumption | exact idP rfl | exact idP (bL rfl)) only [go_sem, reduceIte, Nat.reduceEqDiff])))
    · exact hR _ _ (by (repeat (first | exact Sub.refl _ | assumption | (refine Sub.set' ?_ (by assumption))))) rfl
    · have hf := hk (by omega)
      have hxl : xs.length ≤ 1048576 := by omega
      refine (x_szTermS hw htl (by omega) (by omega)).mono ?_
      rintro _ _ ⟨rfl, k2, rfl, hk3, hk4⟩
      (repeat' (first | ((first | with_reducible refine cond_dec (fun h => ?_) (fun h => ?_) | with_reducible refine guardK_dec (fun h => ?_) (fun h => ?_) | with_reducible refine guardD3_dec (fun h => ?_) (fun h => ?_)) <;> first | (exfalso; omega) | (simp (maxSteps := 2000000) (disch := first | omega | assumption | exact idP rfl | exact idP (bL rfl)) only [go_sem, reduceIte, Nat.reduceEqDiff, h]) | skip) | ((first | with_reducible refine cond_split (fun h => ?_) (fun h => ?_) | with_reducible refine guardK_split (fun h => ?_) (fun h => ?_) | with_reducible refine guardD3_split (fun h => ?_) (fun h => ?_)) <;> ((try simp only [Bool.not_eq_true', Bool.not_eq_false'] at h); first | (simp (maxSteps := 2000000) (disch := first | omega | assumption | exact idP rfl | exact idP (bL rfl)) only [go_sem, reduceIte, Nat.reduceEqDiff, h]) | skip)) | (with_reducible intro bk hbk; try have hnk := (fresh_set hbk).1) | (simp (maxSteps := 2000000) (disch := first | omega | assumption | exact idP rfl | exact idP (bL rfl)) only [go_sem, reduceIte, Nat.reduceEqDiff])))
      · exact hR _ _ (by (repeat (first | exact Sub.refl _ | assumption | (refine Sub.set' ?_ (by assumption))))) rfl
      · have hwl := hk4 (by omega)
        refine (f_toSystem hv0 hf).mono ?_
        rintro s1 _ ⟨rfl, hs1⟩
        simp (maxSteps := 2000000) (disch := first | omega | assumption | exact idP rfl | exact idP (bL rfl)) only [go_sem, reduceIte, Nat.reduceEqDiff]
        refine (f_toTermS hw hwl).mono ?_
        rintro w1 _ ⟨rfl, hw1⟩
        simp (maxSteps := 2000000) (disch := first | omega | assumption | exact idP rfl | exact idP (bL rfl)) only [go_sem, reduceIte, Nat.reduceEqDiff]
        refine (f_toIntS hx hxl).mono ?_
        rintro x1 _ ⟨rfl, hx1⟩
        simp (maxSteps := 2000000) (disch := first | omega | assumption | exact idP rfl | exact idP (bL rfl)) only [go_sem, reduceIte, Nat.reduceEqDiff]
        refine (t_specShownWithin hs1 hw1 hx1 hxl).mono ?_
        rintro _ _ ⟨rfl, rfl⟩
        simp (maxSteps := 2000000) (disch := first | omega | assumption | exact idP rfl | exact idP (bL rfl)) only [go_sem, reduceIte, Nat.reduceEqDiff]
        refine (f_toSystem hv0 hf).mono ?_
        rintro s2 _ ⟨rfl, hs2⟩
        have hs20 := hs2
        obtain ⟨a2, b2, rfl, ha2, hb2⟩ := hs2
        simp (maxSteps := 2000000) (disch := first | omega | assumption | exact idP rfl | exact idP (bL rfl)) only [go_sem, reduceIte, Nat.reduceEqDiff, ha2.one.1, ha2.one.2, hb2.one.1, hb2.one.2]
        intro b7 hb7
        have n7 := (fresh_set hb7).1
        have o1 := ha2.one.1
        have o2 := hb2.one.1
        simp (maxSteps := 2000000) (disch := first | omega | assumption | exact idP rfl | exact idP (bL rfl)) only [go_sem, reduceIte, Nat.reduceEqDiff]
        refine (f_toTermS hw hwl).mono ?_
        rintro w2 _ ⟨rfl, hw2⟩
        simp (maxSteps := 2000000) (disch := first | omega | assumption | exact idP rfl | exact idP (bL rfl)) only [go_sem, reduceIte, Nat.reduceEqDiff]
        refine (f_toIntS hx hxl).mono ?_
        rintro x2 _ ⟨rfl, hx2⟩
        simp (maxSteps := 2000000) (disch := first | omega | assumption | exact idP rfl | exact idP (bL rfl)) only [go_sem, reduceIte, Nat.reduceEqDiff]
        refine (t_impShownWithin hs20 hf.sz hw2 hx2 hxl).mono ?_
        rintro _ _ ⟨rfl, rfl⟩
        rw [shown_eq]
        have ei : decide (xs = xs) = true := by simp
        generalize (shownI s ts xs) = t
        have fin : ∀ (e : EnvV), R (.sc (.bool true)) ((M.set bk [a, b]).set b7 [a2, b2]) := fun _ => hR _ _ (by (repeat (first | exact Sub.refl _ | assumption | (refine Sub.set' ?_ (by assumption))))) rfl
        cases t
        all_goals simp (maxSteps := 2000000) (disch := first | omega | assumption | exact idP rfl | exact idP (bL rfl)) only [go_sem, reduceIte, Nat.reduceEqDiff, beq_self_eq_true, Bool.not_true, BEq.rfl]
        all_goals refine (f_toSystem hv0 hf).mono ?_
        all_goals rintro s3 _ ⟨rfl, hs3⟩
        all_goals simp (maxSteps := 2000000) (disch := first | omega | assumption | exact idP rfl | exact idP (bL rfl)) only [go_sem, reduceIte, Nat.reduceEqDiff]
        all_goals refine (x_eqSystem hs20 hs3 hf).mono ?_
        all_goals rintro _ _ ⟨rfl, rfl⟩
        all_goals simp (maxSteps := 2000000) (disch := first | omega | assumption | exact idP rfl | exact idP (bL rfl)) only [go_sem, reduceIte, Nat.reduceEqDiff]
        all_goals refine (f_toTermS hw hwl).mono ?_
        all_goals rintro w3 _ ⟨rfl, hw3⟩
        all_goals simp (maxSteps := 2000000) (disch := first | omega | assumption | exact idP rfl | exact idP (bL rfl)) only [go_sem, reduceIte, Nat.reduceEqDiff]
        all_goals refine (x_eqTermS hw2 hw3 hwl).mono ?_
        all_goals rintro _ _ ⟨rfl, rfl⟩
        all_goals simp (maxSteps := 2000000) (disch := first | omega | assumption | exact idP rfl | exact idP (bL rfl)) only [go_sem, reduceIte, Nat.reduceEqDiff]
        all_goals refine (f_toIntS hx hxl).mono ?_
        all_goals rintro x3 _ ⟨rfl, hx3⟩
        all_goals simp (maxSteps := 2000000) (disch := first | omega | assumption | exact idP rfl | exact idP (bL rfl)) only [go_sem, reduceIte, Nat.reduceEqDiff]
        all_goals refine (x_eqIntS hx2 hx3 hxl).mono ?_
        all_goals rintro _ _ ⟨rfl, rfl⟩
        all_goals simp (maxSteps := 2000000) (disch := first | omega | assumption | exact idP rfl | exact idP (bL rfl)) only [go_sem, reduceIte, Nat.reduceEqDiff, ei]
        all_goals exact hR _ _ (by (repeat (first | exact Sub.refl _ | assumption | (refine Sub.set' ?_ (by assumption))))) rfl
end Go.M2
