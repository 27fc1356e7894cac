/- Contracts: values of expressions, what a rule makes of a state, the program's side. -/
import Derived.Test.YtpglaahejpkkdaaGreatKk5
set_option linter.unusedVariables false
set_option linter.unusedSimpArgs false
set_option maxRecDepth 10000
set_option maxHeartbeats 4000000
namespace Go.M2
open Go.Proofs
variable {M : MH}
theorem t_do {op a b : Int} (h : DoOk op a b) : VCall Tryz.prog n_impl_do [.sc (.int .i64 op), .sc (.int .i64 a), .sc (.int .i64 b)] M (fun r M' => M = M' ∧ r = .sc (.int .i64 (do1 op a b))) := by
  refine VCall.pure fun R hR => v_impl_do rfl ?_
  obtain ⟨o2, o9, a1, a2, b1, b2, tr⟩ := h
  have hm := mul_bd a1 a2 b1 b2
  (repeat' (first | ((first | with_reducible refine cond_dec (fun h => ?_) (fun h => ?_) | with_reducible refine guardK_dec (fun h => ?_) (fun h => ?_) | with_reducible refine guardD3_dec (fun h => ?_) (fun h => ?_)) <;> first | (exfalso; omega) | (simp (maxSteps := 2000000) (disch := first | omega | assumption | exact idP rfl | exact idP (bL rfl)) only [go_sem, reduceIte, Nat.reduceEqDiff, h]) | skip) | ((first | with_reducible refine cond_split (fun h => ?_) (fun h => ?_) | with_reducible refine guardK_split (fun h => ?_) (fun h => ?_) | with_reducible refine guardD3_split (fun h => ?_) (fun h => ?_)) <;> ((try simp only [Bool.not_eq_true', Bool.not_eq_false'] at h); first | (simp (maxSteps := 2000000) (disch := first | omega | assumption | exact idP rfl | exact idP (bL rfl)) only [go_sem, reduceIte, Nat.reduceEqDiff, h]) | skip)) | ((with_reducible refine (t_held).mono ?_); rintro _ _ ⟨rfl, rfl⟩) | ((with_reducible refine (t_bit).mono ?_); rintro _ _ ⟨rfl, rfl⟩) | (with_reducible intro bk hbk; try have hnk := (fresh_set hbk).1) | (simp (maxSteps := 2000000) (disch := first | omega | assumption | exact idP rfl | exact idP (bL rfl)) only [go_sem, reduceIte, Nat.reduceEqDiff])))
  all_goals refine hR _ _ (by (repeat (first | exact Sub.refl _ | assumption | (refine Sub.set' ?_ (by assumption))))) (eqI ?_)
  all_goals unfold do1
  all_goals try (simp (config := { decide := true }) only [*, if_true, if_false]; done)
  all_goals simp only [*, decide_eq_true_eq, if_false, if_true, if_pos, if_neg, not_false_eq_true]
  all_goals try (simp; done)
  all_goals rw [if_neg (by omega)]
theorem t_eval {v w : V} {ts : List TermS} {state ks : List Int} {vars : Int} (hv : LT v ts) (hw : LI w state) (hk : kindsF vars ts = some ks) (hs : stOk state) (hvs : vars ≤ (state.length : Int)) :
    VCall Tryz.prog n_impl_eval [v, w] M (fun r M' => M = M' ∧ r = .sc (.int .i64 (evalF ts state))) := by
  obtain ⟨_, _, k1, k2, hk, _⟩ := kindsF_some hk
  refine VCall.pure fun R hR => v_impl_eval rfl ?_
  simp (maxSteps := 2000000) (disch := first | omega | assumption | exact idP rfl | exact idP (bL rfl)) only [go_sem, reduceIte, Nat.reduceEqDiff, hv.len]
  refine mks3 (by omega) (by simp [mostCells]; omega) (by simp [mostCells]; omega) ?_
  intro b5 hb5
  simp (maxSteps := 2000000) (disch := first | omega | assumption | exact idP rfl | exact idP (bL rfl)) only [go_sem, reduceIte, Nat.reduceEqDiff, hv.len, zeros_vi]
  refine loop_k (fun e M' => Sub M M' ∧ ∃ i : Nat, i ≤ ts.length ∧ e 1 = w ∧ e 5 = .sc (.sl (some (b5, 0)) ts.length ts.length true 1) ∧ e 11 = v ∧ e 12 = .sc (.int .i64 ts.length) ∧ e 13 = .sc (.int .i64 i) ∧
    M' b5 = some ((valsF state (ts.take i) ++ List.replicate (ts.length - i) 0).map vi)) (fun e _ => ctrV ts.length (e 13)) ?_ ?_
  · exact ⟨(Sub.refl _).set hb5, 0, by omega, by simp (maxSteps := 2000000) (disch := first | omega | assumption | exact idP rfl | exact idP (bL rfl)) only [go_sem, reduceIte, Nat.reduceEqDiff], by simp (maxSteps := 2000000) (disch := first | omega | assumption | exact idP rfl | exact idP (bL rfl)) only [go_sem, reduceIte, Nat.reduceEqDiff], by simp (maxSteps := 2000000) (disch := first | omega | assumption | exact idP rfl | exact idP (bL rfl)) only [go_sem, reduceIte, Nat.reduceEqDiff], by simp (maxSteps := 2000000) (disch := first | omega | assumption | exact idP rfl | exact idP (bL rfl)) only [go_sem, reduceIte, Nat.reduceEqDiff], by simp (maxSteps := 2000000) (disch := first | omega | assumption | exact idP rfl | exact idP (bL rfl)) only [go_sem, reduceIte, Nat.reduceEqDiff]; rfl, by simp (maxSteps := 2000000) (disch := first | omega | assumption | exact idP rfl | exact idP (bL rfl)) only [go_sem, reduceIte, Nat.reduceEqDiff]; simp [valsF]⟩
  · rintro e M1 ⟨hsub, i, hi, e1, e5, e11, e12, e13, hm⟩ K hK
    have hvl : (valsF state (ts.take i)).length = i := by rw [valsF_len]; simp; omega
    have hll : (valsF state (ts.take i) ++ List.replicate (ts.length - i) 0).length = ts.length := by simp; omega
    simp (maxSteps := 2000000) (disch := first | omega | assumption | exact idP rfl | exact idP (bL rfl)) only [go_sem, reduceIte, Nat.reduceEqDiff, e12, e13]
    refine cond_dec (fun h => ?_) (fun h => ?_)
    · have hi' : i < ts.length := by omega
      have hso : i < ((valsF state (ts.take i) ++ List.replicate (ts.length - i) 0).map vi).length := by rw [len_vi]; omega
      have hset : ∀ x, x = val1 state ts[i] (valsF state (ts.take i)) → (valsF state (ts.take i) ++ List.replicate (ts.length - i) 0).set i x = valsF state (ts.take (i + 1)) ++ List.replicate (ts.length - (i + 1)) 0 := by
        rintro x rfl
        rw [valsF_take hi', show ts.length - i = (ts.length - (i + 1)) + 1 by omega, List.replicate_succ, List.set_append_right _ _ (by omega), hvl]
        simp
      have rd : ∀ {a : Int}, 0 ≤ a → a < (i : Int) → ((valsF state (ts.take i) ++ List.replicate (ts.length - i) 0).map vi)[a.toNat]? = some (.sc (.int .i64 (ix (valsF state (ts.take i)) a))) := fun {a} q1 q2 => by
        rw [List.map_append, nth_ix_app q1 (by omega)]
      simp (maxSteps := 2000000) (disch := first | omega | assumption | exact idP rfl | exact idP (bL rfl)) only [go_sem, reduceIte, Nat.reduceEqDiff, e1, e5, e11, e12, e13, hv.iaddr, LT.at hv hi', encT_eq]
      intro b7 hb7
      have hne : b5 ≠ b7 := fun hh => by subst hh; rw [hm] at hb7; cases hb7
      have fin : ∀ x cl, x = val1 state ts[i] (valsF state (ts.take i)) → ∀ e' : EnvV, e' 1 = w → e' 5 = .sc (.sl (some (b5, 0)) ts.length ts.length true 1) → e' 11 = v → e' 12 = .sc (.int .i64 ts.length) → e' 13 = .sc (.int .i64 ((i : Int) + 1)) → K e' ((M1.set b7 cl).set b5 (((valsF state (ts.take i) ++ List.replicate (ts.length - i) 0).set i x).map vi)) := by
        intro x cl hx e' g1 g5 g11 g12 g13
        refine hK _ _ ⟨?_, i + 1, by omega, g1, g5, g11, g12, g13, by rw [set_same, hset x hx]⟩ (by rw [g13, e13]; simp (maxSteps := 2000000) (disch := first | omega | assumption | exact idP rfl | exact idP (bL rfl)) only [go_sem, reduceIte, Nat.reduceEqDiff]; omega)
        refine Sub.set (by (repeat (first | exact Sub.refl _ | assumption | (refine Sub.set' ?_ (by assumption))))) (by cases hq : M b5 with | none => rfl | some l => rw [hq] at hb5; cases hb5)
      refine cond_dec (fun h0 => ?_) (fun h0 => ?_)
      · simp (maxSteps := 2000000) (disch := first | omega | assumption | exact idP rfl | exact idP (bL rfl)) only [go_sem, reduceIte, Nat.reduceEqDiff, e5, hm, set_vi]
        exact fin _ _ (by simp [val1, h0]) _ (by simp (maxSteps := 2000000) (disch := first | omega | assumption | exact idP rfl | exact idP (bL rfl)) only [go_sem, reduceIte, Nat.reduceEqDiff]) (by simp (maxSteps := 2000000) (disch := first | omega | assumption | exact idP rfl | exact idP (bL rfl)) only [go_sem, reduceIte, Nat.reduceEqDiff]) (by simp (maxSteps := 2000000) (disch := first | omega | assumption | exact idP rfl | exact idP (bL rfl)) only [go_sem, reduceIte, Nat.reduceEqDiff]) (by simp (maxSteps := 2000000) (disch := first | omega | assumption | exact idP rfl | exact idP (bL rfl)) only [go_sem, reduceIte, Nat.reduceEqDiff]) (by simp (maxSteps := 2000000) (disch := first | omega | assumption | exact idP rfl | exact idP (bL rfl)) only [go_sem, reduceIte, Nat.reduceEqDiff])
      · simp (maxSteps := 2000000) (disch := first | omega | assumption | exact idP rfl | exact idP (bL rfl)) only [go_sem, reduceIte, Nat.reduceEqDiff]
        refine cond_dec (fun h1 => ?_) (fun h1 => ?_)
        · have hn := varOk_of hk hi' h1
          simp (maxSteps := 2000000) (disch := first | omega | assumption | exact idP rfl | exact idP (bL rfl)) only [go_sem, reduceIte, Nat.reduceEqDiff, e1, e5, hm, hw.iaddr, hw.ix, set_vi]
          exact fin _ _ (by simp [val1, h0, h1]) _ (by simp (maxSteps := 2000000) (disch := first | omega | assumption | exact idP rfl | exact idP (bL rfl)) only [go_sem, reduceIte, Nat.reduceEqDiff]) (by simp (maxSteps := 2000000) (disch := first | omega | assumption | exact idP rfl | exact idP (bL rfl)) only [go_sem, reduceIte, Nat.reduceEqDiff]) (by simp (maxSteps := 2000000) (disch := first | omega | assumption | exact idP rfl | exact idP (bL rfl)) only [go_sem, reduceIte, Nat.reduceEqDiff]) (by simp (maxSteps := 2000000) (disch := first | omega | assumption | exact idP rfl | exact idP (bL rfl)) only [go_sem, reduceIte, Nat.reduceEqDiff]) (by simp (maxSteps := 2000000) (disch := first | omega | assumption | exact idP rfl | exact idP (bL rfl)) only [go_sem, reduceIte, Nat.reduceEqDiff])
        · obtain ⟨hd, ha, hb⟩ := DoOk.of hk hs hvs hi' h0 h1
          simp (maxSteps := 2000000) (disch := first | omega | assumption | exact idP rfl | exact idP (bL rfl)) only [go_sem, reduceIte, Nat.reduceEqDiff, e5, hm, rd]
          refine (t_do hd).mono ?_
          rintro _ _ ⟨rfl, rfl⟩
          simp (maxSteps := 2000000) (disch := first | omega | assumption | exact idP rfl | exact idP (bL rfl)) only [go_sem, reduceIte, Nat.reduceEqDiff, e5, hm, set_vi]
          exact fin _ _ (by simp [val1, h0, h1]) _ (by simp (maxSteps := 2000000) (disch := first | omega | assumption | exact idP rfl | exact idP (bL rfl)) only [go_sem, reduceIte, Nat.reduceEqDiff]) (by simp (maxSteps := 2000000) (disch := first | omega | assumption | exact idP rfl | exact idP (bL rfl)) only [go_sem, reduceIte, Nat.reduceEqDiff]) (by simp (maxSteps := 2000000) (disch := first | omega | assumption | exact idP rfl | exact idP (bL rfl)) only [go_sem, reduceIte, Nat.reduceEqDiff]) (by simp (maxSteps := 2000000) (disch := first | omega | assumption | exact idP rfl | exact idP (bL rfl)) only [go_sem, reduceIte, Nat.reduceEqDiff]) (by simp (maxSteps := 2000000) (disch := first | omega | assumption | exact idP rfl | exact idP (bL rfl)) only [go_sem, reduceIte, Nat.reduceEqDiff])
    · obtain rfl : i = ts.length := by omega
      rw [List.take_length] at hm
      simp only [Nat.sub_self, List.replicate_zero, List.append_nil] at hm
      have e1 : ((ts.length : Int) - 1).toNat = ts.length - 1 := by omega
      have hn := nth_vi (xs := valsF state ts) (i := ts.length - 1) (by rw [valsF_len]; omega)
      simp (maxSteps := 2000000) (disch := first | omega | assumption | exact idP rfl | exact idP (bL rfl)) only [go_sem, reduceIte, Nat.reduceEqDiff, e5, hm, e1, hn]
      exact hR _ _ hsub (by rw [evalF_eq (by omega)])
theorem t_inRange {a b w : V} {vars : List VarS} {st : List Int} (ha : LVar a vars) (hw : LI w st) (hvl : vars.length ≤ 5) : VCall Tryz.prog n_impl_inRange [.agg [a, b], w] M (fun r M' => M = M' ∧ r = .sc (.bool (inB vars st))) := by
  refine VCall.pure fun R hR => v_impl_inRange rfl ?_
  (repeat' (first | ((first | with_reducible refine cond_dec (fun h => ?_) (fun h => ?_) | with_reducible refine guardK_dec (fun h => ?_) (fun h => ?_) | with_reducible refine guardD3_dec (fun h => ?_) (fun h => ?_)) <;> first | (exfalso; omega) | (simp (maxSteps := 2000000) (disch := first | omega | assumption | exact idP rfl | exact idP (bL rfl)) only [go_sem, reduceIte, Nat.reduceEqDiff, h, ha.len, hw.len]) | skip) | ((first | with_reducible refine cond_split (fun h => ?_) (fun h => ?_) | with_reducible refine guardK_split (fun h => ?_) (fun h => ?_) | with_reducible refine guardD3_split (fun h => ?_) (fun h => ?_)) <;> ((try simp only [Bool.not_eq_true', Bool.not_eq_false'] at h); first | (simp (maxSteps := 2000000) (disch := first | omega | assumption | exact idP rfl | exact idP (bL rfl)) only [go_sem, reduceIte, Nat.reduceEqDiff, h, ha.len, hw.len]) | skip)) | (with_reducible intro bk hbk; try have hnk := (fresh_set hbk).1) | (simp (maxSteps := 2000000) (disch := first | omega | assumption | exact idP rfl | exact idP (bL rfl)) only [go_sem, reduceIte, Nat.reduceEqDiff, ha.len, hw.len])))
  · refine hR _ _ (by (repeat (first | exact Sub.refl _ | assumption | (refine Sub.set' ?_ (by assumption))))) ?_
    rw [(inB_false _ _).2 (fun hh => by have := hh.1; omega)]
  · have hlen : st.length = vars.length := by omega
    refine loop_k (fun e M' => Sub M M' ∧ ∃ i : Nat, i ≤ st.length ∧ e 1 = w ∧ e 14 = a ∧ e 15 = .sc (.int .i64 vars.length) ∧ e 16 = .sc (.int .i64 i) ∧ ∀ j (hj : j < vars.length) (h2 : j < st.length), j < i → vars[j].low ≤ st[j] ∧ st[j] ≤ vars[j].high) (fun e _ => ctrV st.length (e 16)) ?_ ?_
    · exact ⟨by (repeat (first | exact Sub.refl _ | assumption | (refine Sub.set' ?_ (by assumption)))), 0, by omega, by simp (maxSteps := 2000000) (disch := first | omega | assumption | exact idP rfl | exact idP (bL rfl)) only [go_sem, reduceIte, Nat.reduceEqDiff], by simp (maxSteps := 2000000) (disch := first | omega | assumption | exact idP rfl | exact idP (bL rfl)) only [go_sem, reduceIte, Nat.reduceEqDiff], by simp (maxSteps := 2000000) (disch := first | omega | assumption | exact idP rfl | exact idP (bL rfl)) only [go_sem, reduceIte, Nat.reduceEqDiff], by simp (maxSteps := 2000000) (disch := first | omega | assumption | exact idP rfl | exact idP (bL rfl)) only [go_sem, reduceIte, Nat.reduceEqDiff]; rfl, fun j _ _ h => by omega⟩
    · rintro e M1 ⟨hsub, i, hi, e1, e14, e15, e16, hj⟩ K hK
      simp (maxSteps := 2000000) (disch := first | omega | assumption | exact idP rfl | exact idP (bL rfl)) only [go_sem, reduceIte, Nat.reduceEqDiff, e15, e16]
      refine cond_dec (fun h => ?_) (fun h => ?_)
      · have hi' : i < vars.length := by omega
        have hi2 : i < st.length := by omega
        simp (maxSteps := 2000000) (disch := first | omega | assumption | exact idP rfl | exact idP (bL rfl)) only [go_sem, reduceIte, Nat.reduceEqDiff, e1, e14, e16, ha.iaddr, LVar.at ha hi']
        intro b6 hb6
        (repeat' (first | ((first | with_reducible refine cond_dec (fun h => ?_) (fun h => ?_) | with_reducible refine guardK_dec (fun h => ?_) (fun h => ?_) | with_reducible refine guardD3_dec (fun h => ?_) (fun h => ?_)) <;> first | (exfalso; omega) | (simp (maxSteps := 2000000) (disch := first | omega | assumption | exact idP rfl | exact idP (bL rfl)) only [go_sem, reduceIte, Nat.reduceEqDiff, h, e1, hw.iaddr, LI.at hw hi2]) | skip) | ((first | with_reducible refine cond_split (fun h => ?_) (fun h => ?_) | with_reducible refine guardK_split (fun h => ?_) (fun h => ?_) | with_reducible refine guardD3_split (fun h => ?_) (fun h => ?_)) <;> ((try simp only [Bool.not_eq_true', Bool.not_eq_false'] at h); first | (simp (maxSteps := 2000000) (disch := first | omega | assumption | exact idP rfl | exact idP (bL rfl)) only [go_sem, reduceIte, Nat.reduceEqDiff, h, e1, hw.iaddr, LI.at hw hi2]) | skip)) | ((with_reducible refine (t_in).mono ?_); rintro _ _ ⟨rfl, rfl⟩) | (with_reducible intro bk hbk; try have hnk := (fresh_set hbk).1) | (simp (maxSteps := 2000000) (disch := first | omega | assumption | exact idP rfl | exact idP (bL rfl)) only [go_sem, reduceIte, Nat.reduceEqDiff, e1, hw.iaddr, LI.at hw hi2])))
        · refine hR _ _ (by (repeat (first | exact Sub.refl _ | assumption | (refine Sub.set' ?_ (by assumption))))) ?_
          rw [(inB_false _ _).2 (fun hh => by have := hh.2 i hi' hi2; omega)]
        · refine hK _ _ ⟨by (repeat (first | exact Sub.refl _ | assumption | (refine Sub.set' ?_ (by assumption)))), i + 1, by omega, by simp (maxSteps := 2000000) (disch := first | omega | assumption | exact idP rfl | exact idP (bL rfl)) only [go_sem, reduceIte, Nat.reduceEqDiff], by simp (maxSteps := 2000000) (disch := first | omega | assumption | exact idP rfl | exact idP (bL rfl)) only [go_sem, reduceIte, Nat.reduceEqDiff], by simp (maxSteps := 2000000) (disch := first | omega | assumption | exact idP rfl | exact idP (bL rfl)) only [go_sem, reduceIte, Nat.reduceEqDiff], by simp (maxSteps := 2000000) (disch := first | omega | assumption | exact idP rfl | exact idP (bL rfl)) only [go_sem, reduceIte, Nat.reduceEqDiff]; rfl, fun j hj1 hj2 hj3 => ?_⟩ (by simp (maxSteps := 2000000) (disch := first | omega | assumption | exact idP rfl | exact idP (bL rfl)) only [go_sem, reduceIte, Nat.reduceEqDiff, ctrV_int, e16]; omega)
          by_cases hji : j = i
          · subst hji; omega
          · exact hj j hj1 hj2 (by omega)
      · simp (maxSteps := 2000000) (disch := first | omega | assumption | exact idP rfl | exact idP (bL rfl)) only [go_sem, reduceIte, Nat.reduceEqDiff]
        refine hR _ _ hsub ?_
        rw [(inB_iff _ _).2 ⟨hlen, fun j h1 h2 => hj j h1 h2 (by omega)⟩]
theorem setAtG_all {α : Type} : ∀ (c z : List α) (o : Nat), o + c.length = z.length → setAtG z o c = z.take o ++ c
  | [], z, o, h => by
    simp only [setAtG, List.append_nil]
    rw [List.take_of_length_le (by simp at h; omega)]
  | x :: t, z, o, h => by
    simp only [setAtG]
    rw [setAtG_all t _ _ (by simp at h ⊢; omega)]
    simp at h
    rw [List.take_succ_eq_append_getElem (by simp; omega)]
    simp
    apply List.ext_getElem?
    intro i
    simp only [List.getElem?_take]
    split
    · rw [List.getElem?_set_ne (by omega)]
    · rfl
theorem t_cloneInt {v : V} {xs : List Int} (hv : LI v xs) (hl : xs.length ≤ 1048576) : VCall Tryz.prog n_impl_clone_int [v] M (fun r M' => Gr 1 M M' r (xs.map vi)) := by
  refine VCall.plain fun R hR => v_impl_clone_int rfl ?_
  simp (maxSteps := 2000000) (disch := first | omega | assumption | exact idP rfl | exact idP (bL rfl)) only [go_sem, reduceIte, Nat.reduceEqDiff, hv.len]
  refine cond_dec (fun h => ?_) (fun h => ?_)
  · simp (maxSteps := 2000000) (disch := first | omega | assumption | exact idP rfl | exact idP (bL rfl)) only [go_sem, reduceIte, Nat.reduceEqDiff]
    have : xs = [] := List.eq_nil_of_length_eq_zero (by omega)
    subst this
    exact hR _ _ (.nil (Sub.refl _))
  · simp (maxSteps := 2000000) (disch := first | omega | assumption | exact idP rfl | exact idP (bL rfl)) only [go_sem, reduceIte, Nat.reduceEqDiff, hv.len]
    refine mks3 (by omega) (by simp [mostCells]; omega) (by simp [mostCells]; omega) ?_
    intro b3 hb3
    have hcs := hv.cells (M := M.set b3 ((List.replicate xs.length (0 : Int)).map vi))
    rw [Nat.mul_one] at hcs
    simp (maxSteps := 2000000) (disch := first | omega | assumption | exact idP rfl | exact idP (bL rfl)) only [go_sem, reduceIte, Nat.reduceEqDiff, zeros_vi]
    simp only [copyV, hv.lenS, Nat.min_self, Nat.mul_one, hcs]
    rw [if_neg (by omega)]
    simp only [set_same, Nat.zero_add]
    refine ⟨by simp [vi, oneV, er, oneA], by simp, ?_⟩
    rw [setAtG_all _ _ _ (by simp)]
    simp (maxSteps := 2000000) (disch := first | omega | assumption | exact idP rfl | exact idP (bL rfl)) only [go_sem, reduceIte, Nat.reduceEqDiff]
    exact hR _ _ (Gr.new' (Sub.refl _) hb3 (by simp))
end Go.M2

namespace Go.M2
open Go.Proofs
variable {M : MH}
theorem t_isNaN {n : Int} : VCall Tryz.prog n_cmp_isNaN_int [.sc (.int .i64 n)] M (fun r M' => M = M' ∧ r = .sc (.bool false)) := by
  refine VCall.pure fun R hR => v_cmp_isNaN_int rfl ?_
  (repeat' (first | ((first | with_reducible refine cond_dec (fun h => ?_) (fun h => ?_) | with_reducible refine guardK_dec (fun h => ?_) (fun h => ?_) | with_reducible refine guardD3_dec (fun h => ?_) (fun h => ?_)) <;> first | (exfalso; omega) | (simp (maxSteps := 2000000) (disch := first | omega | assumption | exact idP rfl | exact idP (bL rfl)) only [go_sem, reduceIte, Nat.reduceEqDiff, h]) | skip) | ((first | with_reducible refine cond_split (fun h => ?_) (fun h => ?_) | with_reducible refine guardK_split (fun h => ?_) (fun h => ?_) | with_reducible refine guardD3_split (fun h => ?_) (fun h => ?_)) <;> ((try simp only [Bool.not_eq_true', Bool.not_eq_false'] at h); first | (simp (maxSteps := 2000000) (disch := first | omega | assumption | exact idP rfl | exact idP (bL rfl)) only [go_sem, reduceIte, Nat.reduceEqDiff, h]) | skip)) | (with_reducible intro bk hbk; try have hnk := (fresh_set hbk).1) | (simp (maxSteps := 2000000) (disch := first | omega | assumption | exact idP rfl | exact idP (bL rfl)) only [go_sem, reduceIte, Nat.reduceEqDiff])))
  all_goals exact hR _ _ (by (repeat (first | exact Sub.refl _ | assumption | (refine Sub.set' ?_ (by assumption))))) (by (refine eqB ?_; (try simp only [decide_eq_true_eq, Bool.false_eq_true, Bool.and_eq_true, Bool.or_eq_true, Bool.not_eq_true', decide_eq_false_iff_not, eq_self_iff_true, true_iff, false_iff, iff_true, iff_false, ne_eq]); (try omega)))
def cmp1 (a b : Int) : Int := if a < b then -1 else if b < a then 1 else 0
theorem t_cmpInt {a b : Int} : VCall Tryz.prog n_cmp_Compare_int [.sc (.int .i64 a), .sc (.int .i64 b)] M (fun r M' => M = M' ∧ r = .sc (.int .i64 (cmp1 a b))) := by
  refine VCall.pure fun R hR => v_cmp_Compare_int rfl ?_
  (repeat' (first | ((first | with_reducible refine cond_dec (fun h => ?_) (fun h => ?_) | with_reducible refine guardK_dec (fun h => ?_) (fun h => ?_) | with_reducible refine guardD3_dec (fun h => ?_) (fun h => ?_)) <;> first | (exfalso; omega) | (simp (maxSteps := 2000000) (disch := first | omega | assumption | exact idP rfl | exact idP (bL rfl)) only [go_sem, reduceIte, Nat.reduceEqDiff, h]) | skip) | ((first | with_reducible refine cond_split (fun h => ?_) (fun h => ?_) | with_reducible refine guardK_split (fun h => ?_) (fun h => ?_) | with_reducible refine guardD3_split (fun h => ?_) (fun h => ?_)) <;> ((try simp only [Bool.not_eq_true', Bool.not_eq_false'] at h); first | (simp (maxSteps := 2000000) (disch := first | omega | assumption | exact idP rfl | exact idP (bL rfl)) only [go_sem, reduceIte, Nat.reduceEqDiff, h]) | skip)) | ((with_reducible refine (t_isNaN).mono ?_); rintro _ _ ⟨rfl, rfl⟩) | (with_reducible intro bk hbk; try have hnk := (fresh_set hbk).1) | (simp (maxSteps := 2000000) (disch := first | omega | assumption | exact idP rfl | exact idP (bL rfl)) only [go_sem, reduceIte, Nat.reduceEqDiff])))
  all_goals exact hR _ _ (by (repeat (first | exact Sub.refl _ | assumption | (refine Sub.set' ?_ (by assumption))))) (eqI (by unfold cmp1; repeat' split; all_goals omega))
def cmpF (xs ys : List Int) : Int := if lessF xs ys = true then -1 else if xs = ys then 0 else 1
theorem t_slicesCompare {v w : V} {xs ys : List Int} (hv : LI v xs) (hw : LI w ys) (hl : xs.length ≤ 1048576) : VCall Tryz.prog n_slices_Compare_Sint_int [v, w] M (fun r M' => M = M' ∧ r = .sc (.int .i64 (cmpF xs ys))) := by
  refine VCall.pure fun R hR => v_slices_Compare_Sint_int rfl ?_
  simp (maxSteps := 2000000) (disch := first | omega | assumption | exact idP rfl | exact idP (bL rfl)) only [go_sem, reduceIte, Nat.reduceEqDiff, hv.len]
  refine loop_k (fun e M' => M' = M ∧ ∃ i : Nat, i ≤ xs.length ∧ i ≤ ys.length ∧ e 0 = v ∧ e 1 = w ∧ e 9 = v ∧ e 10 = .sc (.int .i64 xs.length) ∧ e 11 = .sc (.int .i64 i) ∧ xs.take i = ys.take i) (fun e _ => ctrV xs.length (e 11)) ?_ ?_
  · exact ⟨rfl, 0, by omega, by omega, by simp (maxSteps := 2000000) (disch := first | omega | assumption | exact idP rfl | exact idP (bL rfl)) only [go_sem, reduceIte, Nat.reduceEqDiff], by simp (maxSteps := 2000000) (disch := first | omega | assumption | exact idP rfl | exact idP (bL rfl)) only [go_sem, reduceIte, Nat.reduceEqDiff], by simp (maxSteps := 2000000) (disch := first | omega | assumption | exact idP rfl | exact idP (bL rfl)) only [go_sem, reduceIte, Nat.reduceEqDiff], by simp (maxSteps := 2000000) (disch := first | omega | assumption | exact idP rfl | exact idP (bL rfl)) only [go_sem, reduceIte, Nat.reduceEqDiff], by simp (maxSteps := 2000000) (disch := first | omega | assumption | exact idP rfl | exact idP (bL rfl)) only [go_sem, reduceIte, Nat.reduceEqDiff]; rfl, rfl⟩
  · rintro e M1 ⟨hM, i, hi, hj, e0, e1, e9, e10, e11, ht⟩ K hK
    subst hM
    have hlt := lessF_take hi hj ht
    simp (maxSteps := 2000000) (disch := first | omega | assumption | exact idP rfl | exact idP (bL rfl)) only [go_sem, reduceIte, Nat.reduceEqDiff, e10, e11]
    refine cond_dec (fun h => ?_) (fun h => ?_)
    · have hi1 : i < xs.length := by omega
      simp (maxSteps := 2000000) (disch := first | omega | assumption | exact idP rfl | exact idP (bL rfl)) only [go_sem, reduceIte, Nat.reduceEqDiff, e0, e1, e9, e11, hv.iaddr, hv.at hi1, hw.len]
      refine cond_dec (fun h2 => ?_) (fun h2 => ?_)
      · simp (maxSteps := 2000000) (disch := first | omega | assumption | exact idP rfl | exact idP (bL rfl)) only [go_sem, reduceIte, Nat.reduceEqDiff]
        refine hR _ _ (by (repeat (first | exact Sub.refl _ | assumption | (refine Sub.set' ?_ (by assumption))))) (eqI ?_)
        have e2 : lessF xs ys = false := by
          rw [hlt, show ys.drop i = [] by apply List.drop_eq_nil_of_le; omega]
          cases xs.drop i <;> rfl
        have e3 : ¬ xs = ys := fun e => by subst e; omega
        simp [cmpF, e2, e3]
      · have hi2 : i < ys.length := by omega
        have hd : lessF (xs.drop i) (ys.drop i) = if xs[i] = ys[i] then lessF (xs.drop (i + 1)) (ys.drop (i + 1)) else decide (xs[i] < ys[i]) := by
          rw [List.drop_eq_getElem_cons hi1, List.drop_eq_getElem_cons hi2]; rfl
        simp (maxSteps := 2000000) (disch := first | omega | assumption | exact idP rfl | exact idP (bL rfl)) only [go_sem, reduceIte, Nat.reduceEqDiff, e1, hw.iaddr, hw.at hi2]
        refine t_cmpInt.mono ?_
        rintro _ _ ⟨rfl, rfl⟩
        simp (maxSteps := 2000000) (disch := first | omega | assumption | exact idP rfl | exact idP (bL rfl)) only [go_sem, reduceIte, Nat.reduceEqDiff]
        refine cond_dec (fun h3 => ?_) (fun h3 => ?_)
        · simp (maxSteps := 2000000) (disch := first | omega | assumption | exact idP rfl | exact idP (bL rfl)) only [go_sem, reduceIte, Nat.reduceEqDiff]
          refine hR _ _ (by (repeat (first | exact Sub.refl _ | assumption | (refine Sub.set' ?_ (by assumption))))) (eqI ?_)
          unfold cmp1 at h3 ⊢
          have hne : ¬ xs[i] = ys[i] := fun e => by rw [e] at h3; simp at h3
          have e3 : ¬ xs = ys := fun e => by subst e; exact hne rfl
          unfold cmpF
          rw [hlt, hd, if_neg hne, if_neg e3]
          by_cases hl2 : xs[i] < ys[i]
          · simp [hl2]
          · simp [hl2]; omega
        · have heq : xs[i] = ys[i] := by
            have h3 := Decidable.not_not.1 h3
            unfold cmp1 at h3
            split at h3
            · omega
            · split at h3
              · omega
              · omega
          simp (maxSteps := 2000000) (disch := first | omega | assumption | exact idP rfl | exact idP (bL rfl)) only [go_sem, reduceIte, Nat.reduceEqDiff, e0, e1, e9, e10, e11]
          exact hK _ _ ⟨rfl, i + 1, by omega, by omega, by simp (maxSteps := 2000000) (disch := first | omega | assumption | exact idP rfl | exact idP (bL rfl)) only [go_sem, reduceIte, Nat.reduceEqDiff], by simp (maxSteps := 2000000) (disch := first | omega | assumption | exact idP rfl | exact idP (bL rfl)) only [go_sem, reduceIte, Nat.reduceEqDiff], by simp (maxSteps := 2000000) (disch := first | omega | assumption | exact idP rfl | exact idP (bL rfl)) only [go_sem, reduceIte, Nat.reduceEqDiff], by simp (maxSteps := 2000000) (disch := first | omega | assumption | exact idP rfl | exact idP (bL rfl)) only [go_sem, reduceIte, Nat.reduceEqDiff], by simp (maxSteps := 2000000) (disch := first | omega | assumption | exact idP rfl | exact idP (bL rfl)) only [go_sem, reduceIte, Nat.reduceEqDiff]; rfl, by rw [take_snoc hi1, take_snoc hi2, ht, heq]⟩ (by simp (maxSteps := 2000000) (disch := first | omega | assumption | exact idP rfl | exact idP (bL rfl)) only [go_sem, reduceIte, Nat.reduceEqDiff, ctrV_int, e11]; omega)
    · obtain rfl : i = xs.length := by omega
      rw [List.drop_length] at hlt
      simp (maxSteps := 2000000) (disch := first | omega | assumption | exact idP rfl | exact idP (bL rfl)) only [go_sem, reduceIte, Nat.reduceEqDiff, e0, e1, hv.len, hw.len]
      refine cond_dec (fun h2 => ?_) (fun h2 => ?_)
      · simp (maxSteps := 2000000) (disch := first | omega | assumption | exact idP rfl | exact idP (bL rfl)) only [go_sem, reduceIte, Nat.reduceEqDiff]
        refine hR _ _ (by (repeat (first | exact Sub.refl _ | assumption | (refine Sub.set' ?_ (by assumption))))) (eqI ?_)
        have : lessF xs ys = true := by
          rw [hlt, List.drop_eq_getElem_cons (show xs.length < ys.length by omega)]; rfl
        simp [cmpF, this]
      · simp (maxSteps := 2000000) (disch := first | omega | assumption | exact idP rfl | exact idP (bL rfl)) only [go_sem, reduceIte, Nat.reduceEqDiff]
        refine hR _ _ (by (repeat (first | exact Sub.refl _ | assumption | (refine Sub.set' ?_ (by assumption))))) (eqI ?_)
        have e2 : xs = ys := by
          rw [List.take_length, List.take_of_length_le (by omega)] at ht; exact ht
        subst e2
        simp [cmpF, lessF_irr]
theorem bin_half {a : Int} {k' : IntKind} (h0 : 0 ≤ a) (h1 : a ≤ 9223372036854775807) : binF .shr (.int .u64 (IntKind.u64.wrap a)) (.int k' 1) = some (.int .u64 (a / 2)) := by
  have hw : IntKind.u64.wrap a = a := by
    have e1 : IntKind.u64.wrap a = a % 18446744073709551616 := by
      simp only [IntKind.wrap]
      rfl
    rw [e1]; omega
  rw [hw]
  simp only [binF, isSh, shF, if_true]
  rw [if_neg (by decide)]
  simp only [Option.some.injEq, AV.int.injEq, true_and]
  have : (2 : Int) ^ (min (1 : Int).toNat (IntKind.u64.bits)) = 2 := by decide
  rw [this]
  exact Int.fdiv_eq_ediv_of_nonneg a (by decide)
theorem sorted_lt {l : List (List Int)} (h : SortedF l) {i j : Nat} (hj : j < l.length) (hij : i < j) : lessF (l[i]'(by omega)) l[j] = true := List.pairwise_iff_getElem.1 h i j (by omega) hj hij
theorem t_binarySearch {v w : V} {l : List (List Int)} {x : List Int} (hv : LII v l) (hw : LI w x) (hs : SortedF l) (hl : l.length ≤ 1048576) (hll : ∀ y ∈ l, y.length ≤ 1048576) :
    VCall Tryz.prog n_slices_BinarySearchFunc_SSint_Sint_Sint [v, w, .fn n_slices_Compare_Sint_int []] M (fun r M' => M = M' ∧ ∃ (i : Nat) (t : Bool), r = .tup [.sc (.int .i64 i), .sc (.bool t)] ∧ i ≤ l.length ∧ (∀ j (h : j < l.length), j < i → lessF l[j] x = true) ∧
      (t = true → ∃ h : i < l.length, l[i] = x) ∧ (t = false → ∀ h : i < l.length, lessF x l[i] = true)) := by
  refine VCall.pure fun R hR => v_slices_BinarySearchFunc_SSint_Sint_Sint rfl ?_
  simp (maxSteps := 2000000) (disch := first | omega | assumption | exact idP rfl | exact idP (bL rfl)) only [go_sem, reduceIte, Nat.reduceEqDiff, hv.len]
  refine loop_k (fun e M' => M' = M ∧ ∃ i j : Nat, i ≤ j ∧ j ≤ l.length ∧ e 0 = v ∧ e 1 = w ∧ e 2 = .fn n_slices_Compare_Sint_int [] ∧ e 8 = .sc (.int .i64 l.length) ∧ e 9 = .sc (.int .i64 i) ∧ e 10 = .sc (.int .i64 j) ∧
    (∀ k (h : k < l.length), k < i → lessF l[k] x = true) ∧ (∀ h : j < l.length, lessF l[j] x = false)) (fun e _ => match er (e 9), er (e 10) with | .int _ a, .int _ b => (b - a).toNat | _, _ => 0) ?_ ?_
  · exact ⟨rfl, 0, l.length, by omega, by omega, by simp (maxSteps := 2000000) (disch := first | omega | assumption | exact idP rfl | exact idP (bL rfl)) only [go_sem, reduceIte, Nat.reduceEqDiff], by simp (maxSteps := 2000000) (disch := first | omega | assumption | exact idP rfl | exact idP (bL rfl)) only [go_sem, reduceIte, Nat.reduceEqDiff], by simp (maxSteps := 2000000) (disch := first | omega | assumption | exact idP rfl | exact idP (bL rfl)) only [go_sem, reduceIte, Nat.reduceEqDiff], by simp (maxSteps := 2000000) (disch := first | omega | assumption | exact idP rfl | exact idP (bL rfl)) only [go_sem, reduceIte, Nat.reduceEqDiff], by simp (maxSteps := 2000000) (disch := first | omega | assumption | exact idP rfl | exact idP (bL rfl)) only [go_sem, reduceIte, Nat.reduceEqDiff]; rfl, by simp (maxSteps := 2000000) (disch := first | omega | assumption | exact idP rfl | exact idP (bL rfl)) only [go_sem, reduceIte, Nat.reduceEqDiff], fun k _ h => by omega, fun h => by omega⟩
  · rintro e M1 ⟨hM, i, j, hij, hj, e0, e1, e2, e8, e9, e10, hlo, hhi⟩ K hK
    subst hM
    simp (maxSteps := 2000000) (disch := first | omega | assumption | exact idP rfl | exact idP (bL rfl)) only [go_sem, reduceIte, Nat.reduceEqDiff, e9, e10]
    refine cond_dec (fun h => ?_) (fun h => ?_)
    · have hh : ((i : Int) + (j : Int)) / 2 = (((i + j) / 2 : Nat) : Int) := by omega
      have hm1 : (i + j) / 2 < j := by omega
      have hm2 : i ≤ (i + j) / 2 := by omega
      have hml : (i + j) / 2 < l.length := by omega
      simp (maxSteps := 2000000) (disch := first | omega | assumption | exact idP rfl | exact idP (bL rfl)) only [go_sem, reduceIte, Nat.reduceEqDiff, e0, e1, e2, e9, e10, bin_half, hh, hv.iaddr]
      refine (t_slicesCompare (hv.elt hml) hw (hll _ (List.getElem_mem hml))).mono ?_
      rintro _ _ ⟨rfl, rfl⟩
      simp (maxSteps := 2000000) (disch := first | omega | assumption | exact idP rfl | exact idP (bL rfl)) only [go_sem, reduceIte, Nat.reduceEqDiff]
      refine cond_dec (fun h2 => ?_) (fun h2 => ?_)
      · have hless : lessF l[(i + j) / 2] x = true := by
          unfold cmpF at h2
          split at h2
          · assumption
          · split at h2 <;> omega
        simp (maxSteps := 2000000) (disch := first | omega | assumption | exact idP rfl | exact idP (bL rfl)) only [go_sem, reduceIte, Nat.reduceEqDiff]
        refine hK _ _ ⟨rfl, (i + j) / 2 + 1, j, by omega, hj, by simp (maxSteps := 2000000) (disch := first | omega | assumption | exact idP rfl | exact idP (bL rfl)) only [go_sem, reduceIte, Nat.reduceEqDiff, e0], by simp (maxSteps := 2000000) (disch := first | omega | assumption | exact idP rfl | exact idP (bL rfl)) only [go_sem, reduceIte, Nat.reduceEqDiff, e1], by simp (maxSteps := 2000000) (disch := first | omega | assumption | exact idP rfl | exact idP (bL rfl)) only [go_sem, reduceIte, Nat.reduceEqDiff, e2], by simp (maxSteps := 2000000) (disch := first | omega | assumption | exact idP rfl | exact idP (bL rfl)) only [go_sem, reduceIte, Nat.reduceEqDiff, e8], by simp (maxSteps := 2000000) (disch := first | omega | assumption | exact idP rfl | exact idP (bL rfl)) only [go_sem, reduceIte, Nat.reduceEqDiff]; rfl, by simp (maxSteps := 2000000) (disch := first | omega | assumption | exact idP rfl | exact idP (bL rfl)) only [go_sem, reduceIte, Nat.reduceEqDiff, e10], fun k hk1 hk2 => ?_, hhi⟩ (by simp (maxSteps := 2000000) (disch := first | omega | assumption | exact idP rfl | exact idP (bL rfl)) only [go_sem, reduceIte, Nat.reduceEqDiff, e9, e10]; omega)
        by_cases hk3 : k = (i + j) / 2
        · subst hk3; exact hless
        · exact lessF_trans (sorted_lt hs hml (by omega)) hless
      · have hnless : lessF l[(i + j) / 2] x = false := by
          unfold cmpF at h2
          split at h2
          · omega
          · simp_all
        simp (maxSteps := 2000000) (disch := first | omega | assumption | exact idP rfl | exact idP (bL rfl)) only [go_sem, reduceIte, Nat.reduceEqDiff]
        exact hK _ _ ⟨rfl, i, (i + j) / 2, hm2, by omega, by simp (maxSteps := 2000000) (disch := first | omega | assumption | exact idP rfl | exact idP (bL rfl)) only [go_sem, reduceIte, Nat.reduceEqDiff, e0], by simp (maxSteps := 2000000) (disch := first | omega | assumption | exact idP rfl | exact idP (bL rfl)) only [go_sem, reduceIte, Nat.reduceEqDiff, e1], by simp (maxSteps := 2000000) (disch := first | omega | assumption | exact idP rfl | exact idP (bL rfl)) only [go_sem, reduceIte, Nat.reduceEqDiff, e2], by simp (maxSteps := 2000000) (disch := first | omega | assumption | exact idP rfl | exact idP (bL rfl)) only [go_sem, reduceIte, Nat.reduceEqDiff, e8], by simp (maxSteps := 2000000) (disch := first | omega | assumption | exact idP rfl | exact idP (bL rfl)) only [go_sem, reduceIte, Nat.reduceEqDiff, e9], by simp (maxSteps := 2000000) (disch := first | omega | assumption | exact idP rfl | exact idP (bL rfl)) only [go_sem, reduceIte, Nat.reduceEqDiff], hlo, fun _ => hnless⟩ (by simp (maxSteps := 2000000) (disch := first | omega | assumption | exact idP rfl | exact idP (bL rfl)) only [go_sem, reduceIte, Nat.reduceEqDiff, e9, e10]; omega)
    · obtain rfl : i = j := by omega
      by_cases hil : i < l.length
      · have hd : decide ((i : Int) < (l.length : Int)) = true := by simpa using hil
        simp (maxSteps := 2000000) (disch := first | omega | assumption | exact idP rfl | exact idP (bL rfl)) only [go_sem, reduceIte, Nat.reduceEqDiff, e0, e1, e2, e8, e9, hd, hv.iaddr]
        refine (t_slicesCompare (hv.elt hil) hw (hll _ (List.getElem_mem hil))).mono ?_
        rintro _ _ ⟨rfl, rfl⟩
        simp (maxSteps := 2000000) (disch := first | omega | assumption | exact idP rfl | exact idP (bL rfl)) only [go_sem, reduceIte, Nat.reduceEqDiff]
        refine hR _ _ (by (repeat (first | exact Sub.refl _ | assumption | (refine Sub.set' ?_ (by assumption))))) ⟨i, decide (cmpF l[i] x = 0), rfl, by omega, hlo, fun ht => ⟨hil, ?_⟩, fun ht _ => ?_⟩
        · have h3 : cmpF l[i] x = 0 := by simpa using ht
          unfold cmpF at h3
          rw [hhi hil] at h3
          simp only [Bool.false_eq_true, if_false] at h3
          split at h3
          · assumption
          · omega
        · have h3 : ¬ cmpF l[i] x = 0 := by simpa using ht
          unfold cmpF at h3
          rw [hhi hil] at h3
          simp only [Bool.false_eq_true, if_false] at h3
          rcases lessF_tri l[i] x with h4 | h4 | h4
          · rw [hhi hil] at h4; cases h4
          · rw [if_pos h4] at h3; exact absurd rfl h3
          · exact h4
      · have hd : decide ((i : Int) < (l.length : Int)) = false := by simpa using hil
        simp (maxSteps := 2000000) (disch := first | omega | assumption | exact idP rfl | exact idP (bL rfl)) only [go_sem, reduceIte, Nat.reduceEqDiff, e0, e1, e2, e8, e9, hd]
        exact hR _ _ (by (repeat (first | exact Sub.refl _ | assumption | (refine Sub.set' ?_ (by assumption))))) ⟨i, false, rfl, by omega, hlo, fun h => (by cases h), fun _ h => absurd h hil⟩
end Go.M2

namespace Go.M2
open Go.Proofs
variable {M : MH}
theorem slc_lo {b o n c : Nat} {ex : Bool} {k : IntKind} {a : Int} (h0 : 0 ≤ a) (h1 : a ≤ (n : Int)) (hc : a < (c : Int)) (hn : n ≤ c) :
    slcV 1 (some (.int k a)) none none (.sc (.sl (some (b, o)) n c ex 1)) = some (.sc (.sl (some (b, o + a.toNat)) (n - a.toNat) (c - a.toNat) ex 1)) := by
  simp only [slcV, slcF, bnds, natIn, Option.isSome_none, Bool.false_eq_true, if_false, h0, h1, and_self, if_true]
  rw [if_neg (by intro h; rcases h with h | h <;> omega), if_neg (by omega)]
  simp
theorem slc_end {b o n c : Nat} {k : IntKind} {a : Int} (h0 : a = (c : Int)) (h1 : n = c) :
    slcV 1 (some (.int k a)) none none (.sc (.sl (some (b, o)) n c true 1)) = some (.sc (.sl (some (b, o)) (n - c) 0 true 1)) := by
  subst h0 h1
  simp [slcV, slcF, bnds, natIn]
theorem slc_hi {b o n c kk : Nat} {ex : Bool} {k : IntKind} {a : Int} (h0 : 0 ≤ a) (h1 : a ≤ (c : Int)) (hc : 0 < c) :
    slcV 1 none (some (.int k a)) none (.sc (.sl (some (b, o)) n c ex kk)) = some (.sc (.sl (some (b, o)) a.toNat c ex kk)) := by
  simp only [slcV, slcF, bnds, natIn, Option.isSome_none, Bool.false_eq_true, if_false, h0, h1, and_self, if_true]
  rw [if_neg (by intro h; rcases h with h | h <;> omega), if_neg (by omega)]
  simp
theorem copy_own {K : V → MH → Prop} {b o n c k bs os m cs ks t : Nat} {ex exs : Bool} {ld ls : List V} (hs : M bs = some ls) (hd : M b = some ld) (ht : min m n = t) (h0 : 0 < t) (h1 : os + t ≤ ls.length) (h2 : o + t ≤ ld.length)
    (ho : ((ls.drop os).take t).all oneV = true) (hk : K (.sc (.int .i64 (t : Int))) (M.set b (setAtG ld o ((ls.drop os).take t)))) : copyV 1 (.sc (.sl (some (b, o)) n c ex k)) (.sc (.sl (some (bs, os)) m cs exs ks)) M K := by
  subst ht
  simp only [copyV, lenS, cellsS, Nat.mul_one, if_neg (show ¬ min m n = 0 by omega), hs, if_pos h1, hd]
  exact ⟨ho, h2, hk⟩
theorem setAtG_mid {α : Type} : ∀ (c z : List α) (o : Nat), o + c.length ≤ z.length → setAtG z o c = z.take o ++ c ++ z.drop (o + c.length)
  | [], z, o, h => by simp [setAtG]
  | x :: t, z, o, h => by
    simp only [setAtG]
    simp at h
    rw [setAtG_mid t _ _ (by simp; omega)]
    rw [List.take_succ_eq_append_getElem (by simp; omega)]
    have e1 : (z.set o x).take o = z.take o := by
      apply List.ext_getElem?
      intro i
      simp only [List.getElem?_take]
      split
      · rw [List.getElem?_set_ne (by omega)]
      · rfl
    have e2 : (z.set o x).drop (o + 1 + t.length) = z.drop (o + (x :: t).length) := by
      apply List.ext_getElem?
      intro i
      simp only [List.getElem?_drop]
      rw [List.getElem?_set_ne (by omega)]
      simp; congr 1; omega
    rw [e1, e2]
    simp
def GrN (M0 M : MH) (v : V) (us : List V) : Prop := Gr 1 M0 M v us ∧ ((us = [] ∧ ∃ k, v = .sc (.sl none 0 0 true k)) ∨ ∃ b n, v = .sc (.sl (some (b, 0)) n n false 1))
theorem slc_nil {k : IntKind} {kk : Nat} : slcV 1 (some (.int k 0)) none none (.sc (.sl none 0 0 true kk)) = some (.sc (.sl none 0 0 true kk)) := by
  simp [slcV, slcF, bnds, natIn]
theorem ins_new {us Z : List V} {u : V} {i : Nat} (hi : i ≤ us.length) (hz : i + Z.length = us.length + 1) : setAtG ((us.take i ++ Z).set i u) (i + 1) (us.drop i) = us.take i ++ u :: us.drop i := by
  have h1 : (us.take i).length = i := by simp; omega
  obtain ⟨z0, Z', rfl⟩ : ∃ z0 Z', Z = z0 :: Z' := by
    cases Z with
    | nil => simp at hz; omega
    | cons a t => exact ⟨a, t, rfl⟩
  have e0 : (us.take i ++ z0 :: Z').set i u = us.take i ++ [u] ++ Z' := by
    rw [List.set_append_right _ _ (by omega), h1]
    simp
  have hz' : i + (Z'.length + 1) = us.length + 1 := by simpa using hz
  have h2 : (us.take i ++ [u]).length = i + 1 := by rw [List.length_append, h1]; rfl
  have h3 : (us.drop i).length = us.length - i := List.length_drop
  have h5 : (us.take i ++ [u] ++ Z').drop (i + 1 + (us.drop i).length) = [] := List.drop_eq_nil_of_le (by rw [List.length_append, h2, h3]; omega)
  rw [e0, setAtG_mid _ _ _ (by rw [List.length_append, h2, h3]; omega), List.take_left' h2, h5]
  simp
theorem ins_room {us J : List V} {u : V} {i : Nat} (hi : i < us.length) (hj : 0 < J.length) : ((setAtG (us ++ J) (i + 1) (us.drop i)).set i u).take (us.length + 1) = us.take i ++ u :: us.drop i := by
  have h1 : (us.take i).length = i := by simp; omega
  have h3 : (us.drop i).length = us.length - i := List.length_drop
  have h4 : (us ++ J).length = us.length + J.length := List.length_append
  rw [setAtG_mid _ _ _ (by omega), List.take_append_of_le_length (by omega), List.take_succ_eq_append_getElem hi]
  generalize (us ++ J).drop (i + 1 + (us.drop i).length) = T
  have e0 : (us.take i ++ [us[i]] ++ us.drop i ++ T).set i u = (us.take i ++ u :: us.drop i) ++ T := by
    rw [List.append_assoc, List.append_assoc, List.set_append_right _ _ (by omega), h1]
    simp
  rw [e0, List.take_left' (by rw [List.length_append, List.length_cons, h1, h3]; omega)]
theorem all_drop {us : List V} (h : us.all oneV = true) (i : Nat) : (us.drop i).all oneV = true := List.all_eq_true.2 fun x hx => List.all_eq_true.1 h x (List.mem_of_mem_drop hx)
theorem t_Insert {M0 M1 : MH} {s u : V} {us : List V} {bt i : Nat} (h : GrN M0 M1 s us) (hbt : M1 bt = none) (hu : oneV u = true) (hus : us.all oneV = true) (hi : i ≤ us.length) (hl : us.length ≤ 1048576) :
    VCall Tryz.prog n_slices_Insert_SSint_Sint [s, .sc (.int .i64 i), .sc (.sl (some (bt, 0)) 1 1 true 1)] (M1.set bt [u]) (fun r M' => GrN M0 M' r (us.take i ++ u :: us.drop i)) := by
  have hsub : Sub M0 (M1.set bt [u]) := h.1.sub.set' hbt
  have hlit : cellsS (1 * 1) (.sc (.sl (some (bt, 0)) 1 1 true 1)) (M1.set bt [u]) = some [u] := by
    simp only [cellsS, Nat.one_mul, set_same, Nat.zero_add, List.drop_zero]; rfl
  rcases h with ⟨hg, ⟨rfl, k, rfl⟩ | ⟨b, n, rfl⟩⟩
  · obtain rfl : i = 0 := by simpa using hi
    refine VCall.plain fun R hR => v_slices_Insert_SSint_Sint rfl ?_
    have e0 : ((0 : Nat) : Int) = 0 := rfl
    simp (maxSteps := 2000000) (disch := first | omega | assumption | exact idP rfl | exact idP (bL rfl)) only [go_sem, reduceIte, Nat.reduceEqDiff, e0, slc_nil]
    refine cond_dec (fun h => by omega) (fun h => ?_)
    simp (maxSteps := 2000000) (disch := first | omega | assumption | exact idP rfl | exact idP (bL rfl)) only [go_sem, reduceIte, Nat.reduceEqDiff]
    refine cond_dec (fun h => ?_) (fun h => by omega)
    simp (maxSteps := 2000000) (disch := first | omega | assumption | exact idP rfl | exact idP (bL rfl)) only [go_sem, reduceIte, Nat.reduceEqDiff]
    simp only [appV, lenS, hlit]
    refine ⟨_, _, .refl _ _, ?_⟩
    simp only [appW]
    rw [if_neg (by omega), if_neg (by omega)]
    refine ⟨by simp [mostCells], by simp [mostCells], ?_⟩
    simp only [if_true, cellsS, Nat.zero_mul]
    intro b hb
    simp (maxSteps := 2000000) (disch := first | omega | assumption | exact idP rfl | exact idP (bL rfl)) only [go_sem, reduceIte, Nat.reduceEqDiff]
    exact hR _ _ ⟨Gr.new' hsub hb rfl, .inr ⟨b, _, rfl⟩⟩
  · obtain ⟨hm, _, _, _, hn, hm0⟩ := hg.get
    have hn : us.length = n := by omega
    have hne : b ≠ bt := fun e => by subst e; rw [hbt] at hm; cases hm
    refine VCall.closeCap (VCall.openCap (a1 := []) (l := us) (by rw [set_ne hne]; exact hm) fun c' hc => ?_)
    have eJ : 0 + c' * 1 - us.length = c' - n := by omega
    rw [eJ]
    generalize hJ : List.replicate (c' - n) (V.sc .junk) = J
    have hJl : J.length = c' - n := by rw [← hJ]; simp
    refine VCall.plain fun R hR => v_slices_Insert_SSint_Sint rfl ?_
    have fin : ∀ b' M', Gr 1 M0 M' (.sc (.sl (some (b', 0)) (n + 1) (n + 1) false 1)) (us.take i ++ u :: us.drop i) → R (.sc (.sl (some (b', 0)) (n + 1) (n + 1) false 1)) M' := fun b' M' q => hR _ _ (.inl ⟨q, .inr ⟨b', _, rfl⟩⟩)
    have finC : ∀ l M', n + 1 ≤ c' → l.take (n + 1) = us.take i ++ u :: us.drop i → n + 1 ≤ l.length → Sub M0 M' → M' b = some l → R (.sc (.sl (some (b, 0)) (n + 1) c' true 1)) M' := fun l M' q0 q1 q2 q3 q4 =>
      hR _ _ (.inr ⟨b, n + 1, c', 1, l, true, rfl, q0, q4, by omega, by
        rw [Nat.mul_one, q1]
        exact ⟨.mk' (q3.set hm0) hm0 (by simp; omega) set_same, .inr ⟨b, _, rfl⟩⟩⟩)
    have hlit2 : cellsS (1 * 1) (.sc (.sl (some (bt, 0)) 1 1 true 1)) ((M1.set bt [u]).set b (us ++ J)) = some [u] := by
      simp only [cellsS, Nat.one_mul, set_ne (Ne.symm hne), set_same, Nat.zero_add, List.drop_zero]; rfl
    have hsub2 : Sub M0 ((M1.set bt [u]).set b (us ++ J)) := hsub.set hm0
    -- the check of the bounds
    have chk : ∃ r, slcV 1 (some (.int .i64 (i : Int))) none none (.sc (.sl (some (b, 0)) n c' true 1)) = some r := by
      by_cases h1 : i < c'
      · exact ⟨_, slc_lo (by omega) (by omega) (by omega) hc⟩
      · exact ⟨_, slc_end (by omega) (by omega)⟩
    obtain ⟨rr, chk⟩ := chk
    by_cases hin : i = n
    · subst hin
      simp (maxSteps := 2000000) (disch := first | omega | assumption | exact idP rfl | exact idP (bL rfl)) only [go_sem, reduceIte, Nat.reduceEqDiff, chk]
      refine cond_dec (fun h => by omega) (fun h => ?_)
      simp (maxSteps := 2000000) (disch := first | omega | assumption | exact idP rfl | exact idP (bL rfl)) only [go_sem, reduceIte, Nat.reduceEqDiff]
      simp only [appV, lenS, hlit2]
      refine ⟨_, _, .refl _ _, ?_⟩
      simp only [appW, set_same]
      rw [if_neg (by omega)]
      have et : us.take i ++ u :: us.drop i = us ++ [u] := by rw [List.take_of_length_le (by omega), List.drop_eq_nil_of_le (by omega)]
      rw [et] at fin finC
      by_cases hroom : i + 1 ≤ c'
      · rw [if_pos hroom]
        refine ⟨trivial, by simp [hu], by simp; omega, ?_⟩
        simp (maxSteps := 2000000) (disch := first | omega | assumption | exact idP rfl | exact idP (bL rfl)) only [go_sem, reduceIte, Nat.reduceEqDiff]
        obtain ⟨j0, J', rfl⟩ : ∃ j0 J', J = j0 :: J' := by
          cases J with
          | nil => simp at hJl; omega
          | cons a t => exact ⟨a, t, rfl⟩
        have e9 : (us ++ j0 :: J').set i u = (us ++ [u]) ++ J' := by
          rw [List.set_append_right _ _ (by omega), hn, Nat.sub_self]; simp
        refine finC _ _ hroom ?_ ?_ (hsub.set hm0) set_same
        · rw [e9, List.take_left' (by simp [hn])]
        · simp; omega
      · rw [if_neg hroom]
        have hJ0 : J = [] := List.eq_nil_of_length_eq_zero (by omega)
        subst hJ0
        refine ⟨by simp [mostCells]; omega, by simp [mostCells]; omega, ?_⟩
        have hco : cellsS (i * 1) (.sc (.sl (some (b, 0)) i c' true 1)) ((M1.set bt [u]).set b (us ++ [])) = some us := by
          simp only [cellsS, set_same, Nat.zero_add, Nat.mul_one, List.append_nil, List.drop_zero]
          split
          · rename_i h0
            have : us = [] := List.eq_nil_of_length_eq_zero (by omega)
            rw [this]
          · first | rw [if_pos (by omega), List.take_of_length_le (by omega)] | rw [List.take_of_length_le (by omega)]
        simp only [if_true, hco]
        intro b' hb'
        simp (maxSteps := 2000000) (disch := first | omega | assumption | exact idP rfl | exact idP (bL rfl)) only [go_sem, reduceIte, Nat.reduceEqDiff]
        exact fin _ _ (Gr.new' hsub2 hb' (by simp; omega))
    · have hin' : i < n := by omega
      have e11 : ((1 : Nat) : Int) = 1 := rfl
      have e1 : ((i : Int) + 1).toNat = i + 1 := by omega
      have e2 : ((n : Int) + 1).toNat = n + 1 := by omega
      have e3 : ((n : Int) + 1 - (i : Int)).toNat = n + 1 - i := by omega
      have hdl : ((us ++ J).drop i).take (n - i) = us.drop i := by
        rw [List.drop_append_of_le_length (by omega), List.take_left' (by simp; omega)]
      simp (maxSteps := 2000000) (disch := first | omega | assumption | exact idP rfl | exact idP (bL rfl)) only [go_sem, reduceIte, Nat.reduceEqDiff, chk]
      refine cond_dec (fun h => by omega) (fun h => ?_)
      simp (maxSteps := 2000000) (disch := first | omega | assumption | exact idP rfl | exact idP (bL rfl)) only [go_sem, reduceIte, Nat.reduceEqDiff]
      refine cond_dec (fun h => by omega) (fun h => ?_)
      simp (maxSteps := 2000000) (disch := first | omega | assumption | exact idP rfl | exact idP (bL rfl)) only [go_sem, reduceIte, Nat.reduceEqDiff, e11]
      refine cond_dec (fun h => ?_) (fun h => ?_)
      · -- no room
        have hcn : c' = n := by omega
        have hJ0 : J = [] := List.eq_nil_of_length_eq_zero (by omega)
        simp (maxSteps := 2000000) (disch := first | omega | assumption | exact idP rfl | exact idP (bL rfl)) only [go_sem, reduceIte, Nat.reduceEqDiff, slc_hi, e1, e2, e3, e11]
        have hco : cellsS (i * 1) (.sc (.sl (some (b, 0)) i c' true 1)) ((M1.set bt [u]).set b (us ++ J)) = some (us.take i) := by
          simp only [cellsS, set_same, Nat.zero_add, Nat.mul_one, List.drop_zero]
          split
          · rename_i h0; rw [h0]; rfl
          · rw [if_pos (by simp; omega), List.take_append_of_le_length (by omega)]
        have hco : cellsS (i * [AV.sl none 0 0 true 0].length) (.sc (.sl (some (b, 0)) i c' true 1)) ((M1.set bt [u]).set b (us ++ J)) = some (us.take i) := hco
        simp only [appzV, e3, hco]
        refine ⟨by omega, by omega, by simp [mostCells]; omega, by simp [mostCells]; omega, ?_⟩
        intro b9 hb9
        have hz : ((zeros [AV.sl none 0 0 true 0] (n + 1 - i)).map V.sc).length = n + 1 - i := by simp [zeros_length]
        generalize hZ : (zeros [AV.sl none 0 0 true 0] (n + 1 - i)).map V.sc = Z at hz
        have hlen : i + (n + 1 - i) = n + 1 := by omega
        rw [hlen]
        have ne1 : b9 ≠ b := (fresh_set hb9).1
        have ne2 : b9 ≠ bt := (fresh_set (fresh_set hb9).2).1
        simp (maxSteps := 2000000) (disch := first | omega | assumption | exact idP rfl | exact idP (bL rfl)) only [go_sem, reduceIte, Nat.reduceEqDiff, slc_lo]
        refine copy_own (t := 1) (ls := [u]) (ld := us.take i ++ Z) (by rw [set_ne (Ne.symm ne2), set_ne (Ne.symm hne), set_same]) set_same (by omega) (by omega) (by simp) (by simp; omega) (by simp [hu]) ?_
        simp (maxSteps := 2000000) (disch := first | omega | assumption | exact idP rfl | exact idP (bL rfl)) only [go_sem, reduceIte, Nat.reduceEqDiff, slc_lo, e11, e1]
        refine copy_own (t := n - i) (ls := us ++ J) (ld := (us.take i ++ Z).set i u) (by rw [set_ne (Ne.symm ne1), set_same]) (by rw [set_same]) (by omega) (by omega) (by simp; omega) (by simp; omega) (by rw [hdl]; exact all_drop hus i) ?_
        simp (maxSteps := 2000000) (disch := first | omega | assumption | exact idP rfl | exact idP (bL rfl)) only [go_sem, reduceIte, Nat.reduceEqDiff]
        refine fin _ _ ?_
        simp only [Nat.zero_add, hdl]
        rw [ins_new hi (by omega)]
        exact .mk' (hsub2.set' hb9) (hsub2.none hb9) (by simp; omega) set_same
      · -- room
        have hroom : n + 1 ≤ c' := by omega
        simp (maxSteps := 2000000) (disch := first | omega | assumption | exact idP rfl | exact idP (bL rfl)) only [go_sem, reduceIte, Nat.reduceEqDiff, slc_hi, e1, e2, e3, e11]
        simp (maxSteps := 2000000) (disch := first | omega | assumption | exact idP rfl | exact idP (bL rfl)) only [go_sem, reduceIte, Nat.reduceEqDiff, slc_lo, e1, e2, e11]
        have husz : 0 < us.length := by omega
        refine ⟨Ne.symm hne, by rw [set_ne (Ne.symm hne), set_same]; rfl, ?_, ?_⟩
        · cases hus' : us with
          | nil => rw [hus'] at husz; simp at husz
          | cons a t => exact ⟨a, t ++ J, by rw [set_same]; rfl⟩
        simp (maxSteps := 2000000) (disch := first | omega | assumption | exact idP rfl | exact idP (bL rfl)) only [go_sem, reduceIte, Nat.reduceEqDiff, slc_lo, e1, e2, e11]
        refine copy_own (t := n - i) (ls := us ++ J) (ld := us ++ J) set_same set_same (by omega) (by omega) (by simp; omega) (by simp; omega) (by rw [hdl]; exact all_drop hus i) ?_
        simp (maxSteps := 2000000) (disch := first | omega | assumption | exact idP rfl | exact idP (bL rfl)) only [go_sem, reduceIte, Nat.reduceEqDiff, slc_lo, e1, e2, e11]
        refine copy_own (t := 1) (ls := [u]) (ld := setAtG (us ++ J) (i + 1) ((us ++ J).drop i |>.take (n - i))) (by rw [set_ne (Ne.symm hne), set_same]) set_same (by omega) (by omega) (by simp) (by rw [setAtG_mid _ _ _ (by simp; omega)]; simp; omega) (by simp [hu]) ?_
        simp (maxSteps := 2000000) (disch := first | omega | assumption | exact idP rfl | exact idP (bL rfl)) only [go_sem, reduceIte, Nat.reduceEqDiff]
        refine finC _ _ hroom ?_ ?_ (hsub.set hm0) set_same
        · rw [hdl, ← hn]
          exact ins_room (by omega) (by omega)
        · rw [hdl, setAtG_mid _ _ _ (by simp; omega)]; simp; omega
end Go.M2

namespace Go.M2
open Go.Proofs
variable {M : MH}
def uRes (r : V) : Option (List Int) → Prop
  | none => r = .tup [.sc (.sl none 0 0 true 0), .sc (.bool false)]
  | some xs => ∃ u, r = .tup [u, .sc (.bool true)] ∧ LI u xs
theorem t_use {v w : V} {s : SysS} {st : List Int} {k : Nat} (hv : isSys s v) (hs : SysOk s) (hw : LI w st) (hin : StIn s.vars st) (hk : k < s.rules.length) :
    VCall Tryz.prog n_impl_use [v, w, .sc (.int .i64 k)] M (fun r M' => M = M' ∧ uRes r (useR s.vars s.rules[k] st)) := by
  refine VCall.froz2 fun R hP hG => v_impl_use rfl ?_
  obtain ⟨a, b, rfl, ha, hb⟩ := hv
  obtain ⟨x, y, z, hat, hx, hy, hz⟩ := hb.elt hk
  have h1 := hs.v1
  have h5 := hs.v5
  have hl := hin.1
  have hok := hin.ok hs
  obtain ⟨hw2, hst, hsets⟩ := hs.rules _ (List.getElem_mem hk)
  obtain ⟨kw, hkw⟩ := kind_some hw2
  have hx1 := hx.one.1
  have hy1 := hy.one.1
  have hz1 := hz.one.1
  (repeat' (first | ((first | with_reducible refine cond_dec (fun h => ?_) (fun h => ?_) | with_reducible refine guardK_dec (fun h => ?_) (fun h => ?_) | with_reducible refine guardD3_dec (fun h => ?_) (fun h => ?_)) <;> first | (exfalso; omega) | (simp (maxSteps := 2000000) (disch := first | omega | assumption | exact idP rfl | exact idP (bL rfl)) only [go_sem, reduceIte, Nat.reduceEqDiff, h, hb.len, hb.iaddr, hat]) | skip) | ((first | with_reducible refine cond_split (fun h => ?_) (fun h => ?_) | with_reducible refine guardK_split (fun h => ?_) (fun h => ?_) | with_reducible refine guardD3_split (fun h => ?_) (fun h => ?_)) <;> ((try simp only [Bool.not_eq_true', Bool.not_eq_false'] at h); first | (simp (maxSteps := 2000000) (disch := first | omega | assumption | exact idP rfl | exact idP (bL rfl)) only [go_sem, reduceIte, Nat.reduceEqDiff, h, hb.len, hb.iaddr, hat]) | skip)) | ((with_reducible refine (t_eval hx hw hkw hok (by omega)).mono ?_); rintro _ _ ⟨rfl, rfl⟩) | (with_reducible intro bk hbk; try have hnk := (fresh_set hbk).1) | (simp (maxSteps := 2000000) (disch := first | omega | assumption | exact idP rfl | exact idP (bL rfl)) only [go_sem, reduceIte, Nat.reduceEqDiff, hb.len, hb.iaddr, hat])))
  · refine hP _ _ (by (repeat (first | exact Sub.refl _ | assumption | (refine Sub.set' ?_ (by assumption))))) ?_
    rename_i h
    simp only [useR, h, if_true, uRes]
  · rename_i b3 hb3
    have hev := h
    refine (t_cloneInt hw (by omega)).mono ?_
    rintro r M1 hg
    have hm8 : M1 bk = some [x, y, z] := hg.sub _ _ (by simp (maxSteps := 2000000) (disch := first | omega | assumption | exact idP rfl | exact idP (bL rfl)) only [go_sem, reduceIte, Nat.reduceEqDiff])
    simp (maxSteps := 2000000) (disch := first | omega | assumption | exact idP rfl | exact idP (bL rfl)) only [go_sem, reduceIte, Nat.reduceEqDiff, hm8, hy.len]
    refine loop_k (fun e M' => ∃ i : Nat, i ≤ s.rules[k].sets.length ∧ e 1 = w ∧ e 3 = .sc (.ptr (some (b3, 0))) ∧ e 8 = .sc (.ptr (some (bk, 0))) ∧ e 25 = y ∧ e 26 = .sc (.int .i64 s.rules[k].sets.length) ∧ e 27 = .sc (.int .i64 i) ∧ Gr 1 ((M.set b3 [a, b]).set bk [x, y, z]) M' (e 9) ((setsF st s.rules[k].terms s.rules[k].sets i).map vi)) (fun e _ => ctrV s.rules[k].sets.length (e 27)) ?_ ?_
    · exact ⟨0, by omega, by simp (maxSteps := 2000000) (disch := first | omega | assumption | exact idP rfl | exact idP (bL rfl)) only [go_sem, reduceIte, Nat.reduceEqDiff], by simp (maxSteps := 2000000) (disch := first | omega | assumption | exact idP rfl | exact idP (bL rfl)) only [go_sem, reduceIte, Nat.reduceEqDiff], by simp (maxSteps := 2000000) (disch := first | omega | assumption | exact idP rfl | exact idP (bL rfl)) only [go_sem, reduceIte, Nat.reduceEqDiff], by simp (maxSteps := 2000000) (disch := first | omega | assumption | exact idP rfl | exact idP (bL rfl)) only [go_sem, reduceIte, Nat.reduceEqDiff], by simp (maxSteps := 2000000) (disch := first | omega | assumption | exact idP rfl | exact idP (bL rfl)) only [go_sem, reduceIte, Nat.reduceEqDiff], by simp (maxSteps := 2000000) (disch := first | omega | assumption | exact idP rfl | exact idP (bL rfl)) only [go_sem, reduceIte, Nat.reduceEqDiff]; rfl, by simp (maxSteps := 2000000) (disch := first | omega | assumption | exact idP rfl | exact idP (bL rfl)) only [go_sem, reduceIte, Nat.reduceEqDiff]; exact hg⟩
    · rintro e M2 ⟨i, hi, e1, e3, e8, e25, e26, e27, hg⟩ K2 hK2
      have hm3 : M2 b3 = some [a, b] := hg.sub _ _ (by simp (maxSteps := 2000000) (disch := first | omega | assumption | exact idP rfl | exact idP (bL rfl)) only [go_sem, reduceIte, Nat.reduceEqDiff])
      have hm8 : M2 bk = some [x, y, z] := hg.sub _ _ (by simp (maxSteps := 2000000) (disch := first | omega | assumption | exact idP rfl | exact idP (bL rfl)) only [go_sem, reduceIte, Nat.reduceEqDiff])
      have hsl := setsF_len st s.rules[k].terms s.rules[k].sets i
      have hle := sets_le hsets (by omega)
      simp (maxSteps := 2000000) (disch := first | omega | assumption | exact idP rfl | exact idP (bL rfl)) only [go_sem, reduceIte, Nat.reduceEqDiff, e26, e27]
      refine cond_dec (fun h => ?_) (fun h => ?_)
      · have hi' : i < s.rules[k].sets.length := by omega
        have hi2 : i < s.rules[k].terms.length := by omega
        obtain ⟨ki, hki⟩ := kind_some (hsets.kind hi' hi2)
        have hset := (hsets i hi').1
        have hat8 := hg.at (by rw [len_vi]; omega)
        have hia : ∀ {k : IntKind} {a : Int}, 0 ≤ a → a < (st.length : Int) → iaddrV 1 (e 9) (.int k a) = some (.sc (.ptr (some (oB (e 9), a.toNat)))) := fun q1 q2 => hg.own.iaddr q1 (by rw [len_vi, hsl]; exact q2)
        have hso : s.rules[k].sets[i].toNat < ((setsF st s.rules[k].terms s.rules[k].sets i).map vi).length := by rw [len_vi]; omega
        simp (maxSteps := 2000000) (disch := first | omega | assumption | exact idP rfl | exact idP (bL rfl)) only [go_sem, reduceIte, Nat.reduceEqDiff, e1, e3, e8, e25, e27, hm8, hy.iaddr, hy.at hi', hz.iaddr]
        refine (t_eval (hz.elt hi2) hw hki hok (by omega)).mono ?_
        rintro _ _ ⟨rfl, rfl⟩
        simp (maxSteps := 2000000) (disch := first | omega | assumption | exact idP rfl | exact idP (bL rfl)) only [go_sem, reduceIte, Nat.reduceEqDiff, e1, e3, e8, e25, e26, e27, hm8, hia, hat8]
        refine hK2 _ _ ⟨i + 1, by omega, by simp (maxSteps := 2000000) (disch := first | omega | assumption | exact idP rfl | exact idP (bL rfl)) only [go_sem, reduceIte, Nat.reduceEqDiff], by simp (maxSteps := 2000000) (disch := first | omega | assumption | exact idP rfl | exact idP (bL rfl)) only [go_sem, reduceIte, Nat.reduceEqDiff], by simp (maxSteps := 2000000) (disch := first | omega | assumption | exact idP rfl | exact idP (bL rfl)) only [go_sem, reduceIte, Nat.reduceEqDiff], by simp (maxSteps := 2000000) (disch := first | omega | assumption | exact idP rfl | exact idP (bL rfl)) only [go_sem, reduceIte, Nat.reduceEqDiff], by simp (maxSteps := 2000000) (disch := first | omega | assumption | exact idP rfl | exact idP (bL rfl)) only [go_sem, reduceIte, Nat.reduceEqDiff], by simp (maxSteps := 2000000) (disch := first | omega | assumption | exact idP rfl | exact idP (bL rfl)) only [go_sem, reduceIte, Nat.reduceEqDiff]; rfl, ?_⟩ (by simp (maxSteps := 2000000) (disch := first | omega | assumption | exact idP rfl | exact idP (bL rfl)) only [go_sem, reduceIte, Nat.reduceEqDiff, ctrV_int, e27]; omega)
        simp (maxSteps := 2000000) (disch := first | omega | assumption | exact idP rfl | exact idP (bL rfl)) only [go_sem, reduceIte, Nat.reduceEqDiff]
        have := hg.setO (l' := (setsF st s.rules[k].terms s.rules[k].sets (i + 1)).map vi) (by rw [len_vi]; omega) (by simp [setsF_len])
        simp only [setsF, getD_eq hi', getD_eq hi2] at this ⊢
        rw [← set_vi] at this ⊢
        exact this
      · obtain rfl : i = s.rules[k].sets.length := by omega
        simp (maxSteps := 2000000) (disch := first | omega | assumption | exact idP rfl | exact idP (bL rfl)) only [go_sem, reduceIte, Nat.reduceEqDiff, hm3, e3]
        refine (VCall.lend1 hg.own flat_eq fun u M' hu => t_inRange ha hu.li (by omega)).mono ?_
        rintro _ _ ⟨rfl, rfl⟩
        have hsub : Sub M ((M.set b3 [a, b]).set bk [x, y, z]) := by (repeat (first | exact Sub.refl _ | assumption | (refine Sub.set' ?_ (by assumption))))
        cases hib : inB s.vars (setsF st s.rules[k].terms s.rules[k].sets s.rules[k].sets.length) with
        | false =>
          simp (maxSteps := 2000000) (disch := first | omega | assumption | exact idP rfl | exact idP (bL rfl)) only [go_sem, reduceIte, Nat.reduceEqDiff]
          refine hP _ _ (hsub.trans hg.sub) ?_
          simp [useR, hev, hib, uRes]
        | true =>
          simp (maxSteps := 2000000) (disch := first | omega | assumption | exact idP rfl | exact idP (bL rfl)) only [go_sem, reduceIte, Nat.reduceEqDiff]
          refine hG _ _ _ 1 _ ⟨hsub.trans hg.sub, fun b' h' => hsub.none (hg.new b' h'), hg.own⟩ fun u hu => ?_
          have : useR s.vars s.rules[k] st = some (setsF st s.rules[k].terms s.rules[k].sets s.rules[k].sets.length) := by simp [useR, hev, hib]
          rw [this]
          exact ⟨_, rfl, hu.li⟩
theorem Cs.one {us : List V} {l : List (List Int)} (h : Cs isL us l) : us.all oneV = true := by
  refine List.all_eq_true.2 fun x hx => ?_
  obtain ⟨i, hi, rfl⟩ := List.getElem_of_mem hx
  obtain ⟨u, hu, he⟩ := h.2 i (by rw [← h.1]; exact hi)
  rw [List.getElem?_eq_getElem hi] at hu
  cases hu
  exact he.one.1
theorem Cs.take {us : List V} {l : List (List Int)} (h : Cs isL us l) (i : Nat) : Cs isL (us.take i) (l.take i) := by
  refine ⟨by simp [h.1], fun j hj => ?_⟩
  simp at hj
  obtain ⟨u, hu, he⟩ := h.2 j (by omega)
  exact ⟨u, by rw [List.getElem?_take, if_pos (by omega)]; exact hu, by rw [List.getElem_take]; exact he⟩
theorem Cs.ins {us : List V} {l : List (List Int)} {u : V} {x : List Int} (h : Cs isL us l) (hu : LI u x) {i : Nat} (hi : i ≤ l.length) : Cs isL (us.take i ++ u :: us.drop i) (l.take i ++ x :: l.drop i) := by
  have h1 : (us.take i).length = i := by have := h.1; simp; omega
  have h2 : (l.take i).length = i := by simp; omega
  refine ⟨by simp [h.1], fun j hj => ?_⟩
  have hl := h.1
  by_cases h3 : j < i
  · obtain ⟨v, hv, he⟩ := h.2 j (by omega)
    refine ⟨v, by rw [List.getElem?_append_left (by omega), List.getElem?_take, if_pos h3]; exact hv, ?_⟩
    rw [List.getElem_append_left (by omega), List.getElem_take]; exact he
  · by_cases h4 : j = i
    · subst h4
      refine ⟨u, by rw [List.getElem?_append_right (by omega), h1]; simp, ?_⟩
      rw [List.getElem_append_right (by omega)]; simp only [h2, Nat.sub_self, List.getElem_cons_zero]; exact hu
    · simp at hj
      obtain ⟨v, hv, he⟩ := h.2 (j - 1) (by omega)
      obtain ⟨q, hq⟩ : ∃ q, j - i = q + 1 := ⟨j - i - 1, by omega⟩
      refine ⟨v, ?_, ?_⟩
      · rw [List.getElem?_append_right (by omega), h1, hq, List.getElem?_cons_succ, List.getElem?_drop, show i + q = j - 1 by omega]; exact hv
      · rw [List.getElem_append_right (by omega)]
        simp only [h2, hq, List.getElem_cons_succ, List.getElem_drop, show i + q = j - 1 by omega]; exact he
theorem t_cloneSint {M0 : MH} {v : V} {us : List V} (hg : GrN M0 M v us) (hus : us.all oneV = true) (hl : us.length ≤ 1048576) : VCall Tryz.prog n_impl_clone_Sint [v] M (fun r M' => Gr 1 M M' r us) := by
  refine VCall.plain fun R hR => v_impl_clone_Sint rfl ?_
  have hlen := hg.1.len1
  simp (maxSteps := 2000000) (disch := first | omega | assumption | exact idP rfl | exact idP (bL rfl)) only [go_sem, reduceIte, Nat.reduceEqDiff, hlen]
  refine cond_dec (fun h => ?_) (fun h => ?_)
  · simp (maxSteps := 2000000) (disch := first | omega | assumption | exact idP rfl | exact idP (bL rfl)) only [go_sem, reduceIte, Nat.reduceEqDiff]
    have : us = [] := List.eq_nil_of_length_eq_zero (by omega)
    subst this
    exact hR _ _ (.nil (Sub.refl _))
  · simp (maxSteps := 2000000) (disch := first | omega | assumption | exact idP rfl | exact idP (bL rfl)) only [go_sem, reduceIte, Nat.reduceEqDiff, hlen]
    refine mks3 (by omega) (by simp [mostCells]; omega) (by simp [mostCells]; omega) ?_
    intro b3 hb3
    obtain ⟨hg1, ⟨rfl, _⟩ | ⟨b, n, rfl⟩⟩ := hg
    · exact absurd rfl h
    obtain ⟨hm, _, _, _, hn, hm0⟩ := hg1.get
    have hne : b ≠ b3 := fun e => by subst e; rw [hb3] at hm; cases hm
    have hz : ((zeros [AV.sl none 0 0 true 0] us.length).map V.sc).length = us.length := by simp [zeros_length]
    simp (maxSteps := 2000000) (disch := first | omega | assumption | exact idP rfl | exact idP (bL rfl)) only [go_sem, reduceIte, Nat.reduceEqDiff]
    generalize hZ : (zeros [AV.sl none 0 0 true 0] us.length).map V.sc = Z at hz ⊢
    refine copy_own (t := us.length) (ls := us) (ld := Z) (by rw [set_ne hne]; exact hm) set_same (by omega) (by omega) (by omega) (by omega) (by simpa using hus) ?_
    simp only [List.drop_zero, List.take_length]
    rw [setAtG_all _ _ _ (by omega)]
    simp (maxSteps := 2000000) (disch := first | omega | assumption | exact idP rfl | exact idP (bL rfl)) only [go_sem, reduceIte, Nat.reduceEqDiff]
    exact hR _ _ (Gr.new' (Sub.refl _) hb3 (by simp))
theorem t_nextStates {v w : V} {s : SysS} {st : List Int} (hv : isSys s v) (hs : SysOk s) (hw : LI w st) (hin : StIn s.vars st) :
    VCall Tryz.prog n_impl_nextStates [v, w] M (fun r M' => ∃ us, Gr 1 M M' r us ∧ Cs isL us (nextF s st)) := by
  refine VCall.plain fun R hR => v_impl_nextStates rfl ?_
  have hv0 := hv
  obtain ⟨a, b, rfl, ha, hb⟩ := hv
  have h1 := hs.v1
  have h5 := hs.v5
  have h8 := hs.r8
  (repeat' (first | ((first | with_reducible refine cond_dec (fun h => ?_) (fun h => ?_) | with_reducible refine guardK_dec (fun h => ?_) (fun h => ?_) | with_reducible refine guardD3_dec (fun h => ?_) (fun h => ?_)) <;> first | (exfalso; omega) | (simp (maxSteps := 2000000) (disch := first | omega | assumption | exact idP rfl | exact idP (bL rfl)) only [go_sem, reduceIte, Nat.reduceEqDiff, h, hb.len]) | skip) | ((first | with_reducible refine cond_split (fun h => ?_) (fun h => ?_) | with_reducible refine guardK_split (fun h => ?_) (fun h => ?_) | with_reducible refine guardD3_split (fun h => ?_) (fun h => ?_)) <;> ((try simp only [Bool.not_eq_true', Bool.not_eq_false'] at h); first | (simp (maxSteps := 2000000) (disch := first | omega | assumption | exact idP rfl | exact idP (bL rfl)) only [go_sem, reduceIte, Nat.reduceEqDiff, h, hb.len]) | skip)) | (with_reducible intro bk hbk; try have hnk := (fresh_set hbk).1) | (simp (maxSteps := 2000000) (disch := first | omega | assumption | exact idP rfl | exact idP (bL rfl)) only [go_sem, reduceIte, Nat.reduceEqDiff, hb.len])))
  refine loop_k (fun e M' => ∃ (i : Nat) (us : List V), i ≤ s.rules.length ∧ e 1 = w ∧ e 2 = .sc (.ptr (some (bk, 0))) ∧ e 13 = .sc (.int .i64 s.rules.length) ∧ e 14 = .sc (.int .i64 i) ∧ GrN (M.set bk [a, b]) M' (e 5) us ∧ Cs isL us (nextGo s.vars st (s.rules.take i) [])) (fun e _ => ctrV s.rules.length (e 14)) ?_ ?_
  · refine ⟨0, [], by omega, by simp (maxSteps := 2000000) (disch := first | omega | assumption | exact idP rfl | exact idP (bL rfl)) only [go_sem, reduceIte, Nat.reduceEqDiff], by simp (maxSteps := 2000000) (disch := first | omega | assumption | exact idP rfl | exact idP (bL rfl)) only [go_sem, reduceIte, Nat.reduceEqDiff], by simp (maxSteps := 2000000) (disch := first | omega | assumption | exact idP rfl | exact idP (bL rfl)) only [go_sem, reduceIte, Nat.reduceEqDiff], by simp (maxSteps := 2000000) (disch := first | omega | assumption | exact idP rfl | exact idP (bL rfl)) only [go_sem, reduceIte, Nat.reduceEqDiff]; rfl, ?_, Cs.nil⟩
    simp (maxSteps := 2000000) (disch := first | omega | assumption | exact idP rfl | exact idP (bL rfl)) only [go_sem, reduceIte, Nat.reduceEqDiff]
    exact ⟨.nil (Sub.refl _), .inl ⟨rfl, _, rfl⟩⟩
  · rintro e M1 ⟨i, us, hi, e1, e2, e13, e14, hg, hc⟩ K hK
    have hm : M1 bk = some [a, b] := hg.1.sub _ _ set_same
    have hul := hc.1
    have hok := nextGo_ok (vars := s.vars) (st := st) (rs := s.rules.take i) (l := []) List.Pairwise.nil (fun x hx => by cases hx)
    have hnl := nextGo_len (vars := s.vars) (st := st) (rs := s.rules.take i) (l := [])
    simp at hnl
    simp (maxSteps := 2000000) (disch := first | omega | assumption | exact idP rfl | exact idP (bL rfl)) only [go_sem, reduceIte, Nat.reduceEqDiff, e1, e2, e13, e14, hm]
    refine cond_dec (fun h => ?_) (fun h => ?_)
    · have hi' : i < s.rules.length := by omega
      simp (maxSteps := 2000000) (disch := first | omega | assumption | exact idP rfl | exact idP (bL rfl)) only [go_sem, reduceIte, Nat.reduceEqDiff, e1, e2, e14, hm]
      refine (t_use hv0 hs hw hin hi').mono ?_
      rintro r _ ⟨rfl, hr⟩
      have hnt := nextGo_take (vars := s.vars) (st := st) hi'
      cases hu : useR s.vars s.rules[i] st with
      | none =>
        rw [hu] at hr hnt
        simp only [uRes] at hr
        subst hr
        (repeat' (first | ((first | with_reducible refine cond_dec (fun h => ?_) (fun h => ?_) | with_reducible refine guardK_dec (fun h => ?_) (fun h => ?_) | with_reducible refine guardD3_dec (fun h => ?_) (fun h => ?_)) <;> first | (exfalso; omega) | (simp (maxSteps := 2000000) (disch := first | omega | assumption | exact idP rfl | exact idP (bL rfl)) only [go_sem, reduceIte, Nat.reduceEqDiff, h]) | skip) | ((first | with_reducible refine cond_split (fun h => ?_) (fun h => ?_) | with_reducible refine guardK_split (fun h => ?_) (fun h => ?_) | with_reducible refine guardD3_split (fun h => ?_) (fun h => ?_)) <;> ((try simp only [Bool.not_eq_true', Bool.not_eq_false'] at h); first | (simp (maxSteps := 2000000) (disch := first | omega | assumption | exact idP rfl | exact idP (bL rfl)) only [go_sem, reduceIte, Nat.reduceEqDiff, h]) | skip)) | (with_reducible intro bk hbk; try have hnk := (fresh_set hbk).1) | (simp (maxSteps := 2000000) (disch := first | omega | assumption | exact idP rfl | exact idP (bL rfl)) only [go_sem, reduceIte, Nat.reduceEqDiff])))
        refine hK _ _ ⟨i + 1, us, by omega, by simp (maxSteps := 2000000) (disch := first | omega | assumption | exact idP rfl | exact idP (bL rfl)) only [go_sem, reduceIte, Nat.reduceEqDiff], by simp (maxSteps := 2000000) (disch := first | omega | assumption | exact idP rfl | exact idP (bL rfl)) only [go_sem, reduceIte, Nat.reduceEqDiff], by simp (maxSteps := 2000000) (disch := first | omega | assumption | exact idP rfl | exact idP (bL rfl)) only [go_sem, reduceIte, Nat.reduceEqDiff], by simp (maxSteps := 2000000) (disch := first | omega | assumption | exact idP rfl | exact idP (bL rfl)) only [go_sem, reduceIte, Nat.reduceEqDiff]; rfl, by simp (maxSteps := 2000000) (disch := first | omega | assumption | exact idP rfl | exact idP (bL rfl)) only [go_sem, reduceIte, Nat.reduceEqDiff]; exact hg, ?_⟩ (by simp (maxSteps := 2000000) (disch := first | omega | assumption | exact idP rfl | exact idP (bL rfl)) only [go_sem, reduceIte, Nat.reduceEqDiff, ctrV_int, e14]; omega)
        rw [hnt]; exact hc
      | some x =>
        rw [hu] at hr hnt
        obtain ⟨u, rfl, hu1⟩ := hr
        simp only at hnt
        have hxi := useR_in hu
        have huo := hu1.one.1
        have hxl : x.length = s.vars.length := hxi.1
        simp (maxSteps := 2000000) (disch := first | omega | assumption | exact idP rfl | exact idP (bL rfl)) only [go_sem, reduceIte, Nat.reduceEqDiff]
        refine (VCall.lend0 hg.1.own (p := fun r => ∃ (k : Nat) (t : Bool), r = .tup [.sc (.int .i64 k), .sc (.bool t)] ∧ k ≤ (nextGo s.vars st (s.rules.take i) []).length ∧ (∀ j (h : j < (nextGo s.vars st (s.rules.take i) []).length), j < k → lessF (nextGo s.vars st (s.rules.take i) [])[j] x = true) ∧
          (t = true → ∃ h : k < (nextGo s.vars st (s.rules.take i) []).length, (nextGo s.vars st (s.rules.take i) [])[k] = x) ∧ (t = false → ∀ h : k < (nextGo s.vars st (s.rules.take i) []).length, lessF x (nextGo s.vars st (s.rules.take i) [])[k] = true))
          (fun r ⟨k, t, hr, _⟩ => by subst hr; simp [flat, flatL]) fun u' M' hu' => t_binarySearch (hu'.lsC hc) hu1 hok.1 (by omega) (fun y hy => by have := (hok.2 y hy).1; omega)).mono ?_
        rintro _ _ ⟨rfl, k, t, rfl, hk, hlt, ht, hf⟩
        cases t with
        | true =>
          obtain ⟨hk', he⟩ := ht rfl
          (repeat' (first | ((first | with_reducible refine cond_dec (fun h => ?_) (fun h => ?_) | with_reducible refine guardK_dec (fun h => ?_) (fun h => ?_) | with_reducible refine guardD3_dec (fun h => ?_) (fun h => ?_)) <;> first | (exfalso; omega) | (simp (maxSteps := 2000000) (disch := first | omega | assumption | exact idP rfl | exact idP (bL rfl)) only [go_sem, reduceIte, Nat.reduceEqDiff, h]) | skip) | ((first | with_reducible refine cond_split (fun h => ?_) (fun h => ?_) | with_reducible refine guardK_split (fun h => ?_) (fun h => ?_) | with_reducible refine guardD3_split (fun h => ?_) (fun h => ?_)) <;> ((try simp only [Bool.not_eq_true', Bool.not_eq_false'] at h); first | (simp (maxSteps := 2000000) (disch := first | omega | assumption | exact idP rfl | exact idP (bL rfl)) only [go_sem, reduceIte, Nat.reduceEqDiff, h]) | skip)) | (with_reducible intro bk hbk; try have hnk := (fresh_set hbk).1) | (simp (maxSteps := 2000000) (disch := first | omega | assumption | exact idP rfl | exact idP (bL rfl)) only [go_sem, reduceIte, Nat.reduceEqDiff])))
          refine hK _ _ ⟨i + 1, us, by omega, by simp (maxSteps := 2000000) (disch := first | omega | assumption | exact idP rfl | exact idP (bL rfl)) only [go_sem, reduceIte, Nat.reduceEqDiff], by simp (maxSteps := 2000000) (disch := first | omega | assumption | exact idP rfl | exact idP (bL rfl)) only [go_sem, reduceIte, Nat.reduceEqDiff], by simp (maxSteps := 2000000) (disch := first | omega | assumption | exact idP rfl | exact idP (bL rfl)) only [go_sem, reduceIte, Nat.reduceEqDiff], by simp (maxSteps := 2000000) (disch := first | omega | assumption | exact idP rfl | exact idP (bL rfl)) only [go_sem, reduceIte, Nat.reduceEqDiff]; rfl, by simp (maxSteps := 2000000) (disch := first | omega | assumption | exact idP rfl | exact idP (bL rfl)) only [go_sem, reduceIte, Nat.reduceEqDiff]; exact hg, ?_⟩ (by simp (maxSteps := 2000000) (disch := first | omega | assumption | exact idP rfl | exact idP (bL rfl)) only [go_sem, reduceIte, Nat.reduceEqDiff, ctrV_int, e14]; omega)
          rw [hnt, putF_in hk' hlt he]; exact hc
        | false =>
          have hge := hf rfl
          simp (maxSteps := 2000000) (disch := first | omega | assumption | exact idP rfl | exact idP (bL rfl)) only [go_sem, reduceIte, Nat.reduceEqDiff, hu1.one.1, hu1.one.2]
          intro bt hbt
          refine (t_Insert hg hbt huo hc.one (by omega) (by omega)).mono ?_
          rintro r M2 hg2
          simp (maxSteps := 2000000) (disch := first | omega | assumption | exact idP rfl | exact idP (bL rfl)) only [go_sem, reduceIte, Nat.reduceEqDiff]
          refine hK _ _ ⟨i + 1, _, by omega, by simp (maxSteps := 2000000) (disch := first | omega | assumption | exact idP rfl | exact idP (bL rfl)) only [go_sem, reduceIte, Nat.reduceEqDiff], by simp (maxSteps := 2000000) (disch := first | omega | assumption | exact idP rfl | exact idP (bL rfl)) only [go_sem, reduceIte, Nat.reduceEqDiff], by simp (maxSteps := 2000000) (disch := first | omega | assumption | exact idP rfl | exact idP (bL rfl)) only [go_sem, reduceIte, Nat.reduceEqDiff], by simp (maxSteps := 2000000) (disch := first | omega | assumption | exact idP rfl | exact idP (bL rfl)) only [go_sem, reduceIte, Nat.reduceEqDiff]; rfl, by simp (maxSteps := 2000000) (disch := first | omega | assumption | exact idP rfl | exact idP (bL rfl)) only [go_sem, reduceIte, Nat.reduceEqDiff]; exact hg2, ?_⟩ (by simp (maxSteps := 2000000) (disch := first | omega | assumption | exact idP rfl | exact idP (bL rfl)) only [go_sem, reduceIte, Nat.reduceEqDiff, ctrV_int, e14]; omega)
          rw [hnt, putF_at hk hlt hge]
          exact hc.ins hu1 hk
    · obtain rfl : i = s.rules.length := by omega
      rw [List.take_length] at hc
      have hnl2 := nextGo_len (vars := s.vars) (st := st) (rs := s.rules) (l := [])
      simp at hnl2
      simp (maxSteps := 2000000) (disch := first | omega | assumption | exact idP rfl | exact idP (bL rfl)) only [go_sem, reduceIte, Nat.reduceEqDiff]
      refine (t_cloneSint hg hc.one (by omega)).mono ?_
      rintro r M2 hg2
      simp (maxSteps := 2000000) (disch := first | omega | assumption | exact idP rfl | exact idP (bL rfl)) only [go_sem, reduceIte, Nat.reduceEqDiff]
      exact hR _ _ ⟨us, hg2.base ((show Sub M (M.set bk [a, b]) by (repeat (first | exact Sub.refl _ | assumption | (refine Sub.set' ?_ (by assumption))))).trans hg.1.sub), hc⟩
theorem f_nextStates {v w : V} {s : SysS} {st : List Int} (hv : isSys s v) (hs : SysOk s) (hw : LI w st) (hin : StIn s.vars st) : VCall Tryz.prog n_impl_nextStates [v, w] M (fun r M' => M = M' ∧ LII r (nextF s st)) :=
  (VCall.fr (l := fun _ us => Cs isL us (nextF s st)) (t_nextStates hv hs hw hin) (fun _ _ _ h => h)).mono fun r M' ⟨h1, c, h2, h3⟩ => ⟨h1, h2.lsC h3⟩
end Go.M2

namespace Go.M2
open Go.Proofs
variable {M : MH}
theorem t_number {a b w : V} {vars : List VarS} {st : List Int} (ha : LVar a vars) (hw : LI w st) (hv : ∀ v ∈ vars, VarOk v) (h5 : vars.length ≤ 5) (hin : StIn vars st) :
    VCall Tryz.prog n_impl_number [.agg [a, b], w] M (fun r M' => M = M' ∧ r = .sc (.int .i64 (numF vars st))) := by
  refine VCall.pure fun R hR => v_impl_number rfl ?_
  have hlen := hin.1
  (repeat' (first | ((first | with_reducible refine cond_dec (fun h => ?_) (fun h => ?_) | with_reducible refine guardK_dec (fun h => ?_) (fun h => ?_) | with_reducible refine guardD3_dec (fun h => ?_) (fun h => ?_)) <;> first | (exfalso; omega) | (simp (maxSteps := 2000000) (disch := first | omega | assumption | exact idP rfl | exact idP (bL rfl)) only [go_sem, reduceIte, Nat.reduceEqDiff, h, ha.len]) | skip) | ((first | with_reducible refine cond_split (fun h => ?_) (fun h => ?_) | with_reducible refine guardK_split (fun h => ?_) (fun h => ?_) | with_reducible refine guardD3_split (fun h => ?_) (fun h => ?_)) <;> ((try simp only [Bool.not_eq_true', Bool.not_eq_false'] at h); first | (simp (maxSteps := 2000000) (disch := first | omega | assumption | exact idP rfl | exact idP (bL rfl)) only [go_sem, reduceIte, Nat.reduceEqDiff, h, ha.len]) | skip)) | (with_reducible intro bk hbk; try have hnk := (fresh_set hbk).1) | (simp (maxSteps := 2000000) (disch := first | omega | assumption | exact idP rfl | exact idP (bL rfl)) only [go_sem, reduceIte, Nat.reduceEqDiff, ha.len])))
  refine loop_k (fun e M' => Sub M M' ∧ ∃ i : Nat, i ≤ vars.length ∧ e 1 = w ∧ e 9 = a ∧ e 10 = .sc (.int .i64 vars.length) ∧ e 5 = .sc (.int .i64 (numF (vars.take i) (st.take i))) ∧ e 11 = .sc (.int .i64 i)) (fun e _ => ctrV vars.length (e 11)) ?_ ?_
  · exact ⟨by (repeat (first | exact Sub.refl _ | assumption | (refine Sub.set' ?_ (by assumption)))), 0, by omega, by simp (maxSteps := 2000000) (disch := first | omega | assumption | exact idP rfl | exact idP (bL rfl)) only [go_sem, reduceIte, Nat.reduceEqDiff], by simp (maxSteps := 2000000) (disch := first | omega | assumption | exact idP rfl | exact idP (bL rfl)) only [go_sem, reduceIte, Nat.reduceEqDiff], by simp (maxSteps := 2000000) (disch := first | omega | assumption | exact idP rfl | exact idP (bL rfl)) only [go_sem, reduceIte, Nat.reduceEqDiff], by simp (maxSteps := 2000000) (disch := first | omega | assumption | exact idP rfl | exact idP (bL rfl)) only [go_sem, reduceIte, Nat.reduceEqDiff]; simp [numF, numGo], by simp (maxSteps := 2000000) (disch := first | omega | assumption | exact idP rfl | exact idP (bL rfl)) only [go_sem, reduceIte, Nat.reduceEqDiff]; rfl⟩
  · rintro e M1 ⟨hsub, i, hi, e1, e9, e10, e5, e11⟩ K hK
    simp (maxSteps := 2000000) (disch := first | omega | assumption | exact idP rfl | exact idP (bL rfl)) only [go_sem, reduceIte, Nat.reduceEqDiff, e10, e11]
    refine cond_dec (fun h => ?_) (fun h => ?_)
    · have hi1 : i < vars.length := by omega
      have hi2 : i < st.length := by omega
      have hok := hv _ (List.getElem_mem hi1)
      have hinr := hin.2 i hi1 hi2
      have hb1 := numF_bd hv hin i (by omega)
      have hb2 := numF_bd hv hin (i + 1) (by omega)
      have hs1 := sizeF_mono hv h5 (i := i)
      have hs2 := sizeF_mono hv h5 (i := i + 1)
      have hnt := numF_take hi1 hi2
      have hmb : 0 ≤ numF (vars.take i) (st.take i) * (vars[i].high - vars[i].low + 1) ∧ numF (vars.take i) (st.take i) * (vars[i].high - vars[i].low + 1) ≤ 3200000 * 20 := by
        unfold VarOk at hok
        exact ⟨Int.mul_nonneg hb1.1 (by omega), Int.mul_le_mul (by omega) (by omega) (by omega) (by omega)⟩
      unfold VarOk at hok
      simp (maxSteps := 2000000) (disch := first | omega | assumption | exact idP rfl | exact idP (bL rfl)) only [go_sem, reduceIte, Nat.reduceEqDiff, e1, e5, e9, e10, e11, ha.iaddr, LVar.at ha hi1]
      intro b7 hb7
      simp (maxSteps := 2000000) (disch := first | omega | assumption | exact idP rfl | exact idP (bL rfl)) only [go_sem, reduceIte, Nat.reduceEqDiff, e1, e5, e9, e10, e11, hw.iaddr, hw.at hi2]
      refine hK _ _ ⟨by (repeat (first | exact Sub.refl _ | assumption | (refine Sub.set' ?_ (by assumption)))), i + 1, by omega, by simp (maxSteps := 2000000) (disch := first | omega | assumption | exact idP rfl | exact idP (bL rfl)) only [go_sem, reduceIte, Nat.reduceEqDiff], by simp (maxSteps := 2000000) (disch := first | omega | assumption | exact idP rfl | exact idP (bL rfl)) only [go_sem, reduceIte, Nat.reduceEqDiff], by simp (maxSteps := 2000000) (disch := first | omega | assumption | exact idP rfl | exact idP (bL rfl)) only [go_sem, reduceIte, Nat.reduceEqDiff], by simp (maxSteps := 2000000) (disch := first | omega | assumption | exact idP rfl | exact idP (bL rfl)) only [go_sem, reduceIte, Nat.reduceEqDiff]; rw [hnt]; rfl, by simp (maxSteps := 2000000) (disch := first | omega | assumption | exact idP rfl | exact idP (bL rfl)) only [go_sem, reduceIte, Nat.reduceEqDiff]; rfl⟩ (by simp (maxSteps := 2000000) (disch := first | omega | assumption | exact idP rfl | exact idP (bL rfl)) only [go_sem, reduceIte, Nat.reduceEqDiff, ctrV_int, e11]; omega)
    · obtain rfl : i = vars.length := by omega
      simp (maxSteps := 2000000) (disch := first | omega | assumption | exact idP rfl | exact idP (bL rfl)) only [go_sem, reduceIte, Nat.reduceEqDiff, e5]
      exact hR _ _ hsub (by rw [List.take_length, ← hlen, List.take_length])
theorem t_stateAt {v : V} {s : SysS} {n : Int} (hv : isSys s v) (hs : SysOk s) (h0 : 0 ≤ n) (h1 : n ≤ 1099511627776) : VCall Tryz.prog n_impl_stateAt [v, .sc (.int .i64 n)] M (fun r M' => Gr 1 M M' r ((stGo s.vars n).map vi)) := by
  refine VCall.plain fun R hR => v_impl_stateAt rfl ?_
  obtain ⟨a, b, rfl, ha, hb⟩ := hv
  have h1' := hs.v1
  have h5 := hs.v5
  (repeat' (first | ((first | with_reducible refine cond_dec (fun h => ?_) (fun h => ?_) | with_reducible refine guardK_dec (fun h => ?_) (fun h => ?_) | with_reducible refine guardD3_dec (fun h => ?_) (fun h => ?_)) <;> first | (exfalso; omega) | (simp (maxSteps := 2000000) (disch := first | omega | assumption | exact idP rfl | exact idP (bL rfl)) only [go_sem, reduceIte, Nat.reduceEqDiff, h, ha.len]) | skip) | ((first | with_reducible refine cond_split (fun h => ?_) (fun h => ?_) | with_reducible refine guardK_split (fun h => ?_) (fun h => ?_) | with_reducible refine guardD3_split (fun h => ?_) (fun h => ?_)) <;> ((try simp only [Bool.not_eq_true', Bool.not_eq_false'] at h); first | (simp (maxSteps := 2000000) (disch := first | omega | assumption | exact idP rfl | exact idP (bL rfl)) only [go_sem, reduceIte, Nat.reduceEqDiff, h, ha.len]) | skip)) | (with_reducible intro bk hbk; try have hnk := (fresh_set hbk).1) | (simp (maxSteps := 2000000) (disch := first | omega | assumption | exact idP rfl | exact idP (bL rfl)) only [go_sem, reduceIte, Nat.reduceEqDiff, ha.len])))
  refine mks3 (by omega) (by simp [mostCells]; omega) (by simp [mostCells]; omega) ?_
  intro b12 hb12
  simp (maxSteps := 2000000) (disch := first | omega | assumption | exact idP rfl | exact idP (bL rfl)) only [go_sem, reduceIte, Nat.reduceEqDiff, zeros_vi]
  refine loop_k (fun e M' => ∃ j : Nat, j ≤ s.vars.length ∧ e 1 = .sc (.int .i64 (qGo (s.vars.drop j) n)) ∧ e 2 = .sc (.ptr (some (bk, 0))) ∧ e 6 = .sc (.int .i64 ((j : Int) - 1)) ∧ Gr 1 (M.set bk [a, b]) M' (e 5) ((List.replicate j 0 ++ stGo (s.vars.drop j) n).map vi)) (fun e _ => match e 6 with | .sc (.int _ i) => (i + 1).toNat | _ => 0) ?_ ?_
  · refine ⟨s.vars.length, Nat.le_refl _, by simp (maxSteps := 2000000) (disch := first | omega | assumption | exact idP rfl | exact idP (bL rfl)) only [go_sem, reduceIte, Nat.reduceEqDiff]; simp [qGo], by simp (maxSteps := 2000000) (disch := first | omega | assumption | exact idP rfl | exact idP (bL rfl)) only [go_sem, reduceIte, Nat.reduceEqDiff], by simp (maxSteps := 2000000) (disch := first | omega | assumption | exact idP rfl | exact idP (bL rfl)) only [go_sem, reduceIte, Nat.reduceEqDiff], ?_⟩
    simp (maxSteps := 2000000) (disch := first | omega | assumption | exact idP rfl | exact idP (bL rfl)) only [go_sem, reduceIte, Nat.reduceEqDiff]
    rw [List.drop_length]
    simp only [stGo, List.append_nil]
    exact Gr.new' (Sub.refl _) hb12 (by simp)
  · rintro e M3 ⟨j, hj, e1, e2, e6, hg⟩ K hK
    have hm := hg.sub bk _ set_same
    simp (maxSteps := 2000000) (disch := first | omega | assumption | exact idP rfl | exact idP (bL rfl)) only [go_sem, reduceIte, Nat.reduceEqDiff, e1, e2, e6]
    refine cond_dec (fun h => ?_) (fun h => ?_)
    · obtain ⟨i, rfl⟩ : ∃ i, j = i + 1 := ⟨j - 1, by omega⟩
      have hi : i < s.vars.length := by omega
      have hok := hs.vars _ (List.getElem_mem hi)
      have hsp := span_pos hok
      have hq := qGo_bd (vs := s.vars.drop (i + 1)) (n := n) (fun u hu => hs.vars u (List.mem_of_mem_drop hu)) h0
      have et : (((i + 1 : Nat) : Int) - 1) = (i : Int) := by omega
      have hol : (List.replicate (i + 1) 0 ++ stGo (s.vars.drop (i + 1)) n).length = s.vars.length := by simp [stGo_len]; omega
      simp (maxSteps := 2000000) (disch := first | omega | assumption | exact idP rfl | exact idP (bL rfl)) only [go_sem, reduceIte, Nat.reduceEqDiff, e1, e2, e6, hm, et, ha.iaddr, LVar.at ha hi]
      intro b7 hb7
      have hgm : ∀ cl, Gr 1 (M.set bk [a, b]) (M3.set b7 cl) (e 5) ((List.replicate (i + 1) 0 ++ stGo (s.vars.drop (i + 1)) n).map vi) := fun cl => hg.more ((Sub.refl _).set' hb7)
      have hat : ∀ cl, (M3.set b7 cl) (oB (e 5)) = some ((List.replicate (i + 1) 0 ++ stGo (s.vars.drop (i + 1)) n).map vi) := fun cl => (hgm cl).at (by rw [len_vi]; omega)
      have hia : ∀ {k : IntKind} {x : Int}, 0 ≤ x → x < (s.vars.length : Int) → iaddrV 1 (e 5) (.int k x) = some (.sc (.ptr (some (oB (e 5), x.toNat)))) := fun q1 q2 => hg.own.iaddr q1 (by rw [len_vi, hol]; exact q2)
      have hso : i < ((List.replicate (i + 1) 0 ++ stGo (s.vars.drop (i + 1)) n).map vi).length := by rw [len_vi]; omega
      have hm1 := Int.emod_nonneg (qGo (s.vars.drop (i + 1)) n) (show span1 s.vars[i] ≠ 0 by omega)
      have hm2 := Int.emod_lt_of_pos (qGo (s.vars.drop (i + 1)) n) (show 0 < span1 s.vars[i] by omega)
      unfold span1 at hsp hm1 hm2
      unfold VarOk at hok
      simp (maxSteps := 2000000) (disch := first | omega | assumption | exact idP rfl | exact idP (bL rfl)) only [go_sem, reduceIte, Nat.reduceEqDiff, e1, e2, e6, et, hia, hat]
      have hgs := fun cl => (hgm cl).setO (l' := (List.replicate i 0 ++ stGo (s.vars.drop i) n).map vi) (by rw [len_vi]; omega) (by rw [len_vi, len_vi, hol]; simp [stGo_len]; omega)
      refine hK _ _ ⟨i, by omega, by simp (maxSteps := 2000000) (disch := first | omega | assumption | exact idP rfl | exact idP (bL rfl)) only [go_sem, reduceIte, Nat.reduceEqDiff]; rw [drop_cons' hi]; rfl, by simp (maxSteps := 2000000) (disch := first | omega | assumption | exact idP rfl | exact idP (bL rfl)) only [go_sem, reduceIte, Nat.reduceEqDiff], by simp (maxSteps := 2000000) (disch := first | omega | assumption | exact idP rfl | exact idP (bL rfl)) only [go_sem, reduceIte, Nat.reduceEqDiff], ?_⟩ (by simp (maxSteps := 2000000) (disch := first | omega | assumption | exact idP rfl | exact idP (bL rfl)) only [go_sem, reduceIte, Nat.reduceEqDiff, e6]; omega)
      simp (maxSteps := 2000000) (disch := first | omega | assumption | exact idP rfl | exact idP (bL rfl)) only [go_sem, reduceIte, Nat.reduceEqDiff]
      have e9 : (List.replicate (i + 1) 0 ++ stGo (s.vars.drop (i + 1)) n).set i (s.vars[i].low + qGo (s.vars.drop (i + 1)) n % (s.vars[i].high - s.vars[i].low + 1)) = List.replicate i 0 ++ stGo (s.vars.drop i) n := by
        rw [drop_cons' hi, List.replicate_succ', List.append_assoc, List.set_append_right _ _ (by simp)]
        simp [stGo, span1]
      rw [set_vi, e9]
      exact hgs _
    · obtain rfl : j = 0 := by omega
      simp (maxSteps := 2000000) (disch := first | omega | assumption | exact idP rfl | exact idP (bL rfl)) only [go_sem, reduceIte, Nat.reduceEqDiff]
      refine hR _ _ ?_
      simp only [List.replicate_zero, List.nil_append, List.drop_zero] at hg
      exact hg.base (by (repeat (first | exact Sub.refl _ | assumption | (refine Sub.set' ?_ (by assumption)))))
theorem f_stateAt {v : V} {s : SysS} {n : Int} (hv : isSys s v) (hs : SysOk s) (h0 : 0 ≤ n) (h1 : n ≤ 1099511627776) : VCall Tryz.prog n_impl_stateAt [v, .sc (.int .i64 n)] M (fun r M' => M = M' ∧ LI r (stGo s.vars n)) :=
  (VCall.fr1 (t_stateAt hv hs h0 h1)).mono fun r M' ⟨h1, h2⟩ => ⟨h1, h2.li⟩
theorem Fz.pre {M M' : MH} {l l' : List V} (h : Fz M l M' l') : ∀ us : List V, Fz M (us ++ l) M' (us ++ l')
  | [] => h
  | x :: t => .keep x (Fz.pre h t)
theorem FzE.row {M0 M : MH} {b3 sz : Nat} {rv : V} {us post row : List V} (hb : M b3 = some (us ++ rv :: post)) (hr : Gr sz M0 M rv row) (hne : blkV rv ≠ some b3) :
    ∃ M' u, (∀ e, FzE e M e M') ∧ Fr sz u row ∧ M' b3 = some (us ++ u :: post) ∧ (M0 b3 = none → Sub M0 M') := by
  rcases hr.own with ⟨rfl, k, rfl⟩ | ⟨b, n, ex, rfl, h1, h2⟩
  · exact ⟨M, _, fun e => .refl _ _, .inl ⟨rfl, k, rfl⟩, hb, fun _ => hr.sub⟩
  · have hne' : b3 ≠ b := fun e => hne (by rw [e]; rfl)
    have h0 := hr.new b rfl
    have hd : M.del b b3 = some (us ++ V.sc (.sl (some (b, 0)) n n ex sz) :: post) := by simp only [MH.del]; rw [if_neg hne']; exact hb
    have hz : Fz M (us ++ V.sc (.sl (some (b, 0)) n n ex sz) :: post) (M.del b) (us ++ V.fs (some (b, 0)) n n ex sz (row.drop 0) :: post) := Fz.pre (.sl h1 (Fz.refl _ _) (Fz.refl _ _)) us
    refine ⟨_, _, fun e => FzE.cells hb hz hd, .inr ⟨_, _, _, _, _, rfl, by simpa using h2⟩, set_same, fun h3 => Sub.set (fun i l hi => ?_) h3⟩
    simp only [MH.del]
    rw [if_neg (fun e => by subst e; rw [h0] at hi; cases hi)]
    exact hr.sub i l hi
theorem Gr.setN {sz b : Nat} {M0 M : MH} {v : V} {l l' : List V} (h : Gr sz M0 M v l) (hb : M0 b = none) (hne : blkV v ≠ some b) : Gr sz M0 (M.set b l') v l := by
  rcases h.own with ⟨rfl, k, rfl⟩ | ⟨c, n, ex, rfl, h1, h2⟩
  · exact .nil (h.sub.set hb)
  · exact .mk' (h.sub.set hb) (h.new c rfl) h2 (by rw [set_ne (fun e => hne (by rw [← e]; rfl))]; exact h1)
end Go.M2

namespace Go.M2
open Go.Proofs
variable {M : MH}
def nil1 : V := .sc (.sl none 0 0 true 0)
theorem zeros_nil (n : Nat) : (zeros [AV.sl none 0 0 true 0] n).map V.sc = List.replicate n nil1 := by
  induction n with
  | zero => rfl
  | succ n ih => simp only [zeros, List.replicate_succ, List.flatten_cons, List.map_append] at ih ⊢; rw [ih]; rfl
theorem set_mid {α : Type} {us post : List α} {x y : α} {n : Nat} (h : us.length = n) : (us ++ x :: post).set n y = us ++ y :: post := by
  subst h
  rw [List.set_append_right _ _ (Nat.le_refl _), Nat.sub_self]; rfl
theorem nth_mid {α : Type} {us post : List α} {x : α} {n : Nat} (h : us.length = n) : (us ++ x :: post)[n]? = some x := by
  subst h
  rw [List.getElem?_append_right (Nat.le_refl _), Nat.sub_self]; rfl
theorem t_nexts {v : V} {s : SysS} (hv : isSys s v) (hs : SysOk s) : VCall Tryz.prog n_impl_nexts [v] M (fun r M' => ∃ us, Gr 1 M M' r us ∧ Cs isL us (tabF s)) := by
  refine VCall.plain fun R hR => v_impl_nexts rfl ?_
  have hv0 := hv
  obtain ⟨a, b, rfl, ha, hb⟩ := hv
  have hsz := hs.sz
  have htl := tabF_len s
  obtain ⟨N, hN⟩ : ∃ N : Nat, sizeF s.vars = (N : Int) := ⟨(sizeF s.vars).toNat, by omega⟩
  have hN2 : (sizeF s.vars).toNat = N := by omega
  (repeat' (first | ((first | with_reducible refine cond_dec (fun h => ?_) (fun h => ?_) | with_reducible refine guardK_dec (fun h => ?_) (fun h => ?_) | with_reducible refine guardD3_dec (fun h => ?_) (fun h => ?_)) <;> first | (exfalso; omega) | (simp (maxSteps := 2000000) (disch := first | omega | assumption | exact idP rfl | exact idP (bL rfl)) only [go_sem, reduceIte, Nat.reduceEqDiff, h]) | skip) | ((first | with_reducible refine cond_split (fun h => ?_) (fun h => ?_) | with_reducible refine guardK_split (fun h => ?_) (fun h => ?_) | with_reducible refine guardD3_split (fun h => ?_) (fun h => ?_)) <;> ((try simp only [Bool.not_eq_true', Bool.not_eq_false'] at h); first | (simp (maxSteps := 2000000) (disch := first | omega | assumption | exact idP rfl | exact idP (bL rfl)) only [go_sem, reduceIte, Nat.reduceEqDiff, h]) | skip)) | ((with_reducible refine (t_impSize ha hs.vars hs.v5).mono ?_); rintro _ _ ⟨rfl, rfl⟩) | (with_reducible intro bk hbk; try have hnk := (fresh_set hbk).1) | (simp (maxSteps := 2000000) (disch := first | omega | assumption | exact idP rfl | exact idP (bL rfl)) only [go_sem, reduceIte, Nat.reduceEqDiff])))
  rw [hN]
  refine mks3 (by omega) (by simp [mostCells]; omega) (by simp [mostCells]; omega) ?_
  intro b3 hb3
  simp (maxSteps := 2000000) (disch := first | omega | assumption | exact idP rfl | exact idP (bL rfl)) only [go_sem, reduceIte, Nat.reduceEqDiff, zeros_nil]
  refine loop_f (fun e M' => ∃ (n : Nat) (us : List V), n ≤ N ∧ e 1 = .sc (.ptr (some (bk, 0))) ∧ e 3 = .sc (.sl (some (b3, 0)) N N true 1) ∧ e 12 = .sc (.int .i64 N) ∧ e 13 = .sc (.int .i64 n) ∧ Sub (M.set bk [a, b]) M' ∧ M' b3 = some (us ++ List.replicate (N - n) nil1) ∧ Cs isL us ((tabF s).take n)) (fun e _ => ctrV N (e 13)) ?_ ?_
  · exact ⟨_, _, .refl _ _, 0, [], by omega, by simp (maxSteps := 2000000) (disch := first | omega | assumption | exact idP rfl | exact idP (bL rfl)) only [go_sem, reduceIte, Nat.reduceEqDiff], by simp (maxSteps := 2000000) (disch := first | omega | assumption | exact idP rfl | exact idP (bL rfl)) only [go_sem, reduceIte, Nat.reduceEqDiff], by simp (maxSteps := 2000000) (disch := first | omega | assumption | exact idP rfl | exact idP (bL rfl)) only [go_sem, reduceIte, Nat.reduceEqDiff], by simp (maxSteps := 2000000) (disch := first | omega | assumption | exact idP rfl | exact idP (bL rfl)) only [go_sem, reduceIte, Nat.reduceEqDiff]; rfl, (Sub.refl _).set hb3, by simp (maxSteps := 2000000) (disch := first | omega | assumption | exact idP rfl | exact idP (bL rfl)) only [go_sem, reduceIte, Nat.reduceEqDiff]; simp, .nil⟩
  · rintro e M1 ⟨n, us, hn, e1, e3, e12, e13, hsub, hm3, hc⟩ K hK
    have hm := hsub bk _ set_same
    have hul := hc.1
    rw [List.length_take, htl] at hul
    simp (maxSteps := 2000000) (disch := first | omega | assumption | exact idP rfl | exact idP (bL rfl)) only [go_sem, reduceIte, Nat.reduceEqDiff, e1, e3, e12, e13]
    refine cond_dec (fun h => ?_) (fun h => ?_)
    · have hn' : n < (sizeF s.vars).toNat := by omega
      have hul : us.length = n := by omega
      obtain ⟨q, hq⟩ : ∃ q, N - n = q + 1 := ⟨N - n - 1, by omega⟩
      rw [hq, List.replicate_succ] at hm3
      simp (maxSteps := 2000000) (disch := first | omega | assumption | exact idP rfl | exact idP (bL rfl)) only [go_sem, reduceIte, Nat.reduceEqDiff, e1, e3, e12, e13, hm]
      refine (f_stateAt hv0 hs (n := (n : Int)) (by omega) (by omega)).mono ?_
      rintro st _ ⟨rfl, hst⟩
      simp (maxSteps := 2000000) (disch := first | omega | assumption | exact idP rfl | exact idP (bL rfl)) only [go_sem, reduceIte, Nat.reduceEqDiff, e1, e3, e12, e13, hm]
      have hin : StIn s.vars (stGo s.vars (n : Int)) := stGo_in hs.vars
      refine (f_nextStates hv0 hs hst hin).mono ?_
      rintro nx _ ⟨rfl, hnx⟩
      have hnl := nextF_len hs (stGo s.vars (n : Int))
      simp (maxSteps := 2000000) (disch := first | omega | assumption | exact idP rfl | exact idP (bL rfl)) only [go_sem, reduceIte, Nat.reduceEqDiff, hnx.len]
      refine loop_k (fun e' M' => ∃ (i : Nat) (rv : V), i ≤ (nextF s (stGo s.vars (n : Int))).length ∧ e' 1 = .sc (.ptr (some (bk, 0))) ∧ e' 3 = .sc (.sl (some (b3, 0)) N N true 1) ∧ e' 4 = .sc (.int .i64 n) ∧ e' 12 = .sc (.int .i64 N) ∧ e' 13 = .sc (.int .i64 n) ∧ e' 20 = nx ∧ e' 21 = .sc (.int .i64 (nextF s (stGo s.vars (n : Int))).length) ∧ e' 22 = .sc (.int .i64 i) ∧ M' b3 = some (us ++ rv :: List.replicate q nil1) ∧ blkV rv ≠ some b3 ∧ Gr 1 (M.set bk [a, b]) M' rv ((((nextF s (stGo s.vars (n : Int))).take i).map (numF s.vars)).map vi)) (fun e' _ => ctrV (nextF s (stGo s.vars (n : Int))).length (e' 22)) ?_ ?_
      · exact ⟨0, nil1, by omega, by simp (maxSteps := 2000000) (disch := first | omega | assumption | exact idP rfl | exact idP (bL rfl)) only [go_sem, reduceIte, Nat.reduceEqDiff], by simp (maxSteps := 2000000) (disch := first | omega | assumption | exact idP rfl | exact idP (bL rfl)) only [go_sem, reduceIte, Nat.reduceEqDiff], by simp (maxSteps := 2000000) (disch := first | omega | assumption | exact idP rfl | exact idP (bL rfl)) only [go_sem, reduceIte, Nat.reduceEqDiff], by simp (maxSteps := 2000000) (disch := first | omega | assumption | exact idP rfl | exact idP (bL rfl)) only [go_sem, reduceIte, Nat.reduceEqDiff], by simp (maxSteps := 2000000) (disch := first | omega | assumption | exact idP rfl | exact idP (bL rfl)) only [go_sem, reduceIte, Nat.reduceEqDiff], by simp (maxSteps := 2000000) (disch := first | omega | assumption | exact idP rfl | exact idP (bL rfl)) only [go_sem, reduceIte, Nat.reduceEqDiff], by simp (maxSteps := 2000000) (disch := first | omega | assumption | exact idP rfl | exact idP (bL rfl)) only [go_sem, reduceIte, Nat.reduceEqDiff], by simp (maxSteps := 2000000) (disch := first | omega | assumption | exact idP rfl | exact idP (bL rfl)) only [go_sem, reduceIte, Nat.reduceEqDiff]; rfl, hm3, by simp [nil1, blkV], .nil hsub⟩
      · rintro e' M2 ⟨i, rv, hi, f1, f3, f4, f12, f13, f20, f21, f22, g3, hne, hg2⟩ K2 hK2
        have hm2 := hg2.sub bk _ set_same
        simp (maxSteps := 2000000) (disch := first | omega | assumption | exact idP rfl | exact idP (bL rfl)) only [go_sem, reduceIte, Nat.reduceEqDiff, f1, f3, f4, f12, f13, f20, f21, f22]
        refine cond_dec (fun h => ?_) (fun h => ?_)
        · have hi' : i < (nextF s (stGo s.vars (n : Int))).length := by omega
          have hxi := nextF_in (List.getElem_mem hi')
          have hnth := nth_mid (post := List.replicate q nil1) (x := rv) hul
          have ho1 := hg2.one.1
          have ho2 := hg2.one.2
          have hnN : n < N := by omega
          simp (maxSteps := 2000000) (disch := first | omega | assumption | exact idP rfl | exact idP (bL rfl)) only [go_sem, reduceIte, Nat.reduceEqDiff, f1, f3, f4, f12, f13, f20, f21, f22, hm2, hnx.iaddr, g3, hnth]
          refine (t_number ha (hnx.elt hi') hs.vars hs.v5 hxi).mono ?_
          rintro _ _ ⟨rfl, rfl⟩
          simp (maxSteps := 2000000) (disch := first | omega | assumption | exact idP rfl | exact idP (bL rfl)) only [go_sem, reduceIte, Nat.reduceEqDiff, f1, f3, f4, f12, f13, f20, f21, f22, g3, hnth]
          intro bt hbt
          refine app_int hg2 hbt (by simp; omega) (by omega) ?_
          intro s' M' hg' hoth
          obtain ⟨g3', hne'⟩ := hoth b3 _ g3 hne
          have ho3 := hg'.one.1
          have ho4 := hg'.one.2
          have hsm : (us ++ rv :: List.replicate q nil1).set n s' = us ++ s' :: List.replicate q nil1 := set_mid hul
          have hnl3 : n < (us ++ rv :: List.replicate q nil1).length := by simp; omega
          simp (maxSteps := 2000000) (disch := first | omega | assumption | exact idP rfl | exact idP (bL rfl)) only [go_sem, reduceIte, Nat.reduceEqDiff, f1, f3, f4, f12, f13, f20, f21, f22, g3', ho4, hsm]
          refine hK2 _ _ ⟨i + 1, s', by omega, by simp (maxSteps := 2000000) (disch := first | omega | assumption | exact idP rfl | exact idP (bL rfl)) only [go_sem, reduceIte, Nat.reduceEqDiff], by simp (maxSteps := 2000000) (disch := first | omega | assumption | exact idP rfl | exact idP (bL rfl)) only [go_sem, reduceIte, Nat.reduceEqDiff], by simp (maxSteps := 2000000) (disch := first | omega | assumption | exact idP rfl | exact idP (bL rfl)) only [go_sem, reduceIte, Nat.reduceEqDiff], by simp (maxSteps := 2000000) (disch := first | omega | assumption | exact idP rfl | exact idP (bL rfl)) only [go_sem, reduceIte, Nat.reduceEqDiff], by simp (maxSteps := 2000000) (disch := first | omega | assumption | exact idP rfl | exact idP (bL rfl)) only [go_sem, reduceIte, Nat.reduceEqDiff], by simp (maxSteps := 2000000) (disch := first | omega | assumption | exact idP rfl | exact idP (bL rfl)) only [go_sem, reduceIte, Nat.reduceEqDiff], by simp (maxSteps := 2000000) (disch := first | omega | assumption | exact idP rfl | exact idP (bL rfl)) only [go_sem, reduceIte, Nat.reduceEqDiff], by simp (maxSteps := 2000000) (disch := first | omega | assumption | exact idP rfl | exact idP (bL rfl)) only [go_sem, reduceIte, Nat.reduceEqDiff]; rfl, by simp (maxSteps := 2000000) (disch := first | omega | assumption | exact idP rfl | exact idP (bL rfl)) only [go_sem, reduceIte, Nat.reduceEqDiff], hne', ?_⟩ (by simp (maxSteps := 2000000) (disch := first | omega | assumption | exact idP rfl | exact idP (bL rfl)) only [go_sem, reduceIte, Nat.reduceEqDiff, ctrV_int, f22]; omega)
          rw [take_snoc hi', List.map_append]
          exact hg'.setN hb3 hne'
        · have hie : i = (nextF s (stGo s.vars (n : Int))).length := by omega
          rw [hie, List.take_length] at hg2
          simp (maxSteps := 2000000) (disch := first | omega | assumption | exact idP rfl | exact idP (bL rfl)) only [go_sem, reduceIte, Nat.reduceEqDiff, f1, f3, f4, f12, f13]
          obtain ⟨M3, u, k1, k2, k3, k4⟩ := FzE.row g3 hg2 hne
          refine hK _ _ _ _ (k1 _) ⟨n + 1, us ++ [u], by omega, by simp (maxSteps := 2000000) (disch := first | omega | assumption | exact idP rfl | exact idP (bL rfl)) only [go_sem, reduceIte, Nat.reduceEqDiff, f1], by simp (maxSteps := 2000000) (disch := first | omega | assumption | exact idP rfl | exact idP (bL rfl)) only [go_sem, reduceIte, Nat.reduceEqDiff, f3], by simp (maxSteps := 2000000) (disch := first | omega | assumption | exact idP rfl | exact idP (bL rfl)) only [go_sem, reduceIte, Nat.reduceEqDiff, f12], by simp (maxSteps := 2000000) (disch := first | omega | assumption | exact idP rfl | exact idP (bL rfl)) only [go_sem, reduceIte, Nat.reduceEqDiff, f13]; rfl, k4 hb3, by rw [k3, List.append_assoc]; simp [show N - (n + 1) = q by omega], ?_⟩ (by simp (maxSteps := 2000000) (disch := first | omega | assumption | exact idP rfl | exact idP (bL rfl)) only [go_sem, reduceIte, Nat.reduceEqDiff, ctrV_int, e13, f13]; omega)
          rw [tabF_take hn']
          exact hc.snoc (x := rowF s n) k2.li
    · have hne : n = N := by omega
      subst hne
      rw [List.take_of_length_le (by omega)] at hc
      simp (maxSteps := 2000000) (disch := first | omega | assumption | exact idP rfl | exact idP (bL rfl)) only [go_sem, reduceIte, Nat.reduceEqDiff, e3]
      refine hR _ _ ⟨us, ⟨(show Sub M (M.set bk [a, b]) by (repeat (first | exact Sub.refl _ | assumption | (refine Sub.set' ?_ (by assumption))))).trans hsub, fun b' h' => ?_, .inr ⟨b3, n, true, rfl, by simpa using hm3, by omega⟩⟩, hc⟩
      simp [blkV] at h'; subst h'
      exact (show Sub M (M.set bk [a, b]) by (repeat (first | exact Sub.refl _ | assumption | (refine Sub.set' ?_ (by assumption))))).none hb3
theorem f_nexts {v : V} {s : SysS} (hv : isSys s v) (hs : SysOk s) : VCall Tryz.prog n_impl_nexts [v] M (fun r M' => M = M' ∧ LII r (tabF s)) :=
  (VCall.fr (l := fun _ us => Cs isL us (tabF s)) (t_nexts hv hs) (fun _ _ _ h => h)).mono fun r M' ⟨h1, c, h2, h3⟩ => ⟨h1, h2.lsC h3⟩
end Go.M2

namespace Go.M2
open Go.Proofs
variable {M : MH}
def AscTo (n : Int) (xs : List Int) (k : Nat) : Prop := ∀ i (h : i < xs.length), i < k → (0 ≤ xs[i] ∧ xs[i] ≤ n - 1) ∧ (0 < i → xs[i - 1] < xs[i])
def SetOk (n : Int) (xs : List Int) : Prop := AscTo n xs xs.length
noncomputable def setB (n : Int) (xs : List Int) : Bool := @decide (SetOk n xs) (Classical.propDecidable _)
theorem setB_iff {n : Int} {xs : List Int} : setB n xs = true ↔ SetOk n xs := by unfold setB; exact @decide_eq_true_iff _ (Classical.propDecidable _)
theorem setB_false {n : Int} {xs : List Int} : setB n xs = false ↔ ¬ SetOk n xs := by rw [← setB_iff]; cases setB n xs <;> simp
theorem AscTo.next {n : Int} {xs : List Int} {k : Nat} (h : AscTo n xs k) (hk : k < xs.length) (h1 : 0 ≤ xs[k] ∧ xs[k] ≤ n - 1) (h2 : 0 < k → xs[k - 1] < xs[k]) : AscTo n xs (k + 1) := fun i hi hik => by
  by_cases e : i = k
  · subst e; exact ⟨h1, h2⟩
  · exact h i hi (by omega)
theorem t_setOk {w : V} {xs : List Int} {n : Int} (hw : LI w xs) (hl : xs.length ≤ 1048576) (hn : 0 ≤ n ∧ n ≤ 1099511627776) : VCall Tryz.prog n_impl_setOk [w, .sc (.int .i64 n)] M (fun r M' => M = M' ∧ r = .sc (.bool (setB n xs))) := by
  refine VCall.pure fun R hR => v_impl_setOk rfl ?_
  simp (maxSteps := 2000000) (disch := first | omega | assumption | exact idP rfl | exact idP (bL rfl)) only [go_sem, reduceIte, Nat.reduceEqDiff, hw.len]
  refine loop_k (fun e M' => M' = M ∧ ∃ i : Nat, i ≤ xs.length ∧ e 0 = w ∧ e 1 = .sc (.int .i64 n) ∧ e 7 = w ∧ e 8 = .sc (.int .i64 xs.length) ∧ e 9 = .sc (.int .i64 i) ∧ AscTo n xs i) (fun e _ => ctrV xs.length (e 9)) ?_ ?_
  · exact ⟨rfl, 0, by omega, by simp (maxSteps := 2000000) (disch := first | omega | assumption | exact idP rfl | exact idP (bL rfl)) only [go_sem, reduceIte, Nat.reduceEqDiff], by simp (maxSteps := 2000000) (disch := first | omega | assumption | exact idP rfl | exact idP (bL rfl)) only [go_sem, reduceIte, Nat.reduceEqDiff], by simp (maxSteps := 2000000) (disch := first | omega | assumption | exact idP rfl | exact idP (bL rfl)) only [go_sem, reduceIte, Nat.reduceEqDiff], by simp (maxSteps := 2000000) (disch := first | omega | assumption | exact idP rfl | exact idP (bL rfl)) only [go_sem, reduceIte, Nat.reduceEqDiff], by simp (maxSteps := 2000000) (disch := first | omega | assumption | exact idP rfl | exact idP (bL rfl)) only [go_sem, reduceIte, Nat.reduceEqDiff]; rfl, fun i h h2 => by omega⟩
  · rintro e _ ⟨rfl, i, hi, e0, e1, e7, e8, e9, hj⟩ K hK
    simp (maxSteps := 2000000) (disch := first | omega | assumption | exact idP rfl | exact idP (bL rfl)) only [go_sem, reduceIte, Nat.reduceEqDiff, e0, e1, e7, e8, e9]
    refine cond_dec (fun h => ?_) (fun h => ?_)
    · have hi' : i < xs.length := by omega
      have bad : ¬ ((0 ≤ xs[i] ∧ xs[i] ≤ n - 1) ∧ (0 < i → xs[i - 1] < xs[i])) → setB n xs = false := fun hb => setB_false.2 fun hs => hb (hs i hi' hi')
      by_cases h0 : i = 0
      · subst h0
        (repeat' (first | ((first | with_reducible refine cond_dec (fun h => ?_) (fun h => ?_) | with_reducible refine guardK_dec (fun h => ?_) (fun h => ?_) | with_reducible refine guardD3_dec (fun h => ?_) (fun h => ?_)) <;> first | (exfalso; omega) | (simp (maxSteps := 2000000) (disch := first | omega | assumption | exact idP rfl | exact idP (bL rfl)) only [go_sem, reduceIte, Nat.reduceEqDiff, h, e0, e1, e7, e8, e9, hw.iaddr, hw.at hi']) | skip) | ((first | with_reducible refine cond_split (fun h => ?_) (fun h => ?_) | with_reducible refine guardK_split (fun h => ?_) (fun h => ?_) | with_reducible refine guardD3_split (fun h => ?_) (fun h => ?_)) <;> ((try simp only [Bool.not_eq_true', Bool.not_eq_false'] at h); first | (simp (maxSteps := 2000000) (disch := first | omega | assumption | exact idP rfl | exact idP (bL rfl)) only [go_sem, reduceIte, Nat.reduceEqDiff, h, e0, e1, e7, e8, e9, hw.iaddr, hw.at hi']) | skip)) | ((with_reducible refine (t_in).mono ?_); rintro _ _ ⟨rfl, rfl⟩) | (with_reducible intro bk hbk; try have hnk := (fresh_set hbk).1) | (simp (maxSteps := 2000000) (disch := first | omega | assumption | exact idP rfl | exact idP (bL rfl)) only [go_sem, reduceIte, Nat.reduceEqDiff, e0, e1, e7, e8, e9, hw.iaddr, hw.at hi'])))
        · exact hR _ _ (by (repeat (first | exact Sub.refl _ | assumption | (refine Sub.set' ?_ (by assumption))))) (by rw [bad (by omega)])
        · exact hK _ _ ⟨rfl, 1, by omega, by simp (maxSteps := 2000000) (disch := first | omega | assumption | exact idP rfl | exact idP (bL rfl)) only [go_sem, reduceIte, Nat.reduceEqDiff, e0], by simp (maxSteps := 2000000) (disch := first | omega | assumption | exact idP rfl | exact idP (bL rfl)) only [go_sem, reduceIte, Nat.reduceEqDiff, e1], by simp (maxSteps := 2000000) (disch := first | omega | assumption | exact idP rfl | exact idP (bL rfl)) only [go_sem, reduceIte, Nat.reduceEqDiff, e7], by simp (maxSteps := 2000000) (disch := first | omega | assumption | exact idP rfl | exact idP (bL rfl)) only [go_sem, reduceIte, Nat.reduceEqDiff, e8], by simp (maxSteps := 2000000) (disch := first | omega | assumption | exact idP rfl | exact idP (bL rfl)) only [go_sem, reduceIte, Nat.reduceEqDiff, e9]; rfl, hj.next hi' (by omega) (by omega)⟩ (by simp (maxSteps := 2000000) (disch := first | omega | assumption | exact idP rfl | exact idP (bL rfl)) only [go_sem, reduceIte, Nat.reduceEqDiff, ctrV_int, e9]; omega)
      · have hi2 : i - 1 < xs.length := by omega
        have et : (i : Int) - 1 = ((i - 1 : Nat) : Int) := by omega
        (repeat' (first | ((first | with_reducible refine cond_dec (fun h => ?_) (fun h => ?_) | with_reducible refine guardK_dec (fun h => ?_) (fun h => ?_) | with_reducible refine guardD3_dec (fun h => ?_) (fun h => ?_)) <;> first | (exfalso; omega) | (simp (maxSteps := 2000000) (disch := first | omega | assumption | exact idP rfl | exact idP (bL rfl)) only [go_sem, reduceIte, Nat.reduceEqDiff, h, e0, e1, e7, e8, e9, et, hw.iaddr, hw.at hi', hw.at hi2]) | skip) | ((first | with_reducible refine cond_split (fun h => ?_) (fun h => ?_) | with_reducible refine guardK_split (fun h => ?_) (fun h => ?_) | with_reducible refine guardD3_split (fun h => ?_) (fun h => ?_)) <;> ((try simp only [Bool.not_eq_true', Bool.not_eq_false'] at h); first | (simp (maxSteps := 2000000) (disch := first | omega | assumption | exact idP rfl | exact idP (bL rfl)) only [go_sem, reduceIte, Nat.reduceEqDiff, h, e0, e1, e7, e8, e9, et, hw.iaddr, hw.at hi', hw.at hi2]) | skip)) | ((with_reducible refine (t_in).mono ?_); rintro _ _ ⟨rfl, rfl⟩) | (with_reducible intro bk hbk; try have hnk := (fresh_set hbk).1) | (simp (maxSteps := 2000000) (disch := first | omega | assumption | exact idP rfl | exact idP (bL rfl)) only [go_sem, reduceIte, Nat.reduceEqDiff, e0, e1, e7, e8, e9, et, hw.iaddr, hw.at hi', hw.at hi2])))
        all_goals first
          | exact hR _ _ (by (repeat (first | exact Sub.refl _ | assumption | (refine Sub.set' ?_ (by assumption))))) (by rw [bad (by omega)])
          | exact hK _ _ ⟨rfl, i + 1, by omega, by simp (maxSteps := 2000000) (disch := first | omega | assumption | exact idP rfl | exact idP (bL rfl)) only [go_sem, reduceIte, Nat.reduceEqDiff, e0], by simp (maxSteps := 2000000) (disch := first | omega | assumption | exact idP rfl | exact idP (bL rfl)) only [go_sem, reduceIte, Nat.reduceEqDiff, e1], by simp (maxSteps := 2000000) (disch := first | omega | assumption | exact idP rfl | exact idP (bL rfl)) only [go_sem, reduceIte, Nat.reduceEqDiff, e7], by simp (maxSteps := 2000000) (disch := first | omega | assumption | exact idP rfl | exact idP (bL rfl)) only [go_sem, reduceIte, Nat.reduceEqDiff, e8], by simp (maxSteps := 2000000) (disch := first | omega | assumption | exact idP rfl | exact idP (bL rfl)) only [go_sem, reduceIte, Nat.reduceEqDiff, e9]; rfl, hj.next hi' (by omega) (by omega)⟩ (by simp (maxSteps := 2000000) (disch := first | omega | assumption | exact idP rfl | exact idP (bL rfl)) only [go_sem, reduceIte, Nat.reduceEqDiff, ctrV_int, e9]; omega)
    · obtain rfl : i = xs.length := by omega
      simp (maxSteps := 2000000) (disch := first | omega | assumption | exact idP rfl | exact idP (bL rfl)) only [go_sem, reduceIte, Nat.reduceEqDiff]
      exact hR _ _ (by (repeat (first | exact Sub.refl _ | assumption | (refine Sub.set' ?_ (by assumption))))) (by rw [setB_iff.2 hj])
noncomputable def sizeB (s : SysS) : Int := if sysB s = true then sizeF s.vars else 0
theorem t_SizeOfB {v : V} {s : SysS} (hv : isSys s v) : VCall Tryz.prog n_spec_SizeOf [v] M (fun r M' => M = M' ∧ r = .sc (.int .i64 (sizeB s))) := by
  by_cases hs : sysB s = true
  · refine (t_SizeOf hv ((sysB_iff s).1 hs)).mono ?_
    rintro r _ ⟨rfl, rfl⟩
    exact ⟨rfl, by simp [sizeB, hs]⟩
  · refine VCall.pure fun R hR => v_spec_SizeOf rfl ?_
    have hv0 := hv
    obtain ⟨a, b, rfl, ha, hb⟩ := hv
    (repeat' (first | ((first | with_reducible refine cond_dec (fun h => ?_) (fun h => ?_) | with_reducible refine guardK_dec (fun h => ?_) (fun h => ?_) | with_reducible refine guardD3_dec (fun h => ?_) (fun h => ?_)) <;> first | (exfalso; omega) | (simp (maxSteps := 2000000) (disch := first | omega | assumption | exact idP rfl | exact idP (bL rfl)) only [go_sem, reduceIte, Nat.reduceEqDiff, h]) | skip) | ((first | with_reducible refine cond_split (fun h => ?_) (fun h => ?_) | with_reducible refine guardK_split (fun h => ?_) (fun h => ?_) | with_reducible refine guardD3_split (fun h => ?_) (fun h => ?_)) <;> ((try simp only [Bool.not_eq_true', Bool.not_eq_false'] at h); first | (simp (maxSteps := 2000000) (disch := first | omega | assumption | exact idP rfl | exact idP (bL rfl)) only [go_sem, reduceIte, Nat.reduceEqDiff, h]) | skip)) | (with_reducible intro bk hbk; try have hnk := (fresh_set hbk).1) | (simp (maxSteps := 2000000) (disch := first | omega | assumption | exact idP rfl | exact idP (bL rfl)) only [go_sem, reduceIte, Nat.reduceEqDiff])))
    refine (t_SystemValidS hv0).mono ?_
    rintro _ _ ⟨rfl, rfl⟩
    simp only [Bool.not_eq_true] at hs
    simp (maxSteps := 2000000) (disch := first | omega | assumption | exact idP rfl | exact idP (bL rfl)) only [go_sem, reduceIte, Nat.reduceEqDiff, hs]
    exact hR _ _ (by (repeat (first | exact Sub.refl _ | assumption | (refine Sub.set' ?_ (by assumption))))) (by simp [sizeB, hs])
theorem sizeB_bd (s : SysS) : 0 ≤ sizeB s ∧ sizeB s ≤ 400 ∧ (0 < sizeB s ↔ sysB s = true) := by
  unfold sizeB
  split
  · rename_i h
    have := ((sysB_iff s).1 h).sz
    exact ⟨by omega, by omega, by simp [h]; omega⟩
  · rename_i h; simp [h]
noncomputable def setV (s : SysS) (xs : List Int) : Bool := sysB s && setB (sizeF s.vars) xs
theorem setV_eq (s : SysS) (xs : List Int) : setV s xs = (decide (0 < sizeB s) && setB (sizeB s) xs) := by
  unfold setV
  cases h : sysB s with
  | true => simp [sizeB, h, ((sysB_iff s).1 h).sz.1]; intro; have := ((sysB_iff s).1 h).sz.1; omega
  | false => simp [sizeB, h]
theorem t_specSetValid {v w : V} {s : SysS} {xs : List Int} (hv : isSys s v) (hw : LI w xs) (hl : xs.length ≤ 1048576) : VCall Tryz.prog n_spec_SetValid [v, w] M (fun r M' => M = M' ∧ r = .sc (.bool (setV s xs))) := by
  refine VCall.pure fun R hR => v_spec_SetValid rfl ?_
  have hv0 := hv
  obtain ⟨a, b, rfl, ha, hb⟩ := hv
  have hbd := sizeB_bd s
  rw [setV_eq] at hR
  (repeat' (first | ((first | with_reducible refine cond_dec (fun h => ?_) (fun h => ?_) | with_reducible refine guardK_dec (fun h => ?_) (fun h => ?_) | with_reducible refine guardD3_dec (fun h => ?_) (fun h => ?_)) <;> first | (exfalso; omega) | (simp (maxSteps := 2000000) (disch := first | omega | assumption | exact idP rfl | exact idP (bL rfl)) only [go_sem, reduceIte, Nat.reduceEqDiff, h]) | skip) | ((first | with_reducible refine cond_split (fun h => ?_) (fun h => ?_) | with_reducible refine guardK_split (fun h => ?_) (fun h => ?_) | with_reducible refine guardD3_split (fun h => ?_) (fun h => ?_)) <;> ((try simp only [Bool.not_eq_true', Bool.not_eq_false'] at h); first | (simp (maxSteps := 2000000) (disch := first | omega | assumption | exact idP rfl | exact idP (bL rfl)) only [go_sem, reduceIte, Nat.reduceEqDiff, h]) | skip)) | ((with_reducible refine (t_SizeOfB hv0).mono ?_); rintro _ _ ⟨rfl, rfl⟩) | (with_reducible intro bk hbk; try have hnk := (fresh_set hbk).1) | (simp (maxSteps := 2000000) (disch := first | omega | assumption | exact idP rfl | exact idP (bL rfl)) only [go_sem, reduceIte, Nat.reduceEqDiff])))
  refine loop_k (fun e M' => Sub M M' ∧ ∃ i : Nat, i ≤ xs.length ∧ e 1 = w ∧ e 5 = .sc (.int .i64 (sizeB s)) ∧ e 6 = .sc (.int .i64 i) ∧ AscTo (sizeB s) xs i) (fun e _ => ctrV xs.length (e 6)) ?_ ?_
  · exact ⟨by (repeat (first | exact Sub.refl _ | assumption | (refine Sub.set' ?_ (by assumption)))), 0, by omega, by simp (maxSteps := 2000000) (disch := first | omega | assumption | exact idP rfl | exact idP (bL rfl)) only [go_sem, reduceIte, Nat.reduceEqDiff], by simp (maxSteps := 2000000) (disch := first | omega | assumption | exact idP rfl | exact idP (bL rfl)) only [go_sem, reduceIte, Nat.reduceEqDiff], by simp (maxSteps := 2000000) (disch := first | omega | assumption | exact idP rfl | exact idP (bL rfl)) only [go_sem, reduceIte, Nat.reduceEqDiff]; rfl, fun i h h2 => by omega⟩
  · rintro e M1 ⟨hsub, i, hi, e1, e5, e6, hj⟩ K hK
    simp (maxSteps := 2000000) (disch := first | omega | assumption | exact idP rfl | exact idP (bL rfl)) only [go_sem, reduceIte, Nat.reduceEqDiff, e1, e5, e6, hw.len]
    refine cond_dec (fun h => ?_) (fun h => ?_)
    · have hi' : i < xs.length := by omega
      have bad : ¬ ((0 ≤ xs[i] ∧ xs[i] ≤ sizeB s - 1) ∧ (0 < i → xs[i - 1] < xs[i])) → setB (sizeB s) xs = false := fun hb => setB_false.2 fun hs => hb (hs i hi' hi')
      by_cases h0 : i = 0
      · subst h0
        (repeat' (first | ((first | with_reducible refine cond_dec (fun h => ?_) (fun h => ?_) | with_reducible refine guardK_dec (fun h => ?_) (fun h => ?_) | with_reducible refine guardD3_dec (fun h => ?_) (fun h => ?_)) <;> first | (exfalso; omega) | (simp (maxSteps := 2000000) (disch := first | omega | assumption | exact idP rfl | exact idP (bL rfl)) only [go_sem, reduceIte, Nat.reduceEqDiff, h, e1, e5, e6, hw.iaddr, hw.at hi']) | skip) | ((first | with_reducible refine cond_split (fun h => ?_) (fun h => ?_) | with_reducible refine guardK_split (fun h => ?_) (fun h => ?_) | with_reducible refine guardD3_split (fun h => ?_) (fun h => ?_)) <;> ((try simp only [Bool.not_eq_true', Bool.not_eq_false'] at h); first | (simp (maxSteps := 2000000) (disch := first | omega | assumption | exact idP rfl | exact idP (bL rfl)) only [go_sem, reduceIte, Nat.reduceEqDiff, h, e1, e5, e6, hw.iaddr, hw.at hi']) | skip)) | ((with_reducible refine (t_l1In).mono ?_); rintro _ _ ⟨rfl, rfl⟩) | (with_reducible intro bk hbk; try have hnk := (fresh_set hbk).1) | (simp (maxSteps := 2000000) (disch := first | omega | assumption | exact idP rfl | exact idP (bL rfl)) only [go_sem, reduceIte, Nat.reduceEqDiff, e1, e5, e6, hw.iaddr, hw.at hi'])))
        · exact hR _ _ hsub (by rw [bad (by omega), Bool.and_false])
        · exact hK _ _ ⟨hsub, 1, by omega, by simp (maxSteps := 2000000) (disch := first | omega | assumption | exact idP rfl | exact idP (bL rfl)) only [go_sem, reduceIte, Nat.reduceEqDiff, e1], by simp (maxSteps := 2000000) (disch := first | omega | assumption | exact idP rfl | exact idP (bL rfl)) only [go_sem, reduceIte, Nat.reduceEqDiff, e5], by simp (maxSteps := 2000000) (disch := first | omega | assumption | exact idP rfl | exact idP (bL rfl)) only [go_sem, reduceIte, Nat.reduceEqDiff, e6]; rfl, hj.next hi' (by omega) (by omega)⟩ (by simp (maxSteps := 2000000) (disch := first | omega | assumption | exact idP rfl | exact idP (bL rfl)) only [go_sem, reduceIte, Nat.reduceEqDiff, ctrV_int, e6]; omega)
      · have hi2 : i - 1 < xs.length := by omega
        have et : (i : Int) - 1 = ((i - 1 : Nat) : Int) := by omega
        (repeat' (first | ((first | with_reducible refine cond_dec (fun h => ?_) (fun h => ?_) | with_reducible refine guardK_dec (fun h => ?_) (fun h => ?_) | with_reducible refine guardD3_dec (fun h => ?_) (fun h => ?_)) <;> first | (exfalso; omega) | (simp (maxSteps := 2000000) (disch := first | omega | assumption | exact idP rfl | exact idP (bL rfl)) only [go_sem, reduceIte, Nat.reduceEqDiff, h, e1, e5, e6, et, hw.iaddr, hw.at hi', hw.at hi2]) | skip) | ((first | with_reducible refine cond_split (fun h => ?_) (fun h => ?_) | with_reducible refine guardK_split (fun h => ?_) (fun h => ?_) | with_reducible refine guardD3_split (fun h => ?_) (fun h => ?_)) <;> ((try simp only [Bool.not_eq_true', Bool.not_eq_false'] at h); first | (simp (maxSteps := 2000000) (disch := first | omega | assumption | exact idP rfl | exact idP (bL rfl)) only [go_sem, reduceIte, Nat.reduceEqDiff, h, e1, e5, e6, et, hw.iaddr, hw.at hi', hw.at hi2]) | skip)) | ((with_reducible refine (t_l1In).mono ?_); rintro _ _ ⟨rfl, rfl⟩) | (with_reducible intro bk hbk; try have hnk := (fresh_set hbk).1) | (simp (maxSteps := 2000000) (disch := first | omega | assumption | exact idP rfl | exact idP (bL rfl)) only [go_sem, reduceIte, Nat.reduceEqDiff, e1, e5, e6, et, hw.iaddr, hw.at hi', hw.at hi2])))
        all_goals first
          | exact hR _ _ hsub (by rw [bad (by omega), Bool.and_false])
          | exact hK _ _ ⟨hsub, i + 1, by omega, by simp (maxSteps := 2000000) (disch := first | omega | assumption | exact idP rfl | exact idP (bL rfl)) only [go_sem, reduceIte, Nat.reduceEqDiff, e1], by simp (maxSteps := 2000000) (disch := first | omega | assumption | exact idP rfl | exact idP (bL rfl)) only [go_sem, reduceIte, Nat.reduceEqDiff, e5], by simp (maxSteps := 2000000) (disch := first | omega | assumption | exact idP rfl | exact idP (bL rfl)) only [go_sem, reduceIte, Nat.reduceEqDiff, e6]; rfl, hj.next hi' (by omega) (by omega)⟩ (by simp (maxSteps := 2000000) (disch := first | omega | assumption | exact idP rfl | exact idP (bL rfl)) only [go_sem, reduceIte, Nat.reduceEqDiff, ctrV_int, e6]; omega)
    · obtain rfl : i = xs.length := by omega
      simp (maxSteps := 2000000) (disch := first | omega | assumption | exact idP rfl | exact idP (bL rfl)) only [go_sem, reduceIte, Nat.reduceEqDiff]
      exact hR _ _ hsub (by rw [setB_iff.2 hj, Bool.and_true])
end Go.M2

namespace Go.M2
open Go.Proofs
variable {M : MH}
def mkL (n : Nat) (p : Nat → Bool) : List Bool := (List.range n).map p
theorem mkL_len {n : Nat} {p : Nat → Bool} : (mkL n p).length = n := by simp [mkL]
theorem mkL_get {n : Nat} {p : Nat → Bool} {i : Nat} (h : i < (mkL n p).length) : (mkL n p)[i] = p i := by simp [mkL]
theorem mkL_ext {n : Nat} {p q : Nat → Bool} (h : ∀ i, i < n → p i = q i) : mkL n p = mkL n q := by
  unfold mkL
  exact List.map_congr_left fun i hi => h i (List.mem_range.1 hi)
theorem mkL_set {n k : Nat} {p q : Nat → Bool} (h : ∀ i, i < n → q i = (p i || decide (i = k))) : (mkL n p).set k true = mkL n q := by
  apply List.ext_getElem
  · simp [mkL]
  · intro i h1 h2
    have hi : i < n := by rw [mkL_len] at h2; exact h2
    rw [List.getElem_set]
    split
    · rename_i e; subst e; rw [mkL_get, h _ hi]; simp
    · rename_i e
      have e' : ¬ i = k := fun h => e h.symm
      rw [mkL_get, mkL_get, h _ hi]; simp [e']
theorem mkL_none {n : Nat} : List.replicate n false = mkL n (fun _ => false) := by
  unfold mkL
  rw [List.map_const', List.length_range]
theorem zeros_vb' (n : Nat) : (zeros [AV.bool false] n).map V.sc = (List.replicate n false).map vb := by
  induction n with
  | zero => rfl
  | succ n ih => simp only [zeros, List.replicate_succ, List.flatten_cons, List.map_append, List.map_cons] at ih ⊢; rw [ih]; rfl
theorem set_vb' {bs : List Bool} {i : Nat} {b : Bool} : (bs.map vb).set i (.sc (.bool b)) = (bs.set i b).map vb := by rw [List.map_set]; rfl
theorem len_vb' {bs : List Bool} : (bs.map vb).length = bs.length := List.length_map ..
def selL (n : Nat) (p : Nat → Bool) : List Int := ((List.range n).filter p).map (fun i : Nat => (i : Int))
theorem selL_succ {n : Nat} {p : Nat → Bool} : selL (n + 1) p = if p n = true then selL n p ++ [(n : Int)] else selL n p := by
  unfold selL
  rw [List.range_succ, List.filter_append]
  cases h : p n <;> simp [h]
theorem selL_len {n : Nat} {p : Nat → Bool} : (selL n p).length ≤ n := by
  unfold selL
  rw [List.length_map]
  exact Nat.le_trans (List.length_filter_le ..) (by simp)
theorem selL_ext {n : Nat} {p q : Nat → Bool} (h : ∀ i, i < n → p i = q i) : selL n p = selL n q := by
  unfold selL
  rw [List.filter_congr fun i hi => h i (List.mem_range.1 hi)]
theorem mem_selL {n : Nat} {p : Nat → Bool} {x : Int} : x ∈ selL n p ↔ ∃ i : Nat, i < n ∧ p i = true ∧ (i : Int) = x := by
  unfold selL
  simp only [List.mem_map, List.mem_filter, List.mem_range]
  constructor
  · rintro ⟨i, ⟨h1, h2⟩, h3⟩; exact ⟨i, h1, h2, h3⟩
  · rintro ⟨i, h1, h2, h3⟩; exact ⟨i, ⟨h1, h2⟩, h3⟩
def inL (xs : List Int) (i : Nat) : Bool := decide ((i : Int) ∈ xs)
theorem t_marks {w : V} {xs : List Int} {n : Nat} (hw : LI w xs) (hn : n ≤ 1048576) (hl : xs.length ≤ 1048576) (hin : ∀ x ∈ xs, 0 ≤ x ∧ x < (n : Int)) :
    VCall Tryz.prog n_impl_marks [w, .sc (.int .i64 n)] M (fun r M' => Gr 1 M M' r ((mkL n (inL xs)).map vb)) := by
  refine VCall.plain fun R hR => v_impl_marks rfl ?_
  simp (maxSteps := 2000000) (disch := first | omega | assumption | exact idP rfl | exact idP (bL rfl)) only [go_sem, reduceIte, Nat.reduceEqDiff]
  refine mks3 (by omega) (by simp [mostCells]; omega) (by simp [mostCells]; omega) ?_
  intro b9 hb9
  simp (maxSteps := 2000000) (disch := first | omega | assumption | exact idP rfl | exact idP (bL rfl)) only [go_sem, reduceIte, Nat.reduceEqDiff, hw.len, zeros_vb', mkL_none]
  refine loop_k (fun e M' => ∃ i : Nat, i ≤ xs.length ∧ e 5 = .sc (.sl (some (b9, 0)) n n true 1) ∧ e 10 = w ∧ e 11 = .sc (.int .i64 xs.length) ∧ e 12 = .sc (.int .i64 i) ∧ Sub M M' ∧ M' b9 = some ((mkL n (inL (xs.take i))).map vb)) (fun e _ => ctrV xs.length (e 12)) ?_ ?_
  · refine ⟨0, by omega, by simp (maxSteps := 2000000) (disch := first | omega | assumption | exact idP rfl | exact idP (bL rfl)) only [go_sem, reduceIte, Nat.reduceEqDiff], by simp (maxSteps := 2000000) (disch := first | omega | assumption | exact idP rfl | exact idP (bL rfl)) only [go_sem, reduceIte, Nat.reduceEqDiff], by simp (maxSteps := 2000000) (disch := first | omega | assumption | exact idP rfl | exact idP (bL rfl)) only [go_sem, reduceIte, Nat.reduceEqDiff], by simp (maxSteps := 2000000) (disch := first | omega | assumption | exact idP rfl | exact idP (bL rfl)) only [go_sem, reduceIte, Nat.reduceEqDiff]; rfl, (Sub.refl _).set hb9, ?_⟩
    simp (maxSteps := 2000000) (disch := first | omega | assumption | exact idP rfl | exact idP (bL rfl)) only [go_sem, reduceIte, Nat.reduceEqDiff]
    rw [mkL_ext]
    intro i hi; simp [inL]
  · rintro e M1 ⟨i, hi, e5, e10, e11, e12, hsub, hm⟩ K hK
    simp (maxSteps := 2000000) (disch := first | omega | assumption | exact idP rfl | exact idP (bL rfl)) only [go_sem, reduceIte, Nat.reduceEqDiff, e5, e10, e11, e12]
    refine cond_dec (fun h => ?_) (fun h => ?_)
    · have hi' : i < xs.length := by omega
      have hxi := hin _ (List.getElem_mem hi')
      have hso : xs[i].toNat < ((mkL n (inL (xs.take i))).map vb).length := by rw [len_vb', mkL_len]; omega
      simp (maxSteps := 2000000) (disch := first | omega | assumption | exact idP rfl | exact idP (bL rfl)) only [go_sem, reduceIte, Nat.reduceEqDiff, e5, e10, e11, e12, hw.iaddr, hw.at hi', hm]
      refine hK _ _ ⟨i + 1, by omega, by simp (maxSteps := 2000000) (disch := first | omega | assumption | exact idP rfl | exact idP (bL rfl)) only [go_sem, reduceIte, Nat.reduceEqDiff], by simp (maxSteps := 2000000) (disch := first | omega | assumption | exact idP rfl | exact idP (bL rfl)) only [go_sem, reduceIte, Nat.reduceEqDiff], by simp (maxSteps := 2000000) (disch := first | omega | assumption | exact idP rfl | exact idP (bL rfl)) only [go_sem, reduceIte, Nat.reduceEqDiff], by simp (maxSteps := 2000000) (disch := first | omega | assumption | exact idP rfl | exact idP (bL rfl)) only [go_sem, reduceIte, Nat.reduceEqDiff]; rfl, hsub.set hb9, ?_⟩ (by simp (maxSteps := 2000000) (disch := first | omega | assumption | exact idP rfl | exact idP (bL rfl)) only [go_sem, reduceIte, Nat.reduceEqDiff, ctrV_int, e12]; omega)
      simp (maxSteps := 2000000) (disch := first | omega | assumption | exact idP rfl | exact idP (bL rfl)) only [go_sem, reduceIte, Nat.reduceEqDiff]
      rw [set_vb', mkL_set]
      intro j hj
      simp only [inL, take_snoc hi', List.mem_append, List.mem_singleton, Bool.decide_or]
      congr 1
      apply decide_eq_decide.2
      omega
    · obtain rfl : i = xs.length := by omega
      rw [List.take_length] at hm
      simp (maxSteps := 2000000) (disch := first | omega | assumption | exact idP rfl | exact idP (bL rfl)) only [go_sem, reduceIte, Nat.reduceEqDiff, e5]
      exact hR _ _ ⟨hsub, fun b' h' => by simp [blkV] at h'; subst h'; exact hb9, .inr ⟨b9, n, true, rfl, hm, by rw [len_vb', mkL_len]; omega⟩⟩
theorem t_l4Marks {w : V} {xs : List Int} {n : Nat} (hw : LI w xs) (hn : n ≤ 1048576) (hl : xs.length ≤ 1048576) (hin : ∀ x ∈ xs, 0 ≤ x ∧ x < (n : Int)) :
    VCall Tryz.prog n_spec_l4Marks [w, .sc (.int .i64 n)] M (fun r M' => Gr 1 M M' r ((mkL n (inL xs)).map vb)) := by
  refine VCall.plain fun R hR => v_spec_l4Marks rfl ?_
  simp (maxSteps := 2000000) (disch := first | omega | assumption | exact idP rfl | exact idP (bL rfl)) only [go_sem, reduceIte, Nat.reduceEqDiff]
  refine mks3 (by omega) (by simp [mostCells]; omega) (by simp [mostCells]; omega) ?_
  intro b9 hb9
  simp (maxSteps := 2000000) (disch := first | omega | assumption | exact idP rfl | exact idP (bL rfl)) only [go_sem, reduceIte, Nat.reduceEqDiff, zeros_vb', mkL_none]
  refine loop_k (fun e M' => ∃ i : Nat, i ≤ xs.length ∧ e 5 = .sc (.sl (some (b9, 0)) n n true 1) ∧ e 0 = w ∧ e 6 = .sc (.int .i64 i) ∧ Sub M M' ∧ M' b9 = some ((mkL n (inL (xs.take i))).map vb)) (fun e _ => ctrV xs.length (e 6)) ?_ ?_
  · refine ⟨0, by omega, by simp (maxSteps := 2000000) (disch := first | omega | assumption | exact idP rfl | exact idP (bL rfl)) only [go_sem, reduceIte, Nat.reduceEqDiff], by simp (maxSteps := 2000000) (disch := first | omega | assumption | exact idP rfl | exact idP (bL rfl)) only [go_sem, reduceIte, Nat.reduceEqDiff], by simp (maxSteps := 2000000) (disch := first | omega | assumption | exact idP rfl | exact idP (bL rfl)) only [go_sem, reduceIte, Nat.reduceEqDiff]; rfl, (Sub.refl _).set hb9, ?_⟩
    simp (maxSteps := 2000000) (disch := first | omega | assumption | exact idP rfl | exact idP (bL rfl)) only [go_sem, reduceIte, Nat.reduceEqDiff]
    rw [mkL_ext]
    intro i hi; simp [inL]
  · rintro e M1 ⟨i, hi, e5, e0, e6, hsub, hm⟩ K hK
    simp (maxSteps := 2000000) (disch := first | omega | assumption | exact idP rfl | exact idP (bL rfl)) only [go_sem, reduceIte, Nat.reduceEqDiff, e0, e5, e6, hw.len]
    refine cond_dec (fun h => ?_) (fun h => ?_)
    · have hi' : i < xs.length := by omega
      have hxi := hin _ (List.getElem_mem hi')
      have hso : xs[i].toNat < ((mkL n (inL (xs.take i))).map vb).length := by rw [len_vb', mkL_len]; omega
      simp (maxSteps := 2000000) (disch := first | omega | assumption | exact idP rfl | exact idP (bL rfl)) only [go_sem, reduceIte, Nat.reduceEqDiff, e0, e5, e6, hw.iaddr, hw.at hi', hm]
      refine hK _ _ ⟨i + 1, by omega, by simp (maxSteps := 2000000) (disch := first | omega | assumption | exact idP rfl | exact idP (bL rfl)) only [go_sem, reduceIte, Nat.reduceEqDiff], by simp (maxSteps := 2000000) (disch := first | omega | assumption | exact idP rfl | exact idP (bL rfl)) only [go_sem, reduceIte, Nat.reduceEqDiff], by simp (maxSteps := 2000000) (disch := first | omega | assumption | exact idP rfl | exact idP (bL rfl)) only [go_sem, reduceIte, Nat.reduceEqDiff]; rfl, hsub.set hb9, ?_⟩ (by simp (maxSteps := 2000000) (disch := first | omega | assumption | exact idP rfl | exact idP (bL rfl)) only [go_sem, reduceIte, Nat.reduceEqDiff, ctrV_int, e6]; omega)
      simp (maxSteps := 2000000) (disch := first | omega | assumption | exact idP rfl | exact idP (bL rfl)) only [go_sem, reduceIte, Nat.reduceEqDiff]
      rw [set_vb', mkL_set]
      intro j hj
      simp only [inL, take_snoc hi', List.mem_append, List.mem_singleton, Bool.decide_or]
      congr 1
      apply decide_eq_decide.2
      omega
    · obtain rfl : i = xs.length := by omega
      rw [List.take_length] at hm
      simp (maxSteps := 2000000) (disch := first | omega | assumption | exact idP rfl | exact idP (bL rfl)) only [go_sem, reduceIte, Nat.reduceEqDiff, e5]
      exact hR _ _ ⟨hsub, fun b' h' => by simp [blkV] at h'; subst h'; exact hb9, .inr ⟨b9, n, true, rfl, hm, by rw [len_vb', mkL_len]; omega⟩⟩
end Go.M2

namespace Go.M2
open Go.Proofs
variable {M : MH}
theorem t_listOf {w : V} {n : Nat} {p : Nat → Bool} (hw : LB w (mkL n p)) (hn : n ≤ 1048576) : VCall Tryz.prog n_impl_listOf [w] M (fun r M' => Gr 1 M M' r ((selL n p).map vi)) := by
  refine VCall.plain fun R hR => v_impl_listOf rfl ?_
  have hlen := hw.len
  rw [mkL_len] at hlen
  simp (maxSteps := 2000000) (disch := first | omega | assumption | exact idP rfl | exact idP (bL rfl)) only [go_sem, reduceIte, Nat.reduceEqDiff, hlen]
  refine loop_k (fun e M' => ∃ i : Nat, i ≤ n ∧ e 6 = w ∧ e 7 = .sc (.int .i64 n) ∧ e 8 = .sc (.int .i64 i) ∧ Gr 1 M M' (e 3) ((selL i p).map vi)) (fun e _ => ctrV n (e 8)) ?_ ?_
  · exact ⟨0, by omega, by simp (maxSteps := 2000000) (disch := first | omega | assumption | exact idP rfl | exact idP (bL rfl)) only [go_sem, reduceIte, Nat.reduceEqDiff], by simp (maxSteps := 2000000) (disch := first | omega | assumption | exact idP rfl | exact idP (bL rfl)) only [go_sem, reduceIte, Nat.reduceEqDiff], by simp (maxSteps := 2000000) (disch := first | omega | assumption | exact idP rfl | exact idP (bL rfl)) only [go_sem, reduceIte, Nat.reduceEqDiff]; rfl, by simp (maxSteps := 2000000) (disch := first | omega | assumption | exact idP rfl | exact idP (bL rfl)) only [go_sem, reduceIte, Nat.reduceEqDiff]; exact .nil (Sub.refl _)⟩
  · rintro e M1 ⟨i, hi, e6, e7, e8, hg⟩ K hK
    have hsl : (selL i p).length ≤ i := selL_len
    simp (maxSteps := 2000000) (disch := first | omega | assumption | exact idP rfl | exact idP (bL rfl)) only [go_sem, reduceIte, Nat.reduceEqDiff, e6, e7, e8]
    refine cond_dec (fun h => ?_) (fun h => ?_)
    · have hi' : i < (mkL n p).length := by rw [mkL_len]; omega
      simp (maxSteps := 2000000) (disch := first | omega | assumption | exact idP rfl | exact idP (bL rfl)) only [go_sem, reduceIte, Nat.reduceEqDiff, e6, e7, e8, hw.iaddr, hw.at hi', mkL_get]
      refine cond_split (fun h2 => ?_) (fun h2 => ?_)
      · simp (maxSteps := 2000000) (disch := first | omega | assumption | exact idP rfl | exact idP (bL rfl)) only [go_sem, reduceIte, Nat.reduceEqDiff]
        intro bt hbt
        refine app_int hg hbt (by omega) (by omega) ?_
        intro s' M' hg' _
        simp (maxSteps := 2000000) (disch := first | omega | assumption | exact idP rfl | exact idP (bL rfl)) only [go_sem, reduceIte, Nat.reduceEqDiff]
        exact hK _ _ ⟨i + 1, by omega, by simp (maxSteps := 2000000) (disch := first | omega | assumption | exact idP rfl | exact idP (bL rfl)) only [go_sem, reduceIte, Nat.reduceEqDiff], by simp (maxSteps := 2000000) (disch := first | omega | assumption | exact idP rfl | exact idP (bL rfl)) only [go_sem, reduceIte, Nat.reduceEqDiff], by simp (maxSteps := 2000000) (disch := first | omega | assumption | exact idP rfl | exact idP (bL rfl)) only [go_sem, reduceIte, Nat.reduceEqDiff]; rfl, by simp (maxSteps := 2000000) (disch := first | omega | assumption | exact idP rfl | exact idP (bL rfl)) only [go_sem, reduceIte, Nat.reduceEqDiff]; rw [selL_succ, if_pos h2]; exact hg'⟩ (by simp (maxSteps := 2000000) (disch := first | omega | assumption | exact idP rfl | exact idP (bL rfl)) only [go_sem, reduceIte, Nat.reduceEqDiff, ctrV_int, e8]; omega)
      · simp (maxSteps := 2000000) (disch := first | omega | assumption | exact idP rfl | exact idP (bL rfl)) only [go_sem, reduceIte, Nat.reduceEqDiff]
        exact hK _ _ ⟨i + 1, by omega, by simp (maxSteps := 2000000) (disch := first | omega | assumption | exact idP rfl | exact idP (bL rfl)) only [go_sem, reduceIte, Nat.reduceEqDiff], by simp (maxSteps := 2000000) (disch := first | omega | assumption | exact idP rfl | exact idP (bL rfl)) only [go_sem, reduceIte, Nat.reduceEqDiff], by simp (maxSteps := 2000000) (disch := first | omega | assumption | exact idP rfl | exact idP (bL rfl)) only [go_sem, reduceIte, Nat.reduceEqDiff]; rfl, by simp (maxSteps := 2000000) (disch := first | omega | assumption | exact idP rfl | exact idP (bL rfl)) only [go_sem, reduceIte, Nat.reduceEqDiff]; rw [selL_succ, if_neg (by simpa using h2)]; exact hg⟩ (by simp (maxSteps := 2000000) (disch := first | omega | assumption | exact idP rfl | exact idP (bL rfl)) only [go_sem, reduceIte, Nat.reduceEqDiff, ctrV_int, e8]; omega)
    · obtain rfl : i = n := by omega
      simp (maxSteps := 2000000) (disch := first | omega | assumption | exact idP rfl | exact idP (bL rfl)) only [go_sem, reduceIte, Nat.reduceEqDiff]
      refine (VCall.give0 hg fun u M2 hu hs2 => (t_cloneInt hu.li (by omega)).mono fun r M' hr => hr.base hs2).mono ?_
      rintro r M2 hg2
      simp (maxSteps := 2000000) (disch := first | omega | assumption | exact idP rfl | exact idP (bL rfl)) only [go_sem, reduceIte, Nat.reduceEqDiff]
      exact hR _ _ hg2
theorem t_l4List {w : V} {n : Nat} {p : Nat → Bool} (hw : LB w (mkL n p)) (hn : n ≤ 1048576) : VCall Tryz.prog n_spec_l4List [w] M (fun r M' => Gr 1 M M' r ((selL n p).map vi)) := by
  refine VCall.plain fun R hR => v_spec_l4List rfl ?_
  have hlen := hw.len
  rw [mkL_len] at hlen
  simp (maxSteps := 2000000) (disch := first | omega | assumption | exact idP rfl | exact idP (bL rfl)) only [go_sem, reduceIte, Nat.reduceEqDiff]
  intro b0 hb0
  refine loop_k (fun e M' => ∃ i : Nat, i ≤ n ∧ e 0 = w ∧ e 4 = .sc (.int .i64 i) ∧ Gr 1 M M' (e 3) ((selL i p).map vi)) (fun e _ => ctrV n (e 4)) ?_ ?_
  · exact ⟨0, by omega, by simp (maxSteps := 2000000) (disch := first | omega | assumption | exact idP rfl | exact idP (bL rfl)) only [go_sem, reduceIte, Nat.reduceEqDiff], by simp (maxSteps := 2000000) (disch := first | omega | assumption | exact idP rfl | exact idP (bL rfl)) only [go_sem, reduceIte, Nat.reduceEqDiff]; rfl, by simp (maxSteps := 2000000) (disch := first | omega | assumption | exact idP rfl | exact idP (bL rfl)) only [go_sem, reduceIte, Nat.reduceEqDiff]; exact Gr.new' (Sub.refl _) hb0 rfl⟩
  · rintro e M1 ⟨i, hi, e0, e4, hg⟩ K hK
    have hsl : (selL i p).length ≤ i := selL_len
    simp (maxSteps := 2000000) (disch := first | omega | assumption | exact idP rfl | exact idP (bL rfl)) only [go_sem, reduceIte, Nat.reduceEqDiff, e0, e4, hlen]
    refine cond_dec (fun h => ?_) (fun h => ?_)
    · have hi' : i < (mkL n p).length := by rw [mkL_len]; omega
      simp (maxSteps := 2000000) (disch := first | omega | assumption | exact idP rfl | exact idP (bL rfl)) only [go_sem, reduceIte, Nat.reduceEqDiff, e0, e4, hw.iaddr, hw.at hi', mkL_get]
      refine cond_split (fun h2 => ?_) (fun h2 => ?_)
      · simp (maxSteps := 2000000) (disch := first | omega | assumption | exact idP rfl | exact idP (bL rfl)) only [go_sem, reduceIte, Nat.reduceEqDiff, e0, e4]
        intro bt hbt
        refine app_int hg hbt (by omega) (by omega) ?_
        intro s' M' hg' _
        simp (maxSteps := 2000000) (disch := first | omega | assumption | exact idP rfl | exact idP (bL rfl)) only [go_sem, reduceIte, Nat.reduceEqDiff, e0, e4]
        exact hK _ _ ⟨i + 1, by omega, by simp (maxSteps := 2000000) (disch := first | omega | assumption | exact idP rfl | exact idP (bL rfl)) only [go_sem, reduceIte, Nat.reduceEqDiff], by simp (maxSteps := 2000000) (disch := first | omega | assumption | exact idP rfl | exact idP (bL rfl)) only [go_sem, reduceIte, Nat.reduceEqDiff]; rfl, by simp (maxSteps := 2000000) (disch := first | omega | assumption | exact idP rfl | exact idP (bL rfl)) only [go_sem, reduceIte, Nat.reduceEqDiff]; rw [selL_succ, if_pos h2]; exact hg'⟩ (by simp (maxSteps := 2000000) (disch := first | omega | assumption | exact idP rfl | exact idP (bL rfl)) only [go_sem, reduceIte, Nat.reduceEqDiff, ctrV_int, e4]; omega)
      · simp (maxSteps := 2000000) (disch := first | omega | assumption | exact idP rfl | exact idP (bL rfl)) only [go_sem, reduceIte, Nat.reduceEqDiff, e0, e4]
        exact hK _ _ ⟨i + 1, by omega, by simp (maxSteps := 2000000) (disch := first | omega | assumption | exact idP rfl | exact idP (bL rfl)) only [go_sem, reduceIte, Nat.reduceEqDiff], by simp (maxSteps := 2000000) (disch := first | omega | assumption | exact idP rfl | exact idP (bL rfl)) only [go_sem, reduceIte, Nat.reduceEqDiff]; rfl, by simp (maxSteps := 2000000) (disch := first | omega | assumption | exact idP rfl | exact idP (bL rfl)) only [go_sem, reduceIte, Nat.reduceEqDiff]; rw [selL_succ, if_neg (by simpa using h2)]; exact hg⟩ (by simp (maxSteps := 2000000) (disch := first | omega | assumption | exact idP rfl | exact idP (bL rfl)) only [go_sem, reduceIte, Nat.reduceEqDiff, ctrV_int, e4]; omega)
    · obtain rfl : i = n := by omega
      simp (maxSteps := 2000000) (disch := first | omega | assumption | exact idP rfl | exact idP (bL rfl)) only [go_sem, reduceIte, Nat.reduceEqDiff]
      exact hR _ _ hg
def behB (tab : List (List Int)) (xs : List Int) (i : Nat) : Bool := xs.any fun x => decide ((i : Int) ∈ tab.getD x.toNat [])
theorem behB_snoc {tab : List (List Int)} {xs : List Int} {k i : Nat} (hk : k < xs.length) : behB tab (xs.take (k + 1)) i = (behB tab (xs.take k) i || decide ((i : Int) ∈ tab.getD xs[k].toNat [])) := by
  unfold behB
  rw [take_snoc hk, List.any_append]
  simp
theorem t_over {v w : V} {tab : List (List Int)} {xs : List Int} (hv : LII v tab) (hw : LI w xs) (hn : tab.length ≤ 1048576) (hl : xs.length ≤ 1048576) (hin : ∀ x ∈ xs, 0 ≤ x ∧ x < (tab.length : Int))
    (htl : ∀ r ∈ tab, r.length ≤ 1048576 ∧ ∀ x ∈ r, 0 ≤ x ∧ x < (tab.length : Int)) :
    VCall Tryz.prog n_impl_over [v, w] M (fun r M' => M = M' ∧ LI r (selL tab.length (behB tab xs))) := by
  refine VCall.froz fun R hP hG => v_impl_over rfl ?_
  simp (maxSteps := 2000000) (disch := first | omega | assumption | exact idP rfl | exact idP (bL rfl)) only [go_sem, reduceIte, Nat.reduceEqDiff, hv.len]
  refine mks3 (by omega) (by simp [mostCells]; omega) (by simp [mostCells]; omega) ?_
  intro b9 hb9
  simp (maxSteps := 2000000) (disch := first | omega | assumption | exact idP rfl | exact idP (bL rfl)) only [go_sem, reduceIte, Nat.reduceEqDiff, hw.len, zeros_vb, mkL_none]
  refine loop_k (fun e M' => ∃ i : Nat, i ≤ xs.length ∧ e 0 = v ∧ e 5 = .sc (.sl (some (b9, 0)) tab.length tab.length true 1) ∧ e 13 = w ∧ e 14 = .sc (.int .i64 xs.length) ∧ e 15 = .sc (.int .i64 i) ∧ Sub M M' ∧ M' b9 = some ((mkL tab.length (behB tab (xs.take i))).map vb)) (fun e _ => ctrV xs.length (e 15)) ?_ ?_
  · refine ⟨0, by omega, by simp (maxSteps := 2000000) (disch := first | omega | assumption | exact idP rfl | exact idP (bL rfl)) only [go_sem, reduceIte, Nat.reduceEqDiff], by simp (maxSteps := 2000000) (disch := first | omega | assumption | exact idP rfl | exact idP (bL rfl)) only [go_sem, reduceIte, Nat.reduceEqDiff], by simp (maxSteps := 2000000) (disch := first | omega | assumption | exact idP rfl | exact idP (bL rfl)) only [go_sem, reduceIte, Nat.reduceEqDiff], by simp (maxSteps := 2000000) (disch := first | omega | assumption | exact idP rfl | exact idP (bL rfl)) only [go_sem, reduceIte, Nat.reduceEqDiff], by simp (maxSteps := 2000000) (disch := first | omega | assumption | exact idP rfl | exact idP (bL rfl)) only [go_sem, reduceIte, Nat.reduceEqDiff]; rfl, (Sub.refl _).set hb9, ?_⟩
    simp (maxSteps := 2000000) (disch := first | omega | assumption | exact idP rfl | exact idP (bL rfl)) only [go_sem, reduceIte, Nat.reduceEqDiff]
    rw [mkL_ext]
    intro i hi; simp [behB]
  · rintro e M1 ⟨i, hi, e0, e5, e13, e14, e15, hsub, hm⟩ K hK
    simp (maxSteps := 2000000) (disch := first | omega | assumption | exact idP rfl | exact idP (bL rfl)) only [go_sem, reduceIte, Nat.reduceEqDiff, e0, e5, e13, e14, e15]
    refine cond_dec (fun h => ?_) (fun h => ?_)
    · have hi' : i < xs.length := by omega
      have hxi := hin _ (List.getElem_mem hi')
      have hxt : xs[i].toNat < tab.length := by omega
      have hrow := hv.elt hxt
      have hrl := htl _ (List.getElem_mem hxt)
      simp (maxSteps := 2000000) (disch := first | omega | assumption | exact idP rfl | exact idP (bL rfl)) only [go_sem, reduceIte, Nat.reduceEqDiff, e0, e5, e13, e14, e15, hw.iaddr, hw.at hi', hv.iaddr, hrow.len]
      refine loop_k (fun e' M' => ∃ j : Nat, j ≤ tab[xs[i].toNat].length ∧ e' 0 = v ∧ e' 5 = .sc (.sl (some (b9, 0)) tab.length tab.length true 1) ∧ e' 13 = w ∧ e' 14 = .sc (.int .i64 xs.length) ∧ e' 15 = .sc (.int .i64 i) ∧ e' 22 = at1 v xs[i].toNat ∧ e' 23 = .sc (.int .i64 tab[xs[i].toNat].length) ∧ e' 24 = .sc (.int .i64 j) ∧ Sub M M' ∧ M' b9 = some ((mkL tab.length (fun q => behB tab (xs.take i) q || inL (tab[xs[i].toNat].take j) q)).map vb)) (fun e' _ => ctrV tab[xs[i].toNat].length (e' 24)) ?_ ?_
      · refine ⟨0, by omega, by simp (maxSteps := 2000000) (disch := first | omega | assumption | exact idP rfl | exact idP (bL rfl)) only [go_sem, reduceIte, Nat.reduceEqDiff], by simp (maxSteps := 2000000) (disch := first | omega | assumption | exact idP rfl | exact idP (bL rfl)) only [go_sem, reduceIte, Nat.reduceEqDiff], by simp (maxSteps := 2000000) (disch := first | omega | assumption | exact idP rfl | exact idP (bL rfl)) only [go_sem, reduceIte, Nat.reduceEqDiff], by simp (maxSteps := 2000000) (disch := first | omega | assumption | exact idP rfl | exact idP (bL rfl)) only [go_sem, reduceIte, Nat.reduceEqDiff], by simp (maxSteps := 2000000) (disch := first | omega | assumption | exact idP rfl | exact idP (bL rfl)) only [go_sem, reduceIte, Nat.reduceEqDiff], by simp (maxSteps := 2000000) (disch := first | omega | assumption | exact idP rfl | exact idP (bL rfl)) only [go_sem, reduceIte, Nat.reduceEqDiff], by simp (maxSteps := 2000000) (disch := first | omega | assumption | exact idP rfl | exact idP (bL rfl)) only [go_sem, reduceIte, Nat.reduceEqDiff], by simp (maxSteps := 2000000) (disch := first | omega | assumption | exact idP rfl | exact idP (bL rfl)) only [go_sem, reduceIte, Nat.reduceEqDiff]; rfl, hsub, ?_⟩
        rw [hm, mkL_ext (q := fun q => behB tab (xs.take i) q || inL (tab[xs[i].toNat].take 0) q)]
        intro i hi; simp [inL]
      · rintro e' M2 ⟨j, hj, f0, f5, f13, f14, f15, f22, f23, f24, hsub2, hm2⟩ K2 hK2
        simp (maxSteps := 2000000) (disch := first | omega | assumption | exact idP rfl | exact idP (bL rfl)) only [go_sem, reduceIte, Nat.reduceEqDiff, f0, f5, f13, f14, f15, f22, f23, f24]
        refine cond_dec (fun h => ?_) (fun h => ?_)
        · have hj' : j < tab[xs[i].toNat].length := by omega
          have hxj := hrl.2 _ (List.getElem_mem hj')
          have hso : tab[xs[i].toNat][j].toNat < ((mkL tab.length (fun q => behB tab (xs.take i) q || inL (tab[xs[i].toNat].take j) q)).map vb).length := by rw [len_vb', mkL_len]; omega
          simp (maxSteps := 2000000) (disch := first | omega | assumption | exact idP rfl | exact idP (bL rfl)) only [go_sem, reduceIte, Nat.reduceEqDiff, f0, f5, f13, f14, f15, f22, f23, f24, hrow.iaddr, hrow.at hj', hm2]
          refine hK2 _ _ ⟨j + 1, by omega, by simp (maxSteps := 2000000) (disch := first | omega | assumption | exact idP rfl | exact idP (bL rfl)) only [go_sem, reduceIte, Nat.reduceEqDiff], by simp (maxSteps := 2000000) (disch := first | omega | assumption | exact idP rfl | exact idP (bL rfl)) only [go_sem, reduceIte, Nat.reduceEqDiff], by simp (maxSteps := 2000000) (disch := first | omega | assumption | exact idP rfl | exact idP (bL rfl)) only [go_sem, reduceIte, Nat.reduceEqDiff], by simp (maxSteps := 2000000) (disch := first | omega | assumption | exact idP rfl | exact idP (bL rfl)) only [go_sem, reduceIte, Nat.reduceEqDiff], by simp (maxSteps := 2000000) (disch := first | omega | assumption | exact idP rfl | exact idP (bL rfl)) only [go_sem, reduceIte, Nat.reduceEqDiff], by simp (maxSteps := 2000000) (disch := first | omega | assumption | exact idP rfl | exact idP (bL rfl)) only [go_sem, reduceIte, Nat.reduceEqDiff], by simp (maxSteps := 2000000) (disch := first | omega | assumption | exact idP rfl | exact idP (bL rfl)) only [go_sem, reduceIte, Nat.reduceEqDiff], by simp (maxSteps := 2000000) (disch := first | omega | assumption | exact idP rfl | exact idP (bL rfl)) only [go_sem, reduceIte, Nat.reduceEqDiff]; rfl, hsub2.set hb9, ?_⟩ (by simp (maxSteps := 2000000) (disch := first | omega | assumption | exact idP rfl | exact idP (bL rfl)) only [go_sem, reduceIte, Nat.reduceEqDiff, ctrV_int, f24]; omega)
          simp (maxSteps := 2000000) (disch := first | omega | assumption | exact idP rfl | exact idP (bL rfl)) only [go_sem, reduceIte, Nat.reduceEqDiff]
          rw [set_vb', mkL_set]
          intro q hq
          simp only [inL, take_snoc hj', List.mem_append, List.mem_singleton, Bool.decide_or, Bool.or_assoc]
          congr 2
          apply decide_eq_decide.2
          omega
        · obtain rfl : j = tab[xs[i].toNat].length := by omega
          rw [List.take_length] at hm2
          simp (maxSteps := 2000000) (disch := first | omega | assumption | exact idP rfl | exact idP (bL rfl)) only [go_sem, reduceIte, Nat.reduceEqDiff, f0, f5, f13, f14, f15]
          refine hK _ _ ⟨i + 1, by omega, by simp (maxSteps := 2000000) (disch := first | omega | assumption | exact idP rfl | exact idP (bL rfl)) only [go_sem, reduceIte, Nat.reduceEqDiff], by simp (maxSteps := 2000000) (disch := first | omega | assumption | exact idP rfl | exact idP (bL rfl)) only [go_sem, reduceIte, Nat.reduceEqDiff], by simp (maxSteps := 2000000) (disch := first | omega | assumption | exact idP rfl | exact idP (bL rfl)) only [go_sem, reduceIte, Nat.reduceEqDiff], by simp (maxSteps := 2000000) (disch := first | omega | assumption | exact idP rfl | exact idP (bL rfl)) only [go_sem, reduceIte, Nat.reduceEqDiff], by simp (maxSteps := 2000000) (disch := first | omega | assumption | exact idP rfl | exact idP (bL rfl)) only [go_sem, reduceIte, Nat.reduceEqDiff]; rfl, hsub2, ?_⟩ (by simp (maxSteps := 2000000) (disch := first | omega | assumption | exact idP rfl | exact idP (bL rfl)) only [go_sem, reduceIte, Nat.reduceEqDiff, ctrV_int, e15, f15]; omega)
          rw [hm2, mkL_ext]
          intro q hq
          rw [behB_snoc hi']
          simp [inL, List.getD, hxt]
    · obtain rfl : i = xs.length := by omega
      rw [List.take_length] at hm
      simp (maxSteps := 2000000) (disch := first | omega | assumption | exact idP rfl | exact idP (bL rfl)) only [go_sem, reduceIte, Nat.reduceEqDiff, e5]
      have hg : Gr 1 M M1 (.sc (.sl (some (b9, 0)) tab.length tab.length true 1)) ((mkL tab.length (behB tab xs)).map vb) := ⟨hsub, fun b' h' => by simp [blkV] at h'; subst h'; exact hb9, .inr ⟨b9, _, true, rfl, hm, by rw [len_vb', mkL_len]; omega⟩⟩
      refine (VCall.give0 hg fun u M2 hu hs2 => (t_listOf hu.lb hn).mono fun r M' hr => hr.base hs2).mono ?_
      rintro r M2 hg2
      simp (maxSteps := 2000000) (disch := first | omega | assumption | exact idP rfl | exact idP (bL rfl)) only [go_sem, reduceIte, Nat.reduceEqDiff]
      exact hG _ _ _ _ hg2 fun u hu => hu.li
end Go.M2

namespace Go.M2
open Go.Proofs
variable {M : MH}
theorem f_l4Marks {w : V} {xs : List Int} {n : Nat} (hw : LI w xs) (hn : n ≤ 1048576) (hl : xs.length ≤ 1048576) (hin : ∀ x ∈ xs, 0 ≤ x ∧ x < (n : Int)) :
    VCall Tryz.prog n_spec_l4Marks [w, .sc (.int .i64 n)] M (fun r M' => M = M' ∧ LB r (mkL n (inL xs))) :=
  (VCall.fr1 (t_l4Marks hw hn hl hin)).mono fun r M' ⟨h1, h2⟩ => ⟨h1, h2.lb⟩
def bB (tab : List (List Int)) (m : Nat → Bool) (k i : Nat) : Bool := (List.range k).any fun q => m q && decide ((i : Int) ∈ tab.getD q [])
theorem bB_succ {tab : List (List Int)} {m : Nat → Bool} {k i : Nat} (hk : k < tab.length) : bB tab m (k + 1) i = (bB tab m k i || (m k && inL tab[k] i)) := by
  unfold bB
  rw [List.range_succ, List.any_append]
  simp [inL, List.getD, hk]
theorem bB_beh {tab : List (List Int)} {xs : List Int} {i : Nat} (h : ∀ x ∈ xs, 0 ≤ x ∧ x < (tab.length : Int)) : bB tab (inL xs) tab.length i = behB tab xs i := by
  unfold bB behB
  rw [Bool.eq_iff_iff]
  simp only [List.any_eq_true, List.mem_range, Bool.and_eq_true, inL, decide_eq_true_eq]
  constructor
  · rintro ⟨q, h1, h2, h3⟩
    exact ⟨_, h2, by simpa using h3⟩
  · rintro ⟨x, h1, h2⟩
    have := h x h1
    exact ⟨x.toNat, by omega, by rw [Int.toNat_of_nonneg this.1]; exact h1, h2⟩
theorem t_l4Behind {v w : V} {tab : List (List Int)} {m : Nat → Bool} (hv : LII v tab) (hw : LB w (mkL tab.length m)) (hn : tab.length ≤ 1048576)
    (htl : ∀ r ∈ tab, r.length ≤ 1048576 ∧ ∀ x ∈ r, 0 ≤ x ∧ x < (tab.length : Int)) :
    VCall Tryz.prog n_spec_l4Behind [v, w] M (fun r M' => M = M' ∧ LB r (mkL tab.length (bB tab m tab.length))) := by
  refine VCall.froz fun R hP hG => v_spec_l4Behind rfl ?_
  simp (maxSteps := 2000000) (disch := first | omega | assumption | exact idP rfl | exact idP (bL rfl)) only [go_sem, reduceIte, Nat.reduceEqDiff, hv.len]
  refine mks3 (by omega) (by simp [mostCells]; omega) (by simp [mostCells]; omega) ?_
  intro b9 hb9
  simp (maxSteps := 2000000) (disch := first | omega | assumption | exact idP rfl | exact idP (bL rfl)) only [go_sem, reduceIte, Nat.reduceEqDiff, zeros_vb, mkL_none]
  refine loop_k (fun e M' => ∃ i : Nat, i ≤ tab.length ∧ e 0 = v ∧ e 1 = w ∧ e 5 = .sc (.sl (some (b9, 0)) tab.length tab.length true 1) ∧ e 6 = .sc (.int .i64 i) ∧ Sub M M' ∧ M' b9 = some ((mkL tab.length (bB tab m i)).map vb)) (fun e _ => ctrV tab.length (e 6)) ?_ ?_
  · refine ⟨0, by omega, by simp (maxSteps := 2000000) (disch := first | omega | assumption | exact idP rfl | exact idP (bL rfl)) only [go_sem, reduceIte, Nat.reduceEqDiff], by simp (maxSteps := 2000000) (disch := first | omega | assumption | exact idP rfl | exact idP (bL rfl)) only [go_sem, reduceIte, Nat.reduceEqDiff], by simp (maxSteps := 2000000) (disch := first | omega | assumption | exact idP rfl | exact idP (bL rfl)) only [go_sem, reduceIte, Nat.reduceEqDiff], by simp (maxSteps := 2000000) (disch := first | omega | assumption | exact idP rfl | exact idP (bL rfl)) only [go_sem, reduceIte, Nat.reduceEqDiff]; rfl, (Sub.refl _).set hb9, ?_⟩
    simp (maxSteps := 2000000) (disch := first | omega | assumption | exact idP rfl | exact idP (bL rfl)) only [go_sem, reduceIte, Nat.reduceEqDiff]
    rw [mkL_ext]
    intro i hi; simp [bB]
  · rintro e M1 ⟨i, hi, e0, e1, e5, e6, hsub, hm⟩ K hK
    simp (maxSteps := 2000000) (disch := first | omega | assumption | exact idP rfl | exact idP (bL rfl)) only [go_sem, reduceIte, Nat.reduceEqDiff, e0, e1, e5, e6, hv.len]
    refine cond_dec (fun h => ?_) (fun h => ?_)
    · have hi' : i < tab.length := by omega
      have hrow := hv.elt hi'
      have hrl := htl _ (List.getElem_mem hi')
      try simp (maxSteps := 2000000) (disch := first | omega | assumption | exact idP rfl | exact idP (bL rfl)) only [go_sem, reduceIte, Nat.reduceEqDiff, e0, e1, e5, e6]
      refine loop_k (fun e' M' => ∃ j : Nat, j ≤ tab[i].length ∧ e' 0 = v ∧ e' 1 = w ∧ e' 5 = .sc (.sl (some (b9, 0)) tab.length tab.length true 1) ∧ e' 6 = .sc (.int .i64 i) ∧ e' 7 = .sc (.int .i64 j) ∧ Sub M M' ∧ M' b9 = some ((mkL tab.length (fun q => bB tab m i q || (m i && inL (tab[i].take j) q))).map vb)) (fun e' _ => ctrV tab[i].length (e' 7)) ?_ ?_
      · refine ⟨0, by omega, by simp (maxSteps := 2000000) (disch := first | omega | assumption | exact idP rfl | exact idP (bL rfl)) only [go_sem, reduceIte, Nat.reduceEqDiff], by simp (maxSteps := 2000000) (disch := first | omega | assumption | exact idP rfl | exact idP (bL rfl)) only [go_sem, reduceIte, Nat.reduceEqDiff], by simp (maxSteps := 2000000) (disch := first | omega | assumption | exact idP rfl | exact idP (bL rfl)) only [go_sem, reduceIte, Nat.reduceEqDiff], by simp (maxSteps := 2000000) (disch := first | omega | assumption | exact idP rfl | exact idP (bL rfl)) only [go_sem, reduceIte, Nat.reduceEqDiff], by simp (maxSteps := 2000000) (disch := first | omega | assumption | exact idP rfl | exact idP (bL rfl)) only [go_sem, reduceIte, Nat.reduceEqDiff]; rfl, hsub, ?_⟩
        rw [hm, mkL_ext (q := fun q => bB tab m i q || (m i && inL (tab[i].take 0) q))]
        intro i hi; simp [inL]
      · rintro e' M2 ⟨j, hj, f0, f1, f5, f6, f7, hsub2, hm2⟩ K2 hK2
        simp (maxSteps := 2000000) (disch := first | omega | assumption | exact idP rfl | exact idP (bL rfl)) only [go_sem, reduceIte, Nat.reduceEqDiff, f0, f1, f5, f6, f7, hv.iaddr, hrow.len]
        refine cond_dec (fun h => ?_) (fun h => ?_)
        · have hj' : j < tab[i].length := by omega
          have hxj := hrl.2 _ (List.getElem_mem hj')
          have hi2 : i < (mkL tab.length m).length := by rw [mkL_len]; exact hi'
          have hwl := hw.iaddr (k := .i64) (a := (i : Int)) (by omega) (by rw [mkL_len]; omega)
          have hso : tab[i][j].toNat < ((mkL tab.length (fun q => bB tab m i q || (m i && inL (tab[i].take j) q))).map vb).length := by rw [len_vb', mkL_len]; omega
          simp (maxSteps := 2000000) (disch := first | omega | assumption | exact idP rfl | exact idP (bL rfl)) only [go_sem, reduceIte, Nat.reduceEqDiff, f0, f1, f5, f6, f7, hwl, hw.at hi2, mkL_get]
          refine cond_split (fun h2 => ?_) (fun h2 => ?_)
          · simp (maxSteps := 2000000) (disch := first | omega | assumption | exact idP rfl | exact idP (bL rfl)) only [go_sem, reduceIte, Nat.reduceEqDiff, f0, f1, f5, f6, f7, hv.iaddr, hrow.iaddr, hrow.at hj', hm2]
            refine hK2 _ _ ⟨j + 1, by omega, by simp (maxSteps := 2000000) (disch := first | omega | assumption | exact idP rfl | exact idP (bL rfl)) only [go_sem, reduceIte, Nat.reduceEqDiff], by simp (maxSteps := 2000000) (disch := first | omega | assumption | exact idP rfl | exact idP (bL rfl)) only [go_sem, reduceIte, Nat.reduceEqDiff], by simp (maxSteps := 2000000) (disch := first | omega | assumption | exact idP rfl | exact idP (bL rfl)) only [go_sem, reduceIte, Nat.reduceEqDiff], by simp (maxSteps := 2000000) (disch := first | omega | assumption | exact idP rfl | exact idP (bL rfl)) only [go_sem, reduceIte, Nat.reduceEqDiff], by simp (maxSteps := 2000000) (disch := first | omega | assumption | exact idP rfl | exact idP (bL rfl)) only [go_sem, reduceIte, Nat.reduceEqDiff]; rfl, hsub2.set hb9, ?_⟩ (by simp (maxSteps := 2000000) (disch := first | omega | assumption | exact idP rfl | exact idP (bL rfl)) only [go_sem, reduceIte, Nat.reduceEqDiff, ctrV_int, f7]; omega)
            simp (maxSteps := 2000000) (disch := first | omega | assumption | exact idP rfl | exact idP (bL rfl)) only [go_sem, reduceIte, Nat.reduceEqDiff]
            rw [set_vb', mkL_set]
            intro q hq
            simp only [h2, Bool.true_and, inL, take_snoc hj', List.mem_append, List.mem_singleton, Bool.decide_or, Bool.or_assoc]
            congr 2
            apply decide_eq_decide.2
            omega
          · simp (maxSteps := 2000000) (disch := first | omega | assumption | exact idP rfl | exact idP (bL rfl)) only [go_sem, reduceIte, Nat.reduceEqDiff, f0, f1, f5, f6, f7]
            refine hK2 _ _ ⟨j + 1, by omega, by simp (maxSteps := 2000000) (disch := first | omega | assumption | exact idP rfl | exact idP (bL rfl)) only [go_sem, reduceIte, Nat.reduceEqDiff], by simp (maxSteps := 2000000) (disch := first | omega | assumption | exact idP rfl | exact idP (bL rfl)) only [go_sem, reduceIte, Nat.reduceEqDiff], by simp (maxSteps := 2000000) (disch := first | omega | assumption | exact idP rfl | exact idP (bL rfl)) only [go_sem, reduceIte, Nat.reduceEqDiff], by simp (maxSteps := 2000000) (disch := first | omega | assumption | exact idP rfl | exact idP (bL rfl)) only [go_sem, reduceIte, Nat.reduceEqDiff], by simp (maxSteps := 2000000) (disch := first | omega | assumption | exact idP rfl | exact idP (bL rfl)) only [go_sem, reduceIte, Nat.reduceEqDiff]; rfl, hsub2, ?_⟩ (by simp (maxSteps := 2000000) (disch := first | omega | assumption | exact idP rfl | exact idP (bL rfl)) only [go_sem, reduceIte, Nat.reduceEqDiff, ctrV_int, f7]; omega)
            rw [hm2, mkL_ext]
            intro q hq
            simp [h2]
        · obtain rfl : j = tab[i].length := by omega
          rw [List.take_length] at hm2
          simp (maxSteps := 2000000) (disch := first | omega | assumption | exact idP rfl | exact idP (bL rfl)) only [go_sem, reduceIte, Nat.reduceEqDiff, f0, f1, f5, f6]
          refine hK _ _ ⟨i + 1, by omega, by simp (maxSteps := 2000000) (disch := first | omega | assumption | exact idP rfl | exact idP (bL rfl)) only [go_sem, reduceIte, Nat.reduceEqDiff], by simp (maxSteps := 2000000) (disch := first | omega | assumption | exact idP rfl | exact idP (bL rfl)) only [go_sem, reduceIte, Nat.reduceEqDiff], by simp (maxSteps := 2000000) (disch := first | omega | assumption | exact idP rfl | exact idP (bL rfl)) only [go_sem, reduceIte, Nat.reduceEqDiff], by simp (maxSteps := 2000000) (disch := first | omega | assumption | exact idP rfl | exact idP (bL rfl)) only [go_sem, reduceIte, Nat.reduceEqDiff]; rfl, hsub2, ?_⟩ (by simp (maxSteps := 2000000) (disch := first | omega | assumption | exact idP rfl | exact idP (bL rfl)) only [go_sem, reduceIte, Nat.reduceEqDiff, ctrV_int, e6, f6]; omega)
          rw [hm2, mkL_ext]
          intro q hq
          rw [bB_succ hi']
    · obtain rfl : i = tab.length := by omega
      simp (maxSteps := 2000000) (disch := first | omega | assumption | exact idP rfl | exact idP (bL rfl)) only [go_sem, reduceIte, Nat.reduceEqDiff, e5]
      exact hG _ _ 1 _ ⟨hsub, fun b' h' => by simp [blkV] at h'; subst h'; exact hb9, .inr ⟨b9, _, true, rfl, hm, by rw [len_vb', mkL_len]; omega⟩⟩ fun u hu => hu.lb
theorem tabF_in {s : SysS} (hs : SysOk s) : ∀ r ∈ tabF s, r.length ≤ 1048576 ∧ ∀ x ∈ r, 0 ≤ x ∧ x < ((tabF s).length : Int) := by
  intro r hr
  obtain ⟨n, hn, rfl⟩ := List.mem_map.1 hr
  have hsz := hs.sz
  refine ⟨?_, fun x hx => ?_⟩
  · have := nextF_len hs (stGo s.vars n)
    simp [rowF]; omega
  · have := rowF_lt hs hx
    rw [tabF_len]; omega
theorem SetOk.in {n : Int} {xs : List Int} (h : SetOk n xs) : ∀ x ∈ xs, 0 ≤ x ∧ x < n := by
  intro x hx
  obtain ⟨i, hi, rfl⟩ := List.getElem_of_mem hx
  have := (h i hi hi).1
  omega
noncomputable def nextN (s : SysS) (xs : List Int) : List Int := if setV s xs = true then selL (tabF s).length (behB (tabF s) xs) else []
theorem setV_iff {s : SysS} {xs : List Int} : setV s xs = true ↔ SysOk s ∧ SetOk (sizeF s.vars) xs := by
  unfold setV
  rw [Bool.and_eq_true, sysB_iff, setB_iff]
theorem t_NextNumbers {v w : V} {s : SysS} {xs : List Int} (hv : isSys s v) (hw : LI w xs) (hl : xs.length ≤ 1048576) : VCall Tryz.prog n_spec_NextNumbers [v, w] M (fun r M' => M = M' ∧ LI r (nextN s xs)) := by
  refine VCall.froz fun R hP hG => v_spec_NextNumbers rfl ?_
  have hv0 := hv
  obtain ⟨a, b, rfl, ha, hb⟩ := hv
  (repeat' (first | ((first | with_reducible refine cond_dec (fun h => ?_) (fun h => ?_) | with_reducible refine guardK_dec (fun h => ?_) (fun h => ?_) | with_reducible refine guardD3_dec (fun h => ?_) (fun h => ?_)) <;> first | (exfalso; omega) | (simp (maxSteps := 2000000) (disch := first | omega | assumption | exact idP rfl | exact idP (bL rfl)) only [go_sem, reduceIte, Nat.reduceEqDiff, h]) | skip) | ((first | with_reducible refine cond_split (fun h => ?_) (fun h => ?_) | with_reducible refine guardK_split (fun h => ?_) (fun h => ?_) | with_reducible refine guardD3_split (fun h => ?_) (fun h => ?_)) <;> ((try simp only [Bool.not_eq_true', Bool.not_eq_false'] at h); first | (simp (maxSteps := 2000000) (disch := first | omega | assumption | exact idP rfl | exact idP (bL rfl)) only [go_sem, reduceIte, Nat.reduceEqDiff, h]) | skip)) | ((with_reducible refine (t_specSetValid hv0 hw hl).mono ?_); rintro _ _ ⟨rfl, rfl⟩) | (with_reducible intro bk hbk; try have hnk := (fresh_set hbk).1) | (simp (maxSteps := 2000000) (disch := first | omega | assumption | exact idP rfl | exact idP (bL rfl)) only [go_sem, reduceIte, Nat.reduceEqDiff])))
  · exact hP _ _ (by (repeat (first | exact Sub.refl _ | assumption | (refine Sub.set' ?_ (by assumption))))) (by unfold nextN; rw [if_neg (by rw [h]; simp)]; exact .nil)
  · obtain ⟨hs, hset⟩ := setV_iff.1 h
    have hsz := hs.sz
    have htl := tabF_len s
    have hle : ((tabF s).length : Int) = sizeF s.vars := by omega
    have hsub : Sub M (M.set bk [a, b]) := by (repeat (first | exact Sub.refl _ | assumption | (refine Sub.set' ?_ (by assumption))))
    refine (f_l4Steps hv0 hs).mono ?_
    rintro t _ ⟨rfl, ht⟩
    (repeat' (first | ((first | with_reducible refine cond_dec (fun h => ?_) (fun h => ?_) | with_reducible refine guardK_dec (fun h => ?_) (fun h => ?_) | with_reducible refine guardD3_dec (fun h => ?_) (fun h => ?_)) <;> first | (exfalso; omega) | (simp (maxSteps := 2000000) (disch := first | omega | assumption | exact idP rfl | exact idP (bL rfl)) only [go_sem, reduceIte, Nat.reduceEqDiff, h]) | skip) | ((first | with_reducible refine cond_split (fun h => ?_) (fun h => ?_) | with_reducible refine guardK_split (fun h => ?_) (fun h => ?_) | with_reducible refine guardD3_split (fun h => ?_) (fun h => ?_)) <;> ((try simp only [Bool.not_eq_true', Bool.not_eq_false'] at h); first | (simp (maxSteps := 2000000) (disch := first | omega | assumption | exact idP rfl | exact idP (bL rfl)) only [go_sem, reduceIte, Nat.reduceEqDiff, h]) | skip)) | ((with_reducible refine (t_SizeOf hv0 hs).mono ?_); rintro _ _ ⟨rfl, rfl⟩) | (with_reducible intro bk hbk; try have hnk := (fresh_set hbk).1) | (simp (maxSteps := 2000000) (disch := first | omega | assumption | exact idP rfl | exact idP (bL rfl)) only [go_sem, reduceIte, Nat.reduceEqDiff])))
    rw [← hle]
    refine (f_l4Marks hw (by omega) hl (by rw [hle]; exact hset.in)).mono ?_
    rintro m _ ⟨rfl, hm⟩
    simp (maxSteps := 2000000) (disch := first | omega | assumption | exact idP rfl | exact idP (bL rfl)) only [go_sem, reduceIte, Nat.reduceEqDiff]
    refine (t_l4Behind ht hm (by omega) (tabF_in hs)).mono ?_
    rintro q _ ⟨rfl, hq⟩
    simp (maxSteps := 2000000) (disch := first | omega | assumption | exact idP rfl | exact idP (bL rfl)) only [go_sem, reduceIte, Nat.reduceEqDiff]
    refine (t_l4List hq (by omega)).mono ?_
    rintro r M2 hg
    simp (maxSteps := 2000000) (disch := first | omega | assumption | exact idP rfl | exact idP (bL rfl)) only [go_sem, reduceIte, Nat.reduceEqDiff]
    refine hG _ _ _ _ (hg.base hsub) fun u hu => ?_
    have h3 := hu.li
    rw [selL_ext (q := behB (tabF s) xs) (fun i hi => bB_beh (by rw [hle]; exact hset.in))] at h3
    unfold nextN
    rw [if_pos h]
    exact h3
theorem t_l4Set {w : V} {xs : List Int} (hw : LI w xs) (hl : xs.length ≤ 1048576) : VCall Tryz.prog n_spec_l4Set [w] M (fun r M' => M = M' ∧ r = .sc (.bool (setB 400 xs))) := by
  refine VCall.pure fun R hR => v_spec_l4Set rfl ?_
  simp (maxSteps := 2000000) (disch := first | omega | assumption | exact idP rfl | exact idP (bL rfl)) only [go_sem, reduceIte, Nat.reduceEqDiff]
  refine loop_k (fun e M' => M' = M ∧ ∃ i : Nat, i ≤ xs.length ∧ e 0 = w ∧ e 3 = .sc (.int .i64 i) ∧ AscTo 400 xs i) (fun e _ => ctrV xs.length (e 3)) ?_ ?_
  · exact ⟨rfl, 0, by omega, by simp (maxSteps := 2000000) (disch := first | omega | assumption | exact idP rfl | exact idP (bL rfl)) only [go_sem, reduceIte, Nat.reduceEqDiff], by simp (maxSteps := 2000000) (disch := first | omega | assumption | exact idP rfl | exact idP (bL rfl)) only [go_sem, reduceIte, Nat.reduceEqDiff]; rfl, fun i h h2 => by omega⟩
  · rintro e _ ⟨rfl, i, hi, e0, e3, hj⟩ K hK
    simp (maxSteps := 2000000) (disch := first | omega | assumption | exact idP rfl | exact idP (bL rfl)) only [go_sem, reduceIte, Nat.reduceEqDiff, e0, e3, hw.len]
    refine cond_dec (fun h => ?_) (fun h => ?_)
    · have hi' : i < xs.length := by omega
      have bad : ¬ ((0 ≤ xs[i] ∧ xs[i] ≤ 400 - 1) ∧ (0 < i → xs[i - 1] < xs[i])) → setB 400 xs = false := fun hb => setB_false.2 fun hs => hb (hs i hi' hi')
      by_cases h0 : i = 0
      · subst h0
        (repeat' (first | ((first | with_reducible refine cond_dec (fun h => ?_) (fun h => ?_) | with_reducible refine guardK_dec (fun h => ?_) (fun h => ?_) | with_reducible refine guardD3_dec (fun h => ?_) (fun h => ?_)) <;> first | (exfalso; omega) | (simp (maxSteps := 2000000) (disch := first | omega | assumption | exact idP rfl | exact idP (bL rfl)) only [go_sem, reduceIte, Nat.reduceEqDiff, h, e0, e3, hw.iaddr, hw.at hi']) | skip) | ((first | with_reducible refine cond_split (fun h => ?_) (fun h => ?_) | with_reducible refine guardK_split (fun h => ?_) (fun h => ?_) | with_reducible refine guardD3_split (fun h => ?_) (fun h => ?_)) <;> ((try simp only [Bool.not_eq_true', Bool.not_eq_false'] at h); first | (simp (maxSteps := 2000000) (disch := first | omega | assumption | exact idP rfl | exact idP (bL rfl)) only [go_sem, reduceIte, Nat.reduceEqDiff, h, e0, e3, hw.iaddr, hw.at hi']) | skip)) | ((with_reducible refine (t_l1In).mono ?_); rintro _ _ ⟨rfl, rfl⟩) | (with_reducible intro bk hbk; try have hnk := (fresh_set hbk).1) | (simp (maxSteps := 2000000) (disch := first | omega | assumption | exact idP rfl | exact idP (bL rfl)) only [go_sem, reduceIte, Nat.reduceEqDiff, e0, e3, hw.iaddr, hw.at hi'])))
        · exact hR _ _ (by (repeat (first | exact Sub.refl _ | assumption | (refine Sub.set' ?_ (by assumption))))) (by rw [bad (by omega)])
        · exact hK _ _ ⟨rfl, 1, by omega, by simp (maxSteps := 2000000) (disch := first | omega | assumption | exact idP rfl | exact idP (bL rfl)) only [go_sem, reduceIte, Nat.reduceEqDiff, e0], by simp (maxSteps := 2000000) (disch := first | omega | assumption | exact idP rfl | exact idP (bL rfl)) only [go_sem, reduceIte, Nat.reduceEqDiff, e3]; rfl, hj.next hi' (by omega) (by omega)⟩ (by simp (maxSteps := 2000000) (disch := first | omega | assumption | exact idP rfl | exact idP (bL rfl)) only [go_sem, reduceIte, Nat.reduceEqDiff, ctrV_int, e3]; omega)
      · have hi2 : i - 1 < xs.length := by omega
        have et : (i : Int) - 1 = ((i - 1 : Nat) : Int) := by omega
        (repeat' (first | ((first | with_reducible refine cond_dec (fun h => ?_) (fun h => ?_) | with_reducible refine guardK_dec (fun h => ?_) (fun h => ?_) | with_reducible refine guardD3_dec (fun h => ?_) (fun h => ?_)) <;> first | (exfalso; omega) | (simp (maxSteps := 2000000) (disch := first | omega | assumption | exact idP rfl | exact idP (bL rfl)) only [go_sem, reduceIte, Nat.reduceEqDiff, h, e0, e3, et, hw.iaddr, hw.at hi', hw.at hi2]) | skip) | ((first | with_reducible refine cond_split (fun h => ?_) (fun h => ?_) | with_reducible refine guardK_split (fun h => ?_) (fun h => ?_) | with_reducible refine guardD3_split (fun h => ?_) (fun h => ?_)) <;> ((try simp only [Bool.not_eq_true', Bool.not_eq_false'] at h); first | (simp (maxSteps := 2000000) (disch := first | omega | assumption | exact idP rfl | exact idP (bL rfl)) only [go_sem, reduceIte, Nat.reduceEqDiff, h, e0, e3, et, hw.iaddr, hw.at hi', hw.at hi2]) | skip)) | ((with_reducible refine (t_l1In).mono ?_); rintro _ _ ⟨rfl, rfl⟩) | (with_reducible intro bk hbk; try have hnk := (fresh_set hbk).1) | (simp (maxSteps := 2000000) (disch := first | omega | assumption | exact idP rfl | exact idP (bL rfl)) only [go_sem, reduceIte, Nat.reduceEqDiff, e0, e3, et, hw.iaddr, hw.at hi', hw.at hi2])))
        all_goals first
          | exact hR _ _ (by (repeat (first | exact Sub.refl _ | assumption | (refine Sub.set' ?_ (by assumption))))) (by rw [bad (by omega)])
          | exact hK _ _ ⟨rfl, i + 1, by omega, by simp (maxSteps := 2000000) (disch := first | omega | assumption | exact idP rfl | exact idP (bL rfl)) only [go_sem, reduceIte, Nat.reduceEqDiff, e0], by simp (maxSteps := 2000000) (disch := first | omega | assumption | exact idP rfl | exact idP (bL rfl)) only [go_sem, reduceIte, Nat.reduceEqDiff, e3]; rfl, hj.next hi' (by omega) (by omega)⟩ (by simp (maxSteps := 2000000) (disch := first | omega | assumption | exact idP rfl | exact idP (bL rfl)) only [go_sem, reduceIte, Nat.reduceEqDiff, ctrV_int, e3]; omega)
    · obtain rfl : i = xs.length := by omega
      simp (maxSteps := 2000000) (disch := first | omega | assumption | exact idP rfl | exact idP (bL rfl)) only [go_sem, reduceIte, Nat.reduceEqDiff]
      exact hR _ _ (by (repeat (first | exact Sub.refl _ | assumption | (refine Sub.set' ?_ (by assumption))))) (by rw [setB_iff.2 hj])
def woB (xs ys : List Int) (i : Nat) : Bool := inL xs i && !inL ys i
noncomputable def woF (xs ys : List Int) : List Int := if setB 400 xs = true ∧ setB 400 ys = true then selL 400 (woB xs ys) else []
theorem t_l4Mix2 {v w : V} {xs ys : List Int} (hv : LI v xs) (hw : LI w ys) (hl : xs.length ≤ 1048576) (hl2 : ys.length ≤ 1048576) : VCall Tryz.prog n_spec_l4Mix [v, w, .sc (.int .i64 2)] M (fun r M' => M = M' ∧ LI r (woF xs ys)) := by
  refine VCall.froz fun R hP hG => v_spec_l4Mix rfl ?_
  (repeat' (first | ((first | with_reducible refine cond_dec (fun h => ?_) (fun h => ?_) | with_reducible refine guardK_dec (fun h => ?_) (fun h => ?_) | with_reducible refine guardD3_dec (fun h => ?_) (fun h => ?_)) <;> first | (exfalso; omega) | (simp (maxSteps := 2000000) (disch := first | omega | assumption | exact idP rfl | exact idP (bL rfl)) only [go_sem, reduceIte, Nat.reduceEqDiff, h]) | skip) | ((first | with_reducible refine cond_split (fun h => ?_) (fun h => ?_) | with_reducible refine guardK_split (fun h => ?_) (fun h => ?_) | with_reducible refine guardD3_split (fun h => ?_) (fun h => ?_)) <;> ((try simp only [Bool.not_eq_true', Bool.not_eq_false'] at h); first | (simp (maxSteps := 2000000) (disch := first | omega | assumption | exact idP rfl | exact idP (bL rfl)) only [go_sem, reduceIte, Nat.reduceEqDiff, h]) | skip)) | ((with_reducible refine (t_l4Set hv hl).mono ?_); rintro _ _ ⟨rfl, rfl⟩) | ((with_reducible refine (t_l4Set hw hl2).mono ?_); rintro _ _ ⟨rfl, rfl⟩) | (with_reducible intro bk hbk; try have hnk := (fresh_set hbk).1) | (simp (maxSteps := 2000000) (disch := first | omega | assumption | exact idP rfl | exact idP (bL rfl)) only [go_sem, reduceIte, Nat.reduceEqDiff])))
  · refine hG _ _ 1 [] (Gr.new' (Sub.refl _) hbk rfl) fun u hu => ?_
    unfold woF
    rw [if_neg (by intro hh; rw [h] at hh; simp at hh)]
    exact hu.li (ys := [])
  · refine hG _ _ 1 [] (Gr.new' (Sub.refl _) hbk rfl) fun u hu => ?_
    unfold woF
    rw [if_neg (by intro hh; rw [h] at hh; simp at hh)]
    exact hu.li (ys := [])
  · rename_i h1
    have hi1 := (setB_iff.1 h1).in
    have hi2 := (setB_iff.1 h).in
    refine (f_l4Marks (n := 400) hv (by omega) hl hi1).mono ?_
    rintro m1 _ ⟨rfl, hm1⟩
    simp (maxSteps := 2000000) (disch := first | omega | assumption | exact idP rfl | exact idP (bL rfl)) only [go_sem, reduceIte, Nat.reduceEqDiff]
    refine (f_l4Marks (n := 400) hw (by omega) hl2 hi2).mono ?_
    rintro m2 _ ⟨rfl, hm2⟩
    simp (maxSteps := 2000000) (disch := first | omega | assumption | exact idP rfl | exact idP (bL rfl)) only [go_sem, reduceIte, Nat.reduceEqDiff]
    refine loop_k (fun e M' => ∃ i : Nat, i ≤ 400 ∧ e 2 = .sc (.int .i64 2) ∧ e 8 = m1 ∧ e 9 = m2 ∧ e 10 = .sc (.int .i64 i) ∧ Gr 1 M M' (e 7) ((selL i (woB xs ys)).map vi)) (fun e _ => ctrV 400 (e 10)) ?_ ?_
    · exact ⟨0, by omega, by simp (maxSteps := 2000000) (disch := first | omega | assumption | exact idP rfl | exact idP (bL rfl)) only [go_sem, reduceIte, Nat.reduceEqDiff], by simp (maxSteps := 2000000) (disch := first | omega | assumption | exact idP rfl | exact idP (bL rfl)) only [go_sem, reduceIte, Nat.reduceEqDiff], by simp (maxSteps := 2000000) (disch := first | omega | assumption | exact idP rfl | exact idP (bL rfl)) only [go_sem, reduceIte, Nat.reduceEqDiff], by simp (maxSteps := 2000000) (disch := first | omega | assumption | exact idP rfl | exact idP (bL rfl)) only [go_sem, reduceIte, Nat.reduceEqDiff]; rfl, by simp (maxSteps := 2000000) (disch := first | omega | assumption | exact idP rfl | exact idP (bL rfl)) only [go_sem, reduceIte, Nat.reduceEqDiff]; exact Gr.new' (Sub.refl _) hbk rfl⟩
    · rintro e M1 ⟨i, hi, e2, e8, e9, e10, hg⟩ K hK
      have hsl : (selL i (woB xs ys)).length ≤ i := selL_len
      simp (maxSteps := 2000000) (disch := first | omega | assumption | exact idP rfl | exact idP (bL rfl)) only [go_sem, reduceIte, Nat.reduceEqDiff, e2, e8, e9, e10]
      refine cond_dec (fun h => ?_) (fun h => ?_)
      · have q1 : i < (mkL 400 (inL xs)).length := by rw [mkL_len]; omega
        have q2 : i < (mkL 400 (inL ys)).length := by rw [mkL_len]; omega
        have w1 := hm1.iaddr (k := .i64) (a := (i : Int)) (by omega) (by rw [mkL_len]; omega)
        have w2 := hm2.iaddr (k := .i64) (a := (i : Int)) (by omega) (by rw [mkL_len]; omega)
        have fin1 : woB xs ys i = true → ∀ (e' : EnvV) (M' : MH), e' 2 = .sc (.int .i64 2) → e' 8 = m1 → e' 9 = m2 → e' 10 = .sc (.int .i64 ((i : Int) + 1)) → Gr 1 M M' (e' 7) ((selL i (woB xs ys) ++ [(i : Int)]).map vi) → K e' M' := fun hb e' M' g2 g8 g9 g10 g7 =>
          hK _ _ ⟨i + 1, by omega, g2, g8, g9, g10, by rw [selL_succ, if_pos hb]; exact g7⟩ (by rw [g10, e10]; simp (maxSteps := 2000000) (disch := first | omega | assumption | exact idP rfl | exact idP (bL rfl)) only [go_sem, reduceIte, Nat.reduceEqDiff, ctrV_int]; omega)
        have fin2 : woB xs ys i = false → ∀ (e' : EnvV) (M' : MH), e' 2 = .sc (.int .i64 2) → e' 8 = m1 → e' 9 = m2 → e' 10 = .sc (.int .i64 ((i : Int) + 1)) → Gr 1 M M' (e' 7) ((selL i (woB xs ys)).map vi) → K e' M' := fun hb e' M' g2 g8 g9 g10 g7 =>
          hK _ _ ⟨i + 1, by omega, g2, g8, g9, g10, by rw [selL_succ, if_neg (by rw [hb]; simp)]; exact g7⟩ (by rw [g10, e10]; simp (maxSteps := 2000000) (disch := first | omega | assumption | exact idP rfl | exact idP (bL rfl)) only [go_sem, reduceIte, Nat.reduceEqDiff, ctrV_int]; omega)
        cases b1 : inL xs i <;> cases b2 : inL ys i
        all_goals (repeat' (first | ((first | with_reducible refine cond_dec (fun h => ?_) (fun h => ?_) | with_reducible refine guardK_dec (fun h => ?_) (fun h => ?_) | with_reducible refine guardD3_dec (fun h => ?_) (fun h => ?_)) <;> first | (exfalso; omega) | (simp (maxSteps := 2000000) (disch := first | omega | assumption | exact idP rfl | exact idP (bL rfl)) only [go_sem, reduceIte, Nat.reduceEqDiff, h, e2, e8, e9, e10, w1, w2, hm1.at q1, hm2.at q2, mkL_get, b1, b2]) | skip) | ((first | with_reducible refine cond_split (fun h => ?_) (fun h => ?_) | with_reducible refine guardK_split (fun h => ?_) (fun h => ?_) | with_reducible refine guardD3_split (fun h => ?_) (fun h => ?_)) <;> ((try simp only [Bool.not_eq_true', Bool.not_eq_false'] at h); first | (simp (maxSteps := 2000000) (disch := first | omega | assumption | exact idP rfl | exact idP (bL rfl)) only [go_sem, reduceIte, Nat.reduceEqDiff, h, e2, e8, e9, e10, w1, w2, hm1.at q1, hm2.at q2, mkL_get, b1, b2]) | skip)) | (with_reducible intro bk hbk; try have hnk := (fresh_set hbk).1) | (simp (maxSteps := 2000000) (disch := first | omega | assumption | exact idP rfl | exact idP (bL rfl)) only [go_sem, reduceIte, Nat.reduceEqDiff, e2, e8, e9, e10, w1, w2, hm1.at q1, hm2.at q2, mkL_get, b1, b2])))
        all_goals first
          | exact fin2 (by simp [woB, b1, b2]) _ _ (by simp (maxSteps := 2000000) (disch := first | omega | assumption | exact idP rfl | exact idP (bL rfl)) only [go_sem, reduceIte, Nat.reduceEqDiff]) (by simp (maxSteps := 2000000) (disch := first | omega | assumption | exact idP rfl | exact idP (bL rfl)) only [go_sem, reduceIte, Nat.reduceEqDiff]) (by simp (maxSteps := 2000000) (disch := first | omega | assumption | exact idP rfl | exact idP (bL rfl)) only [go_sem, reduceIte, Nat.reduceEqDiff]) (by simp (maxSteps := 2000000) (disch := first | omega | assumption | exact idP rfl | exact idP (bL rfl)) only [go_sem, reduceIte, Nat.reduceEqDiff]) (by simp (maxSteps := 2000000) (disch := first | omega | assumption | exact idP rfl | exact idP (bL rfl)) only [go_sem, reduceIte, Nat.reduceEqDiff]; exact hg)
          | (refine app_int hg (by assumption) (by omega) (by omega) ?_
             intro s' M' hg' _
             simp (maxSteps := 2000000) (disch := first | omega | assumption | exact idP rfl | exact idP (bL rfl)) only [go_sem, reduceIte, Nat.reduceEqDiff, e2, e8, e9, e10]
             exact fin1 (by simp [woB, b1, b2]) _ _ (by simp (maxSteps := 2000000) (disch := first | omega | assumption | exact idP rfl | exact idP (bL rfl)) only [go_sem, reduceIte, Nat.reduceEqDiff]) (by simp (maxSteps := 2000000) (disch := first | omega | assumption | exact idP rfl | exact idP (bL rfl)) only [go_sem, reduceIte, Nat.reduceEqDiff]) (by simp (maxSteps := 2000000) (disch := first | omega | assumption | exact idP rfl | exact idP (bL rfl)) only [go_sem, reduceIte, Nat.reduceEqDiff]) (by simp (maxSteps := 2000000) (disch := first | omega | assumption | exact idP rfl | exact idP (bL rfl)) only [go_sem, reduceIte, Nat.reduceEqDiff]) (by simp (maxSteps := 2000000) (disch := first | omega | assumption | exact idP rfl | exact idP (bL rfl)) only [go_sem, reduceIte, Nat.reduceEqDiff]; exact hg'))
          | skip
      · obtain rfl : i = 400 := by omega
        simp (maxSteps := 2000000) (disch := first | omega | assumption | exact idP rfl | exact idP (bL rfl)) only [go_sem, reduceIte, Nat.reduceEqDiff]
        refine hG _ _ _ _ hg fun u hu => ?_
        unfold woF
        rw [if_pos ⟨h1, by assumption⟩]
        exact hu.li
end Go.M2

namespace Go.M2
open Go.Proofs
variable {M : MH}
theorem t_SetWithout {v w : V} {xs ys : List Int} (hv : LI v xs) (hw : LI w ys) (hl : xs.length ≤ 1048576) (hl2 : ys.length ≤ 1048576) : VCall Tryz.prog n_spec_SetWithout [v, w] M (fun r M' => M = M' ∧ LI r (woF xs ys)) := by
  refine VCall.froz fun R hP hG => v_spec_SetWithout rfl ?_
  simp (maxSteps := 2000000) (disch := first | omega | assumption | exact idP rfl | exact idP (bL rfl)) only [go_sem, reduceIte, Nat.reduceEqDiff]
  refine (t_l4Mix2 hv hw hl hl2).mono ?_
  rintro r _ ⟨rfl, hr⟩
  simp (maxSteps := 2000000) (disch := first | omega | assumption | exact idP rfl | exact idP (bL rfl)) only [go_sem, reduceIte, Nat.reduceEqDiff]
  exact hP _ _ (Sub.refl _) hr
noncomputable def firstN (s : SysS) : Int := numF s.vars (firstF s)
theorem nextN_len {s : SysS} {xs : List Int} : (nextN s xs).length ≤ 400 := by
  unfold nextN
  split
  · rename_i h
    have := (setV_iff.1 h).1.sz
    have h2 := tabF_len s
    exact Nat.le_trans selL_len (by omega)
  · simp
theorem t_first {v : V} {s : SysS} (hv : isSys s v) (hs : SysOk s) : VCall Tryz.prog n_impl_first [v] M (fun r M' => M = M' ∧ LI r (firstF s)) := by
  refine VCall.froz fun R hP hG => v_impl_first rfl ?_
  obtain ⟨a, b, rfl, ha, hb⟩ := hv
  have h5 := hs.v5
  have hfl : (firstF s).length = s.vars.length := by simp [firstF]
  (repeat' (first | ((first | with_reducible refine cond_dec (fun h => ?_) (fun h => ?_) | with_reducible refine guardK_dec (fun h => ?_) (fun h => ?_) | with_reducible refine guardD3_dec (fun h => ?_) (fun h => ?_)) <;> first | (exfalso; omega) | (simp (maxSteps := 2000000) (disch := first | omega | assumption | exact idP rfl | exact idP (bL rfl)) only [go_sem, reduceIte, Nat.reduceEqDiff, h, ha.len]) | skip) | ((first | with_reducible refine cond_split (fun h => ?_) (fun h => ?_) | with_reducible refine guardK_split (fun h => ?_) (fun h => ?_) | with_reducible refine guardD3_split (fun h => ?_) (fun h => ?_)) <;> ((try simp only [Bool.not_eq_true', Bool.not_eq_false'] at h); first | (simp (maxSteps := 2000000) (disch := first | omega | assumption | exact idP rfl | exact idP (bL rfl)) only [go_sem, reduceIte, Nat.reduceEqDiff, h, ha.len]) | skip)) | (with_reducible intro bk hbk; try have hnk := (fresh_set hbk).1) | (simp (maxSteps := 2000000) (disch := first | omega | assumption | exact idP rfl | exact idP (bL rfl)) only [go_sem, reduceIte, Nat.reduceEqDiff, ha.len])))
  refine loop_k (fun e M' => ∃ i : Nat, i ≤ s.vars.length ∧ e 7 = a ∧ e 8 = .sc (.int .i64 s.vars.length) ∧ e 9 = .sc (.int .i64 i) ∧ Gr 1 M M' (e 3) (((firstF s).take i).map vi)) (fun e _ => ctrV s.vars.length (e 9)) ?_ ?_
  · exact ⟨0, by omega, by simp (maxSteps := 2000000) (disch := first | omega | assumption | exact idP rfl | exact idP (bL rfl)) only [go_sem, reduceIte, Nat.reduceEqDiff], by simp (maxSteps := 2000000) (disch := first | omega | assumption | exact idP rfl | exact idP (bL rfl)) only [go_sem, reduceIte, Nat.reduceEqDiff], by simp (maxSteps := 2000000) (disch := first | omega | assumption | exact idP rfl | exact idP (bL rfl)) only [go_sem, reduceIte, Nat.reduceEqDiff]; rfl, by simp (maxSteps := 2000000) (disch := first | omega | assumption | exact idP rfl | exact idP (bL rfl)) only [go_sem, reduceIte, Nat.reduceEqDiff]; exact .nil (by (repeat (first | exact Sub.refl _ | assumption | (refine Sub.set' ?_ (by assumption)))))⟩
  · rintro e M1 ⟨i, hi, e7, e8, e9, hg⟩ K hK
    simp (maxSteps := 2000000) (disch := first | omega | assumption | exact idP rfl | exact idP (bL rfl)) only [go_sem, reduceIte, Nat.reduceEqDiff, e7, e8, e9]
    refine cond_dec (fun h => ?_) (fun h => ?_)
    · have hi' : i < s.vars.length := by omega
      have hi2 : i < (firstF s).length := by omega
      simp (maxSteps := 2000000) (disch := first | omega | assumption | exact idP rfl | exact idP (bL rfl)) only [go_sem, reduceIte, Nat.reduceEqDiff, e7, e8, e9, ha.iaddr, LVar.at ha hi']
      intro b5 hb5
      try simp (maxSteps := 2000000) (disch := first | omega | assumption | exact idP rfl | exact idP (bL rfl)) only [go_sem, reduceIte, Nat.reduceEqDiff, e7, e8, e9]
      intro bt hbt
      refine app_int (hg.more ((Sub.refl _).set' hb5)) hbt (by simp; omega) (by omega) ?_
      intro s' M' hg' _
      simp (maxSteps := 2000000) (disch := first | omega | assumption | exact idP rfl | exact idP (bL rfl)) only [go_sem, reduceIte, Nat.reduceEqDiff, e7, e8, e9]
      refine hK _ _ ⟨i + 1, by omega, by simp (maxSteps := 2000000) (disch := first | omega | assumption | exact idP rfl | exact idP (bL rfl)) only [go_sem, reduceIte, Nat.reduceEqDiff], by simp (maxSteps := 2000000) (disch := first | omega | assumption | exact idP rfl | exact idP (bL rfl)) only [go_sem, reduceIte, Nat.reduceEqDiff], by simp (maxSteps := 2000000) (disch := first | omega | assumption | exact idP rfl | exact idP (bL rfl)) only [go_sem, reduceIte, Nat.reduceEqDiff]; rfl, ?_⟩ (by simp (maxSteps := 2000000) (disch := first | omega | assumption | exact idP rfl | exact idP (bL rfl)) only [go_sem, reduceIte, Nat.reduceEqDiff, ctrV_int, e9]; omega)
      simp (maxSteps := 2000000) (disch := first | omega | assumption | exact idP rfl | exact idP (bL rfl)) only [go_sem, reduceIte, Nat.reduceEqDiff]
      rw [take_snoc hi2]
      have e1 : (firstF s)[i] = s.vars[i].first := by simp [firstF]
      rw [e1]; exact hg'
    · obtain rfl : i = s.vars.length := by omega
      rw [List.take_of_length_le (by omega)] at hg
      simp (maxSteps := 2000000) (disch := first | omega | assumption | exact idP rfl | exact idP (bL rfl)) only [go_sem, reduceIte, Nat.reduceEqDiff]
      refine (VCall.give0 hg fun u M2 hu hs2 => (t_cloneInt hu.li (by omega)).mono fun r M' hr => hr.base hs2).mono ?_
      rintro r M2 hg2
      simp (maxSteps := 2000000) (disch := first | omega | assumption | exact idP rfl | exact idP (bL rfl)) only [go_sem, reduceIte, Nat.reduceEqDiff]
      exact hG _ _ _ _ hg2 fun u hu => hu.li
theorem t_ContainsInt {v : V} {fn : Nat} {caps : List V} {xs : List Int} {pred : Int → Bool} (hv : LI v xs) (hl : xs.length ≤ 1048576)
    (hf : ∀ x ∈ xs, VCall Tryz.prog fn (.sc (.int .i64 x) :: caps) M (fun r M' => M = M' ∧ r = .sc (.bool (pred x)))) :
    VCall Tryz.prog n_slices_ContainsFunc_Sint_int [v, .fn fn caps] M (fun r M' => M = M' ∧ r = .sc (.bool (xs.any pred))) := by
  have key : VCall Tryz.prog n_slices_IndexFunc_Sint_int [v, .fn fn caps] M (fun r M' => M = M' ∧ ∃ k : Int, r = .sc (.int .i64 k) ∧ (0 ≤ k ↔ xs.any pred = true)) := by
    refine VCall.pure fun R hR => v_slices_IndexFunc_Sint_int rfl ?_
    simp (maxSteps := 2000000) (disch := first | omega | assumption | exact idP rfl | exact idP (bL rfl)) only [go_sem, reduceIte, Nat.reduceEqDiff, hv.len]
    refine loop_k (fun e M' => M' = M ∧ ∃ i : Nat, i ≤ xs.length ∧ e 0 = v ∧ e 1 = .fn fn caps ∧ e 7 = .sc (.int .i64 xs.length) ∧ e 8 = .sc (.int .i64 i) ∧ ∀ j (hj : j < xs.length), j < i → pred xs[j] = false) (fun e _ => ctrV xs.length (e 8)) ?_ ?_
    · exact ⟨rfl, 0, by omega, by simp (maxSteps := 2000000) (disch := first | omega | assumption | exact idP rfl | exact idP (bL rfl)) only [go_sem, reduceIte, Nat.reduceEqDiff], by simp (maxSteps := 2000000) (disch := first | omega | assumption | exact idP rfl | exact idP (bL rfl)) only [go_sem, reduceIte, Nat.reduceEqDiff], by simp (maxSteps := 2000000) (disch := first | omega | assumption | exact idP rfl | exact idP (bL rfl)) only [go_sem, reduceIte, Nat.reduceEqDiff], by simp (maxSteps := 2000000) (disch := first | omega | assumption | exact idP rfl | exact idP (bL rfl)) only [go_sem, reduceIte, Nat.reduceEqDiff]; rfl, fun j _ h => by omega⟩
    · rintro e M1 ⟨hM, i, hi, e0, e1, e7, e8, hj⟩ K hK
      subst hM
      simp (maxSteps := 2000000) (disch := first | omega | assumption | exact idP rfl | exact idP (bL rfl)) only [go_sem, reduceIte, Nat.reduceEqDiff, e7, e8]
      refine cond_dec (fun h => ?_) (fun h => ?_)
      · have hi' : i < xs.length := by omega
        simp (maxSteps := 2000000) (disch := first | omega | assumption | exact idP rfl | exact idP (bL rfl)) only [go_sem, reduceIte, Nat.reduceEqDiff, e0, e1, e8, hv.iaddr, hv.at hi']
        refine (hf _ (List.getElem_mem hi')).mono ?_
        rintro _ _ ⟨rfl, rfl⟩
        cases hp : pred xs[i] with
        | true =>
          simp (maxSteps := 2000000) (disch := first | omega | assumption | exact idP rfl | exact idP (bL rfl)) only [go_sem, reduceIte, Nat.reduceEqDiff]
          exact hR _ _ (by (repeat (first | exact Sub.refl _ | assumption | (refine Sub.set' ?_ (by assumption))))) ⟨_, rfl, by simp only [Int.natCast_nonneg, true_iff]; exact List.any_eq_true.2 ⟨_, List.getElem_mem hi', hp⟩⟩
        | false =>
          simp (maxSteps := 2000000) (disch := first | omega | assumption | exact idP rfl | exact idP (bL rfl)) only [go_sem, reduceIte, Nat.reduceEqDiff, e8]
          refine hK _ _ ⟨rfl, i + 1, by omega, by simp (maxSteps := 2000000) (disch := first | omega | assumption | exact idP rfl | exact idP (bL rfl)) only [go_sem, reduceIte, Nat.reduceEqDiff], by simp (maxSteps := 2000000) (disch := first | omega | assumption | exact idP rfl | exact idP (bL rfl)) only [go_sem, reduceIte, Nat.reduceEqDiff], by simp (maxSteps := 2000000) (disch := first | omega | assumption | exact idP rfl | exact idP (bL rfl)) only [go_sem, reduceIte, Nat.reduceEqDiff], by simp (maxSteps := 2000000) (disch := first | omega | assumption | exact idP rfl | exact idP (bL rfl)) only [go_sem, reduceIte, Nat.reduceEqDiff]; rfl, fun j hj1 hj2 => ?_⟩ (by simp (maxSteps := 2000000) (disch := first | omega | assumption | exact idP rfl | exact idP (bL rfl)) only [go_sem, reduceIte, Nat.reduceEqDiff, ctrV_int, e8]; omega)
          by_cases hji : j = i
          · subst hji; exact hp
          · exact hj j hj1 (by omega)
      · simp (maxSteps := 2000000) (disch := first | omega | assumption | exact idP rfl | exact idP (bL rfl)) only [go_sem, reduceIte, Nat.reduceEqDiff]
        refine hR _ _ (by (repeat (first | exact Sub.refl _ | assumption | (refine Sub.set' ?_ (by assumption))))) ⟨-1, rfl, ⟨fun h => by omega, fun h => ?_⟩⟩
        obtain ⟨x, hx, hpx⟩ := List.any_eq_true.1 h
        obtain ⟨j, hj1, rfl⟩ := List.getElem_of_mem hx
        rw [hj j hj1 (by omega)] at hpx; cases hpx
  refine VCall.pure fun R hR => v_slices_ContainsFunc_Sint_int rfl ?_
  simp (maxSteps := 2000000) (disch := first | omega | assumption | exact idP rfl | exact idP (bL rfl)) only [go_sem, reduceIte, Nat.reduceEqDiff]
  refine key.mono ?_
  rintro _ _ ⟨rfl, k, rfl, hk⟩
  simp (maxSteps := 2000000) (disch := first | omega | assumption | exact idP rfl | exact idP (bL rfl)) only [go_sem, reduceIte, Nat.reduceEqDiff]
  exact hR _ _ (by (repeat (first | exact Sub.refl _ | assumption | (refine Sub.set' ?_ (by assumption))))) (eqB (by simp only [decide_eq_true_eq]; exact hk))
theorem f_marks {w : V} {xs : List Int} {n : Nat} (hw : LI w xs) (hn : n ≤ 1048576) (hl : xs.length ≤ 1048576) (hin : ∀ x ∈ xs, 0 ≤ x ∧ x < (n : Int)) :
    VCall Tryz.prog n_impl_marks [w, .sc (.int .i64 n)] M (fun r M' => M = M' ∧ LB r (mkL n (inL xs))) :=
  (VCall.fr1 (t_marks hw hn hl hin)).mono fun r M' ⟨h1, h2⟩ => ⟨h1, h2.lb⟩
theorem firstN_bd {s : SysS} (hs : SysOk s) : 0 ≤ firstN s ∧ firstN s < sizeF s.vars := numF_lt hs (first_in hs)
end Go.M2

namespace Go.M2
theorem SetOk.mono {n m : Int} {xs : List Int} (h : SetOk n xs) (hnm : n ≤ m) : SetOk m xs := fun i hi hik => ⟨by have := (h i hi hik).1; omega, (h i hi hik).2⟩
theorem SetOk.snoc {n x : Int} {xs : List Int} (h : SetOk n xs) (h0 : 0 ≤ n) (hx : n ≤ x) : SetOk (x + 1) (xs ++ [x]) := by
  intro i hi _
  by_cases e : i < xs.length
  · have h1 := h i e e
    have e1 : (xs ++ [x])[i] = xs[i] := List.getElem_append_left e
    rw [e1]
    refine ⟨by omega, fun h2 => ?_⟩
    have e2 : (xs ++ [x])[i - 1] = xs[i - 1] := List.getElem_append_left (by omega)
    rw [e2]; exact h1.2 h2
  · have e3 : i = xs.length := by simp at hi; omega
    subst e3
    have e1 : (xs ++ [x])[xs.length] = x := by simp
    rw [e1]
    refine ⟨by omega, fun h2 => ?_⟩
    have hl : xs.length - 1 < xs.length := by omega
    have e2 : (xs ++ [x])[xs.length - 1] = xs[xs.length - 1] := List.getElem_append_left hl
    rw [e2]
    have := (h _ hl hl).1
    omega
theorem selL_ok {p : Nat → Bool} : ∀ n : Nat, SetOk (n : Int) (selL n p)
  | 0 => fun i hi => by simp [selL] at hi
  | n + 1 => by
    rw [selL_succ]
    have ih := selL_ok (p := p) n
    split
    · exact (ih.snoc (by omega) (Int.le_refl _))
    · exact ih.mono (by omega)
theorem nextN_ok (s : SysS) (xs : List Int) : SetOk 400 (nextN s xs) := by
  unfold nextN
  split
  · rename_i h
    have := (setV_iff.1 h).1.sz
    have h2 := tabF_len s
    exact (selL_ok _).mono (by omega)
  · exact fun i hi => by simp at hi
end Go.M2

namespace Go.M2
open Go.Proofs
variable {M : MH}
def In {α : Type} (L : V → List α → Prop) (v : V) (ys : List α) : Prop := L v ys ∨ (v = .sc .emp ∧ ys = [])
theorem In.get {α : Type} {L : V → List α → Prop} {v : V} {ys : List α} (h : In L v ys) (h0 : 0 < ys.length) : L v ys := by
  rcases h with h | ⟨_, rfl⟩
  · exact h
  · simp at h0
theorem In.len {α : Type} {L : V → List α → Prop} {v : V} {ys : List α} (h : In L v ys) (hl : ∀ v ys, L v ys → lenF (er v) = some (.int .i64 (ys.length : Int))) : lenF (er v) = some (.int .i64 (ys.length : Int)) := by
  rcases h with h | ⟨rfl, rfl⟩
  · exact hl _ _ h
  · rfl
abbrev XI : V → List Int → Prop := In LI
abbrev XT : V → List TermS → Prop := In LT
abbrev XVar : V → List VarS → Prop := In LVar
abbrev XTT : V → List (List TermS) → Prop := In (Ls (fun ts u => XT u ts))
def isRuleX (r : RuleS) (cs : List V) : Prop := ∃ a b c, cs = [a, b, c] ∧ XT a r.when_ ∧ XI b r.sets ∧ XTT c r.terms
abbrev XR : V → List RuleS → Prop := In (Lc 3 isRuleX)
def isSysX (s : SysS) (v : V) : Prop := ∃ a b, v = .agg [a, b] ∧ XVar a s.vars ∧ XR b s.rules
def mx : Nat := 9223372036854775807
theorem x_szIntS {v : V} {xs : List Int} {t : Int} (hv : XI v xs) (h0 : xs.length ≤ 9223372036854775807) (h1 : 0 ≤ t) (h2 : t ≤ 1048576) :
    VCall Tryz.prog n_laws_szIntS [v, .sc (.int .i64 t)] M (fun r M' => M = M' ∧ ∃ k : Int, r = .sc (.int .i64 k) ∧ k ≤ t ∧ (0 ≤ k → xs.length ≤ 1048576)) := by
  refine VCall.pure fun R hR => v_laws_szIntS rfl ?_
  have hl := hv.len fun _ _ h => h.len
  (repeat' (first | ((first | with_reducible refine cond_dec (fun h => ?_) (fun h => ?_) | with_reducible refine guardK_dec (fun h => ?_) (fun h => ?_) | with_reducible refine guardD3_dec (fun h => ?_) (fun h => ?_)) <;> first | (exfalso; omega) | (simp (maxSteps := 2000000) (disch := first | omega | assumption | exact idP rfl | exact idP (bL rfl)) only [go_sem, reduceIte, Nat.reduceEqDiff, h, hl]) | skip) | ((first | with_reducible refine cond_split (fun h => ?_) (fun h => ?_) | with_reducible refine guardK_split (fun h => ?_) (fun h => ?_) | with_reducible refine guardD3_split (fun h => ?_) (fun h => ?_)) <;> ((try simp only [Bool.not_eq_true', Bool.not_eq_false'] at h); first | (simp (maxSteps := 2000000) (disch := first | omega | assumption | exact idP rfl | exact idP (bL rfl)) only [go_sem, reduceIte, Nat.reduceEqDiff, h, hl]) | skip)) | (with_reducible intro bk hbk; try have hnk := (fresh_set hbk).1) | (simp (maxSteps := 2000000) (disch := first | omega | assumption | exact idP rfl | exact idP (bL rfl)) only [go_sem, reduceIte, Nat.reduceEqDiff, hl])))
  all_goals exact hR _ _ (by (repeat (first | exact Sub.refl _ | assumption | (refine Sub.set' ?_ (by assumption))))) ⟨_, rfl, by omega, by omega⟩
theorem x_szTermS {v : V} {xs : List TermS} {t : Int} (hv : XT v xs) (h0 : xs.length ≤ 9223372036854775807) (h1 : 0 ≤ t) (h2 : t ≤ 1048576) :
    VCall Tryz.prog n_laws_szTermS [v, .sc (.int .i64 t)] M (fun r M' => M = M' ∧ ∃ k : Int, r = .sc (.int .i64 k) ∧ k ≤ t ∧ (0 ≤ k → xs.length ≤ 1048576)) := by
  refine VCall.pure fun R hR => v_laws_szTermS rfl ?_
  have hl := hv.len fun _ _ h => h.len
  (repeat' (first | ((first | with_reducible refine cond_dec (fun h => ?_) (fun h => ?_) | with_reducible refine guardK_dec (fun h => ?_) (fun h => ?_) | with_reducible refine guardD3_dec (fun h => ?_) (fun h => ?_)) <;> first | (exfalso; omega) | (simp (maxSteps := 2000000) (disch := first | omega | assumption | exact idP rfl | exact idP (bL rfl)) only [go_sem, reduceIte, Nat.reduceEqDiff, h, hl]) | skip) | ((first | with_reducible refine cond_split (fun h => ?_) (fun h => ?_) | with_reducible refine guardK_split (fun h => ?_) (fun h => ?_) | with_reducible refine guardD3_split (fun h => ?_) (fun h => ?_)) <;> ((try simp only [Bool.not_eq_true', Bool.not_eq_false'] at h); first | (simp (maxSteps := 2000000) (disch := first | omega | assumption | exact idP rfl | exact idP (bL rfl)) only [go_sem, reduceIte, Nat.reduceEqDiff, h, hl]) | skip)) | (with_reducible intro bk hbk; try have hnk := (fresh_set hbk).1) | (simp (maxSteps := 2000000) (disch := first | omega | assumption | exact idP rfl | exact idP (bL rfl)) only [go_sem, reduceIte, Nat.reduceEqDiff, hl])))
  all_goals exact hR _ _ (by (repeat (first | exact Sub.refl _ | assumption | (refine Sub.set' ?_ (by assumption))))) ⟨_, rfl, by omega, by omega⟩
theorem x_szVarS {v : V} {xs : List VarS} {t : Int} (hv : XVar v xs) (h0 : xs.length ≤ 9223372036854775807) (h1 : 0 ≤ t) (h2 : t ≤ 1048576) :
    VCall Tryz.prog n_laws_szVarS [v, .sc (.int .i64 t)] M (fun r M' => M = M' ∧ ∃ k : Int, r = .sc (.int .i64 k) ∧ k ≤ t ∧ (0 ≤ k → xs.length ≤ 1048576)) := by
  refine VCall.pure fun R hR => v_laws_szVarS rfl ?_
  have hl := hv.len fun _ _ h => h.len
  (repeat' (first | ((first | with_reducible refine cond_dec (fun h => ?_) (fun h => ?_) | with_reducible refine guardK_dec (fun h => ?_) (fun h => ?_) | with_reducible refine guardD3_dec (fun h => ?_) (fun h => ?_)) <;> first | (exfalso; omega) | (simp (maxSteps := 2000000) (disch := first | omega | assumption | exact idP rfl | exact idP (bL rfl)) only [go_sem, reduceIte, Nat.reduceEqDiff, h, hl]) | skip) | ((first | with_reducible refine cond_split (fun h => ?_) (fun h => ?_) | with_reducible refine guardK_split (fun h => ?_) (fun h => ?_) | with_reducible refine guardD3_split (fun h => ?_) (fun h => ?_)) <;> ((try simp only [Bool.not_eq_true', Bool.not_eq_false'] at h); first | (simp (maxSteps := 2000000) (disch := first | omega | assumption | exact idP rfl | exact idP (bL rfl)) only [go_sem, reduceIte, Nat.reduceEqDiff, h, hl]) | skip)) | (with_reducible intro bk hbk; try have hnk := (fresh_set hbk).1) | (simp (maxSteps := 2000000) (disch := first | omega | assumption | exact idP rfl | exact idP (bL rfl)) only [go_sem, reduceIte, Nat.reduceEqDiff, hl])))
  all_goals exact hR _ _ (by (repeat (first | exact Sub.refl _ | assumption | (refine Sub.set' ?_ (by assumption))))) ⟨_, rfl, by omega, by omega⟩
def LenOk {α : Type} (xs : List α) : Prop := xs.length ≤ 9223372036854775807
def RuleLen (r : RuleS) : Prop := LenOk r.when_ ∧ LenOk r.sets ∧ LenOk r.terms ∧ ∀ ts ∈ r.terms, LenOk ts
def RuleFit (r : RuleS) : Prop := r.when_.length ≤ 1048576 ∧ r.sets.length ≤ 1048576 ∧ r.terms.length ≤ 1048576 ∧ ∀ ts ∈ r.terms, ts.length ≤ 1048576
def SysLen (s : SysS) : Prop := LenOk s.vars ∧ LenOk s.rules ∧ ∀ r ∈ s.rules, RuleLen r
def SysFit (s : SysS) : Prop := s.vars.length ≤ 1048576 ∧ s.rules.length ≤ 1048576 ∧ ∀ r ∈ s.rules, RuleFit r
theorem x_szTermSS {v : V} {xs : List (List TermS)} {t : Int} (hv : XTT v xs) (h0 : LenOk xs) (hx : ∀ ts ∈ xs, LenOk ts) (h1 : 0 ≤ t) (h2 : t ≤ 1048576) :
    VCall Tryz.prog n_laws_szTermSS [v, .sc (.int .i64 t)] M (fun r M' => M = M' ∧ ∃ k : Int, r = .sc (.int .i64 k) ∧ k ≤ t ∧ (0 ≤ k → xs.length ≤ 1048576 ∧ ∀ ts ∈ xs, ts.length ≤ 1048576)) := by
  refine VCall.pure fun R hR => v_laws_szTermSS rfl ?_
  unfold LenOk at h0 hx
  have hl := hv.len fun _ _ h => h.len
  (repeat' (first | ((first | with_reducible refine cond_dec (fun h => ?_) (fun h => ?_) | with_reducible refine guardK_dec (fun h => ?_) (fun h => ?_) | with_reducible refine guardD3_dec (fun h => ?_) (fun h => ?_)) <;> first | (exfalso; omega) | (simp (maxSteps := 2000000) (disch := first | omega | assumption | exact idP rfl | exact idP (bL rfl)) only [go_sem, reduceIte, Nat.reduceEqDiff, h, hl]) | skip) | ((first | with_reducible refine cond_split (fun h => ?_) (fun h => ?_) | with_reducible refine guardK_split (fun h => ?_) (fun h => ?_) | with_reducible refine guardD3_split (fun h => ?_) (fun h => ?_)) <;> ((try simp only [Bool.not_eq_true', Bool.not_eq_false'] at h); first | (simp (maxSteps := 2000000) (disch := first | omega | assumption | exact idP rfl | exact idP (bL rfl)) only [go_sem, reduceIte, Nat.reduceEqDiff, h, hl]) | skip)) | (with_reducible intro bk hbk; try have hnk := (fresh_set hbk).1) | (simp (maxSteps := 2000000) (disch := first | omega | assumption | exact idP rfl | exact idP (bL rfl)) only [go_sem, reduceIte, Nat.reduceEqDiff, hl])))
  · exact hR _ _ (by (repeat (first | exact Sub.refl _ | assumption | (refine Sub.set' ?_ (by assumption))))) ⟨_, rfl, by omega, by omega⟩
  · refine loop_k (fun e M' => M' = M ∧ ∃ (i : Nat) (k : Int), i ≤ xs.length ∧ e 0 = v ∧ e 1 = .sc (.int .i64 k) ∧ e 5 = .sc (.int .i64 i) ∧ 0 ≤ k ∧ k ≤ t ∧ ∀ j (hj : j < xs.length), j < i → xs[j].length ≤ 1048576) (fun e _ => ctrV xs.length (e 5)) ?_ ?_
    · exact ⟨rfl, 0, t - xs.length, by omega, by simp (maxSteps := 2000000) (disch := first | omega | assumption | exact idP rfl | exact idP (bL rfl)) only [go_sem, reduceIte, Nat.reduceEqDiff], by simp (maxSteps := 2000000) (disch := first | omega | assumption | exact idP rfl | exact idP (bL rfl)) only [go_sem, reduceIte, Nat.reduceEqDiff], by simp (maxSteps := 2000000) (disch := first | omega | assumption | exact idP rfl | exact idP (bL rfl)) only [go_sem, reduceIte, Nat.reduceEqDiff]; rfl, by omega, by omega, fun j _ h => by omega⟩
    · rintro e _ ⟨rfl, i, k, hi, e0, e1, e5, k0, k1, hj⟩ K hK
      simp (maxSteps := 2000000) (disch := first | omega | assumption | exact idP rfl | exact idP (bL rfl)) only [go_sem, reduceIte, Nat.reduceEqDiff, e0, e1, e5, hl]
      refine cond_dec (fun h => ?_) (fun h => ?_)
      · have hi' : i < xs.length := by omega
        have hv' := hv.get (by omega)
        simp (maxSteps := 2000000) (disch := first | omega | assumption | exact idP rfl | exact idP (bL rfl)) only [go_sem, reduceIte, Nat.reduceEqDiff, e0, e1, e5, hv'.iaddr]
        refine (x_szTermS (hv'.elt hi') (hx _ (List.getElem_mem hi')) k0 (by omega)).mono ?_
        rintro _ _ ⟨rfl, k2, rfl, q1, q2⟩
        (repeat' (first | ((first | with_reducible refine cond_dec (fun h => ?_) (fun h => ?_) | with_reducible refine guardK_dec (fun h => ?_) (fun h => ?_) | with_reducible refine guardD3_dec (fun h => ?_) (fun h => ?_)) <;> first | (exfalso; omega) | (simp (maxSteps := 2000000) (disch := first | omega | assumption | exact idP rfl | exact idP (bL rfl)) only [go_sem, reduceIte, Nat.reduceEqDiff, h]) | skip) | ((first | with_reducible refine cond_split (fun h => ?_) (fun h => ?_) | with_reducible refine guardK_split (fun h => ?_) (fun h => ?_) | with_reducible refine guardD3_split (fun h => ?_) (fun h => ?_)) <;> ((try simp only [Bool.not_eq_true', Bool.not_eq_false'] at h); first | (simp (maxSteps := 2000000) (disch := first | omega | assumption | exact idP rfl | exact idP (bL rfl)) only [go_sem, reduceIte, Nat.reduceEqDiff, h]) | skip)) | (with_reducible intro bk hbk; try have hnk := (fresh_set hbk).1) | (simp (maxSteps := 2000000) (disch := first | omega | assumption | exact idP rfl | exact idP (bL rfl)) only [go_sem, reduceIte, Nat.reduceEqDiff])))
        · exact hR _ _ (by (repeat (first | exact Sub.refl _ | assumption | (refine Sub.set' ?_ (by assumption))))) ⟨_, rfl, by omega, by omega⟩
        · refine hK _ _ ⟨rfl, i + 1, k2, by omega, by simp (maxSteps := 2000000) (disch := first | omega | assumption | exact idP rfl | exact idP (bL rfl)) only [go_sem, reduceIte, Nat.reduceEqDiff, e0], by simp (maxSteps := 2000000) (disch := first | omega | assumption | exact idP rfl | exact idP (bL rfl)) only [go_sem, reduceIte, Nat.reduceEqDiff], by simp (maxSteps := 2000000) (disch := first | omega | assumption | exact idP rfl | exact idP (bL rfl)) only [go_sem, reduceIte, Nat.reduceEqDiff, e5]; rfl, by omega, by omega, fun j hj1 hj2 => ?_⟩ (by simp (maxSteps := 2000000) (disch := first | omega | assumption | exact idP rfl | exact idP (bL rfl)) only [go_sem, reduceIte, Nat.reduceEqDiff, ctrV_int, e5]; omega)
          by_cases hji : j = i
          · subst hji; exact q2 (by omega)
          · exact hj j hj1 (by omega)
      · obtain rfl : i = xs.length := by omega
        simp (maxSteps := 2000000) (disch := first | omega | assumption | exact idP rfl | exact idP (bL rfl)) only [go_sem, reduceIte, Nat.reduceEqDiff, e1]
        refine hR _ _ (by (repeat (first | exact Sub.refl _ | assumption | (refine Sub.set' ?_ (by assumption))))) ⟨_, rfl, by omega, fun _ => ⟨by omega, fun ts hts => ?_⟩⟩
        obtain ⟨j, hj1, rfl⟩ := List.getElem_of_mem hts
        exact hj j hj1 (by omega)
theorem x_szRule {cs : List V} {r : RuleS} {t : Int} (hv : isRuleX r cs) (h0 : RuleLen r) (h1 : 0 ≤ t) (h2 : t ≤ 1048576) :
    VCall Tryz.prog n_laws_szRule [.agg cs, .sc (.int .i64 t)] M (fun r' M' => M = M' ∧ ∃ k : Int, r' = .sc (.int .i64 k) ∧ k ≤ t ∧ (0 ≤ k → RuleFit r)) := by
  refine VCall.pure fun R hR => v_laws_szRule rfl ?_
  obtain ⟨a, b, c, rfl, ha, hb, hc⟩ := hv
  obtain ⟨l1, l2, l3, l4⟩ := h0
  (repeat' (first | ((first | with_reducible refine cond_dec (fun h => ?_) (fun h => ?_) | with_reducible refine guardK_dec (fun h => ?_) (fun h => ?_) | with_reducible refine guardD3_dec (fun h => ?_) (fun h => ?_)) <;> first | (exfalso; omega) | (simp (maxSteps := 2000000) (disch := first | omega | assumption | exact idP rfl | exact idP (bL rfl)) only [go_sem, reduceIte, Nat.reduceEqDiff, h]) | skip) | ((first | with_reducible refine cond_split (fun h => ?_) (fun h => ?_) | with_reducible refine guardK_split (fun h => ?_) (fun h => ?_) | with_reducible refine guardD3_split (fun h => ?_) (fun h => ?_)) <;> ((try simp only [Bool.not_eq_true', Bool.not_eq_false'] at h); first | (simp (maxSteps := 2000000) (disch := first | omega | assumption | exact idP rfl | exact idP (bL rfl)) only [go_sem, reduceIte, Nat.reduceEqDiff, h]) | skip)) | (with_reducible intro bk hbk; try have hnk := (fresh_set hbk).1) | (simp (maxSteps := 2000000) (disch := first | omega | assumption | exact idP rfl | exact idP (bL rfl)) only [go_sem, reduceIte, Nat.reduceEqDiff])))
  refine (x_szTermS ha l1 h1 h2).mono ?_
  rintro _ _ ⟨rfl, k1, rfl, p1, p2⟩
  (repeat' (first | ((first | with_reducible refine cond_dec (fun h => ?_) (fun h => ?_) | with_reducible refine guardK_dec (fun h => ?_) (fun h => ?_) | with_reducible refine guardD3_dec (fun h => ?_) (fun h => ?_)) <;> first | (exfalso; omega) | (simp (maxSteps := 2000000) (disch := first | omega | assumption | exact idP rfl | exact idP (bL rfl)) only [go_sem, reduceIte, Nat.reduceEqDiff, h]) | skip) | ((first | with_reducible refine cond_split (fun h => ?_) (fun h => ?_) | with_reducible refine guardK_split (fun h => ?_) (fun h => ?_) | with_reducible refine guardD3_split (fun h => ?_) (fun h => ?_)) <;> ((try simp only [Bool.not_eq_true', Bool.not_eq_false'] at h); first | (simp (maxSteps := 2000000) (disch := first | omega | assumption | exact idP rfl | exact idP (bL rfl)) only [go_sem, reduceIte, Nat.reduceEqDiff, h]) | skip)) | (with_reducible intro bk hbk; try have hnk := (fresh_set hbk).1) | (simp (maxSteps := 2000000) (disch := first | omega | assumption | exact idP rfl | exact idP (bL rfl)) only [go_sem, reduceIte, Nat.reduceEqDiff])))
  · exact hR _ _ (by (repeat (first | exact Sub.refl _ | assumption | (refine Sub.set' ?_ (by assumption))))) ⟨_, rfl, by omega, by omega⟩
  · refine (x_szIntS hb l2 (by omega) (by omega)).mono ?_
    rintro _ _ ⟨rfl, k2, rfl, q1, q2⟩
    (repeat' (first | ((first | with_reducible refine cond_dec (fun h => ?_) (fun h => ?_) | with_reducible refine guardK_dec (fun h => ?_) (fun h => ?_) | with_reducible refine guardD3_dec (fun h => ?_) (fun h => ?_)) <;> first | (exfalso; omega) | (simp (maxSteps := 2000000) (disch := first | omega | assumption | exact idP rfl | exact idP (bL rfl)) only [go_sem, reduceIte, Nat.reduceEqDiff, h]) | skip) | ((first | with_reducible refine cond_split (fun h => ?_) (fun h => ?_) | with_reducible refine guardK_split (fun h => ?_) (fun h => ?_) | with_reducible refine guardD3_split (fun h => ?_) (fun h => ?_)) <;> ((try simp only [Bool.not_eq_true', Bool.not_eq_false'] at h); first | (simp (maxSteps := 2000000) (disch := first | omega | assumption | exact idP rfl | exact idP (bL rfl)) only [go_sem, reduceIte, Nat.reduceEqDiff, h]) | skip)) | (with_reducible intro bk hbk; try have hnk := (fresh_set hbk).1) | (simp (maxSteps := 2000000) (disch := first | omega | assumption | exact idP rfl | exact idP (bL rfl)) only [go_sem, reduceIte, Nat.reduceEqDiff])))
    · exact hR _ _ (by (repeat (first | exact Sub.refl _ | assumption | (refine Sub.set' ?_ (by assumption))))) ⟨_, rfl, by omega, by omega⟩
    · refine (x_szTermSS hc l3 l4 (by omega) (by omega)).mono ?_
      rintro _ _ ⟨rfl, k3, rfl, w1, w2⟩
      (repeat' (first | ((first | with_reducible refine cond_dec (fun h => ?_) (fun h => ?_) | with_reducible refine guardK_dec (fun h => ?_) (fun h => ?_) | with_reducible refine guardD3_dec (fun h => ?_) (fun h => ?_)) <;> first | (exfalso; omega) | (simp (maxSteps := 2000000) (disch := first | omega | assumption | exact idP rfl | exact idP (bL rfl)) only [go_sem, reduceIte, Nat.reduceEqDiff, h]) | skip) | ((first | with_reducible refine cond_split (fun h => ?_) (fun h => ?_) | with_reducible refine guardK_split (fun h => ?_) (fun h => ?_) | with_reducible refine guardD3_split (fun h => ?_) (fun h => ?_)) <;> ((try simp only [Bool.not_eq_true', Bool.not_eq_false'] at h); first | (simp (maxSteps := 2000000) (disch := first | omega | assumption | exact idP rfl | exact idP (bL rfl)) only [go_sem, reduceIte, Nat.reduceEqDiff, h]) | skip)) | (with_reducible intro bk hbk; try have hnk := (fresh_set hbk).1) | (simp (maxSteps := 2000000) (disch := first | omega | assumption | exact idP rfl | exact idP (bL rfl)) only [go_sem, reduceIte, Nat.reduceEqDiff])))
      · exact hR _ _ (by (repeat (first | exact Sub.refl _ | assumption | (refine Sub.set' ?_ (by assumption))))) ⟨_, rfl, by omega, by omega⟩
      · exact hR _ _ (by (repeat (first | exact Sub.refl _ | assumption | (refine Sub.set' ?_ (by assumption))))) ⟨_, rfl, by omega, fun h => ⟨p2 (by omega), q2 (by omega), (w2 h).1, (w2 h).2⟩⟩
theorem x_szRuleS {v : V} {xs : List RuleS} {t : Int} (hv : XR v xs) (h0 : LenOk xs) (hx : ∀ r ∈ xs, RuleLen r) (h1 : 0 ≤ t) (h2 : t ≤ 1048576) :
    VCall Tryz.prog n_laws_szRuleS [v, .sc (.int .i64 t)] M (fun r M' => M = M' ∧ ∃ k : Int, r = .sc (.int .i64 k) ∧ k ≤ t ∧ (0 ≤ k → xs.length ≤ 1048576 ∧ ∀ r ∈ xs, RuleFit r)) := by
  refine VCall.pure fun R hR => v_laws_szRuleS rfl ?_
  unfold LenOk at h0
  have hl := hv.len fun _ _ h => h.len
  (repeat' (first | ((first | with_reducible refine cond_dec (fun h => ?_) (fun h => ?_) | with_reducible refine guardK_dec (fun h => ?_) (fun h => ?_) | with_reducible refine guardD3_dec (fun h => ?_) (fun h => ?_)) <;> first | (exfalso; omega) | (simp (maxSteps := 2000000) (disch := first | omega | assumption | exact idP rfl | exact idP (bL rfl)) only [go_sem, reduceIte, Nat.reduceEqDiff, h, hl]) | skip) | ((first | with_reducible refine cond_split (fun h => ?_) (fun h => ?_) | with_reducible refine guardK_split (fun h => ?_) (fun h => ?_) | with_reducible refine guardD3_split (fun h => ?_) (fun h => ?_)) <;> ((try simp only [Bool.not_eq_true', Bool.not_eq_false'] at h); first | (simp (maxSteps := 2000000) (disch := first | omega | assumption | exact idP rfl | exact idP (bL rfl)) only [go_sem, reduceIte, Nat.reduceEqDiff, h, hl]) | skip)) | (with_reducible intro bk hbk; try have hnk := (fresh_set hbk).1) | (simp (maxSteps := 2000000) (disch := first | omega | assumption | exact idP rfl | exact idP (bL rfl)) only [go_sem, reduceIte, Nat.reduceEqDiff, hl])))
  · exact hR _ _ (by (repeat (first | exact Sub.refl _ | assumption | (refine Sub.set' ?_ (by assumption))))) ⟨_, rfl, by omega, by omega⟩
  · refine loop_k (fun e M' => M' = M ∧ ∃ (i : Nat) (k : Int), i ≤ xs.length ∧ e 0 = v ∧ e 1 = .sc (.int .i64 k) ∧ e 5 = .sc (.int .i64 i) ∧ 0 ≤ k ∧ k ≤ t ∧ ∀ j (hj : j < xs.length), j < i → RuleFit xs[j]) (fun e _ => ctrV xs.length (e 5)) ?_ ?_
    · exact ⟨rfl, 0, t - xs.length, by omega, by simp (maxSteps := 2000000) (disch := first | omega | assumption | exact idP rfl | exact idP (bL rfl)) only [go_sem, reduceIte, Nat.reduceEqDiff], by simp (maxSteps := 2000000) (disch := first | omega | assumption | exact idP rfl | exact idP (bL rfl)) only [go_sem, reduceIte, Nat.reduceEqDiff], by simp (maxSteps := 2000000) (disch := first | omega | assumption | exact idP rfl | exact idP (bL rfl)) only [go_sem, reduceIte, Nat.reduceEqDiff]; rfl, by omega, by omega, fun j _ h => by omega⟩
    · rintro e _ ⟨rfl, i, k, hi, e0, e1, e5, k0, k1, hj⟩ K hK
      simp (maxSteps := 2000000) (disch := first | omega | assumption | exact idP rfl | exact idP (bL rfl)) only [go_sem, reduceIte, Nat.reduceEqDiff, e0, e1, e5, hl]
      refine cond_dec (fun h => ?_) (fun h => ?_)
      · have hi' : i < xs.length := by omega
        have hv' := hv.get (by omega)
        have hcs := hv'.elt hi'
        have hrule := hcs
        obtain ⟨c1, c2, c3, hat, _, _, _⟩ := hcs
        rw [hat] at hrule
        simp (maxSteps := 2000000) (disch := first | omega | assumption | exact idP rfl | exact idP (bL rfl)) only [go_sem, reduceIte, Nat.reduceEqDiff, e0, e1, e5, hv'.iaddr, hat]
        refine (x_szRule hrule (hx _ (List.getElem_mem hi')) k0 (by omega)).mono ?_
        rintro _ _ ⟨rfl, k2, rfl, q1, q2⟩
        (repeat' (first | ((first | with_reducible refine cond_dec (fun h => ?_) (fun h => ?_) | with_reducible refine guardK_dec (fun h => ?_) (fun h => ?_) | with_reducible refine guardD3_dec (fun h => ?_) (fun h => ?_)) <;> first | (exfalso; omega) | (simp (maxSteps := 2000000) (disch := first | omega | assumption | exact idP rfl | exact idP (bL rfl)) only [go_sem, reduceIte, Nat.reduceEqDiff, h]) | skip) | ((first | with_reducible refine cond_split (fun h => ?_) (fun h => ?_) | with_reducible refine guardK_split (fun h => ?_) (fun h => ?_) | with_reducible refine guardD3_split (fun h => ?_) (fun h => ?_)) <;> ((try simp only [Bool.not_eq_true', Bool.not_eq_false'] at h); first | (simp (maxSteps := 2000000) (disch := first | omega | assumption | exact idP rfl | exact idP (bL rfl)) only [go_sem, reduceIte, Nat.reduceEqDiff, h]) | skip)) | (with_reducible intro bk hbk; try have hnk := (fresh_set hbk).1) | (simp (maxSteps := 2000000) (disch := first | omega | assumption | exact idP rfl | exact idP (bL rfl)) only [go_sem, reduceIte, Nat.reduceEqDiff])))
        · exact hR _ _ (by (repeat (first | exact Sub.refl _ | assumption | (refine Sub.set' ?_ (by assumption))))) ⟨_, rfl, by omega, by omega⟩
        · refine hK _ _ ⟨rfl, i + 1, k2, by omega, by simp (maxSteps := 2000000) (disch := first | omega | assumption | exact idP rfl | exact idP (bL rfl)) only [go_sem, reduceIte, Nat.reduceEqDiff, e0], by simp (maxSteps := 2000000) (disch := first | omega | assumption | exact idP rfl | exact idP (bL rfl)) only [go_sem, reduceIte, Nat.reduceEqDiff], by simp (maxSteps := 2000000) (disch := first | omega | assumption | exact idP rfl | exact idP (bL rfl)) only [go_sem, reduceIte, Nat.reduceEqDiff, e5]; rfl, by omega, by omega, fun j hj1 hj2 => ?_⟩ (by simp (maxSteps := 2000000) (disch := first | omega | assumption | exact idP rfl | exact idP (bL rfl)) only [go_sem, reduceIte, Nat.reduceEqDiff, ctrV_int, e5]; omega)
          by_cases hji : j = i
          · subst hji; exact q2 (by omega)
          · exact hj j hj1 (by omega)
      · obtain rfl : i = xs.length := by omega
        simp (maxSteps := 2000000) (disch := first | omega | assumption | exact idP rfl | exact idP (bL rfl)) only [go_sem, reduceIte, Nat.reduceEqDiff, e1]
        refine hR _ _ (by (repeat (first | exact Sub.refl _ | assumption | (refine Sub.set' ?_ (by assumption))))) ⟨_, rfl, by omega, fun _ => ⟨by omega, fun ts hts => ?_⟩⟩
        obtain ⟨j, hj1, rfl⟩ := List.getElem_of_mem hts
        exact hj j hj1 (by omega)
theorem x_szSystem {v : V} {s : SysS} {t : Int} (hv : isSysX s v) (h0 : SysLen s) (h1 : 0 ≤ t) (h2 : t ≤ 1048576) :
    VCall Tryz.prog n_laws_szSystem [v, .sc (.int .i64 t)] M (fun r M' => M = M' ∧ ∃ k : Int, r = .sc (.int .i64 k) ∧ k ≤ t ∧ (0 ≤ k → SysFit s)) := by
  refine VCall.pure fun R hR => v_laws_szSystem rfl ?_
  obtain ⟨a, b, rfl, ha, hb⟩ := hv
  obtain ⟨l1, l2, l3⟩ := h0
  (repeat' (first | ((first | with_reducible refine cond_dec (fun h => ?_) (fun h => ?_) | with_reducible refine guardK_dec (fun h => ?_) (fun h => ?_) | with_reducible refine guardD3_dec (fun h => ?_) (fun h => ?_)) <;> first | (exfalso; omega) | (simp (maxSteps := 2000000) (disch := first | omega | assumption | exact idP rfl | exact idP (bL rfl)) only [go_sem, reduceIte, Nat.reduceEqDiff, h]) | skip) | ((first | with_reducible refine cond_split (fun h => ?_) (fun h => ?_) | with_reducible refine guardK_split (fun h => ?_) (fun h => ?_) | with_reducible refine guardD3_split (fun h => ?_) (fun h => ?_)) <;> ((try simp only [Bool.not_eq_true', Bool.not_eq_false'] at h); first | (simp (maxSteps := 2000000) (disch := first | omega | assumption | exact idP rfl | exact idP (bL rfl)) only [go_sem, reduceIte, Nat.reduceEqDiff, h]) | skip)) | (with_reducible intro bk hbk; try have hnk := (fresh_set hbk).1) | (simp (maxSteps := 2000000) (disch := first | omega | assumption | exact idP rfl | exact idP (bL rfl)) only [go_sem, reduceIte, Nat.reduceEqDiff])))
  refine (x_szVarS ha l1 h1 h2).mono ?_
  rintro _ _ ⟨rfl, k1, rfl, p1, p2⟩
  (repeat' (first | ((first | with_reducible refine cond_dec (fun h => ?_) (fun h => ?_) | with_reducible refine guardK_dec (fun h => ?_) (fun h => ?_) | with_reducible refine guardD3_dec (fun h => ?_) (fun h => ?_)) <;> first | (exfalso; omega) | (simp (maxSteps := 2000000) (disch := first | omega | assumption | exact idP rfl | exact idP (bL rfl)) only [go_sem, reduceIte, Nat.reduceEqDiff, h]) | skip) | ((first | with_reducible refine cond_split (fun h => ?_) (fun h => ?_) | with_reducible refine guardK_split (fun h => ?_) (fun h => ?_) | with_reducible refine guardD3_split (fun h => ?_) (fun h => ?_)) <;> ((try simp only [Bool.not_eq_true', Bool.not_eq_false'] at h); first | (simp (maxSteps := 2000000) (disch := first | omega | assumption | exact idP rfl | exact idP (bL rfl)) only [go_sem, reduceIte, Nat.reduceEqDiff, h]) | skip)) | (with_reducible intro bk hbk; try have hnk := (fresh_set hbk).1) | (simp (maxSteps := 2000000) (disch := first | omega | assumption | exact idP rfl | exact idP (bL rfl)) only [go_sem, reduceIte, Nat.reduceEqDiff])))
  · exact hR _ _ (by (repeat (first | exact Sub.refl _ | assumption | (refine Sub.set' ?_ (by assumption))))) ⟨_, rfl, by omega, by omega⟩
  · refine (x_szRuleS hb l2 l3 (by omega) (by omega)).mono ?_
    rintro _ _ ⟨rfl, k2, rfl, q1, q2⟩
    (repeat' (first | ((first | with_reducible refine cond_dec (fun h => ?_) (fun h => ?_) | with_reducible refine guardK_dec (fun h => ?_) (fun h => ?_) | with_reducible refine guardD3_dec (fun h => ?_) (fun h => ?_)) <;> first | (exfalso; omega) | (simp (maxSteps := 2000000) (disch := first | omega | assumption | exact idP rfl | exact idP (bL rfl)) only [go_sem, reduceIte, Nat.reduceEqDiff, h]) | skip) | ((first | with_reducible refine cond_split (fun h => ?_) (fun h => ?_) | with_reducible refine guardK_split (fun h => ?_) (fun h => ?_) | with_reducible refine guardD3_split (fun h => ?_) (fun h => ?_)) <;> ((try simp only [Bool.not_eq_true', Bool.not_eq_false'] at h); first | (simp (maxSteps := 2000000) (disch := first | omega | assumption | exact idP rfl | exact idP (bL rfl)) only [go_sem, reduceIte, Nat.reduceEqDiff, h]) | skip)) | (with_reducible intro bk hbk; try have hnk := (fresh_set hbk).1) | (simp (maxSteps := 2000000) (disch := first | omega | assumption | exact idP rfl | exact idP (bL rfl)) only [go_sem, reduceIte, Nat.reduceEqDiff])))
    · exact hR _ _ (by (repeat (first | exact Sub.refl _ | assumption | (refine Sub.set' ?_ (by assumption))))) ⟨_, rfl, by omega, by omega⟩
    · exact hR _ _ (by (repeat (first | exact Sub.refl _ | assumption | (refine Sub.set' ?_ (by assumption))))) ⟨_, rfl, by omega, fun h => ⟨p2 (by omega), (q2 h).1, (q2 h).2⟩⟩
end Go.M2

namespace Go.M2
open Go.Proofs
variable {M : MH}
theorem x_toIntS {v : V} {xs : List Int} (hv : XI v xs) (hl : xs.length ≤ 1048576) : VCall Tryz.prog n_laws_toIntS [v] M (fun r M' => Gr 1 M M' r (xs.map vi)) := by
  refine VCall.plain fun R hR => v_laws_toIntS rfl ?_
  have hlen := hv.len fun _ _ h => h.len
  simp (maxSteps := 2000000) (disch := first | omega | assumption | exact idP rfl | exact idP (bL rfl)) only [go_sem, reduceIte, Nat.reduceEqDiff, hlen]
  refine mks3 (by omega) (by simp [mostCells]; omega) (by simp [mostCells]; omega) ?_
  intro b3 hb3
  simp (maxSteps := 2000000) (disch := first | omega | assumption | exact idP rfl | exact idP (bL rfl)) only [go_sem, reduceIte, Nat.reduceEqDiff, zeros_vi]
  refine loop_k (fun e M' => ∃ i : Nat, i ≤ xs.length ∧ e 0 = v ∧ e 3 = .sc (.sl (some (b3, 0)) xs.length xs.length true 1) ∧ e 4 = .sc (.int .i64 i) ∧ Sub M M' ∧ M' b3 = some ((xs.take i ++ List.replicate (xs.length - i) 0).map vi)) (fun e _ => ctrV xs.length (e 4)) ?_ ?_
  · exact ⟨0, by omega, by simp (maxSteps := 2000000) (disch := first | omega | assumption | exact idP rfl | exact idP (bL rfl)) only [go_sem, reduceIte, Nat.reduceEqDiff], by simp (maxSteps := 2000000) (disch := first | omega | assumption | exact idP rfl | exact idP (bL rfl)) only [go_sem, reduceIte, Nat.reduceEqDiff], by simp (maxSteps := 2000000) (disch := first | omega | assumption | exact idP rfl | exact idP (bL rfl)) only [go_sem, reduceIte, Nat.reduceEqDiff]; rfl, (Sub.refl _).set hb3, by simp (maxSteps := 2000000) (disch := first | omega | assumption | exact idP rfl | exact idP (bL rfl)) only [go_sem, reduceIte, Nat.reduceEqDiff]; simp⟩
  · rintro e M1 ⟨i, hi, e0, e3, e4, hsub, hm⟩ K hK
    simp (maxSteps := 2000000) (disch := first | omega | assumption | exact idP rfl | exact idP (bL rfl)) only [go_sem, reduceIte, Nat.reduceEqDiff, e0, e3, e4, hlen]
    refine cond_dec (fun h => ?_) (fun h => ?_)
    · have hi' : i < xs.length := by omega
      have hv' := hv.get (by omega)
      have hso : i < ((xs.take i ++ List.replicate (xs.length - i) 0).map vi).length := by rw [len_vi]; simp; omega
      simp (maxSteps := 2000000) (disch := first | omega | assumption | exact idP rfl | exact idP (bL rfl)) only [go_sem, reduceIte, Nat.reduceEqDiff, e0, e3, e4, hv'.iaddr, hv'.at hi', hm]
      refine hK _ _ ⟨i + 1, by omega, by simp (maxSteps := 2000000) (disch := first | omega | assumption | exact idP rfl | exact idP (bL rfl)) only [go_sem, reduceIte, Nat.reduceEqDiff], by simp (maxSteps := 2000000) (disch := first | omega | assumption | exact idP rfl | exact idP (bL rfl)) only [go_sem, reduceIte, Nat.reduceEqDiff], by simp (maxSteps := 2000000) (disch := first | omega | assumption | exact idP rfl | exact idP (bL rfl)) only [go_sem, reduceIte, Nat.reduceEqDiff]; rfl, hsub.set hb3, ?_⟩ (by simp (maxSteps := 2000000) (disch := first | omega | assumption | exact idP rfl | exact idP (bL rfl)) only [go_sem, reduceIte, Nat.reduceEqDiff, ctrV_int, e4]; omega)
      simp (maxSteps := 2000000) (disch := first | omega | assumption | exact idP rfl | exact idP (bL rfl)) only [go_sem, reduceIte, Nat.reduceEqDiff]
      rw [set_vi, show xs.length - i = (xs.length - (i + 1)) + 1 by omega, List.replicate_succ, take_snoc hi', List.set_append_right _ _ (by simp; omega)]
      have : i - (xs.take i).length = 0 := by simp; omega
      rw [this]
      simp only [List.set_cons_zero, List.append_assoc, List.singleton_append]
    · obtain rfl : i = xs.length := by omega
      simp only [List.take_length, Nat.sub_self, List.replicate_zero, List.append_nil] at hm
      simp (maxSteps := 2000000) (disch := first | omega | assumption | exact idP rfl | exact idP (bL rfl)) only [go_sem, reduceIte, Nat.reduceEqDiff, e3]
      exact hR _ _ ⟨hsub, fun b' h' => by simp [blkV] at h'; subst h'; exact hb3, .inr ⟨b3, _, true, rfl, hm, by rw [len_vi]; omega⟩⟩
theorem f_toIntS {v : V} {xs : List Int} (hv : XI v xs) (hl : xs.length ≤ 1048576) : VCall Tryz.prog n_laws_toIntS [v] M (fun r M' => M = M' ∧ LI r xs) :=
  (VCall.fr1 (x_toIntS hv hl)).mono fun r M' ⟨h1, h2⟩ => ⟨h1, h2.li⟩
theorem x_toVar {x : VarS} : VCall Tryz.prog n_laws_toVar [.agg (encVar x)] M (fun r M' => M = M' ∧ r = .agg (encVar x)) := by
  refine VCall.pure fun R hR => v_laws_toVar rfl ?_
  simp (maxSteps := 2000000) (disch := first | omega | assumption | exact idP rfl | exact idP (bL rfl)) only [go_sem, reduceIte, Nat.reduceEqDiff, encVar]
  intro b1 hb1
  try simp (maxSteps := 2000000) (disch := first | omega | assumption | exact idP rfl | exact idP (bL rfl)) only [go_sem, reduceIte, Nat.reduceEqDiff]
  intro b2 hb2
  try simp (maxSteps := 2000000) (disch := first | omega | assumption | exact idP rfl | exact idP (bL rfl)) only [go_sem, reduceIte, Nat.reduceEqDiff]
  intro b3 hb3
  have n21 := (fresh_set hb2).1
  have n32 := (fresh_set hb3).1
  have n31 := (fresh_set (fresh_set hb3).2).1
  simp (maxSteps := 2000000) (disch := first | omega | assumption | exact idP rfl | exact idP (bL rfl)) only [go_sem, reduceIte, Nat.reduceEqDiff]
  exact hR _ _ (Sub.set (by (repeat (first | exact Sub.refl _ | assumption | (refine Sub.set' ?_ (by assumption))))) (fresh_set hb2).2) rfl
theorem x_toTerm {x : TermS} : VCall Tryz.prog n_laws_toTerm [.agg (encT x)] M (fun r M' => M = M' ∧ r = .agg (encT x)) := by
  refine VCall.pure fun R hR => v_laws_toTerm rfl ?_
  simp (maxSteps := 2000000) (disch := first | omega | assumption | exact idP rfl | exact idP (bL rfl)) only [go_sem, reduceIte, Nat.reduceEqDiff, encT]
  intro b1 hb1
  try simp (maxSteps := 2000000) (disch := first | omega | assumption | exact idP rfl | exact idP (bL rfl)) only [go_sem, reduceIte, Nat.reduceEqDiff]
  intro b2 hb2
  try simp (maxSteps := 2000000) (disch := first | omega | assumption | exact idP rfl | exact idP (bL rfl)) only [go_sem, reduceIte, Nat.reduceEqDiff]
  intro b3 hb3
  have n21 := (fresh_set hb2).1
  have n32 := (fresh_set hb3).1
  have n31 := (fresh_set (fresh_set hb3).2).1
  simp (maxSteps := 2000000) (disch := first | omega | assumption | exact idP rfl | exact idP (bL rfl)) only [go_sem, reduceIte, Nat.reduceEqDiff]
  exact hR _ _ (Sub.set (by (repeat (first | exact Sub.refl _ | assumption | (refine Sub.set' ?_ (by assumption))))) (fresh_set hb2).2) rfl
theorem x_eqIntS {v w : V} {xs ys : List Int} (hv : LI v xs) (hw : LI w ys) (hl : xs.length ≤ 1048576) : VCall Tryz.prog n_laws_eqIntS [v, w] M (fun r M' => M = M' ∧ r = .sc (.bool (decide (xs = ys)))) := by
  refine VCall.pure fun R hR => v_laws_eqIntS rfl ?_
  (repeat' (first | ((first | with_reducible refine cond_dec (fun h => ?_) (fun h => ?_) | with_reducible refine guardK_dec (fun h => ?_) (fun h => ?_) | with_reducible refine guardD3_dec (fun h => ?_) (fun h => ?_)) <;> first | (exfalso; omega) | (simp (maxSteps := 2000000) (disch := first | omega | assumption | exact idP rfl | exact idP (bL rfl)) only [go_sem, reduceIte, Nat.reduceEqDiff, h, hv.len, hw.len]) | skip) | ((first | with_reducible refine cond_split (fun h => ?_) (fun h => ?_) | with_reducible refine guardK_split (fun h => ?_) (fun h => ?_) | with_reducible refine guardD3_split (fun h => ?_) (fun h => ?_)) <;> ((try simp only [Bool.not_eq_true', Bool.not_eq_false'] at h); first | (simp (maxSteps := 2000000) (disch := first | omega | assumption | exact idP rfl | exact idP (bL rfl)) only [go_sem, reduceIte, Nat.reduceEqDiff, h, hv.len, hw.len]) | skip)) | (with_reducible intro bk hbk; try have hnk := (fresh_set hbk).1) | (simp (maxSteps := 2000000) (disch := first | omega | assumption | exact idP rfl | exact idP (bL rfl)) only [go_sem, reduceIte, Nat.reduceEqDiff, hv.len, hw.len])))
  · refine hR _ _ (by (repeat (first | exact Sub.refl _ | assumption | (refine Sub.set' ?_ (by assumption))))) ?_
    have : ¬ xs = ys := fun e => by subst e; omega
    simp [this]
  · have hlen : xs.length = ys.length := by omega
    refine loop_k (fun e M' => M' = M ∧ ∃ i : Nat, i ≤ xs.length ∧ e 0 = v ∧ e 1 = w ∧ e 5 = .sc (.int .i64 i) ∧ xs.take i = ys.take i) (fun e _ => ctrV xs.length (e 5)) ?_ ?_
    · exact ⟨rfl, 0, by omega, by simp (maxSteps := 2000000) (disch := first | omega | assumption | exact idP rfl | exact idP (bL rfl)) only [go_sem, reduceIte, Nat.reduceEqDiff], by simp (maxSteps := 2000000) (disch := first | omega | assumption | exact idP rfl | exact idP (bL rfl)) only [go_sem, reduceIte, Nat.reduceEqDiff], by simp (maxSteps := 2000000) (disch := first | omega | assumption | exact idP rfl | exact idP (bL rfl)) only [go_sem, reduceIte, Nat.reduceEqDiff]; rfl, rfl⟩
    · rintro e _ ⟨rfl, i, hi, e0, e1, e5, ht⟩ K hK
      simp (maxSteps := 2000000) (disch := first | omega | assumption | exact idP rfl | exact idP (bL rfl)) only [go_sem, reduceIte, Nat.reduceEqDiff, e0, e1, e5, hv.len]
      refine cond_dec (fun h => ?_) (fun h => ?_)
      · have hi1 : i < xs.length := by omega
        have hi2 : i < ys.length := by omega
        simp (maxSteps := 2000000) (disch := first | omega | assumption | exact idP rfl | exact idP (bL rfl)) only [go_sem, reduceIte, Nat.reduceEqDiff, e0, e1, e5, hv.iaddr, hw.iaddr, hv.at hi1, hw.at hi2]
        refine cond_dec (fun h2 => ?_) (fun h2 => ?_)
        · simp (maxSteps := 2000000) (disch := first | omega | assumption | exact idP rfl | exact idP (bL rfl)) only [go_sem, reduceIte, Nat.reduceEqDiff]
          refine hR _ _ (by (repeat (first | exact Sub.refl _ | assumption | (refine Sub.set' ?_ (by assumption))))) ?_
          have : ¬ xs = ys := fun e => by subst e; exact h2 rfl
          simp [this]
        · simp (maxSteps := 2000000) (disch := first | omega | assumption | exact idP rfl | exact idP (bL rfl)) only [go_sem, reduceIte, Nat.reduceEqDiff, e0, e1, e5]
          exact hK _ _ ⟨rfl, i + 1, by omega, by simp (maxSteps := 2000000) (disch := first | omega | assumption | exact idP rfl | exact idP (bL rfl)) only [go_sem, reduceIte, Nat.reduceEqDiff], by simp (maxSteps := 2000000) (disch := first | omega | assumption | exact idP rfl | exact idP (bL rfl)) only [go_sem, reduceIte, Nat.reduceEqDiff], by simp (maxSteps := 2000000) (disch := first | omega | assumption | exact idP rfl | exact idP (bL rfl)) only [go_sem, reduceIte, Nat.reduceEqDiff]; rfl, by rw [take_snoc hi1, take_snoc hi2, ht, Decidable.not_not.1 h2]⟩ (by simp (maxSteps := 2000000) (disch := first | omega | assumption | exact idP rfl | exact idP (bL rfl)) only [go_sem, reduceIte, Nat.reduceEqDiff, ctrV_int, e5]; omega)
      · obtain rfl : i = xs.length := by omega
        simp (maxSteps := 2000000) (disch := first | omega | assumption | exact idP rfl | exact idP (bL rfl)) only [go_sem, reduceIte, Nat.reduceEqDiff]
        refine hR _ _ (by (repeat (first | exact Sub.refl _ | assumption | (refine Sub.set' ?_ (by assumption))))) ?_
        rw [List.take_length, hlen, List.take_length] at ht
        simp [ht]
end Go.M2

namespace Go.M2
open Go.Proofs
variable {M : MH}
theorem x_eqVar {x : VarS} : VCall Tryz.prog n_laws_eqVar [.agg (encVar x), .agg (encVar x)] M (fun r M' => M = M' ∧ r = .sc (.bool true)) := by
  refine VCall.pure fun R hR => v_laws_eqVar rfl ?_
  (repeat' (first | ((first | with_reducible refine cond_dec (fun h => ?_) (fun h => ?_) | with_reducible refine guardK_dec (fun h => ?_) (fun h => ?_) | with_reducible refine guardD3_dec (fun h => ?_) (fun h => ?_)) <;> first | (exfalso; omega) | (simp (maxSteps := 2000000) (disch := first | omega | assumption | exact idP rfl | exact idP (bL rfl)) only [go_sem, reduceIte, Nat.reduceEqDiff, h, encVar]) | skip) | ((first | with_reducible refine cond_split (fun h => ?_) (fun h => ?_) | with_reducible refine guardK_split (fun h => ?_) (fun h => ?_) | with_reducible refine guardD3_split (fun h => ?_) (fun h => ?_)) <;> ((try simp only [Bool.not_eq_true', Bool.not_eq_false'] at h); first | (simp (maxSteps := 2000000) (disch := first | omega | assumption | exact idP rfl | exact idP (bL rfl)) only [go_sem, reduceIte, Nat.reduceEqDiff, h, encVar]) | skip)) | (with_reducible intro bk hbk; try have hnk := (fresh_set hbk).1) | (simp (maxSteps := 2000000) (disch := first | omega | assumption | exact idP rfl | exact idP (bL rfl)) only [go_sem, reduceIte, Nat.reduceEqDiff, encVar])))
  all_goals exact hR _ _ (by (repeat (first | exact Sub.refl _ | assumption | (refine Sub.set' ?_ (by assumption))))) rfl
theorem x_eqTerm {x : TermS} : VCall Tryz.prog n_laws_eqTerm [.agg (encT x), .agg (encT x)] M (fun r M' => M = M' ∧ r = .sc (.bool true)) := by
  refine VCall.pure fun R hR => v_laws_eqTerm rfl ?_
  (repeat' (first | ((first | with_reducible refine cond_dec (fun h => ?_) (fun h => ?_) | with_reducible refine guardK_dec (fun h => ?_) (fun h => ?_) | with_reducible refine guardD3_dec (fun h => ?_) (fun h => ?_)) <;> first | (exfalso; omega) | (simp (maxSteps := 2000000) (disch := first | omega | assumption | exact idP rfl | exact idP (bL rfl)) only [go_sem, reduceIte, Nat.reduceEqDiff, h, encT]) | skip) | ((first | with_reducible refine cond_split (fun h => ?_) (fun h => ?_) | with_reducible refine guardK_split (fun h => ?_) (fun h => ?_) | with_reducible refine guardD3_split (fun h => ?_) (fun h => ?_)) <;> ((try simp only [Bool.not_eq_true', Bool.not_eq_false'] at h); first | (simp (maxSteps := 2000000) (disch := first | omega | assumption | exact idP rfl | exact idP (bL rfl)) only [go_sem, reduceIte, Nat.reduceEqDiff, h, encT]) | skip)) | (with_reducible intro bk hbk; try have hnk := (fresh_set hbk).1) | (simp (maxSteps := 2000000) (disch := first | omega | assumption | exact idP rfl | exact idP (bL rfl)) only [go_sem, reduceIte, Nat.reduceEqDiff, encT])))
  all_goals exact hR _ _ (by (repeat (first | exact Sub.refl _ | assumption | (refine Sub.set' ?_ (by assumption))))) rfl
theorem x_eqVarS {v w : V} {xs : List VarS} (hv : LVar v xs) (hw : LVar w xs) (hl : xs.length ≤ 1048576) : VCall Tryz.prog n_laws_eqVarS [v, w] M (fun r M' => M = M' ∧ r = .sc (.bool true)) := by
  refine VCall.pure fun R hR => v_laws_eqVarS rfl ?_
  (repeat' (first | ((first | with_reducible refine cond_dec (fun h => ?_) (fun h => ?_) | with_reducible refine guardK_dec (fun h => ?_) (fun h => ?_) | with_reducible refine guardD3_dec (fun h => ?_) (fun h => ?_)) <;> first | (exfalso; omega) | (simp (maxSteps := 2000000) (disch := first | omega | assumption | exact idP rfl | exact idP (bL rfl)) only [go_sem, reduceIte, Nat.reduceEqDiff, h, hv.len, hw.len]) | skip) | ((first | with_reducible refine cond_split (fun h => ?_) (fun h => ?_) | with_reducible refine guardK_split (fun h => ?_) (fun h => ?_) | with_reducible refine guardD3_split (fun h => ?_) (fun h => ?_)) <;> ((try simp only [Bool.not_eq_true', Bool.not_eq_false'] at h); first | (simp (maxSteps := 2000000) (disch := first | omega | assumption | exact idP rfl | exact idP (bL rfl)) only [go_sem, reduceIte, Nat.reduceEqDiff, h, hv.len, hw.len]) | skip)) | (with_reducible intro bk hbk; try have hnk := (fresh_set hbk).1) | (simp (maxSteps := 2000000) (disch := first | omega | assumption | exact idP rfl | exact idP (bL rfl)) only [go_sem, reduceIte, Nat.reduceEqDiff, hv.len, hw.len])))
  refine loop_k (fun e M' => M' = M ∧ ∃ i : Nat, i ≤ xs.length ∧ e 0 = v ∧ e 1 = w ∧ e 5 = .sc (.int .i64 i)) (fun e _ => ctrV xs.length (e 5)) ?_ ?_
  · exact ⟨rfl, 0, by omega, by simp (maxSteps := 2000000) (disch := first | omega | assumption | exact idP rfl | exact idP (bL rfl)) only [go_sem, reduceIte, Nat.reduceEqDiff], by simp (maxSteps := 2000000) (disch := first | omega | assumption | exact idP rfl | exact idP (bL rfl)) only [go_sem, reduceIte, Nat.reduceEqDiff], by simp (maxSteps := 2000000) (disch := first | omega | assumption | exact idP rfl | exact idP (bL rfl)) only [go_sem, reduceIte, Nat.reduceEqDiff]; rfl⟩
  · rintro e _ ⟨rfl, i, hi, e0, e1, e5⟩ K hK
    simp (maxSteps := 2000000) (disch := first | omega | assumption | exact idP rfl | exact idP (bL rfl)) only [go_sem, reduceIte, Nat.reduceEqDiff, e0, e1, e5, hv.len]
    refine cond_dec (fun h => ?_) (fun h => ?_)
    · have hi1 : i < xs.length := by omega
      have a1 : atN 3 v i = encVar xs[i] := hv.elt hi1
      have a2 : atN 3 w i = encVar xs[i] := hw.elt hi1
      simp (maxSteps := 2000000) (disch := first | omega | assumption | exact idP rfl | exact idP (bL rfl)) only [go_sem, reduceIte, Nat.reduceEqDiff, e0, e1, e5, hv.iaddr, hw.iaddr, a1, a2]
      refine x_eqVar.mono ?_
      rintro _ _ ⟨rfl, rfl⟩
      simp (maxSteps := 2000000) (disch := first | omega | assumption | exact idP rfl | exact idP (bL rfl)) only [go_sem, reduceIte, Nat.reduceEqDiff, e0, e1, e5]
      exact hK _ _ ⟨rfl, i + 1, by omega, by simp (maxSteps := 2000000) (disch := first | omega | assumption | exact idP rfl | exact idP (bL rfl)) only [go_sem, reduceIte, Nat.reduceEqDiff], by simp (maxSteps := 2000000) (disch := first | omega | assumption | exact idP rfl | exact idP (bL rfl)) only [go_sem, reduceIte, Nat.reduceEqDiff], by simp (maxSteps := 2000000) (disch := first | omega | assumption | exact idP rfl | exact idP (bL rfl)) only [go_sem, reduceIte, Nat.reduceEqDiff]; rfl⟩ (by simp (maxSteps := 2000000) (disch := first | omega | assumption | exact idP rfl | exact idP (bL rfl)) only [go_sem, reduceIte, Nat.reduceEqDiff, ctrV_int, e5]; omega)
    · simp (maxSteps := 2000000) (disch := first | omega | assumption | exact idP rfl | exact idP (bL rfl)) only [go_sem, reduceIte, Nat.reduceEqDiff]
      exact hR _ _ (by (repeat (first | exact Sub.refl _ | assumption | (refine Sub.set' ?_ (by assumption))))) rfl
theorem x_eqTermS {v w : V} {xs : List TermS} (hv : LT v xs) (hw : LT w xs) (hl : xs.length ≤ 1048576) : VCall Tryz.prog n_laws_eqTermS [v, w] M (fun r M' => M = M' ∧ r = .sc (.bool true)) := by
  refine VCall.pure fun R hR => v_laws_eqTermS rfl ?_
  (repeat' (first | ((first | with_reducible refine cond_dec (fun h => ?_) (fun h => ?_) | with_reducible refine guardK_dec (fun h => ?_) (fun h => ?_) | with_reducible refine guardD3_dec (fun h => ?_) (fun h => ?_)) <;> first | (exfalso; omega) | (simp (maxSteps := 2000000) (disch := first | omega | assumption | exact idP rfl | exact idP (bL rfl)) only [go_sem, reduceIte, Nat.reduceEqDiff, h, hv.len, hw.len]) | skip) | ((first | with_reducible refine cond_split (fun h => ?_) (fun h => ?_) | with_reducible refine guardK_split (fun h => ?_) (fun h => ?_) | with_reducible refine guardD3_split (fun h => ?_) (fun h => ?_)) <;> ((try simp only [Bool.not_eq_true', Bool.not_eq_false'] at h); first | (simp (maxSteps := 2000000) (disch := first | omega | assumption | exact idP rfl | exact idP (bL rfl)) only [go_sem, reduceIte, Nat.reduceEqDiff, h, hv.len, hw.len]) | skip)) | (with_reducible intro bk hbk; try have hnk := (fresh_set hbk).1) | (simp (maxSteps := 2000000) (disch := first | omega | assumption | exact idP rfl | exact idP (bL rfl)) only [go_sem, reduceIte, Nat.reduceEqDiff, hv.len, hw.len])))
  refine loop_k (fun e M' => M' = M ∧ ∃ i : Nat, i ≤ xs.length ∧ e 0 = v ∧ e 1 = w ∧ e 5 = .sc (.int .i64 i)) (fun e _ => ctrV xs.length (e 5)) ?_ ?_
  · exact ⟨rfl, 0, by omega, by simp (maxSteps := 2000000) (disch := first | omega | assumption | exact idP rfl | exact idP (bL rfl)) only [go_sem, reduceIte, Nat.reduceEqDiff], by simp (maxSteps := 2000000) (disch := first | omega | assumption | exact idP rfl | exact idP (bL rfl)) only [go_sem, reduceIte, Nat.reduceEqDiff], by simp (maxSteps := 2000000) (disch := first | omega | assumption | exact idP rfl | exact idP (bL rfl)) only [go_sem, reduceIte, Nat.reduceEqDiff]; rfl⟩
  · rintro e _ ⟨rfl, i, hi, e0, e1, e5⟩ K hK
    simp (maxSteps := 2000000) (disch := first | omega | assumption | exact idP rfl | exact idP (bL rfl)) only [go_sem, reduceIte, Nat.reduceEqDiff, e0, e1, e5, hv.len]
    refine cond_dec (fun h => ?_) (fun h => ?_)
    · have hi1 : i < xs.length := by omega
      have a1 : atN 4 v i = encT xs[i] := hv.elt hi1
      have a2 : atN 4 w i = encT xs[i] := hw.elt hi1
      simp (maxSteps := 2000000) (disch := first | omega | assumption | exact idP rfl | exact idP (bL rfl)) only [go_sem, reduceIte, Nat.reduceEqDiff, e0, e1, e5, hv.iaddr, hw.iaddr, a1, a2]
      refine x_eqTerm.mono ?_
      rintro _ _ ⟨rfl, rfl⟩
      simp (maxSteps := 2000000) (disch := first | omega | assumption | exact idP rfl | exact idP (bL rfl)) only [go_sem, reduceIte, Nat.reduceEqDiff, e0, e1, e5]
      exact hK _ _ ⟨rfl, i + 1, by omega, by simp (maxSteps := 2000000) (disch := first | omega | assumption | exact idP rfl | exact idP (bL rfl)) only [go_sem, reduceIte, Nat.reduceEqDiff], by simp (maxSteps := 2000000) (disch := first | omega | assumption | exact idP rfl | exact idP (bL rfl)) only [go_sem, reduceIte, Nat.reduceEqDiff], by simp (maxSteps := 2000000) (disch := first | omega | assumption | exact idP rfl | exact idP (bL rfl)) only [go_sem, reduceIte, Nat.reduceEqDiff]; rfl⟩ (by simp (maxSteps := 2000000) (disch := first | omega | assumption | exact idP rfl | exact idP (bL rfl)) only [go_sem, reduceIte, Nat.reduceEqDiff, ctrV_int, e5]; omega)
    · simp (maxSteps := 2000000) (disch := first | omega | assumption | exact idP rfl | exact idP (bL rfl)) only [go_sem, reduceIte, Nat.reduceEqDiff]
      exact hR _ _ (by (repeat (first | exact Sub.refl _ | assumption | (refine Sub.set' ?_ (by assumption))))) rfl
theorem x_eqTermSS {v w : V} {xs : List (List TermS)} (hv : LTT v xs) (hw : LTT w xs) (hl : xs.length ≤ 1048576) (hl2 : ∀ ts ∈ xs, ts.length ≤ 1048576) : VCall Tryz.prog n_laws_eqTermSS [v, w] M (fun r M' => M = M' ∧ r = .sc (.bool true)) := by
  refine VCall.pure fun R hR => v_laws_eqTermSS rfl ?_
  (repeat' (first | ((first | with_reducible refine cond_dec (fun h => ?_) (fun h => ?_) | with_reducible refine guardK_dec (fun h => ?_) (fun h => ?_) | with_reducible refine guardD3_dec (fun h => ?_) (fun h => ?_)) <;> first | (exfalso; omega) | (simp (maxSteps := 2000000) (disch := first | omega | assumption | exact idP rfl | exact idP (bL rfl)) only [go_sem, reduceIte, Nat.reduceEqDiff, h, hv.len, hw.len]) | skip) | ((first | with_reducible refine cond_split (fun h => ?_) (fun h => ?_) | with_reducible refine guardK_split (fun h => ?_) (fun h => ?_) | with_reducible refine guardD3_split (fun h => ?_) (fun h => ?_)) <;> ((try simp only [Bool.not_eq_true', Bool.not_eq_false'] at h); first | (simp (maxSteps := 2000000) (disch := first | omega | assumption | exact idP rfl | exact idP (bL rfl)) only [go_sem, reduceIte, Nat.reduceEqDiff, h, hv.len, hw.len]) | skip)) | (with_reducible intro bk hbk; try have hnk := (fresh_set hbk).1) | (simp (maxSteps := 2000000) (disch := first | omega | assumption | exact idP rfl | exact idP (bL rfl)) only [go_sem, reduceIte, Nat.reduceEqDiff, hv.len, hw.len])))
  refine loop_k (fun e M' => M' = M ∧ ∃ i : Nat, i ≤ xs.length ∧ e 0 = v ∧ e 1 = w ∧ e 5 = .sc (.int .i64 i)) (fun e _ => ctrV xs.length (e 5)) ?_ ?_
  · exact ⟨rfl, 0, by omega, by simp (maxSteps := 2000000) (disch := first | omega | assumption | exact idP rfl | exact idP (bL rfl)) only [go_sem, reduceIte, Nat.reduceEqDiff], by simp (maxSteps := 2000000) (disch := first | omega | assumption | exact idP rfl | exact idP (bL rfl)) only [go_sem, reduceIte, Nat.reduceEqDiff], by simp (maxSteps := 2000000) (disch := first | omega | assumption | exact idP rfl | exact idP (bL rfl)) only [go_sem, reduceIte, Nat.reduceEqDiff]; rfl⟩
  · rintro e _ ⟨rfl, i, hi, e0, e1, e5⟩ K hK
    simp (maxSteps := 2000000) (disch := first | omega | assumption | exact idP rfl | exact idP (bL rfl)) only [go_sem, reduceIte, Nat.reduceEqDiff, e0, e1, e5, hv.len]
    refine cond_dec (fun h => ?_) (fun h => ?_)
    · have hi1 : i < xs.length := by omega
      simp (maxSteps := 2000000) (disch := first | omega | assumption | exact idP rfl | exact idP (bL rfl)) only [go_sem, reduceIte, Nat.reduceEqDiff, e0, e1, e5, hv.iaddr, hw.iaddr]
      refine (x_eqTermS (hv.elt hi1) (hw.elt hi1) (hl2 _ (List.getElem_mem hi1))).mono ?_
      rintro _ _ ⟨rfl, rfl⟩
      simp (maxSteps := 2000000) (disch := first | omega | assumption | exact idP rfl | exact idP (bL rfl)) only [go_sem, reduceIte, Nat.reduceEqDiff, e0, e1, e5]
      exact hK _ _ ⟨rfl, i + 1, by omega, by simp (maxSteps := 2000000) (disch := first | omega | assumption | exact idP rfl | exact idP (bL rfl)) only [go_sem, reduceIte, Nat.reduceEqDiff], by simp (maxSteps := 2000000) (disch := first | omega | assumption | exact idP rfl | exact idP (bL rfl)) only [go_sem, reduceIte, Nat.reduceEqDiff], by simp (maxSteps := 2000000) (disch := first | omega | assumption | exact idP rfl | exact idP (bL rfl)) only [go_sem, reduceIte, Nat.reduceEqDiff]; rfl⟩ (by simp (maxSteps := 2000000) (disch := first | omega | assumption | exact idP rfl | exact idP (bL rfl)) only [go_sem, reduceIte, Nat.reduceEqDiff, ctrV_int, e5]; omega)
    · simp (maxSteps := 2000000) (disch := first | omega | assumption | exact idP rfl | exact idP (bL rfl)) only [go_sem, reduceIte, Nat.reduceEqDiff]
      exact hR _ _ (by (repeat (first | exact Sub.refl _ | assumption | (refine Sub.set' ?_ (by assumption))))) rfl
theorem x_eqRule {cs ds : List V} {r : RuleS} (hv : isRule r cs) (hw : isRule r ds) (hf : RuleFit r) : VCall Tryz.prog n_laws_eqRule [.agg cs, .agg ds] M (fun r' M' => M = M' ∧ r' = .sc (.bool true)) := by
  refine VCall.pure fun R hR => v_laws_eqRule rfl ?_
  obtain ⟨a, b, c, rfl, ha, hb, hc⟩ := hv
  obtain ⟨a', b', c', rfl, ha', hb', hc'⟩ := hw
  obtain ⟨f1, f2, f3, f4⟩ := hf
  have ei : decide (r.sets = r.sets) = true := by simp
  (repeat' (first | ((first | with_reducible refine cond_dec (fun h => ?_) (fun h => ?_) | with_reducible refine guardK_dec (fun h => ?_) (fun h => ?_) | with_reducible refine guardD3_dec (fun h => ?_) (fun h => ?_)) <;> first | (exfalso; omega) | (simp (maxSteps := 2000000) (disch := first | omega | assumption | exact idP rfl | exact idP (bL rfl)) only [go_sem, reduceIte, Nat.reduceEqDiff, h, ei]) | skip) | ((first | with_reducible refine cond_split (fun h => ?_) (fun h => ?_) | with_reducible refine guardK_split (fun h => ?_) (fun h => ?_) | with_reducible refine guardD3_split (fun h => ?_) (fun h => ?_)) <;> ((try simp only [Bool.not_eq_true', Bool.not_eq_false'] at h); first | (simp (maxSteps := 2000000) (disch := first | omega | assumption | exact idP rfl | exact idP (bL rfl)) only [go_sem, reduceIte, Nat.reduceEqDiff, h, ei]) | skip)) | ((with_reducible refine (x_eqTermS ha ha' f1).mono ?_); rintro _ _ ⟨rfl, rfl⟩) | ((with_reducible refine (x_eqIntS hb hb' f2).mono ?_); rintro _ _ ⟨rfl, rfl⟩) | ((with_reducible refine (x_eqTermSS hc hc' f3 f4).mono ?_); rintro _ _ ⟨rfl, rfl⟩) | (with_reducible intro bk hbk; try have hnk := (fresh_set hbk).1) | (simp (maxSteps := 2000000) (disch := first | omega | assumption | exact idP rfl | exact idP (bL rfl)) only [go_sem, reduceIte, Nat.reduceEqDiff, ei])))
  all_goals exact hR _ _ (by (repeat (first | exact Sub.refl _ | assumption | (refine Sub.set' ?_ (by assumption))))) rfl
theorem x_eqRuleS {v w : V} {xs : List RuleS} (hv : LR v xs) (hw : LR w xs) (hl : xs.length ≤ 1048576) (hl2 : ∀ r ∈ xs, RuleFit r) : VCall Tryz.prog n_laws_eqRuleS [v, w] M (fun r M' => M = M' ∧ r = .sc (.bool true)) := by
  refine VCall.pure fun R hR => v_laws_eqRuleS rfl ?_
  (repeat' (first | ((first | with_reducible refine cond_dec (fun h => ?_) (fun h => ?_) | with_reducible refine guardK_dec (fun h => ?_) (fun h => ?_) | with_reducible refine guardD3_dec (fun h => ?_) (fun h => ?_)) <;> first | (exfalso; omega) | (simp (maxSteps := 2000000) (disch := first | omega | assumption | exact idP rfl | exact idP (bL rfl)) only [go_sem, reduceIte, Nat.reduceEqDiff, h, hv.len, hw.len]) | skip) | ((first | with_reducible refine cond_split (fun h => ?_) (fun h => ?_) | with_reducible refine guardK_split (fun h => ?_) (fun h => ?_) | with_reducible refine guardD3_split (fun h => ?_) (fun h => ?_)) <;> ((try simp only [Bool.not_eq_true', Bool.not_eq_false'] at h); first | (simp (maxSteps := 2000000) (disch := first | omega | assumption | exact idP rfl | exact idP (bL rfl)) only [go_sem, reduceIte, Nat.reduceEqDiff, h, hv.len, hw.len]) | skip)) | (with_reducible intro bk hbk; try have hnk := (fresh_set hbk).1) | (simp (maxSteps := 2000000) (disch := first | omega | assumption | exact idP rfl | exact idP (bL rfl)) only [go_sem, reduceIte, Nat.reduceEqDiff, hv.len, hw.len])))
  refine loop_k (fun e M' => M' = M ∧ ∃ i : Nat, i ≤ xs.length ∧ e 0 = v ∧ e 1 = w ∧ e 5 = .sc (.int .i64 i)) (fun e _ => ctrV xs.length (e 5)) ?_ ?_
  · exact ⟨rfl, 0, by omega, by simp (maxSteps := 2000000) (disch := first | omega | assumption | exact idP rfl | exact idP (bL rfl)) only [go_sem, reduceIte, Nat.reduceEqDiff], by simp (maxSteps := 2000000) (disch := first | omega | assumption | exact idP rfl | exact idP (bL rfl)) only [go_sem, reduceIte, Nat.reduceEqDiff], by simp (maxSteps := 2000000) (disch := first | omega | assumption | exact idP rfl | exact idP (bL rfl)) only [go_sem, reduceIte, Nat.reduceEqDiff]; rfl⟩
  · rintro e _ ⟨rfl, i, hi, e0, e1, e5⟩ K hK
    simp (maxSteps := 2000000) (disch := first | omega | assumption | exact idP rfl | exact idP (bL rfl)) only [go_sem, reduceIte, Nat.reduceEqDiff, e0, e1, e5, hv.len]
    refine cond_dec (fun h => ?_) (fun h => ?_)
    · have hi1 : i < xs.length := by omega
      have r1 := hv.elt hi1
      have r2 := hw.elt hi1
      have s1 := r1
      have s2 := r2
      obtain ⟨c1, c2, c3, hat, _, _, _⟩ := r1
      obtain ⟨d1, d2, d3, hat2, _, _, _⟩ := r2
      rw [hat] at s1
      rw [hat2] at s2
      simp (maxSteps := 2000000) (disch := first | omega | assumption | exact idP rfl | exact idP (bL rfl)) only [go_sem, reduceIte, Nat.reduceEqDiff, e0, e1, e5, hv.iaddr, hw.iaddr, hat, hat2]
      refine (x_eqRule s1 s2 (hl2 _ (List.getElem_mem hi1))).mono ?_
      rintro _ _ ⟨rfl, rfl⟩
      simp (maxSteps := 2000000) (disch := first | omega | assumption | exact idP rfl | exact idP (bL rfl)) only [go_sem, reduceIte, Nat.reduceEqDiff, e0, e1, e5]
      exact hK _ _ ⟨rfl, i + 1, by omega, by simp (maxSteps := 2000000) (disch := first | omega | assumption | exact idP rfl | exact idP (bL rfl)) only [go_sem, reduceIte, Nat.reduceEqDiff], by simp (maxSteps := 2000000) (disch := first | omega | assumption | exact idP rfl | exact idP (bL rfl)) only [go_sem, reduceIte, Nat.reduceEqDiff], by simp (maxSteps := 2000000) (disch := first | omega | assumption | exact idP rfl | exact idP (bL rfl)) only [go_sem, reduceIte, Nat.reduceEqDiff]; rfl⟩ (by simp (maxSteps := 2000000) (disch := first | omega | assumption | exact idP rfl | exact idP (bL rfl)) only [go_sem, reduceIte, Nat.reduceEqDiff, ctrV_int, e5]; omega)
    · simp (maxSteps := 2000000) (disch := first | omega | assumption | exact idP rfl | exact idP (bL rfl)) only [go_sem, reduceIte, Nat.reduceEqDiff]
      exact hR _ _ (by (repeat (first | exact Sub.refl _ | assumption | (refine Sub.set' ?_ (by assumption))))) rfl
theorem x_eqSystem {v w : V} {s : SysS} (hv : isSys s v) (hw : isSys s w) (hf : SysFit s) : VCall Tryz.prog n_laws_eqSystem [v, w] M (fun r M' => M = M' ∧ r = .sc (.bool true)) := by
  refine VCall.pure fun R hR => v_laws_eqSystem rfl ?_
  obtain ⟨a, b, rfl, ha, hb⟩ := hv
  obtain ⟨a', b', rfl, ha', hb'⟩ := hw
  obtain ⟨f1, f2, f3⟩ := hf
  (repeat' (first | ((first | with_reducible refine cond_dec (fun h => ?_) (fun h => ?_) | with_reducible refine guardK_dec (fun h => ?_) (fun h => ?_) | with_reducible refine guardD3_dec (fun h => ?_) (fun h => ?_)) <;> first | (exfalso; omega) | (simp (maxSteps := 2000000) (disch := first | omega | assumption | exact idP rfl | exact idP (bL rfl)) only [go_sem, reduceIte, Nat.reduceEqDiff, h]) | skip) | ((first | with_reducible refine cond_split (fun h => ?_) (fun h => ?_) | with_reducible refine guardK_split (fun h => ?_) (fun h => ?_) | with_reducible refine guardD3_split (fun h => ?_) (fun h => ?_)) <;> ((try simp only [Bool.not_eq_true', Bool.not_eq_false'] at h); first | (simp (maxSteps := 2000000) (disch := first | omega | assumption | exact idP rfl | exact idP (bL rfl)) only [go_sem, reduceIte, Nat.reduceEqDiff, h]) | skip)) | ((with_reducible refine (x_eqVarS ha ha' f1).mono ?_); rintro _ _ ⟨rfl, rfl⟩) | ((with_reducible refine (x_eqRuleS hb hb' f2 f3).mono ?_); rintro _ _ ⟨rfl, rfl⟩) | (with_reducible intro bk hbk; try have hnk := (fresh_set hbk).1) | (simp (maxSteps := 2000000) (disch := first | omega | assumption | exact idP rfl | exact idP (bL rfl)) only [go_sem, reduceIte, Nat.reduceEqDiff])))
  all_goals exact hR _ _ (by (repeat (first | exact Sub.refl _ | assumption | (refine Sub.set' ?_ (by assumption))))) rfl
end Go.M2
