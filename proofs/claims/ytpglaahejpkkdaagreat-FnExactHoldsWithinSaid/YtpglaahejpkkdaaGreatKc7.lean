/- Contracts: where an expression is true; Proves, both sides; the plain law. -/
import Derived.Test.YtpglaahejpkkdaaGreatKc6
namespace Go.M2
open Go.Proofs
set_option linter.unusedVariables false
set_option linter.unusedSimpArgs false
set_option maxRecDepth 10000
set_option maxHeartbeats 4000000
variable {M : MH}
def whB (s : SysS) (ts : List TermS) (n : Nat) : Bool := decide (evalF ts (stGo s.vars (n : Int)) = 1)
noncomputable def tOk (s : SysS) (ts : List TermS) : Bool := sysB s && kindIs (s.vars.length : Int) 2 ts
theorem tOk_iff {s : SysS} {ts : List TermS} : tOk s ts = true ↔ SysOk s ∧ kindIs (s.vars.length : Int) 2 ts = true := by
  unfold tOk
  rw [Bool.and_eq_true, sysB_iff]
theorem kindIs_some {vars k : Int} {ts : List TermS} (h : kindIs vars k ts = true) : ∃ ks, kindsF vars ts = some ks := by
  unfold kindIs at h
  split at h
  · rename_i ks h2; exact ⟨ks, h2⟩
  · cases h
theorem mkL_setB {n k : Nat} {p q : Nat → Bool} {b : Bool} (h : ∀ i, i < n → q i = if i = k then b else p i) : (mkL n p).set k b = mkL n q := by
  apply List.ext_getElem
  · simp [mkL]
  · intro i h1 h2
    rw [List.getElem_set, mkL_get, mkL_get]
    rw [mkL_len] at h2
    rw [h i h2]
    by_cases e : k = i
    · subst e; simp
    · rw [if_neg e, if_neg (fun e' => e e'.symm)]
theorem t_where {v w : V} {s : SysS} {ts : List TermS} {N : Nat} (hv : isSys s v) (hs : SysOk s) (hw : LT w ts) (hk : kindIs (s.vars.length : Int) 2 ts = true) (hN : sizeF s.vars = (N : Int)) :
    VCall Tryz.prog n_impl_where [v, w] M (fun r M' => Gr 1 M M' r ((mkL N (whB s ts)).map vb)) := by
  refine VCall.plain fun R hR => v_impl_where rfl ?_
  have hv0 := hv
  obtain ⟨a, b, rfl, ha, hb⟩ := hv
  obtain ⟨ks, hks⟩ := kindIs_some hk
  have hsz := hs.sz
  (repeat' (first | ((first | with_reducible refine cond_dec (fun h => ?_) (fun h => ?_) | with_reducible refine guardK_dec (fun h => ?_) (fun h => ?_) | with_reducible refine guardD3_dec (fun h => ?_) (fun h => ?_)) <;> first | (exfalso; omega) | (simp (maxSteps := 2000000) (disch := first | omega | assumption | exact idP rfl | exact idP (bL rfl)) only [go_sem, reduceIte, Nat.reduceEqDiff, h]) | skip) | ((first | with_reducible refine cond_split (fun h => ?_) (fun h => ?_) | with_reducible refine guardK_split (fun h => ?_) (fun h => ?_) | with_reducible refine guardD3_split (fun h => ?_) (fun h => ?_)) <;> ((try simp only [Bool.not_eq_true', Bool.not_eq_false'] at h); first | (simp (maxSteps := 2000000) (disch := first | omega | assumption | exact idP rfl | exact idP (bL rfl)) only [go_sem, reduceIte, Nat.reduceEqDiff, h]) | skip)) | ((with_reducible refine (t_impSize ha hs.vars hs.v5).mono ?_); rintro _ _ ⟨rfl, rfl⟩) | (with_reducible intro bk hbk; try have hnk := (fresh_set hbk).1) | (simp (maxSteps := 2000000) (disch := first | omega | assumption | exact idP rfl | exact idP (bL rfl)) only [go_sem, reduceIte, Nat.reduceEqDiff])))
  rw [hN]
  refine mks3 (by omega) (by simp [mostCells]; omega) (by simp [mostCells]; omega) ?_
  intro b5 hb5
  simp (maxSteps := 2000000) (disch := first | omega | assumption | exact idP rfl | exact idP (bL rfl)) only [go_sem, reduceIte, Nat.reduceEqDiff, zeros_vb', mkL_none]
  refine loop_k (fun e M' => ∃ i : Nat, i ≤ N ∧ e 1 = w ∧ e 2 = .sc (.ptr (some (bk, 0))) ∧ e 5 = .sc (.sl (some (b5, 0)) N N true 1) ∧ e 12 = .sc (.int .i64 N) ∧ e 13 = .sc (.int .i64 i) ∧ Sub (M.set bk [a, b]) M' ∧ M' b5 = some ((mkL N (fun j => decide (j < i) && whB s ts j)).map vb)) (fun e _ => ctrV N (e 13)) ?_ ?_
  · refine ⟨0, by omega, by simp (maxSteps := 2000000) (disch := first | omega | assumption | exact idP rfl | exact idP (bL rfl)) only [go_sem, reduceIte, Nat.reduceEqDiff], by simp (maxSteps := 2000000) (disch := first | omega | assumption | exact idP rfl | exact idP (bL rfl)) only [go_sem, reduceIte, Nat.reduceEqDiff], by simp (maxSteps := 2000000) (disch := first | omega | assumption | exact idP rfl | exact idP (bL rfl)) only [go_sem, reduceIte, Nat.reduceEqDiff], by simp (maxSteps := 2000000) (disch := first | omega | assumption | exact idP rfl | exact idP (bL rfl)) only [go_sem, reduceIte, Nat.reduceEqDiff], by simp (maxSteps := 2000000) (disch := first | omega | assumption | exact idP rfl | exact idP (bL rfl)) only [go_sem, reduceIte, Nat.reduceEqDiff]; rfl, (Sub.refl _).set hb5, ?_⟩
    simp (maxSteps := 2000000) (disch := first | omega | assumption | exact idP rfl | exact idP (bL rfl)) only [go_sem, reduceIte, Nat.reduceEqDiff]
    rw [mkL_ext]
    intro i hi; simp
  · rintro e M1 ⟨i, hi, e1, e2, e5, e12, e13, hsub, hm⟩ K hK
    have hm2 := hsub bk _ set_same
    simp (maxSteps := 2000000) (disch := first | omega | assumption | exact idP rfl | exact idP (bL rfl)) only [go_sem, reduceIte, Nat.reduceEqDiff, e1, e2, e5, e12, e13]
    refine cond_dec (fun h => ?_) (fun h => ?_)
    · have hi' : i < N := by omega
      have hso : i < ((mkL N (fun j => decide (j < i) && whB s ts j)).map vb).length := by rw [len_vb', mkL_len]; omega
      simp (maxSteps := 2000000) (disch := first | omega | assumption | exact idP rfl | exact idP (bL rfl)) only [go_sem, reduceIte, Nat.reduceEqDiff, e1, e2, e5, e12, e13, hm2]
      refine (f_stateAt hv0 hs (n := (i : Int)) (by omega) (by omega)).mono ?_
      rintro st _ ⟨rfl, hst⟩
      simp (maxSteps := 2000000) (disch := first | omega | assumption | exact idP rfl | exact idP (bL rfl)) only [go_sem, reduceIte, Nat.reduceEqDiff, e1, e2, e5, e12, e13, hm2]
      have hin : StIn s.vars (stGo s.vars (i : Int)) := stGo_in hs.vars
      refine (t_eval hw hst hks (hin.ok hs) (by rw [stGo_len]; omega)).mono ?_
      rintro _ _ ⟨rfl, rfl⟩
      simp (maxSteps := 2000000) (disch := first | omega | assumption | exact idP rfl | exact idP (bL rfl)) only [go_sem, reduceIte, Nat.reduceEqDiff, e1, e2, e5, e12, e13, hm2, hm]
      refine hK _ _ ⟨i + 1, by omega, by simp (maxSteps := 2000000) (disch := first | omega | assumption | exact idP rfl | exact idP (bL rfl)) only [go_sem, reduceIte, Nat.reduceEqDiff], by simp (maxSteps := 2000000) (disch := first | omega | assumption | exact idP rfl | exact idP (bL rfl)) only [go_sem, reduceIte, Nat.reduceEqDiff], by simp (maxSteps := 2000000) (disch := first | omega | assumption | exact idP rfl | exact idP (bL rfl)) only [go_sem, reduceIte, Nat.reduceEqDiff], by simp (maxSteps := 2000000) (disch := first | omega | assumption | exact idP rfl | exact idP (bL rfl)) only [go_sem, reduceIte, Nat.reduceEqDiff], by simp (maxSteps := 2000000) (disch := first | omega | assumption | exact idP rfl | exact idP (bL rfl)) only [go_sem, reduceIte, Nat.reduceEqDiff]; rfl, hsub.set hb5, ?_⟩ (by simp (maxSteps := 2000000) (disch := first | omega | assumption | exact idP rfl | exact idP (bL rfl)) only [go_sem, reduceIte, Nat.reduceEqDiff, ctrV_int, e13]; omega)
      simp (maxSteps := 2000000) (disch := first | omega | assumption | exact idP rfl | exact idP (bL rfl)) only [go_sem, reduceIte, Nat.reduceEqDiff]
      rw [set_vb', mkL_setB]
      intro j hj
      by_cases e : j = i
      · subst e; simp [whB]
      · rw [if_neg e]
        have : decide (j < i + 1) = decide (j < i) := decide_eq_decide.2 (by omega)
        rw [this]
    · obtain rfl : i = N := by omega
      simp (maxSteps := 2000000) (disch := first | omega | assumption | exact idP rfl | exact idP (bL rfl)) only [go_sem, reduceIte, Nat.reduceEqDiff, e5]
      rw [mkL_ext (q := whB s ts) (fun j hj => by simp [hj])] at hm
      exact hR _ _ ⟨fun b' l hl => hsub b' l ((Sub.refl M).set' hbk b' l hl), fun b' h' => by simp [blkV] at h'; subst h'; exact ((Sub.refl M).set' hbk).none hb5, .inr ⟨b5, i, true, rfl, hm, by rw [len_vb', mkL_len]; omega⟩⟩
theorem t_truthOf {v w : V} {s : SysS} {ts : List TermS} (hv : isSys s v) (hz : SysSz s) (hw : LT w ts) : VCall Tryz.prog n_impl_truthOf [v, w] M (fun r M' => M = M' ∧ r = .sc (.bool (tOk s ts))) := by
  refine VCall.pure fun R hR => v_impl_truthOf rfl ?_
  have hv0 := hv
  obtain ⟨a, b, rfl, ha, hb⟩ := hv
  (repeat' (first | ((first | with_reducible refine cond_dec (fun h => ?_) (fun h => ?_) | with_reducible refine guardK_dec (fun h => ?_) (fun h => ?_) | with_reducible refine guardD3_dec (fun h => ?_) (fun h => ?_)) <;> first | (exfalso; omega) | (simp (maxSteps := 2000000) (disch := first | omega | assumption | exact idP rfl | exact idP (bL rfl)) only [go_sem, reduceIte, Nat.reduceEqDiff, h, ha.len]) | skip) | ((first | with_reducible refine cond_split (fun h => ?_) (fun h => ?_) | with_reducible refine guardK_split (fun h => ?_) (fun h => ?_) | with_reducible refine guardD3_split (fun h => ?_) (fun h => ?_)) <;> ((try simp only [Bool.not_eq_true', Bool.not_eq_false'] at h); first | (simp (maxSteps := 2000000) (disch := first | omega | assumption | exact idP rfl | exact idP (bL rfl)) only [go_sem, reduceIte, Nat.reduceEqDiff, h, ha.len]) | skip)) | ((with_reducible refine (t_impSystemValid hv0 hz).mono ?_); rintro _ _ ⟨rfl, rfl⟩) | (with_reducible intro bk hbk; try have hnk := (fresh_set hbk).1) | (simp (maxSteps := 2000000) (disch := first | omega | assumption | exact idP rfl | exact idP (bL rfl)) only [go_sem, reduceIte, Nat.reduceEqDiff, ha.len])))
  · refine (t_kindOf hw).mono ?_
    rintro _ _ ⟨rfl, k, rfl, hk⟩
    simp (maxSteps := 2000000) (disch := first | omega | assumption | exact idP rfl | exact idP (bL rfl)) only [go_sem, reduceIte, Nat.reduceEqDiff]
    exact hR _ _ (by (repeat (first | exact Sub.refl _ | assumption | (refine Sub.set' ?_ (by assumption))))) (eqB (by simp [tOk, h]; exact hk 2 (by omega)))
  · exact hR _ _ (by (repeat (first | exact Sub.refl _ | assumption | (refine Sub.set' ?_ (by assumption))))) (by simp [tOk, h])
end Go.M2

namespace Go.M2
open Go.Proofs
set_option linter.unusedVariables false
set_option linter.unusedSimpArgs false
set_option maxRecDepth 10000
set_option maxHeartbeats 4000000
variable {M : MH}
noncomputable def swF (s : SysS) (ts : List TermS) : List Int := if tOk s ts = true then selL (sizeF s.vars).toNat (whB s ts) else []
theorem swF_ok (s : SysS) (ts : List TermS) : SetOk 400 (swF s ts) := by
  unfold swF
  split
  · rename_i h
    have := (tOk_iff.1 h).1.sz
    exact (selL_ok _).mono (by omega)
  · exact fun i hi => by simp at hi
theorem swF_len (s : SysS) (ts : List TermS) : (swF s ts).length ≤ 400 := by
  unfold swF
  split
  · rename_i h
    have := (tOk_iff.1 h).1.sz
    exact Nat.le_trans selL_len (by omega)
  · simp
theorem t_StatesWhere {v w : V} {s : SysS} {ts : List TermS} (hv : isSys s v) (hw : LT w ts) : VCall Tryz.prog n_spec_StatesWhere [v, w] M (fun r M' => M = M' ∧ LI r (swF s ts)) := by
  refine VCall.froz fun R hP hG => v_spec_StatesWhere rfl ?_
  have hv0 := hv
  obtain ⟨a, b, rfl, ha, hb⟩ := hv
  simp (maxSteps := 2000000) (disch := first | omega | assumption | exact idP rfl | exact idP (bL rfl)) only [go_sem, reduceIte, Nat.reduceEqDiff]
  intro b2 hb2 b5 hb5
  have hne := (fresh_set hb5).1
  simp (maxSteps := 2000000) (disch := first | omega | assumption | exact idP rfl | exact idP (bL rfl)) only [go_sem, reduceIte, Nat.reduceEqDiff]
  refine (t_SystemValidS hv0).mono ?_
  rintro _ _ ⟨rfl, rfl⟩
  have fail : tOk s ts = false → R (.sc (.sl (some (b5, 0)) 0 0 true 1)) ((M.set b2 [a, b]).set b5 []) := fun hf =>
    hG _ _ 1 [] (Gr.new' ((Sub.refl M).set' hb2) hb5 rfl) fun u hu => by
      unfold swF
      rw [if_neg (by rw [hf]; simp)]
      exact hu.li (ys := [])
  cases h1 : sysB s with
  | false =>
    (repeat' (first | ((first | with_reducible refine cond_dec (fun h => ?_) (fun h => ?_) | with_reducible refine guardK_dec (fun h => ?_) (fun h => ?_) | with_reducible refine guardD3_dec (fun h => ?_) (fun h => ?_)) <;> first | (exfalso; omega) | (simp (maxSteps := 2000000) (disch := first | omega | assumption | exact idP rfl | exact idP (bL rfl)) only [go_sem, reduceIte, Nat.reduceEqDiff, h, ha.len, h1]) | skip) | ((first | with_reducible refine cond_split (fun h => ?_) (fun h => ?_) | with_reducible refine guardK_split (fun h => ?_) (fun h => ?_) | with_reducible refine guardD3_split (fun h => ?_) (fun h => ?_)) <;> ((try simp only [Bool.not_eq_true', Bool.not_eq_false'] at h); first | (simp (maxSteps := 2000000) (disch := first | omega | assumption | exact idP rfl | exact idP (bL rfl)) only [go_sem, reduceIte, Nat.reduceEqDiff, h, ha.len, h1]) | skip)) | ((with_reducible refine (t_l2Is hw).mono ?_); rintro _ _ ⟨rfl, rfl⟩) | (with_reducible intro bk hbk; try have hnk := (fresh_set hbk).1) | (simp (maxSteps := 2000000) (disch := first | omega | assumption | exact idP rfl | exact idP (bL rfl)) only [go_sem, reduceIte, Nat.reduceEqDiff, ha.len, h1])))
    all_goals exact fail (by simp [tOk, h1])
  | true =>
    simp (maxSteps := 2000000) (disch := first | omega | assumption | exact idP rfl | exact idP (bL rfl)) only [go_sem, reduceIte, Nat.reduceEqDiff, h1, ha.len]
    refine (t_l2Is hw).mono ?_
    rintro _ _ ⟨rfl, rfl⟩
    cases h2 : kindIs (s.vars.length : Int) 2 ts with
    | false =>
      simp (maxSteps := 2000000) (disch := first | omega | assumption | exact idP rfl | exact idP (bL rfl)) only [go_sem, reduceIte, Nat.reduceEqDiff, h2]
      exact fail (by simp [tOk, h1, h2])
    | true =>
      have hok : tOk s ts = true := by simp [tOk, h1, h2]
      have hs := (sysB_iff s).1 h1
      obtain ⟨ks, hks⟩ := kindIs_some h2
      have hsz := hs.sz
      obtain ⟨N, hN⟩ : ∃ N : Nat, sizeF s.vars = (N : Int) := ⟨(sizeF s.vars).toNat, by omega⟩
      simp (maxSteps := 2000000) (disch := first | omega | assumption | exact idP rfl | exact idP (bL rfl)) only [go_sem, reduceIte, Nat.reduceEqDiff, h2]
      refine loop_k (fun e M' => ∃ i : Nat, i ≤ N ∧ e 1 = w ∧ e 2 = .sc (.ptr (some (b2, 0))) ∧ e 6 = .sc (.int .i64 i) ∧ Gr 1 (M.set b2 [a, b]) M' (e 5) ((selL i (whB s ts)).map vi)) (fun e _ => ctrV N (e 6)) ?_ ?_
      · exact ⟨0, by omega, by simp (maxSteps := 2000000) (disch := first | omega | assumption | exact idP rfl | exact idP (bL rfl)) only [go_sem, reduceIte, Nat.reduceEqDiff], by simp (maxSteps := 2000000) (disch := first | omega | assumption | exact idP rfl | exact idP (bL rfl)) only [go_sem, reduceIte, Nat.reduceEqDiff], by simp (maxSteps := 2000000) (disch := first | omega | assumption | exact idP rfl | exact idP (bL rfl)) only [go_sem, reduceIte, Nat.reduceEqDiff]; rfl, by simp (maxSteps := 2000000) (disch := first | omega | assumption | exact idP rfl | exact idP (bL rfl)) only [go_sem, reduceIte, Nat.reduceEqDiff]; exact Gr.new' (Sub.refl _) hb5 rfl⟩
      · rintro e M1 ⟨i, hi, e1, e2, e6, hg⟩ K hK
        have hm2 := hg.sub b2 _ set_same
        have hsl : (selL i (whB s ts)).length ≤ i := selL_len
        simp (maxSteps := 2000000) (disch := first | omega | assumption | exact idP rfl | exact idP (bL rfl)) only [go_sem, reduceIte, Nat.reduceEqDiff, e1, e2, e6, hm2]
        refine (t_SizeOf hv0 hs).mono ?_
        rintro _ _ ⟨rfl, rfl⟩
        rw [hN]
        simp (maxSteps := 2000000) (disch := first | omega | assumption | exact idP rfl | exact idP (bL rfl)) only [go_sem, reduceIte, Nat.reduceEqDiff, e1, e2, e6, hm2]
        refine cond_dec (fun h => ?_) (fun h => ?_)
        · simp (maxSteps := 2000000) (disch := first | omega | assumption | exact idP rfl | exact idP (bL rfl)) only [go_sem, reduceIte, Nat.reduceEqDiff, e1, e2, e6, hm2]
          refine (f_l4State hv0 hs (n := (i : Int)) (by omega) (by omega)).mono ?_
          rintro st _ ⟨rfl, hst⟩
          simp (maxSteps := 2000000) (disch := first | omega | assumption | exact idP rfl | exact idP (bL rfl)) only [go_sem, reduceIte, Nat.reduceEqDiff, e1, e2, e6, hm2]
          have hin : StIn s.vars (stGo s.vars (i : Int)) := stGo_in hs.vars
          refine (t_l2Last hw hst hks (hin.ok hs) (by rw [stGo_len]; omega)).mono ?_
          rintro _ _ ⟨rfl, rfl⟩
          simp (maxSteps := 2000000) (disch := first | omega | assumption | exact idP rfl | exact idP (bL rfl)) only [go_sem, reduceIte, Nat.reduceEqDiff, e1, e2, e6, hm2]
          refine cond_dec (fun h3 => ?_) (fun h3 => ?_)
          · simp (maxSteps := 2000000) (disch := first | omega | assumption | exact idP rfl | exact idP (bL rfl)) only [go_sem, reduceIte, Nat.reduceEqDiff, e1, e2, e6, hm2]
            intro bt hbt
            refine app_int hg hbt (by omega) (by omega) ?_
            intro s' M' hg' _
            simp (maxSteps := 2000000) (disch := first | omega | assumption | exact idP rfl | exact idP (bL rfl)) only [go_sem, reduceIte, Nat.reduceEqDiff, e1, e2, e6]
            exact hK _ _ ⟨i + 1, by omega, by simp (maxSteps := 2000000) (disch := first | omega | assumption | exact idP rfl | exact idP (bL rfl)) only [go_sem, reduceIte, Nat.reduceEqDiff, e1], by simp (maxSteps := 2000000) (disch := first | omega | assumption | exact idP rfl | exact idP (bL rfl)) only [go_sem, reduceIte, Nat.reduceEqDiff, e2], by simp (maxSteps := 2000000) (disch := first | omega | assumption | exact idP rfl | exact idP (bL rfl)) only [go_sem, reduceIte, Nat.reduceEqDiff]; rfl, by simp (maxSteps := 2000000) (disch := first | omega | assumption | exact idP rfl | exact idP (bL rfl)) only [go_sem, reduceIte, Nat.reduceEqDiff]; rw [selL_succ, if_pos (by simp [whB, h3])]; exact hg'⟩ (by simp (maxSteps := 2000000) (disch := first | omega | assumption | exact idP rfl | exact idP (bL rfl)) only [go_sem, reduceIte, Nat.reduceEqDiff, ctrV_int, e6]; omega)
          · simp (maxSteps := 2000000) (disch := first | omega | assumption | exact idP rfl | exact idP (bL rfl)) only [go_sem, reduceIte, Nat.reduceEqDiff, e1, e2, e6, hm2]
            exact hK _ _ ⟨i + 1, by omega, by simp (maxSteps := 2000000) (disch := first | omega | assumption | exact idP rfl | exact idP (bL rfl)) only [go_sem, reduceIte, Nat.reduceEqDiff, e1], by simp (maxSteps := 2000000) (disch := first | omega | assumption | exact idP rfl | exact idP (bL rfl)) only [go_sem, reduceIte, Nat.reduceEqDiff, e2], by simp (maxSteps := 2000000) (disch := first | omega | assumption | exact idP rfl | exact idP (bL rfl)) only [go_sem, reduceIte, Nat.reduceEqDiff]; rfl, by simp (maxSteps := 2000000) (disch := first | omega | assumption | exact idP rfl | exact idP (bL rfl)) only [go_sem, reduceIte, Nat.reduceEqDiff]; rw [selL_succ, if_neg (by simp [whB, h3])]; exact hg⟩ (by simp (maxSteps := 2000000) (disch := first | omega | assumption | exact idP rfl | exact idP (bL rfl)) only [go_sem, reduceIte, Nat.reduceEqDiff, ctrV_int, e6]; omega)
        · obtain rfl : i = N := by omega
          simp (maxSteps := 2000000) (disch := first | omega | assumption | exact idP rfl | exact idP (bL rfl)) only [go_sem, reduceIte, Nat.reduceEqDiff]
          refine hG _ _ _ _ (hg.base ((Sub.refl M).set' hb2)) fun u hu => ?_
          have h3 := hu.li
          unfold swF
          rw [if_pos hok, hN]
          exact h3
end Go.M2

namespace Go.M2
open Go.Proofs
set_option linter.unusedVariables false
set_option linter.unusedSimpArgs false
set_option maxRecDepth 10000
set_option maxHeartbeats 4000000
variable {M : MH}
theorem t_goodIn {v w : V} {s : SysS} {ts : List TermS} (hv : isSys s v) (hz : SysSz s) (hw : LT w ts) :
    VCall Tryz.prog n_impl_goodIn [v, w] M (fun r M' => M = M' ∧ ((tOk s ts = true ∧ ∃ g, r = .tup [g, .sc (.bool true)] ∧ LB g (mkL (sizeF s.vars).toNat (whB s ts))) ∨ (tOk s ts = false ∧ r = .tup [.sc (.sl none 0 0 true 0), .sc (.bool false)]))) := by
  refine VCall.froz2 fun R hP hG => v_impl_goodIn rfl ?_
  have hv0 := hv
  obtain ⟨a, b, rfl, ha, hb⟩ := hv
  (repeat' (first | ((first | with_reducible refine cond_dec (fun h => ?_) (fun h => ?_) | with_reducible refine guardK_dec (fun h => ?_) (fun h => ?_) | with_reducible refine guardD3_dec (fun h => ?_) (fun h => ?_)) <;> first | (exfalso; omega) | (simp (maxSteps := 2000000) (disch := first | omega | assumption | exact idP rfl | exact idP (bL rfl)) only [go_sem, reduceIte, Nat.reduceEqDiff, h]) | skip) | ((first | with_reducible refine cond_split (fun h => ?_) (fun h => ?_) | with_reducible refine guardK_split (fun h => ?_) (fun h => ?_) | with_reducible refine guardD3_split (fun h => ?_) (fun h => ?_)) <;> ((try simp only [Bool.not_eq_true', Bool.not_eq_false'] at h); first | (simp (maxSteps := 2000000) (disch := first | omega | assumption | exact idP rfl | exact idP (bL rfl)) only [go_sem, reduceIte, Nat.reduceEqDiff, h]) | skip)) | ((with_reducible refine (t_truthOf hv0 hz hw).mono ?_); rintro _ _ ⟨rfl, rfl⟩) | (with_reducible intro bk hbk; try have hnk := (fresh_set hbk).1) | (simp (maxSteps := 2000000) (disch := first | omega | assumption | exact idP rfl | exact idP (bL rfl)) only [go_sem, reduceIte, Nat.reduceEqDiff])))
  · exact hP _ _ (by (repeat (first | exact Sub.refl _ | assumption | (refine Sub.set' ?_ (by assumption))))) (.inr ⟨h, rfl⟩)
  · obtain ⟨hs, hk⟩ := tOk_iff.1 h
    have hsz := hs.sz
    refine (t_where hv0 hs hw hk (N := (sizeF s.vars).toNat) (by omega)).mono ?_
    rintro g M1 hg
    simp (maxSteps := 2000000) (disch := first | omega | assumption | exact idP rfl | exact idP (bL rfl)) only [go_sem, reduceIte, Nat.reduceEqDiff]
    exact hG _ _ _ _ _ (hg.base ((Sub.refl M).set' hbk)) fun u hu => .inl ⟨h, u, rfl, hu.lb⟩
def holdsI (N : Nat) (tab : List (List Int)) (p : Nat → Bool) (xs : List Int) : Bool := !(xs.any fun x => p x.toNat && (tab.getD x.toNat []).any fun m => inL xs m.toNat && !p m.toNat)
theorem t_holdsWithin {v g w : V} {s : SysS} {p : Nat → Bool} {xs : List Int} (hv : isSys s v) (hs : SysOk s) (hg : LB g (mkL (sizeF s.vars).toNat p)) (hset : SetOk (sizeF s.vars) xs) (hw : LI w xs) (hl : xs.length ≤ 1048576) :
    VCall Tryz.prog n_impl_holdsWithin [v, g, w] M (fun r M' => M = M' ∧ r = .sc (.bool (holdsI (sizeF s.vars).toNat (tabF s) p xs))) := by
  refine VCall.pure fun R hR => v_impl_holdsWithin rfl ?_
  have hv0 := hv
  obtain ⟨a, b, rfl, ha, hb⟩ := hv
  have hsz := hs.sz
  have htl := tabF_len s
  have hle : ((tabF s).length : Int) = sizeF s.vars := by omega
  obtain ⟨N, hN⟩ : ∃ N : Nat, sizeF s.vars = (N : Int) := ⟨(sizeF s.vars).toNat, by omega⟩
  have hN2 : (sizeF s.vars).toNat = N := by omega
  rw [hN2] at hg htl hR
  have hg1 := hg.one.1
  have hg2 := hg.one.2
  simp (maxSteps := 2000000) (disch := first | omega | assumption | exact idP rfl | exact idP (bL rfl)) only [go_sem, reduceIte, Nat.reduceEqDiff, hg1, hg2]
  intro b3 hb3 b4 hb4
  have n34 := (fresh_set hb4).1
  simp (maxSteps := 2000000) (disch := first | omega | assumption | exact idP rfl | exact idP (bL rfl)) only [go_sem, reduceIte, Nat.reduceEqDiff, hg1, hg2]
  refine (t_impSize ha hs.vars hs.v5).mono ?_
  rintro _ _ ⟨rfl, rfl⟩
  simp (maxSteps := 2000000) (disch := first | omega | assumption | exact idP rfl | exact idP (bL rfl)) only [go_sem, reduceIte, Nat.reduceEqDiff, hg1, hg2]
  rw [hN]
  refine (f_marks hw (by omega) hl (by rw [← hN]; exact hset.in)).mono ?_
  rintro m _ ⟨rfl, hm⟩
  have hm1 := hm.one.1
  have hm2 := hm.one.2
  simp (maxSteps := 2000000) (disch := first | omega | assumption | exact idP rfl | exact idP (bL rfl)) only [go_sem, reduceIte, Nat.reduceEqDiff, hm1, hm2]
  intro b7 hb7
  have n7 := (fresh_set hb7).1
  have hb7' := (fresh_set hb7).2
  have n73 := (fresh_set hb7').1
  simp (maxSteps := 2000000) (disch := first | omega | assumption | exact idP rfl | exact idP (bL rfl)) only [go_sem, reduceIte, Nat.reduceEqDiff, hm1, hm2]
  refine (f_nexts hv0 hs).mono ?_
  rintro t _ ⟨rfl, ht⟩
  have ht1 := ht.one.1
  have ht2 := ht.one.2
  simp (maxSteps := 2000000) (disch := first | omega | assumption | exact idP rfl | exact idP (bL rfl)) only [go_sem, reduceIte, Nat.reduceEqDiff, ht1, ht2]
  intro b8 hb8
  have n8 := (fresh_set hb8).1
  have hb8' := (fresh_set hb8).2
  have n84 := (fresh_set hb8').1
  have hb8'' := (fresh_set hb8').2
  have n83 := (fresh_set hb8'').1
  have hin : ∀ x ∈ xs, 0 ≤ x ∧ x < (N : Int) := by rw [← hN]; exact hset.in
  have htin := tabF_in hs
  rw [htl] at htin
  generalize hM : ((((M.set b3 [a, b]).set b4 [g]).set b7 [m]).set b8 [t]) = M4 at *
  have q4 : M4 b4 = some [g] := by rw [← hM]; simp (maxSteps := 2000000) (disch := first | omega | assumption | exact idP rfl | exact idP (bL rfl)) only [go_sem, reduceIte, Nat.reduceEqDiff]
  have q7 : M4 b7 = some [m] := by rw [← hM]; simp (maxSteps := 2000000) (disch := first | omega | assumption | exact idP rfl | exact idP (bL rfl)) only [go_sem, reduceIte, Nat.reduceEqDiff]
  have q8 : M4 b8 = some [t] := by rw [← hM]; simp (maxSteps := 2000000) (disch := first | omega | assumption | exact idP rfl | exact idP (bL rfl)) only [go_sem, reduceIte, Nat.reduceEqDiff]
  have inner : ∀ y : Int, 0 ≤ y → y < (N : Int) → VCall Tryz.prog n_impl_holdsWithin_1_1 (.sc (.int .i64 y) :: [.sc (.ptr (some (b7, 0))), .sc (.ptr (some (b4, 0)))]) M4 (fun r M' => M4 = M' ∧ r = .sc (.bool (inL xs y.toNat && !p y.toNat))) := by
    intro y y0 y1
    have i1 : y.toNat < (mkL N (inL xs)).length := by rw [mkL_len]; omega
    have i2 : y.toNat < (mkL N p).length := by rw [mkL_len]; omega
    have w1 := hm.iaddr (k := .i64) (a := y) y0 (by rw [mkL_len]; omega)
    have w2 := hg.iaddr (k := .i64) (a := y) y0 (by rw [mkL_len]; omega)
    refine VCall.pure fun R hR => v_impl_holdsWithin_1_1 rfl ?_
    cases c1 : inL xs y.toNat <;> cases c2 : p y.toNat
    all_goals simp (maxSteps := 2000000) (disch := first | omega | assumption | exact idP rfl | exact idP (bL rfl)) only [go_sem, reduceIte, Nat.reduceEqDiff, q4, q7, w1, w2, hm.at i1, hg.at i2, mkL_get, c1, c2]
    all_goals exact hR _ _ (by (repeat (first | exact Sub.refl _ | assumption | (refine Sub.set' ?_ (by assumption))))) (by simp [c1, c2])
  have outer : ∀ y ∈ xs, VCall Tryz.prog n_impl_holdsWithin_1 (.sc (.int .i64 y) :: [.sc (.ptr (some (b4, 0))), .sc (.ptr (some (b8, 0))), .sc (.ptr (some (b7, 0)))]) M4 (fun r M' => M4 = M' ∧ r = .sc (.bool (p y.toNat && ((tabF s).getD y.toNat []).any fun m => inL xs m.toNat && !p m.toNat))) := by
    intro y hy
    obtain ⟨y0, y1⟩ := hin y hy
    have i2 : y.toNat < (mkL N p).length := by rw [mkL_len]; omega
    have i3 : y.toNat < (tabF s).length := by omega
    have w2 := hg.iaddr (k := .i64) (a := y) y0 (by rw [mkL_len]; omega)
    have w3 := ht.iaddr (k := .i64) (a := y) y0 (by omega)
    have hrow := ht.elt i3
    have hri := htin _ (List.getElem_mem i3)
    have hgd : (tabF s).getD y.toNat [] = (tabF s)[y.toNat] := by simp [List.getD, i3]
    refine VCall.pure fun R hR => v_impl_holdsWithin_1 rfl ?_
    rw [hgd] at hR
    cases c2 : p y.toNat with
    | false =>
      simp (maxSteps := 2000000) (disch := first | omega | assumption | exact idP rfl | exact idP (bL rfl)) only [go_sem, reduceIte, Nat.reduceEqDiff, q4, q7, q8, w2, hg.at i2, mkL_get, c2]
      exact hR _ _ (by (repeat (first | exact Sub.refl _ | assumption | (refine Sub.set' ?_ (by assumption))))) (by simp [c2])
    | true =>
      simp (maxSteps := 2000000) (disch := first | omega | assumption | exact idP rfl | exact idP (bL rfl)) only [go_sem, reduceIte, Nat.reduceEqDiff, q4, q7, q8, w2, w3, hg.at i2, mkL_get, c2]
      refine (t_ContainsInt hrow hri.1 (fun z hz => inner z (hri.2 z hz).1 (hri.2 z hz).2)).mono ?_
      rintro _ _ ⟨rfl, rfl⟩
      simp (maxSteps := 2000000) (disch := first | omega | assumption | exact idP rfl | exact idP (bL rfl)) only [go_sem, reduceIte, Nat.reduceEqDiff]
      exact hR _ _ (by (repeat (first | exact Sub.refl _ | assumption | (refine Sub.set' ?_ (by assumption))))) (by simp [c2])
  refine (t_ContainsInt hw hl outer).mono ?_
  rintro _ _ ⟨rfl, rfl⟩
  simp (maxSteps := 2000000) (disch := first | omega | assumption | exact idP rfl | exact idP (bL rfl)) only [go_sem, reduceIte, Nat.reduceEqDiff]
  exact hR _ _ (by rw [← hM]; (repeat (first | exact Sub.refl _ | assumption | (refine Sub.set' ?_ (by assumption))))) rfl
theorem t_impHoldsWithin {v w x : V} {s : SysS} {ts : List TermS} {xs : List Int} (hv : isSys s v) (hz : SysSz s) (hw : LT w ts) (hx : LI x xs) (hl : xs.length ≤ 1048576) :
    VCall Tryz.prog n_impl_HoldsWithin [v, w, x] M (fun r M' => M = M' ∧ r = .sc (.bool (tOk s ts && setB (sizeF s.vars) xs && holdsI (sizeF s.vars).toNat (tabF s) (whB s ts) xs))) := by
  refine VCall.pure fun R hR => v_impl_HoldsWithin rfl ?_
  have hv0 := hv
  obtain ⟨a, b, rfl, ha, hb⟩ := hv
  (repeat' (first | ((first | with_reducible refine cond_dec (fun h => ?_) (fun h => ?_) | with_reducible refine guardK_dec (fun h => ?_) (fun h => ?_) | with_reducible refine guardD3_dec (fun h => ?_) (fun h => ?_)) <;> first | (exfalso; omega) | (simp (maxSteps := 2000000) (disch := first | omega | assumption | exact idP rfl | exact idP (bL rfl)) only [go_sem, reduceIte, Nat.reduceEqDiff, h]) | skip) | ((first | with_reducible refine cond_split (fun h => ?_) (fun h => ?_) | with_reducible refine guardK_split (fun h => ?_) (fun h => ?_) | with_reducible refine guardD3_split (fun h => ?_) (fun h => ?_)) <;> ((try simp only [Bool.not_eq_true', Bool.not_eq_false'] at h); first | (simp (maxSteps := 2000000) (disch := first | omega | assumption | exact idP rfl | exact idP (bL rfl)) only [go_sem, reduceIte, Nat.reduceEqDiff, h]) | skip)) | (with_reducible intro bk hbk; try have hnk := (fresh_set hbk).1) | (simp (maxSteps := 2000000) (disch := first | omega | assumption | exact idP rfl | exact idP (bL rfl)) only [go_sem, reduceIte, Nat.reduceEqDiff])))
  refine (t_goodIn hv0 hz hw).mono ?_
  rintro _ _ ⟨rfl, ⟨hk, g, rfl, hg⟩ | ⟨hk, rfl⟩⟩
  · obtain ⟨hs, hk2⟩ := tOk_iff.1 hk
    have hsz := hs.sz
    simp (maxSteps := 2000000) (disch := first | omega | assumption | exact idP rfl | exact idP (bL rfl)) only [go_sem, reduceIte, Nat.reduceEqDiff]
    refine (t_impSize ha hs.vars hs.v5).mono ?_
    rintro _ _ ⟨rfl, rfl⟩
    simp (maxSteps := 2000000) (disch := first | omega | assumption | exact idP rfl | exact idP (bL rfl)) only [go_sem, reduceIte, Nat.reduceEqDiff]
    refine (t_setOk hx hl (by omega)).mono ?_
    rintro _ _ ⟨rfl, rfl⟩
    cases hset : setB (sizeF s.vars) xs with
    | false =>
      simp (maxSteps := 2000000) (disch := first | omega | assumption | exact idP rfl | exact idP (bL rfl)) only [go_sem, reduceIte, Nat.reduceEqDiff]
      exact hR _ _ (by (repeat (first | exact Sub.refl _ | assumption | (refine Sub.set' ?_ (by assumption))))) (by simp [hset])
    | true =>
      simp (maxSteps := 2000000) (disch := first | omega | assumption | exact idP rfl | exact idP (bL rfl)) only [go_sem, reduceIte, Nat.reduceEqDiff]
      refine (t_holdsWithin hv0 hs hg (setB_iff.1 hset) hx hl).mono ?_
      rintro _ _ ⟨rfl, rfl⟩
      simp (maxSteps := 2000000) (disch := first | omega | assumption | exact idP rfl | exact idP (bL rfl)) only [go_sem, reduceIte, Nat.reduceEqDiff]
      exact hR _ _ (by (repeat (first | exact Sub.refl _ | assumption | (refine Sub.set' ?_ (by assumption))))) (by simp [hk, hset])
  · simp (maxSteps := 2000000) (disch := first | omega | assumption | exact idP rfl | exact idP (bL rfl)) only [go_sem, reduceIte, Nat.reduceEqDiff]
    exact hR _ _ (by (repeat (first | exact Sub.refl _ | assumption | (refine Sub.set' ?_ (by assumption))))) (by simp [hk])
end Go.M2

namespace Go.M2
open Go.Proofs
set_option linter.unusedVariables false
set_option linter.unusedSimpArgs false
set_option maxRecDepth 10000
set_option maxHeartbeats 4000000
variable {M : MH}
def boB (xs ys : List Int) (i : Nat) : Bool := inL xs i && inL ys i
noncomputable def boF (xs ys : List Int) : List Int := if setB 400 xs = true ∧ setB 400 ys = true then selL 400 (boB xs ys) else []
theorem t_l4Mix0 {v w : V} {xs ys : List Int} (hv : LI v xs) (hw : LI w ys) (hl : xs.length ≤ 1048576) (hl2 : ys.length ≤ 1048576) : VCall Tryz.prog n_spec_l4Mix [v, w, .sc (.int .i64 0)] M (fun r M' => M = M' ∧ LI r (boF xs ys)) := by
  refine VCall.froz fun R hP hG => v_spec_l4Mix rfl ?_
  (repeat' (first | ((first | with_reducible refine cond_dec (fun h => ?_) (fun h => ?_) | with_reducible refine guardK_dec (fun h => ?_) (fun h => ?_) | with_reducible refine guardD3_dec (fun h => ?_) (fun h => ?_)) <;> first | (exfalso; omega) | (simp (maxSteps := 2000000) (disch := first | omega | assumption | exact idP rfl | exact idP (bL rfl)) only [go_sem, reduceIte, Nat.reduceEqDiff, h]) | skip) | ((first | with_reducible refine cond_split (fun h => ?_) (fun h => ?_) | with_reducible refine guardK_split (fun h => ?_) (fun h => ?_) | with_reducible refine guardD3_split (fun h => ?_) (fun h => ?_)) <;> ((try simp only [Bool.not_eq_true', Bool.not_eq_false'] at h); first | (simp (maxSteps := 2000000) (disch := first | omega | assumption | exact idP rfl | exact idP (bL rfl)) only [go_sem, reduceIte, Nat.reduceEqDiff, h]) | skip)) | ((with_reducible refine (t_l4Set hv hl).mono ?_); rintro _ _ ⟨rfl, rfl⟩) | ((with_reducible refine (t_l4Set hw hl2).mono ?_); rintro _ _ ⟨rfl, rfl⟩) | (with_reducible intro bk hbk; try have hnk := (fresh_set hbk).1) | (simp (maxSteps := 2000000) (disch := first | omega | assumption | exact idP rfl | exact idP (bL rfl)) only [go_sem, reduceIte, Nat.reduceEqDiff])))
  · refine hG _ _ 1 [] (Gr.new' (Sub.refl _) hbk rfl) fun u hu => ?_
    unfold boF
    rw [if_neg (by intro hh; rw [h] at hh; simp at hh)]
    exact hu.li (ys := [])
  · refine hG _ _ 1 [] (Gr.new' (Sub.refl _) hbk rfl) fun u hu => ?_
    unfold boF
    rw [if_neg (by intro hh; rw [h] at hh; simp at hh)]
    exact hu.li (ys := [])
  · rename_i h1
    have hi1 := (setB_iff.1 h1).in
    have hi2 := (setB_iff.1 h).in
    refine (f_l4Marks (n := 400) hv (by omega) hl hi1).mono ?_
    rintro m1 _ ⟨rfl, hm1⟩
    simp (maxSteps := 2000000) (disch := first | omega | assumption | exact idP rfl | exact idP (bL rfl)) only [go_sem, reduceIte, Nat.reduceEqDiff]
    refine (f_l4Marks (n := 400) hw (by omega) hl2 hi2).mono ?_
    rintro m2 _ ⟨rfl, hm2⟩
    simp (maxSteps := 2000000) (disch := first | omega | assumption | exact idP rfl | exact idP (bL rfl)) only [go_sem, reduceIte, Nat.reduceEqDiff]
    refine loop_k (fun e M' => ∃ i : Nat, i ≤ 400 ∧ e 2 = .sc (.int .i64 0) ∧ e 8 = m1 ∧ e 9 = m2 ∧ e 10 = .sc (.int .i64 i) ∧ Gr 1 M M' (e 7) ((selL i (boB xs ys)).map vi)) (fun e _ => ctrV 400 (e 10)) ?_ ?_
    · exact ⟨0, by omega, by simp (maxSteps := 2000000) (disch := first | omega | assumption | exact idP rfl | exact idP (bL rfl)) only [go_sem, reduceIte, Nat.reduceEqDiff], by simp (maxSteps := 2000000) (disch := first | omega | assumption | exact idP rfl | exact idP (bL rfl)) only [go_sem, reduceIte, Nat.reduceEqDiff], by simp (maxSteps := 2000000) (disch := first | omega | assumption | exact idP rfl | exact idP (bL rfl)) only [go_sem, reduceIte, Nat.reduceEqDiff], by simp (maxSteps := 2000000) (disch := first | omega | assumption | exact idP rfl | exact idP (bL rfl)) only [go_sem, reduceIte, Nat.reduceEqDiff]; rfl, by simp (maxSteps := 2000000) (disch := first | omega | assumption | exact idP rfl | exact idP (bL rfl)) only [go_sem, reduceIte, Nat.reduceEqDiff]; exact Gr.new' (Sub.refl _) hbk rfl⟩
    · rintro e M1 ⟨i, hi, e2, e8, e9, e10, hg⟩ K hK
      have hsl : (selL i (boB xs ys)).length ≤ i := selL_len
      simp (maxSteps := 2000000) (disch := first | omega | assumption | exact idP rfl | exact idP (bL rfl)) only [go_sem, reduceIte, Nat.reduceEqDiff, e2, e8, e9, e10]
      refine cond_dec (fun h => ?_) (fun h => ?_)
      · have q1 : i < (mkL 400 (inL xs)).length := by rw [mkL_len]; omega
        have q2 : i < (mkL 400 (inL ys)).length := by rw [mkL_len]; omega
        have w1 := hm1.iaddr (k := .i64) (a := (i : Int)) (by omega) (by rw [mkL_len]; omega)
        have w2 := hm2.iaddr (k := .i64) (a := (i : Int)) (by omega) (by rw [mkL_len]; omega)
        have fin1 : boB xs ys i = true → ∀ (e' : EnvV) (M' : MH), e' 2 = .sc (.int .i64 0) → e' 8 = m1 → e' 9 = m2 → e' 10 = .sc (.int .i64 ((i : Int) + 1)) → Gr 1 M M' (e' 7) ((selL i (boB xs ys) ++ [(i : Int)]).map vi) → K e' M' := fun hb e' M' g2 g8 g9 g10 g7 =>
          hK _ _ ⟨i + 1, by omega, g2, g8, g9, g10, by rw [selL_succ, if_pos hb]; exact g7⟩ (by rw [g10, e10]; simp (maxSteps := 2000000) (disch := first | omega | assumption | exact idP rfl | exact idP (bL rfl)) only [go_sem, reduceIte, Nat.reduceEqDiff, ctrV_int]; omega)
        have fin2 : boB xs ys i = false → ∀ (e' : EnvV) (M' : MH), e' 2 = .sc (.int .i64 0) → e' 8 = m1 → e' 9 = m2 → e' 10 = .sc (.int .i64 ((i : Int) + 1)) → Gr 1 M M' (e' 7) ((selL i (boB xs ys)).map vi) → K e' M' := fun hb e' M' g2 g8 g9 g10 g7 =>
          hK _ _ ⟨i + 1, by omega, g2, g8, g9, g10, by rw [selL_succ, if_neg (by rw [hb]; simp)]; exact g7⟩ (by rw [g10, e10]; simp (maxSteps := 2000000) (disch := first | omega | assumption | exact idP rfl | exact idP (bL rfl)) only [go_sem, reduceIte, Nat.reduceEqDiff, ctrV_int]; omega)
        cases b1 : inL xs i <;> cases b2 : inL ys i
        all_goals (repeat' (first | ((first | with_reducible refine cond_dec (fun h => ?_) (fun h => ?_) | with_reducible refine guardK_dec (fun h => ?_) (fun h => ?_) | with_reducible refine guardD3_dec (fun h => ?_) (fun h => ?_)) <;> first | (exfalso; omega) | (simp (maxSteps := 2000000) (disch := first | omega | assumption | exact idP rfl | exact idP (bL rfl)) only [go_sem, reduceIte, Nat.reduceEqDiff, h, e2, e8, e9, e10, w1, w2, hm1.at q1, hm2.at q2, mkL_get, b1, b2]) | skip) | ((first | with_reducible refine cond_split (fun h => ?_) (fun h => ?_) | with_reducible refine guardK_split (fun h => ?_) (fun h => ?_) | with_reducible refine guardD3_split (fun h => ?_) (fun h => ?_)) <;> ((try simp only [Bool.not_eq_true', Bool.not_eq_false'] at h); first | (simp (maxSteps := 2000000) (disch := first | omega | assumption | exact idP rfl | exact idP (bL rfl)) only [go_sem, reduceIte, Nat.reduceEqDiff, h, e2, e8, e9, e10, w1, w2, hm1.at q1, hm2.at q2, mkL_get, b1, b2]) | skip)) | (with_reducible intro bk hbk; try have hnk := (fresh_set hbk).1) | (simp (maxSteps := 2000000) (disch := first | omega | assumption | exact idP rfl | exact idP (bL rfl)) only [go_sem, reduceIte, Nat.reduceEqDiff, e2, e8, e9, e10, w1, w2, hm1.at q1, hm2.at q2, mkL_get, b1, b2])))
        all_goals first
          | exact fin2 (by simp [boB, b1, b2]) _ _ (by simp (maxSteps := 2000000) (disch := first | omega | assumption | exact idP rfl | exact idP (bL rfl)) only [go_sem, reduceIte, Nat.reduceEqDiff]) (by simp (maxSteps := 2000000) (disch := first | omega | assumption | exact idP rfl | exact idP (bL rfl)) only [go_sem, reduceIte, Nat.reduceEqDiff]) (by simp (maxSteps := 2000000) (disch := first | omega | assumption | exact idP rfl | exact idP (bL rfl)) only [go_sem, reduceIte, Nat.reduceEqDiff]) (by simp (maxSteps := 2000000) (disch := first | omega | assumption | exact idP rfl | exact idP (bL rfl)) only [go_sem, reduceIte, Nat.reduceEqDiff]) (by simp (maxSteps := 2000000) (disch := first | omega | assumption | exact idP rfl | exact idP (bL rfl)) only [go_sem, reduceIte, Nat.reduceEqDiff]; exact hg)
          | (refine app_int hg (by assumption) (by omega) (by omega) ?_
             intro s' M' hg' _
             simp (maxSteps := 2000000) (disch := first | omega | assumption | exact idP rfl | exact idP (bL rfl)) only [go_sem, reduceIte, Nat.reduceEqDiff, e2, e8, e9, e10]
             exact fin1 (by simp [boB, b1, b2]) _ _ (by simp (maxSteps := 2000000) (disch := first | omega | assumption | exact idP rfl | exact idP (bL rfl)) only [go_sem, reduceIte, Nat.reduceEqDiff]) (by simp (maxSteps := 2000000) (disch := first | omega | assumption | exact idP rfl | exact idP (bL rfl)) only [go_sem, reduceIte, Nat.reduceEqDiff]) (by simp (maxSteps := 2000000) (disch := first | omega | assumption | exact idP rfl | exact idP (bL rfl)) only [go_sem, reduceIte, Nat.reduceEqDiff]) (by simp (maxSteps := 2000000) (disch := first | omega | assumption | exact idP rfl | exact idP (bL rfl)) only [go_sem, reduceIte, Nat.reduceEqDiff]) (by simp (maxSteps := 2000000) (disch := first | omega | assumption | exact idP rfl | exact idP (bL rfl)) only [go_sem, reduceIte, Nat.reduceEqDiff]; exact hg'))
          | skip
      · obtain rfl : i = 400 := by omega
        simp (maxSteps := 2000000) (disch := first | omega | assumption | exact idP rfl | exact idP (bL rfl)) only [go_sem, reduceIte, Nat.reduceEqDiff]
        refine hG _ _ _ _ hg fun u hu => ?_
        unfold boF
        rw [if_pos ⟨h1, by assumption⟩]
        exact hu.li
theorem t_SetBoth {v w : V} {xs ys : List Int} (hv : LI v xs) (hw : LI w ys) (hl : xs.length ≤ 1048576) (hl2 : ys.length ≤ 1048576) : VCall Tryz.prog n_spec_SetBoth [v, w] M (fun r M' => M = M' ∧ LI r (boF xs ys)) := by
  refine VCall.froz fun R hP hG => v_spec_SetBoth rfl ?_
  simp (maxSteps := 2000000) (disch := first | omega | assumption | exact idP rfl | exact idP (bL rfl)) only [go_sem, reduceIte, Nat.reduceEqDiff]
  refine (t_l4Mix0 hv hw hl hl2).mono ?_
  rintro r _ ⟨rfl, hr⟩
  simp (maxSteps := 2000000) (disch := first | omega | assumption | exact idP rfl | exact idP (bL rfl)) only [go_sem, reduceIte, Nat.reduceEqDiff]
  exact hP _ _ (Sub.refl _) hr
theorem boF_len (xs ys : List Int) : (boF xs ys).length ≤ 400 := by
  unfold boF
  split
  · exact selL_len
  · simp
noncomputable def hwF (s : SysS) (ts : List TermS) (xs : List Int) : List Int := woF (boF (nextN s (boF xs (swF s ts))) xs) (swF s ts)
noncomputable def holdsS (s : SysS) (ts : List TermS) (xs : List Int) : Bool := setV s xs && (kindIs (s.vars.length : Int) 2 ts && decide ((hwF s ts xs).length = 0))
theorem t_specHoldsWithin {v w x : V} {s : SysS} {ts : List TermS} {xs : List Int} (hv : isSys s v) (hw : LT w ts) (hx : LI x xs) (hl : xs.length ≤ 1048576) :
    VCall Tryz.prog n_spec_HoldsWithin [v, w, x] M (fun r M' => M = M' ∧ r = .sc (.bool (holdsS s ts xs))) := by
  refine VCall.pure fun R hR => v_spec_HoldsWithin rfl ?_
  have hv0 := hv
  obtain ⟨a, b, rfl, ha, hb⟩ := hv
  have hsl := swF_len s ts
  have hb1 := boF_len xs (swF s ts)
  have hb2 := boF_len (nextN s (boF xs (swF s ts))) xs
  have hn1 := nextN_len (s := s) (xs := boF xs (swF s ts))
  simp (maxSteps := 2000000) (disch := first | omega | assumption | exact idP rfl | exact idP (bL rfl)) only [go_sem, reduceIte, Nat.reduceEqDiff]
  intro b3 hb3
  refine (t_specSetValid hv0 hx hl).mono ?_
  rintro _ _ ⟨rfl, rfl⟩
  cases h1 : setV s xs with
  | false =>
    (repeat' (first | ((first | with_reducible refine cond_dec (fun h => ?_) (fun h => ?_) | with_reducible refine guardK_dec (fun h => ?_) (fun h => ?_) | with_reducible refine guardD3_dec (fun h => ?_) (fun h => ?_)) <;> first | (exfalso; omega) | (simp (maxSteps := 2000000) (disch := first | omega | assumption | exact idP rfl | exact idP (bL rfl)) only [go_sem, reduceIte, Nat.reduceEqDiff, h, ha.len]) | skip) | ((first | with_reducible refine cond_split (fun h => ?_) (fun h => ?_) | with_reducible refine guardK_split (fun h => ?_) (fun h => ?_) | with_reducible refine guardD3_split (fun h => ?_) (fun h => ?_)) <;> ((try simp only [Bool.not_eq_true', Bool.not_eq_false'] at h); first | (simp (maxSteps := 2000000) (disch := first | omega | assumption | exact idP rfl | exact idP (bL rfl)) only [go_sem, reduceIte, Nat.reduceEqDiff, h, ha.len]) | skip)) | ((with_reducible refine (t_l2Is hw).mono ?_); rintro _ _ ⟨rfl, rfl⟩) | (with_reducible intro bk hbk; try have hnk := (fresh_set hbk).1) | (simp (maxSteps := 2000000) (disch := first | omega | assumption | exact idP rfl | exact idP (bL rfl)) only [go_sem, reduceIte, Nat.reduceEqDiff, ha.len])))
    all_goals exact hR _ _ (by (repeat (first | exact Sub.refl _ | assumption | (refine Sub.set' ?_ (by assumption))))) (by simp [holdsS, h1])
  | true =>
    simp (maxSteps := 2000000) (disch := first | omega | assumption | exact idP rfl | exact idP (bL rfl)) only [go_sem, reduceIte, Nat.reduceEqDiff, ha.len]
    refine (t_l2Is hw).mono ?_
    rintro _ _ ⟨rfl, rfl⟩
    cases h2 : kindIs (s.vars.length : Int) 2 ts with
    | false =>
      simp (maxSteps := 2000000) (disch := first | omega | assumption | exact idP rfl | exact idP (bL rfl)) only [go_sem, reduceIte, Nat.reduceEqDiff]
      exact hR _ _ (by (repeat (first | exact Sub.refl _ | assumption | (refine Sub.set' ?_ (by assumption))))) (by simp [holdsS, h1, h2])
    | true =>
      simp (maxSteps := 2000000) (disch := first | omega | assumption | exact idP rfl | exact idP (bL rfl)) only [go_sem, reduceIte, Nat.reduceEqDiff]
      refine (t_StatesWhere hv0 hw).mono ?_
      rintro q _ ⟨rfl, hq⟩
      simp (maxSteps := 2000000) (disch := first | omega | assumption | exact idP rfl | exact idP (bL rfl)) only [go_sem, reduceIte, Nat.reduceEqDiff]
      refine (t_SetBoth hx hq hl (by omega)).mono ?_
      rintro q2 _ ⟨rfl, hq2⟩
      simp (maxSteps := 2000000) (disch := first | omega | assumption | exact idP rfl | exact idP (bL rfl)) only [go_sem, reduceIte, Nat.reduceEqDiff]
      refine (t_NextNumbers hv0 hq2 (by omega)).mono ?_
      rintro q3 _ ⟨rfl, hq3⟩
      simp (maxSteps := 2000000) (disch := first | omega | assumption | exact idP rfl | exact idP (bL rfl)) only [go_sem, reduceIte, Nat.reduceEqDiff]
      refine (t_SetBoth hq3 hx (by omega) hl).mono ?_
      rintro q4 _ ⟨rfl, hq4⟩
      simp (maxSteps := 2000000) (disch := first | omega | assumption | exact idP rfl | exact idP (bL rfl)) only [go_sem, reduceIte, Nat.reduceEqDiff]
      refine (t_SetWithout hq4 hq (by omega) (by omega)).mono ?_
      rintro q5 _ ⟨rfl, hq5⟩
      simp (maxSteps := 2000000) (disch := first | omega | assumption | exact idP rfl | exact idP (bL rfl)) only [go_sem, reduceIte, Nat.reduceEqDiff, hq5.len]
      exact hR _ _ (by (repeat (first | exact Sub.refl _ | assumption | (refine Sub.set' ?_ (by assumption))))) (by simp [holdsS, hwF, h1, h2])
theorem inL_swF {s : SysS} {ts : List TermS} (hk : tOk s ts = true) (i : Nat) : inL (swF s ts) i = (decide (i < (sizeF s.vars).toNat) && whB s ts i) := by
  unfold swF
  rw [if_pos hk, Bool.eq_iff_iff]
  simp only [inL, decide_eq_true_eq, mem_selL, Bool.and_eq_true]
  constructor
  · rintro ⟨j, h1, h2, h3⟩
    obtain rfl : j = i := by omega
    exact ⟨h1, h2⟩
  · rintro ⟨h1, h2⟩
    exact ⟨i, h1, h2, rfl⟩
theorem mem_boF {xs ys : List Int} (h1 : SetOk 400 xs) (h2 : SetOk 400 ys) {x : Int} : x ∈ boF xs ys ↔ x ∈ xs ∧ x ∈ ys := by
  unfold boF
  rw [if_pos ⟨setB_iff.2 h1, setB_iff.2 h2⟩, mem_selL]
  constructor
  · rintro ⟨i, hi, hp, rfl⟩
    simpa [boB, inL] using hp
  · rintro ⟨q1, q2⟩
    have := h1.in x q1
    refine ⟨x.toNat, by omega, ?_, by omega⟩
    simp only [boB, inL, Int.toNat_of_nonneg this.1, Bool.and_eq_true, decide_eq_true_eq]
    exact ⟨q1, q2⟩
theorem mem_woF {xs ys : List Int} (h1 : SetOk 400 xs) (h2 : SetOk 400 ys) {x : Int} : x ∈ woF xs ys ↔ x ∈ xs ∧ ¬ x ∈ ys := by
  unfold woF
  rw [if_pos ⟨setB_iff.2 h1, setB_iff.2 h2⟩, mem_selL]
  constructor
  · rintro ⟨i, hi, hp, rfl⟩
    simpa [woB, inL] using hp
  · rintro ⟨q1, q2⟩
    have := h1.in x q1
    refine ⟨x.toNat, by omega, ?_, by omega⟩
    simp only [woB, inL, Int.toNat_of_nonneg this.1, Bool.and_eq_true, decide_eq_true_eq, Bool.not_eq_true', decide_eq_false_iff_not]
    exact ⟨q1, q2⟩
theorem boF_ok (xs ys : List Int) : SetOk 400 (boF xs ys) := by
  unfold boF
  split
  · exact (selL_ok _).mono (by omega)
  · exact fun i hi => by simp at hi
theorem boF_set {n : Int} {xs ys : List Int} (h : SetOk n xs) (hn : n ≤ 400) (hy : SetOk 400 ys) : SetOk n (boF xs ys) := by
  intro i hi hik
  have h1 := boF_ok xs ys i hi hik
  have h2 : (boF xs ys)[i] ∈ xs := ((mem_boF (h.mono hn) hy).1 (List.getElem_mem hi)).1
  have h3 := h.in _ h2
  exact ⟨⟨h3.1, by omega⟩, h1.2⟩
theorem mem_nextN {s : SysS} {xs : List Int} (hs : SysOk s) (h : SetOk (sizeF s.vars) xs) {y : Int} : y ∈ nextN s xs ↔ ∃ x ∈ xs, y ∈ (tabF s).getD x.toNat [] := by
  have hsz := hs.sz
  have htl := tabF_len s
  unfold nextN
  rw [if_pos (setV_iff.2 ⟨hs, h⟩), mem_selL]
  constructor
  · rintro ⟨i, hi, hp, rfl⟩
    obtain ⟨x, hx, hp⟩ := List.any_eq_true.1 hp
    exact ⟨x, hx, by simpa using hp⟩
  · rintro ⟨x, hx, hy⟩
    have hxi := h.in x hx
    have i3 : x.toNat < (tabF s).length := by omega
    have hgd : (tabF s).getD x.toNat [] = (tabF s)[x.toNat] := by simp [List.getD, i3]
    have hyi := (tabF_in hs _ (List.getElem_mem i3)).2 y (by rw [← hgd]; exact hy)
    refine ⟨y.toNat, by omega, ?_, by omega⟩
    exact List.any_eq_true.2 ⟨x, hx, by simpa [Int.toNat_of_nonneg hyi.1] using hy⟩
theorem holds_eq (s : SysS) (ts : List TermS) (xs : List Int) : holdsS s ts xs = (tOk s ts && setB (sizeF s.vars) xs && holdsI (sizeF s.vars).toNat (tabF s) (whB s ts) xs) := by
  unfold holdsS
  cases h1 : sysB s with
  | false => simp [tOk, setV, h1]
  | true =>
    cases h2 : kindIs (s.vars.length : Int) 2 ts with
    | false => simp [tOk, h2]
    | true =>
      have hk : tOk s ts = true := by simp [tOk, h1, h2]
      have hs := (sysB_iff s).1 h1
      cases h3 : setB (sizeF s.vars) xs with
      | false => simp [setV, h3]
      | true =>
        have hset := setB_iff.1 h3
        have hv : setV s xs = true := setV_iff.2 ⟨hs, hset⟩
        have hsz := hs.sz
        have htl := tabF_len s
        have h4 : SetOk 400 xs := hset.mono (by omega)
        have hsw := swF_ok s ts
        have hb1 : SetOk (sizeF s.vars) (boF xs (swF s ts)) := boF_set hset (by omega) hsw
        rw [hv, hk, Bool.true_and, Bool.true_and, Bool.true_and, Bool.true_and, Bool.eq_iff_iff, decide_eq_true_eq, List.length_eq_zero_iff]
        unfold hwF holdsI
        rw [Bool.not_eq_true', ← Bool.not_eq_true, List.any_eq_true]
        have hsx : ∀ x : Int, 0 ≤ x → x < sizeF s.vars → (x ∈ swF s ts ↔ whB s ts x.toNat = true) := fun x q1 q2 => by
          have := inL_swF hk x.toNat
          unfold inL at this
          rw [Int.toNat_of_nonneg q1] at this
          have q3 : x.toNat < (sizeF s.vars).toNat := by omega
          simp only [q3, decide_true, Bool.true_and] at this
          rw [← this, decide_eq_true_eq]
        constructor
        · rintro h0 ⟨x, hx, hp⟩
          rw [Bool.and_eq_true, List.any_eq_true] at hp
          obtain ⟨hp, y, hy, hq⟩ := hp
          rw [Bool.and_eq_true, Bool.not_eq_true'] at hq
          have hxi := hset.in x hx
          have i3 : x.toNat < (tabF s).length := by omega
          have hgd : (tabF s).getD x.toNat [] = (tabF s)[x.toNat] := by simp [List.getD, i3]
          have hyi := (tabF_in hs _ (List.getElem_mem i3)).2 y (by rw [← hgd]; exact hy)
          have hyx : y ∈ xs := by simpa [inL, Int.toNat_of_nonneg hyi.1] using hq.1
          have hyn : y ∈ nextN s (boF xs (swF s ts)) := (mem_nextN hs hb1).2 ⟨x, (mem_boF h4 hsw).2 ⟨hx, (hsx x hxi.1 hxi.2).2 hp⟩, hy⟩
          have : y ∈ woF (boF (nextN s (boF xs (swF s ts))) xs) (swF s ts) := (mem_woF (boF_ok _ _) hsw).2 ⟨(mem_boF (nextN_ok _ _) h4).2 ⟨hyn, hyx⟩, fun hc => by
            have := (hsx y hyi.1 (by omega)).1 hc
            rw [hq.2] at this; cases this⟩
          rw [h0] at this; cases this
        · intro h0
          refine List.eq_nil_iff_forall_not_mem.2 fun y hy => h0 ?_
          obtain ⟨hy1, hy2⟩ := (mem_woF (boF_ok _ _) hsw).1 hy
          obtain ⟨hy3, hy4⟩ := (mem_boF (nextN_ok _ _) h4).1 hy1
          obtain ⟨x, hx, hxy⟩ := (mem_nextN hs hb1).1 hy3
          obtain ⟨hx1, hx2⟩ := (mem_boF h4 hsw).1 hx
          have hxi := hset.in x hx1
          have hyi := hset.in y hy4
          refine ⟨x, hx1, ?_⟩
          rw [Bool.and_eq_true, List.any_eq_true]
          refine ⟨(hsx x hxi.1 hxi.2).1 hx2, y, hxy, ?_⟩
          rw [Bool.and_eq_true, Bool.not_eq_true']
          refine ⟨by simpa [inL, Int.toNat_of_nonneg hyi.1] using hy4, ?_⟩
          cases hq : whB s ts y.toNat with
          | false => rfl
          | true => exact absurd ((hsx y hyi.1 hyi.2).2 hq) hy2
end Go.M2

namespace Go.M2
open Go.Proofs
set_option linter.unusedVariables false
set_option linter.unusedSimpArgs false
set_option maxRecDepth 10000
set_option maxHeartbeats 4000000
variable {M : MH}
theorem law_HoldsWithin {v w x : V} {s : SysS} {ts : List TermS} {xs : List Int} (hv : isSysX s v) (hl : SysLen s) (hw : XT w ts) (htl : LenOk ts) (hx : XI x xs) (hxl0 : LenOk xs) :
    VCall Tryz.prog n_laws_FnExactHoldsWithin [v, w, x] M (fun r M' => M = M' ∧ r = .sc (.bool true)) := by
  refine VCall.pure fun R hR => v_laws_FnExactHoldsWithin rfl ?_
  have hv0 := hv
  obtain ⟨a, b, rfl, ha, hb⟩ := hv
  unfold LenOk at htl hxl0
  have hlen := hx.len fun _ _ h => h.len
  (repeat' (first | ((first | with_reducible refine cond_dec (fun h => ?_) (fun h => ?_) | with_reducible refine guardK_dec (fun h => ?_) (fun h => ?_) | with_reducible refine guardD3_dec (fun h => ?_) (fun h => ?_)) <;> first | (exfalso; omega) | (simp (maxSteps := 2000000) (disch := first | omega | assumption | exact idP rfl | exact idP (bL rfl)) only [go_sem, reduceIte, Nat.reduceEqDiff, h, hlen]) | skip) | ((first | with_reducible refine cond_split (fun h => ?_) (fun h => ?_) | with_reducible refine guardK_split (fun h => ?_) (fun h => ?_) | with_reducible refine guardD3_split (fun h => ?_) (fun h => ?_)) <;> ((try simp only [Bool.not_eq_true', Bool.not_eq_false'] at h); first | (simp (maxSteps := 2000000) (disch := first | omega | assumption | exact idP rfl | exact idP (bL rfl)) only [go_sem, reduceIte, Nat.reduceEqDiff, h, hlen]) | skip)) | (with_reducible intro bk hbk; try have hnk := (fresh_set hbk).1) | (simp (maxSteps := 2000000) (disch := first | omega | assumption | exact idP rfl | exact idP (bL rfl)) only [go_sem, reduceIte, Nat.reduceEqDiff, hlen])))
  · exact hR _ _ (by (repeat (first | exact Sub.refl _ | assumption | (refine Sub.set' ?_ (by assumption))))) rfl
  · refine (x_szSystem hv0 hl (by omega) (by omega)).mono ?_
    rintro _ _ ⟨rfl, k, rfl, hk1, hk⟩
    (repeat' (first | ((first | with_reducible refine cond_dec (fun h => ?_) (fun h => ?_) | with_reducible refine guardK_dec (fun h => ?_) (fun h => ?_) | with_reducible refine guardD3_dec (fun h => ?_) (fun h => ?_)) <;> first | (exfalso; omega) | (simp (maxSteps := 2000000) (disch := first | omega | assumption | exact idP rfl | exact idP (bL rfl)) only [go_sem, reduceIte, Nat.reduceEqDiff, h]) | skip) | ((first | with_reducible refine cond_split (fun h => ?_) (fun h => ?_) | with_reducible refine guardK_split (fun h => ?_) (fun h => ?_) | with_reducible refine guardD3_split (fun h => ?_) (fun h => ?_)) <;> ((try simp only [Bool.not_eq_true', Bool.not_eq_false'] at h); first | (simp (maxSteps := 2000000) (disch := first | omega | assumption | exact idP rfl | exact idP (bL rfl)) only [go_sem, reduceIte, Nat.reduceEqDiff, h]) | skip)) | (with_reducible intro bk hbk; try have hnk := (fresh_set hbk).1) | (simp (maxSteps := 2000000) (disch := first | omega | assumption | exact idP rfl | exact idP (bL rfl)) only [go_sem, reduceIte, Nat.reduceEqDiff])))
    · exact hR _ _ (by (repeat (first | exact Sub.refl _ | assumption | (refine Sub.set' ?_ (by assumption))))) rfl
    · have hf := hk (by omega)
      have hxl : xs.length ≤ 1048576 := by omega
      refine (x_szTermS hw htl (by omega) (by omega)).mono ?_
      rintro _ _ ⟨rfl, k2, rfl, hk3, hk4⟩
      (repeat' (first | ((first | with_reducible refine cond_dec (fun h => ?_) (fun h => ?_) | with_reducible refine guardK_dec (fun h => ?_) (fun h => ?_) | with_reducible refine guardD3_dec (fun h => ?_) (fun h => ?_)) <;> first | (exfalso; omega) | (simp (maxSteps := 2000000) (disch := first | omega | assumption | exact idP rfl | exact idP (bL rfl)) only [go_sem, reduceIte, Nat.reduceEqDiff, h]) | skip) | ((first | with_reducible refine cond_split (fun h => ?_) (fun h => ?_) | with_reducible refine guardK_split (fun h => ?_) (fun h => ?_) | with_reducible refine guardD3_split (fun h => ?_) (fun h => ?_)) <;> ((try simp only [Bool.not_eq_true', Bool.not_eq_false'] at h); first | (simp (maxSteps := 2000000) (disch := first | omega | assumption | exact idP rfl | exact idP (bL rfl)) only [go_sem, reduceIte, Nat.reduceEqDiff, h]) | skip)) | (with_reducible intro bk hbk; try have hnk := (fresh_set hbk).1) | (simp (maxSteps := 2000000) (disch := first | omega | assumption | exact idP rfl | exact idP (bL rfl)) only [go_sem, reduceIte, Nat.reduceEqDiff])))
      · exact hR _ _ (by (repeat (first | exact Sub.refl _ | assumption | (refine Sub.set' ?_ (by assumption))))) rfl
      · have hwl := hk4 (by omega)
        refine (f_toSystem hv0 hf).mono ?_
        rintro s1 _ ⟨rfl, hs1⟩
        simp (maxSteps := 2000000) (disch := first | omega | assumption | exact idP rfl | exact idP (bL rfl)) only [go_sem, reduceIte, Nat.reduceEqDiff]
        refine (f_toTermS hw hwl).mono ?_
        rintro w1 _ ⟨rfl, hw1⟩
        simp (maxSteps := 2000000) (disch := first | omega | assumption | exact idP rfl | exact idP (bL rfl)) only [go_sem, reduceIte, Nat.reduceEqDiff]
        refine (f_toIntS hx hxl).mono ?_
        rintro x1 _ ⟨rfl, hx1⟩
        simp (maxSteps := 2000000) (disch := first | omega | assumption | exact idP rfl | exact idP (bL rfl)) only [go_sem, reduceIte, Nat.reduceEqDiff]
        refine (t_specHoldsWithin hs1 hw1 hx1 hxl).mono ?_
        rintro _ _ ⟨rfl, rfl⟩
        simp (maxSteps := 2000000) (disch := first | omega | assumption | exact idP rfl | exact idP (bL rfl)) only [go_sem, reduceIte, Nat.reduceEqDiff]
        refine (f_toSystem hv0 hf).mono ?_
        rintro s2 _ ⟨rfl, hs2⟩
        have hs20 := hs2
        obtain ⟨a2, b2, rfl, ha2, hb2⟩ := hs2
        simp (maxSteps := 2000000) (disch := first | omega | assumption | exact idP rfl | exact idP (bL rfl)) only [go_sem, reduceIte, Nat.reduceEqDiff, ha2.one.1, ha2.one.2, hb2.one.1, hb2.one.2]
        intro b7 hb7
        have n7 := (fresh_set hb7).1
        have o1 := ha2.one.1
        have o2 := hb2.one.1
        simp (maxSteps := 2000000) (disch := first | omega | assumption | exact idP rfl | exact idP (bL rfl)) only [go_sem, reduceIte, Nat.reduceEqDiff]
        refine (f_toTermS hw hwl).mono ?_
        rintro w2 _ ⟨rfl, hw2⟩
        simp (maxSteps := 2000000) (disch := first | omega | assumption | exact idP rfl | exact idP (bL rfl)) only [go_sem, reduceIte, Nat.reduceEqDiff]
        refine (f_toIntS hx hxl).mono ?_
        rintro x2 _ ⟨rfl, hx2⟩
        simp (maxSteps := 2000000) (disch := first | omega | assumption | exact idP rfl | exact idP (bL rfl)) only [go_sem, reduceIte, Nat.reduceEqDiff]
        refine (t_impHoldsWithin hs20 hf.sz hw2 hx2 hxl).mono ?_
        rintro _ _ ⟨rfl, rfl⟩
        rw [holds_eq]
        have ei : decide (xs = xs) = true := by simp
        generalize (tOk s ts && setB (sizeF s.vars) xs && holdsI (sizeF s.vars).toNat (tabF s) (whB s ts) xs) = t
        have fin : ∀ (e : EnvV), R (.sc (.bool true)) ((M.set bk [a, b]).set b7 [a2, b2]) := fun _ => hR _ _ (by (repeat (first | exact Sub.refl _ | assumption | (refine Sub.set' ?_ (by assumption))))) rfl
        cases t
        all_goals simp (maxSteps := 2000000) (disch := first | omega | assumption | exact idP rfl | exact idP (bL rfl)) only [go_sem, reduceIte, Nat.reduceEqDiff, beq_self_eq_true, Bool.not_true, BEq.rfl]
        all_goals refine (f_toSystem hv0 hf).mono ?_
        all_goals rintro s3 _ ⟨rfl, hs3⟩
        all_goals simp (maxSteps := 2000000) (disch := first | omega | assumption | exact idP rfl | exact idP (bL rfl)) only [go_sem, reduceIte, Nat.reduceEqDiff]
        all_goals refine (x_eqSystem hs20 hs3 hf).mono ?_
        all_goals rintro _ _ ⟨rfl, rfl⟩
        all_goals simp (maxSteps := 2000000) (disch := first | omega | assumption | exact idP rfl | exact idP (bL rfl)) only [go_sem, reduceIte, Nat.reduceEqDiff]
        all_goals refine (f_toTermS hw hwl).mono ?_
        all_goals rintro w3 _ ⟨rfl, hw3⟩
        all_goals simp (maxSteps := 2000000) (disch := first | omega | assumption | exact idP rfl | exact idP (bL rfl)) only [go_sem, reduceIte, Nat.reduceEqDiff]
        all_goals refine (x_eqTermS hw2 hw3 hwl).mono ?_
        all_goals rintro _ _ ⟨rfl, rfl⟩
        all_goals simp (maxSteps := 2000000) (disch := first | omega | assumption | exact idP rfl | exact idP (bL rfl)) only [go_sem, reduceIte, Nat.reduceEqDiff]
        all_goals refine (f_toIntS hx hxl).mono ?_
        all_goals rintro x3 _ ⟨rfl, hx3⟩
        all_goals simp (maxSteps := 2000000) (disch := first | omega | assumption | exact idP rfl | exact idP (bL rfl)) only [go_sem, reduceIte, Nat.reduceEqDiff]
        all_goals refine (x_eqIntS hx2 hx3 hxl).mono ?_
        all_goals rintro _ _ ⟨rfl, rfl⟩
        all_goals simp (maxSteps := 2000000) (disch := first | omega | assumption | exact idP rfl | exact idP (bL rfl)) only [go_sem, reduceIte, Nat.reduceEqDiff, ei]
        all_goals exact hR _ _ (by (repeat (first | exact Sub.refl _ | assumption | (refine Sub.set' ?_ (by assumption))))) rfl
end Go.M2
