/- Contracts: the library's comparison, search in order and insertion. -/
import Derived.Test.YtpglaahejpkkdaaGreatKl5
import Derived.Test.YtpglaahejpkkdaaGreatChecked
set_option linter.unusedVariables false
set_option linter.unusedSimpArgs false
set_option maxRecDepth 10000
set_option maxHeartbeats 4000000
namespace Go.M2
open Go.Proofs
variable {M : MH}
theorem t_isNaN {n : Int} : VCall Tryz.prog n_cmp_isNaN_int [.sc (.int .i64 n)] M (fun r M' => M = M' ∧ r = .sc (.bool false)) := by
  refine VCall.pure fun R hR => v_cmp_isNaN_int rfl ?_
  (repeat' (first | ((first | with_reducible refine cond_dec (fun h => ?_) (fun h => ?_) | with_reducible refine guardK_dec (fun h => ?_) (fun h => ?_) | with_reducible refine guardD3_dec (fun h => ?_) (fun h => ?_)) <;> first | (exfalso; omega) | (simp (maxSteps := 2000000) (disch := first | omega | assumption | exact idP rfl | exact idP (bL rfl)) only [go_sem, reduceIte, Nat.reduceEqDiff, h]) | skip) | ((first | with_reducible refine cond_split (fun h => ?_) (fun h => ?_) | with_reducible refine guardK_split (fun h => ?_) (fun h => ?_) | with_reducible refine guardD3_split (fun h => ?_) (fun h => ?_)) <;> ((try simp only [Bool.not_eq_true', Bool.not_eq_false'] at h); first | (simp (maxSteps := 2000000) (disch := first | omega | assumption | exact idP rfl | exact idP (bL rfl)) only [go_sem, reduceIte, Nat.reduceEqDiff, h]) | skip)) | (with_reducible intro bk hbk; try have hnk := (fresh_set hbk).1) | (simp (maxSteps := 2000000) (disch := first | omega | assumption | exact idP rfl | exact idP (bL rfl)) only [go_sem, reduceIte, Nat.reduceEqDiff])))
  all_goals exact hR _ _ (by (repeat (first | exact Sub.refl _ | assumption | (refine Sub.set' ?_ (by assumption))))) (by (refine eqB ?_; (try simp only [decide_eq_true_eq, Bool.false_eq_true, Bool.and_eq_true, Bool.or_eq_true, Bool.not_eq_true', decide_eq_false_iff_not, eq_self_iff_true, true_iff, false_iff, iff_true, iff_false, ne_eq]); (try omega)))
def cmp1 (a b : Int) : Int := if a < b then -1 else if b < a then 1 else 0
theorem t_cmpInt {a b : Int} : VCall Tryz.prog n_cmp_Compare_int [.sc (.int .i64 a), .sc (.int .i64 b)] M (fun r M' => M = M' ∧ r = .sc (.int .i64 (cmp1 a b))) := by
  refine VCall.pure fun R hR => v_cmp_Compare_int rfl ?_
  (repeat' (first | ((first | with_reducible refine cond_dec (fun h => ?_) (fun h => ?_) | with_reducible refine guardK_dec (fun h => ?_) (fun h => ?_) | with_reducible refine guardD3_dec (fun h => ?_) (fun h => ?_)) <;> first | (exfalso; omega) | (simp (maxSteps := 2000000) (disch := first | omega | assumption | exact idP rfl | exact idP (bL rfl)) only [go_sem, reduceIte, Nat.reduceEqDiff, h]) | skip) | ((first | with_reducible refine cond_split (fun h => ?_) (fun h => ?_) | with_reducible refine guardK_split (fun h => ?_) (fun h => ?_) | with_reducible refine guardD3_split (fun h => ?_) (fun h => ?_)) <;> ((try simp only [Bool.not_eq_true', Bool.not_eq_false'] at h); first | (simp (maxSteps := 2000000) (disch := first | omega | assumption | exact idP rfl | exact idP (bL rfl)) only [go_sem, reduceIte, Nat.reduceEqDiff, h]) | skip)) | ((with_reducible refine (t_isNaN).mono ?_); rintro _ _ ⟨rfl, rfl⟩) | (with_reducible intro bk hbk; try have hnk := (fresh_set hbk).1) | (simp (maxSteps := 2000000) (disch := first | omega | assumption | exact idP rfl | exact idP (bL rfl)) only [go_sem, reduceIte, Nat.reduceEqDiff])))
  all_goals exact hR _ _ (by (repeat (first | exact Sub.refl _ | assumption | (refine Sub.set' ?_ (by assumption))))) (eqI (by unfold cmp1; repeat' split; all_goals omega))
def cmpF (xs ys : List Int) : Int := if lessF xs ys = true then -1 else if xs = ys then 0 else 1
theorem t_slicesCompare {v w : V} {xs ys : List Int} (hv : LI v xs) (hw : LI w ys) (hl : xs.length ≤ 1048576) : VCall Tryz.prog n_slices_Compare_Sint_int [v, w] M (fun r M' => M = M' ∧ r = .sc (.int .i64 (cmpF xs ys))) := by
  refine VCall.pure fun R hR => v_slices_Compare_Sint_int rfl ?_
  simp (maxSteps := 2000000) (disch := first | omega | assumption | exact idP rfl | exact idP (bL rfl)) only [go_sem, reduceIte, Nat.reduceEqDiff, hv.len]
  refine loop_k (fun e M' => M' = M ∧ ∃ i : Nat, i ≤ xs.length ∧ i ≤ ys.length ∧ e 0 = v ∧ e 1 = w ∧ e 9 = v ∧ e 10 = .sc (.int .i64 xs.length) ∧ e 11 = .sc (.int .i64 i) ∧ xs.take i = ys.take i) (fun e _ => ctrV xs.length (e 11)) ?_ ?_
  · exact ⟨rfl, 0, by omega, by omega, by simp (maxSteps := 2000000) (disch := first | omega | assumption | exact idP rfl | exact idP (bL rfl)) only [go_sem, reduceIte, Nat.reduceEqDiff], by simp (maxSteps := 2000000) (disch := first | omega | assumption | exact idP rfl | exact idP (bL rfl)) only [go_sem, reduceIte, Nat.reduceEqDiff], by simp (maxSteps := 2000000) (disch := first | omega | assumption | exact idP rfl | exact idP (bL rfl)) only [go_sem, reduceIte, Nat.reduceEqDiff], by simp (maxSteps := 2000000) (disch := first | omega | assumption | exact idP rfl | exact idP (bL rfl)) only [go_sem, reduceIte, Nat.reduceEqDiff], by simp (maxSteps := 2000000) (disch := first | omega | assumption | exact idP rfl | exact idP (bL rfl)) only [go_sem, reduceIte, Nat.reduceEqDiff]; rfl, rfl⟩
  · rintro e M1 ⟨hM, i, hi, hj, e0, e1, e9, e10, e11, ht⟩ K hK
    subst hM
    have hlt := lessF_take hi hj ht
    simp (maxSteps := 2000000) (disch := first | omega | assumption | exact idP rfl | exact idP (bL rfl)) only [go_sem, reduceIte, Nat.reduceEqDiff, e10, e11]
    refine cond_dec (fun h => ?_) (fun h => ?_)
    · have hi1 : i < xs.length := by omega
      simp (maxSteps := 2000000) (disch := first | omega | assumption | exact idP rfl | exact idP (bL rfl)) only [go_sem, reduceIte, Nat.reduceEqDiff, e0, e1, e9, e11, hv.iaddr, hv.at hi1, hw.len]
      refine cond_dec (fun h2 => ?_) (fun h2 => ?_)
      · simp (maxSteps := 2000000) (disch := first | omega | assumption | exact idP rfl | exact idP (bL rfl)) only [go_sem, reduceIte, Nat.reduceEqDiff]
        refine hR _ _ (by (repeat (first | exact Sub.refl _ | assumption | (refine Sub.set' ?_ (by assumption))))) (eqI ?_)
        have e2 : lessF xs ys = false := by
          rw [hlt, show ys.drop i = [] by apply List.drop_eq_nil_of_le; omega]
          cases xs.drop i <;> rfl
        have e3 : ¬ xs = ys := fun e => by subst e; omega
        simp [cmpF, e2, e3]
      · have hi2 : i < ys.length := by omega
        have hd : lessF (xs.drop i) (ys.drop i) = if xs[i] = ys[i] then lessF (xs.drop (i + 1)) (ys.drop (i + 1)) else decide (xs[i] < ys[i]) := by
          rw [List.drop_eq_getElem_cons hi1, List.drop_eq_getElem_cons hi2]; rfl
        simp (maxSteps := 2000000) (disch := first | omega | assumption | exact idP rfl | exact idP (bL rfl)) only [go_sem, reduceIte, Nat.reduceEqDiff, e1, hw.iaddr, hw.at hi2]
        refine t_cmpInt.mono ?_
        rintro _ _ ⟨rfl, rfl⟩
        simp (maxSteps := 2000000) (disch := first | omega | assumption | exact idP rfl | exact idP (bL rfl)) only [go_sem, reduceIte, Nat.reduceEqDiff]
        refine cond_dec (fun h3 => ?_) (fun h3 => ?_)
        · simp (maxSteps := 2000000) (disch := first | omega | assumption | exact idP rfl | exact idP (bL rfl)) only [go_sem, reduceIte, Nat.reduceEqDiff]
          refine hR _ _ (by (repeat (first | exact Sub.refl _ | assumption | (refine Sub.set' ?_ (by assumption))))) (eqI ?_)
          unfold cmp1 at h3 ⊢
          have hne : ¬ xs[i] = ys[i] := fun e => by rw [e] at h3; simp at h3
          have e3 : ¬ xs = ys := fun e => by subst e; exact hne rfl
          unfold cmpF
          rw [hlt, hd, if_neg hne, if_neg e3]
          by_cases hl2 : xs[i] < ys[i]
          · simp [hl2]
          · simp [hl2]; omega
        · have heq : xs[i] = ys[i] := by
            have h3 := Decidable.not_not.1 h3
            unfold cmp1 at h3
            split at h3
            · omega
            · split at h3
              · omega
              · omega
          simp (maxSteps := 2000000) (disch := first | omega | assumption | exact idP rfl | exact idP (bL rfl)) only [go_sem, reduceIte, Nat.reduceEqDiff, e0, e1, e9, e10, e11]
          exact hK _ _ ⟨rfl, i + 1, by omega, by omega, by simp (maxSteps := 2000000) (disch := first | omega | assumption | exact idP rfl | exact idP (bL rfl)) only [go_sem, reduceIte, Nat.reduceEqDiff], by simp (maxSteps := 2000000) (disch := first | omega | assumption | exact idP rfl | exact idP (bL rfl)) only [go_sem, reduceIte, Nat.reduceEqDiff], by simp (maxSteps := 2000000) (disch := first | omega | assumption | exact idP rfl | exact idP (bL rfl)) only [go_sem, reduceIte, Nat.reduceEqDiff], by simp (maxSteps := 2000000) (disch := first | omega | assumption | exact idP rfl | exact idP (bL rfl)) only [go_sem, reduceIte, Nat.reduceEqDiff], by simp (maxSteps := 2000000) (disch := first | omega | assumption | exact idP rfl | exact idP (bL rfl)) only [go_sem, reduceIte, Nat.reduceEqDiff]; rfl, by rw [take_snoc hi1, take_snoc hi2, ht, heq]⟩ (by simp (maxSteps := 2000000) (disch := first | omega | assumption | exact idP rfl | exact idP (bL rfl)) only [go_sem, reduceIte, Nat.reduceEqDiff, ctrV_int, e11]; omega)
    · obtain rfl : i = xs.length := by omega
      rw [List.drop_length] at hlt
      simp (maxSteps := 2000000) (disch := first | omega | assumption | exact idP rfl | exact idP (bL rfl)) only [go_sem, reduceIte, Nat.reduceEqDiff, e0, e1, hv.len, hw.len]
      refine cond_dec (fun h2 => ?_) (fun h2 => ?_)
      · simp (maxSteps := 2000000) (disch := first | omega | assumption | exact idP rfl | exact idP (bL rfl)) only [go_sem, reduceIte, Nat.reduceEqDiff]
        refine hR _ _ (by (repeat (first | exact Sub.refl _ | assumption | (refine Sub.set' ?_ (by assumption))))) (eqI ?_)
        have : lessF xs ys = true := by
          rw [hlt, List.drop_eq_getElem_cons (show xs.length < ys.length by omega)]; rfl
        simp [cmpF, this]
      · simp (maxSteps := 2000000) (disch := first | omega | assumption | exact idP rfl | exact idP (bL rfl)) only [go_sem, reduceIte, Nat.reduceEqDiff]
        refine hR _ _ (by (repeat (first | exact Sub.refl _ | assumption | (refine Sub.set' ?_ (by assumption))))) (eqI ?_)
        have e2 : xs = ys := by
          rw [List.take_length, List.take_of_length_le (by omega)] at ht; exact ht
        subst e2
        simp [cmpF, lessF_irr]
theorem bin_half {a : Int} {k' : IntKind} (h0 : 0 ≤ a) (h1 : a ≤ 9223372036854775807) : binF .shr (.int .u64 (IntKind.u64.wrap a)) (.int k' 1) = some (.int .u64 (a / 2)) := by
  have hw : IntKind.u64.wrap a = a := by
    have e1 : IntKind.u64.wrap a = a % 18446744073709551616 := by
      simp only [IntKind.wrap]
      rfl
    rw [e1]; omega
  rw [hw]
  simp only [binF, isSh, shF, if_true]
  rw [if_neg (by decide)]
  simp only [Option.some.injEq, AV.int.injEq, true_and]
  have : (2 : Int) ^ (min (1 : Int).toNat (IntKind.u64.bits)) = 2 := by decide
  rw [this]
  exact Int.fdiv_eq_ediv_of_nonneg a (by decide)
theorem sorted_lt {l : List (List Int)} (h : SortedF l) {i j : Nat} (hj : j < l.length) (hij : i < j) : lessF (l[i]'(by omega)) l[j] = true := List.pairwise_iff_getElem.1 h i j (by omega) hj hij
theorem t_binarySearch {v w : V} {l : List (List Int)} {x : List Int} (hv : LII v l) (hw : LI w x) (hs : SortedF l) (hl : l.length ≤ 1048576) (hll : ∀ y ∈ l, y.length ≤ 1048576) :
    VCall Tryz.prog n_slices_BinarySearchFunc_SSint_Sint_Sint [v, w, .fn n_slices_Compare_Sint_int []] M (fun r M' => M = M' ∧ ∃ (i : Nat) (t : Bool), r = .tup [.sc (.int .i64 i), .sc (.bool t)] ∧ i ≤ l.length ∧ (∀ j (h : j < l.length), j < i → lessF l[j] x = true) ∧
      (t = true → ∃ h : i < l.length, l[i] = x) ∧ (t = false → ∀ h : i < l.length, lessF x l[i] = true)) := by
  refine VCall.pure fun R hR => v_slices_BinarySearchFunc_SSint_Sint_Sint rfl ?_
  simp (maxSteps := 2000000) (disch := first | omega | assumption | exact idP rfl | exact idP (bL rfl)) only [go_sem, reduceIte, Nat.reduceEqDiff, hv.len]
  refine loop_k (fun e M' => M' = M ∧ ∃ i j : Nat, i ≤ j ∧ j ≤ l.length ∧ e 0 = v ∧ e 1 = w ∧ e 2 = .fn n_slices_Compare_Sint_int [] ∧ e 8 = .sc (.int .i64 l.length) ∧ e 9 = .sc (.int .i64 i) ∧ e 10 = .sc (.int .i64 j) ∧
    (∀ k (h : k < l.length), k < i → lessF l[k] x = true) ∧ (∀ h : j < l.length, lessF l[j] x = false)) (fun e _ => match er (e 9), er (e 10) with | .int _ a, .int _ b => (b - a).toNat | _, _ => 0) ?_ ?_
  · exact ⟨rfl, 0, l.length, by omega, by omega, by simp (maxSteps := 2000000) (disch := first | omega | assumption | exact idP rfl | exact idP (bL rfl)) only [go_sem, reduceIte, Nat.reduceEqDiff], by simp (maxSteps := 2000000) (disch := first | omega | assumption | exact idP rfl | exact idP (bL rfl)) only [go_sem, reduceIte, Nat.reduceEqDiff], by simp (maxSteps := 2000000) (disch := first | omega | assumption | exact idP rfl | exact idP (bL rfl)) only [go_sem, reduceIte, Nat.reduceEqDiff], by simp (maxSteps := 2000000) (disch := first | omega | assumption | exact idP rfl | exact idP (bL rfl)) only [go_sem, reduceIte, Nat.reduceEqDiff], by simp (maxSteps := 2000000) (disch := first | omega | assumption | exact idP rfl | exact idP (bL rfl)) only [go_sem, reduceIte, Nat.reduceEqDiff]; rfl, by simp (maxSteps := 2000000) (disch := first | omega | assumption | exact idP rfl | exact idP (bL rfl)) only [go_sem, reduceIte, Nat.reduceEqDiff], fun k _ h => by omega, fun h => by omega⟩
  · rintro e M1 ⟨hM, i, j, hij, hj, e0, e1, e2, e8, e9, e10, hlo, hhi⟩ K hK
    subst hM
    simp (maxSteps := 2000000) (disch := first | omega | assumption | exact idP rfl | exact idP (bL rfl)) only [go_sem, reduceIte, Nat.reduceEqDiff, e9, e10]
    refine cond_dec (fun h => ?_) (fun h => ?_)
    · have hh : ((i : Int) + (j : Int)) / 2 = (((i + j) / 2 : Nat) : Int) := by omega
      have hm1 : (i + j) / 2 < j := by omega
      have hm2 : i ≤ (i + j) / 2 := by omega
      have hml : (i + j) / 2 < l.length := by omega
      simp (maxSteps := 2000000) (disch := first | omega | assumption | exact idP rfl | exact idP (bL rfl)) only [go_sem, reduceIte, Nat.reduceEqDiff, e0, e1, e2, e9, e10, bin_half, hh, hv.iaddr]
      refine (t_slicesCompare (hv.elt hml) hw (hll _ (List.getElem_mem hml))).mono ?_
      rintro _ _ ⟨rfl, rfl⟩
      simp (maxSteps := 2000000) (disch := first | omega | assumption | exact idP rfl | exact idP (bL rfl)) only [go_sem, reduceIte, Nat.reduceEqDiff]
      refine cond_dec (fun h2 => ?_) (fun h2 => ?_)
      · have hless : lessF l[(i + j) / 2] x = true := by
          unfold cmpF at h2
          split at h2
          · assumption
          · split at h2 <;> omega
        simp (maxSteps := 2000000) (disch := first | omega | assumption | exact idP rfl | exact idP (bL rfl)) only [go_sem, reduceIte, Nat.reduceEqDiff]
        refine hK _ _ ⟨rfl, (i + j) / 2 + 1, j, by omega, hj, by simp (maxSteps := 2000000) (disch := first | omega | assumption | exact idP rfl | exact idP (bL rfl)) only [go_sem, reduceIte, Nat.reduceEqDiff, e0], by simp (maxSteps := 2000000) (disch := first | omega | assumption | exact idP rfl | exact idP (bL rfl)) only [go_sem, reduceIte, Nat.reduceEqDiff, e1], by simp (maxSteps := 2000000) (disch := first | omega | assumption | exact idP rfl | exact idP (bL rfl)) only [go_sem, reduceIte, Nat.reduceEqDiff, e2], by simp (maxSteps := 2000000) (disch := first | omega | assumption | exact idP rfl | exact idP (bL rfl)) only [go_sem, reduceIte, Nat.reduceEqDiff, e8], by simp (maxSteps := 2000000) (disch := first | omega | assumption | exact idP rfl | exact idP (bL rfl)) only [go_sem, reduceIte, Nat.reduceEqDiff]; rfl, by simp (maxSteps := 2000000) (disch := first | omega | assumption | exact idP rfl | exact idP (bL rfl)) only [go_sem, reduceIte, Nat.reduceEqDiff, e10], fun k hk1 hk2 => ?_, hhi⟩ (by simp (maxSteps := 2000000) (disch := first | omega | assumption | exact idP rfl | exact idP (bL rfl)) only [go_sem, reduceIte, Nat.reduceEqDiff, e9, e10]; omega)
        by_cases hk3 : k = (i + j) / 2
        · subst hk3; exact hless
        · exact lessF_trans (sorted_lt hs hml (by omega)) hless
      · have hnless : lessF l[(i + j) / 2] x = false := by
          unfold cmpF at h2
          split at h2
          · omega
          · simp_all
        simp (maxSteps := 2000000) (disch := first | omega | assumption | exact idP rfl | exact idP (bL rfl)) only [go_sem, reduceIte, Nat.reduceEqDiff]
        exact hK _ _ ⟨rfl, i, (i + j) / 2, hm2, by omega, by simp (maxSteps := 2000000) (disch := first | omega | assumption | exact idP rfl | exact idP (bL rfl)) only [go_sem, reduceIte, Nat.reduceEqDiff, e0], by simp (maxSteps := 2000000) (disch := first | omega | assumption | exact idP rfl | exact idP (bL rfl)) only [go_sem, reduceIte, Nat.reduceEqDiff, e1], by simp (maxSteps := 2000000) (disch := first | omega | assumption | exact idP rfl | exact idP (bL rfl)) only [go_sem, reduceIte, Nat.reduceEqDiff, e2], by simp (maxSteps := 2000000) (disch := first | omega | assumption | exact idP rfl | exact idP (bL rfl)) only [go_sem, reduceIte, Nat.reduceEqDiff, e8], by simp (maxSteps := 2000000) (disch := first | omega | assumption | exact idP rfl | exact idP (bL rfl)) only [go_sem, reduceIte, Nat.reduceEqDiff, e9], by simp (maxSteps := 2000000) (disch := first | omega | assumption | exact idP rfl | exact idP (bL rfl)) only [go_sem, reduceIte, Nat.reduceEqDiff], hlo, fun _ => hnless⟩ (by simp (maxSteps := 2000000) (disch := first | omega | assumption | exact idP rfl | exact idP (bL rfl)) only [go_sem, reduceIte, Nat.reduceEqDiff, e9, e10]; omega)
    · obtain rfl : i = j := by omega
      by_cases hil : i < l.length
      · have hd : decide ((i : Int) < (l.length : Int)) = true := by simpa using hil
        simp (maxSteps := 2000000) (disch := first | omega | assumption | exact idP rfl | exact idP (bL rfl)) only [go_sem, reduceIte, Nat.reduceEqDiff, e0, e1, e2, e8, e9, hd, hv.iaddr]
        refine (t_slicesCompare (hv.elt hil) hw (hll _ (List.getElem_mem hil))).mono ?_
        rintro _ _ ⟨rfl, rfl⟩
        simp (maxSteps := 2000000) (disch := first | omega | assumption | exact idP rfl | exact idP (bL rfl)) only [go_sem, reduceIte, Nat.reduceEqDiff]
        refine hR _ _ (by (repeat (first | exact Sub.refl _ | assumption | (refine Sub.set' ?_ (by assumption))))) ⟨i, decide (cmpF l[i] x = 0), rfl, by omega, hlo, fun ht => ⟨hil, ?_⟩, fun ht _ => ?_⟩
        · have h3 : cmpF l[i] x = 0 := by simpa using ht
          unfold cmpF at h3
          rw [hhi hil] at h3
          simp only [Bool.false_eq_true, if_false] at h3
          split at h3
          · assumption
          · omega
        · have h3 : ¬ cmpF l[i] x = 0 := by simpa using ht
          unfold cmpF at h3
          rw [hhi hil] at h3
          simp only [Bool.false_eq_true, if_false] at h3
          rcases lessF_tri l[i] x with h4 | h4 | h4
          · rw [hhi hil] at h4; cases h4
          · rw [if_pos h4] at h3; exact absurd rfl h3
          · exact h4
      · have hd : decide ((i : Int) < (l.length : Int)) = false := by simpa using hil
        simp (maxSteps := 2000000) (disch := first | omega | assumption | exact idP rfl | exact idP (bL rfl)) only [go_sem, reduceIte, Nat.reduceEqDiff, e0, e1, e2, e8, e9, hd]
        exact hR _ _ (by (repeat (first | exact Sub.refl _ | assumption | (refine Sub.set' ?_ (by assumption))))) ⟨i, false, rfl, by omega, hlo, fun h => (by cases h), fun _ h => absurd h hil⟩
end Go.M2

namespace Go.M2
open Go.Proofs
variable {M : MH}
theorem slc_lo {b o n c : Nat} {ex : Bool} {k : IntKind} {a : Int} (h0 : 0 ≤ a) (h1 : a ≤ (n : Int)) (hc : a < (c : Int)) (hn : n ≤ c) :
    slcV 1 (some (.int k a)) none none (.sc (.sl (some (b, o)) n c ex 1)) = some (.sc (.sl (some (b, o + a.toNat)) (n - a.toNat) (c - a.toNat) ex 1)) := by
  simp only [slcV, slcF, bnds, natIn, Option.isSome_none, Bool.false_eq_true, if_false, h0, h1, and_self, if_true]
  rw [if_neg (by intro h; rcases h with h | h <;> omega), if_neg (by omega)]
  simp
theorem slc_end {b o n c : Nat} {k : IntKind} {a : Int} (h0 : a = (c : Int)) (h1 : n = c) :
    slcV 1 (some (.int k a)) none none (.sc (.sl (some (b, o)) n c true 1)) = some (.sc (.sl (some (b, o)) (n - c) 0 true 1)) := by
  subst h0 h1
  simp [slcV, slcF, bnds, natIn]
theorem slc_hi {b o n c kk : Nat} {ex : Bool} {k : IntKind} {a : Int} (h0 : 0 ≤ a) (h1 : a ≤ (c : Int)) (hc : 0 < c) :
    slcV 1 none (some (.int k a)) none (.sc (.sl (some (b, o)) n c ex kk)) = some (.sc (.sl (some (b, o)) a.toNat c ex kk)) := by
  simp only [slcV, slcF, bnds, natIn, Option.isSome_none, Bool.false_eq_true, if_false, h0, h1, and_self, if_true]
  rw [if_neg (by intro h; rcases h with h | h <;> omega), if_neg (by omega)]
  simp
theorem copy_own {K : V → MH → Prop} {b o n c k bs os m cs ks t : Nat} {ex exs : Bool} {ld ls : List V} (hs : M bs = some ls) (hd : M b = some ld) (ht : min m n = t) (h0 : 0 < t) (h1 : os + t ≤ ls.length) (h2 : o + t ≤ ld.length)
    (ho : ((ls.drop os).take t).all oneV = true) (hk : K (.sc (.int .i64 (t : Int))) (M.set b (setAtG ld o ((ls.drop os).take t)))) : copyV 1 (.sc (.sl (some (b, o)) n c ex k)) (.sc (.sl (some (bs, os)) m cs exs ks)) M K := by
  subst ht
  simp only [copyV, lenS, cellsS, Nat.mul_one, if_neg (show ¬ min m n = 0 by omega), hs, if_pos h1, hd]
  exact ⟨ho, h2, hk⟩
theorem setAtG_mid {α : Type} : ∀ (c z : List α) (o : Nat), o + c.length ≤ z.length → setAtG z o c = z.take o ++ c ++ z.drop (o + c.length)
  | [], z, o, h => by simp [setAtG]
  | x :: t, z, o, h => by
    simp only [setAtG]
    simp at h
    rw [setAtG_mid t _ _ (by simp; omega)]
    rw [List.take_succ_eq_append_getElem (by simp; omega)]
    have e1 : (z.set o x).take o = z.take o := by
      apply List.ext_getElem?
      intro i
      simp only [List.getElem?_take]
      split
      · rw [List.getElem?_set_ne (by omega)]
      · rfl
    have e2 : (z.set o x).drop (o + 1 + t.length) = z.drop (o + (x :: t).length) := by
      apply List.ext_getElem?
      intro i
      simp only [List.getElem?_drop]
      rw [List.getElem?_set_ne (by omega)]
      simp; congr 1; omega
    rw [e1, e2]
    simp
def GrN (M0 M : MH) (v : V) (us : List V) : Prop := Gr 1 M0 M v us ∧ ((us = [] ∧ ∃ k, v = .sc (.sl none 0 0 true k)) ∨ ∃ b n, v = .sc (.sl (some (b, 0)) n n false 1))
theorem slc_nil {k : IntKind} {kk : Nat} : slcV 1 (some (.int k 0)) none none (.sc (.sl none 0 0 true kk)) = some (.sc (.sl none 0 0 true kk)) := by
  simp [slcV, slcF, bnds, natIn]
theorem ins_new {us Z : List V} {u : V} {i : Nat} (hi : i ≤ us.length) (hz : i + Z.length = us.length + 1) : setAtG ((us.take i ++ Z).set i u) (i + 1) (us.drop i) = us.take i ++ u :: us.drop i := by
  have h1 : (us.take i).length = i := by simp; omega
  obtain ⟨z0, Z', rfl⟩ : ∃ z0 Z', Z = z0 :: Z' := by
    cases Z with
    | nil => simp at hz; omega
    | cons a t => exact ⟨a, t, rfl⟩
  have e0 : (us.take i ++ z0 :: Z').set i u = us.take i ++ [u] ++ Z' := by
    rw [List.set_append_right _ _ (by omega), h1]
    simp
  have hz' : i + (Z'.length + 1) = us.length + 1 := by simpa using hz
  have h2 : (us.take i ++ [u]).length = i + 1 := by rw [List.length_append, h1]; rfl
  have h3 : (us.drop i).length = us.length - i := List.length_drop
  have h5 : (us.take i ++ [u] ++ Z').drop (i + 1 + (us.drop i).length) = [] := List.drop_eq_nil_of_le (by rw [List.length_append, h2, h3]; omega)
  rw [e0, setAtG_mid _ _ _ (by rw [List.length_append, h2, h3]; omega), List.take_left' h2, h5]
  simp
theorem ins_room {us J : List V} {u : V} {i : Nat} (hi : i < us.length) (hj : 0 < J.length) : ((setAtG (us ++ J) (i + 1) (us.drop i)).set i u).take (us.length + 1) = us.take i ++ u :: us.drop i := by
  have h1 : (us.take i).length = i := by simp; omega
  have h3 : (us.drop i).length = us.length - i := List.length_drop
  have h4 : (us ++ J).length = us.length + J.length := List.length_append
  rw [setAtG_mid _ _ _ (by omega), List.take_append_of_le_length (by omega), List.take_succ_eq_append_getElem hi]
  generalize (us ++ J).drop (i + 1 + (us.drop i).length) = T
  have e0 : (us.take i ++ [us[i]] ++ us.drop i ++ T).set i u = (us.take i ++ u :: us.drop i) ++ T := by
    rw [List.append_assoc, List.append_assoc, List.set_append_right _ _ (by omega), h1]
    simp
  rw [e0, List.take_left' (by rw [List.length_append, List.length_cons, h1, h3]; omega)]
theorem all_drop {us : List V} (h : us.all oneV = true) (i : Nat) : (us.drop i).all oneV = true := List.all_eq_true.2 fun x hx => List.all_eq_true.1 h x (List.mem_of_mem_drop hx)
theorem t_Insert {M0 M1 : MH} {s u : V} {us : List V} {bt i : Nat} (h : GrN M0 M1 s us) (hbt : M1 bt = none) (hu : oneV u = true) (hus : us.all oneV = true) (hi : i ≤ us.length) (hl : us.length ≤ 1048576) :
    VCall Tryz.prog n_slices_Insert_SSint_Sint [s, .sc (.int .i64 i), .sc (.sl (some (bt, 0)) 1 1 true 1)] (M1.set bt [u]) (fun r M' => GrN M0 M' r (us.take i ++ u :: us.drop i)) := by
  have hsub : Sub M0 (M1.set bt [u]) := h.1.sub.set' hbt
  have hlit : cellsS (1 * 1) (.sc (.sl (some (bt, 0)) 1 1 true 1)) (M1.set bt [u]) = some [u] := by
    simp only [cellsS, Nat.one_mul, set_same, Nat.zero_add, List.drop_zero]; rfl
  rcases h with ⟨hg, ⟨rfl, k, rfl⟩ | ⟨b, n, rfl⟩⟩
  · obtain rfl : i = 0 := by simpa using hi
    refine VCall.plain fun R hR => v_slices_Insert_SSint_Sint rfl ?_
    have e0 : ((0 : Nat) : Int) = 0 := rfl
    simp (maxSteps := 2000000) (disch := first | omega | assumption | exact idP rfl | exact idP (bL rfl)) only [go_sem, reduceIte, Nat.reduceEqDiff, e0, slc_nil]
    refine cond_dec (fun h => by omega) (fun h => ?_)
    simp (maxSteps := 2000000) (disch := first | omega | assumption | exact idP rfl | exact idP (bL rfl)) only [go_sem, reduceIte, Nat.reduceEqDiff]
    refine cond_dec (fun h => ?_) (fun h => by omega)
    simp (maxSteps := 2000000) (disch := first | omega | assumption | exact idP rfl | exact idP (bL rfl)) only [go_sem, reduceIte, Nat.reduceEqDiff]
    simp only [appV, lenS, hlit]
    refine ⟨_, _, .refl _ _, ?_⟩
    simp only [appW]
    rw [if_neg (by omega), if_neg (by omega)]
    refine ⟨by simp [mostCells], by simp [mostCells], ?_⟩
    simp only [if_true, cellsS, Nat.zero_mul]
    intro b hb
    simp (maxSteps := 2000000) (disch := first | omega | assumption | exact idP rfl | exact idP (bL rfl)) only [go_sem, reduceIte, Nat.reduceEqDiff]
    exact hR _ _ ⟨Gr.new' hsub hb rfl, .inr ⟨b, _, rfl⟩⟩
  · obtain ⟨hm, _, _, _, hn, hm0⟩ := hg.get
    have hn : us.length = n := by omega
    have hne : b ≠ bt := fun e => by subst e; rw [hbt] at hm; cases hm
    refine VCall.closeCap (VCall.openCap (a1 := []) (l := us) (by rw [set_ne hne]; exact hm) fun c' hc => ?_)
    have eJ : 0 + c' * 1 - us.length = c' - n := by omega
    rw [eJ]
    generalize hJ : List.replicate (c' - n) (V.sc .junk) = J
    have hJl : J.length = c' - n := by rw [← hJ]; simp
    refine VCall.plain fun R hR => v_slices_Insert_SSint_Sint rfl ?_
    have fin : ∀ b' M', Gr 1 M0 M' (.sc (.sl (some (b', 0)) (n + 1) (n + 1) false 1)) (us.take i ++ u :: us.drop i) → R (.sc (.sl (some (b', 0)) (n + 1) (n + 1) false 1)) M' := fun b' M' q => hR _ _ (.inl ⟨q, .inr ⟨b', _, rfl⟩⟩)
    have finC : ∀ l M', n + 1 ≤ c' → l.take (n + 1) = us.take i ++ u :: us.drop i → n + 1 ≤ l.length → Sub M0 M' → M' b = some l → R (.sc (.sl (some (b, 0)) (n + 1) c' true 1)) M' := fun l M' q0 q1 q2 q3 q4 =>
      hR _ _ (.inr ⟨b, n + 1, c', 1, l, true, rfl, q0, q4, by omega, by
        rw [Nat.mul_one, q1]
        exact ⟨.mk' (q3.set hm0) hm0 (by simp; omega) set_same, .inr ⟨b, _, rfl⟩⟩⟩)
    have hlit2 : cellsS (1 * 1) (.sc (.sl (some (bt, 0)) 1 1 true 1)) ((M1.set bt [u]).set b (us ++ J)) = some [u] := by
      simp only [cellsS, Nat.one_mul, set_ne (Ne.symm hne), set_same, Nat.zero_add, List.drop_zero]; rfl
    have hsub2 : Sub M0 ((M1.set bt [u]).set b (us ++ J)) := hsub.set hm0
    -- the check of the bounds
    have chk : ∃ r, slcV 1 (some (.int .i64 (i : Int))) none none (.sc (.sl (some (b, 0)) n c' true 1)) = some r := by
      by_cases h1 : i < c'
      · exact ⟨_, slc_lo (by omega) (by omega) (by omega) hc⟩
      · exact ⟨_, slc_end (by omega) (by omega)⟩
    obtain ⟨rr, chk⟩ := chk
    by_cases hin : i = n
    · subst hin
      simp (maxSteps := 2000000) (disch := first | omega | assumption | exact idP rfl | exact idP (bL rfl)) only [go_sem, reduceIte, Nat.reduceEqDiff, chk]
      refine cond_dec (fun h => by omega) (fun h => ?_)
      simp (maxSteps := 2000000) (disch := first | omega | assumption | exact idP rfl | exact idP (bL rfl)) only [go_sem, reduceIte, Nat.reduceEqDiff]
      simp only [appV, lenS, hlit2]
      refine ⟨_, _, .refl _ _, ?_⟩
      simp only [appW, set_same]
      rw [if_neg (by omega)]
      have et : us.take i ++ u :: us.drop i = us ++ [u] := by rw [List.take_of_length_le (by omega), List.drop_eq_nil_of_le (by omega)]
      rw [et] at fin finC
      by_cases hroom : i + 1 ≤ c'
      · rw [if_pos hroom]
        refine ⟨trivial, by simp [hu], by simp; omega, ?_⟩
        simp (maxSteps := 2000000) (disch := first | omega | assumption | exact idP rfl | exact idP (bL rfl)) only [go_sem, reduceIte, Nat.reduceEqDiff]
        obtain ⟨j0, J', rfl⟩ : ∃ j0 J', J = j0 :: J' := by
          cases J with
          | nil => simp at hJl; omega
          | cons a t => exact ⟨a, t, rfl⟩
        have e9 : (us ++ j0 :: J').set i u = (us ++ [u]) ++ J' := by
          rw [List.set_append_right _ _ (by omega), hn, Nat.sub_self]; simp
        refine finC _ _ hroom ?_ ?_ (hsub.set hm0) set_same
        · rw [e9, List.take_left' (by simp [hn])]
        · simp; omega
      · rw [if_neg hroom]
        have hJ0 : J = [] := List.eq_nil_of_length_eq_zero (by omega)
        subst hJ0
        refine ⟨by simp [mostCells]; omega, by simp [mostCells]; omega, ?_⟩
        have hco : cellsS (i * 1) (.sc (.sl (some (b, 0)) i c' true 1)) ((M1.set bt [u]).set b (us ++ [])) = some us := by
          simp only [cellsS, set_same, Nat.zero_add, Nat.mul_one, List.append_nil, List.drop_zero]
          split
          · rename_i h0
            have : us = [] := List.eq_nil_of_length_eq_zero (by omega)
            rw [this]
          · first | rw [if_pos (by omega), List.take_of_length_le (by omega)] | rw [List.take_of_length_le (by omega)]
        simp only [if_true, hco]
        intro b' hb'
        simp (maxSteps := 2000000) (disch := first | omega | assumption | exact idP rfl | exact idP (bL rfl)) only [go_sem, reduceIte, Nat.reduceEqDiff]
        exact fin _ _ (Gr.new' hsub2 hb' (by simp; omega))
    · have hin' : i < n := by omega
      have e11 : ((1 : Nat) : Int) = 1 := rfl
      have e1 : ((i : Int) + 1).toNat = i + 1 := by omega
      have e2 : ((n : Int) + 1).toNat = n + 1 := by omega
      have e3 : ((n : Int) + 1 - (i : Int)).toNat = n + 1 - i := by omega
      have hdl : ((us ++ J).drop i).take (n - i) = us.drop i := by
        rw [List.drop_append_of_le_length (by omega), List.take_left' (by simp; omega)]
      simp (maxSteps := 2000000) (disch := first | omega | assumption | exact idP rfl | exact idP (bL rfl)) only [go_sem, reduceIte, Nat.reduceEqDiff, chk]
      refine cond_dec (fun h => by omega) (fun h => ?_)
      simp (maxSteps := 2000000) (disch := first | omega | assumption | exact idP rfl | exact idP (bL rfl)) only [go_sem, reduceIte, Nat.reduceEqDiff]
      refine cond_dec (fun h => by omega) (fun h => ?_)
      simp (maxSteps := 2000000) (disch := first | omega | assumption | exact idP rfl | exact idP (bL rfl)) only [go_sem, reduceIte, Nat.reduceEqDiff, e11]
      refine cond_dec (fun h => ?_) (fun h => ?_)
      · -- no room
        have hcn : c' = n := by omega
        have hJ0 : J = [] := List.eq_nil_of_length_eq_zero (by omega)
        simp (maxSteps := 2000000) (disch := first | omega | assumption | exact idP rfl | exact idP (bL rfl)) only [go_sem, reduceIte, Nat.reduceEqDiff, slc_hi, e1, e2, e3, e11]
        have hco : cellsS (i * 1) (.sc (.sl (some (b, 0)) i c' true 1)) ((M1.set bt [u]).set b (us ++ J)) = some (us.take i) := by
          simp only [cellsS, set_same, Nat.zero_add, Nat.mul_one, List.drop_zero]
          split
          · rename_i h0; rw [h0]; rfl
          · rw [if_pos (by simp; omega), List.take_append_of_le_length (by omega)]
        have hco : cellsS (i * [AV.sl none 0 0 true 0].length) (.sc (.sl (some (b, 0)) i c' true 1)) ((M1.set bt [u]).set b (us ++ J)) = some (us.take i) := hco
        simp only [appzV, e3, hco]
        refine ⟨by omega, by omega, by simp [mostCells]; omega, by simp [mostCells]; omega, ?_⟩
        intro b9 hb9
        have hz : ((zeros [AV.sl none 0 0 true 0] (n + 1 - i)).map V.sc).length = n + 1 - i := by simp [zeros_length]
        generalize hZ : (zeros [AV.sl none 0 0 true 0] (n + 1 - i)).map V.sc = Z at hz
        have hlen : i + (n + 1 - i) = n + 1 := by omega
        rw [hlen]
        have ne1 : b9 ≠ b := (fresh_set hb9).1
        have ne2 : b9 ≠ bt := (fresh_set (fresh_set hb9).2).1
        simp (maxSteps := 2000000) (disch := first | omega | assumption | exact idP rfl | exact idP (bL rfl)) only [go_sem, reduceIte, Nat.reduceEqDiff, slc_lo]
        refine copy_own (t := 1) (ls := [u]) (ld := us.take i ++ Z) (by rw [set_ne (Ne.symm ne2), set_ne (Ne.symm hne), set_same]) set_same (by omega) (by omega) (by simp) (by simp; omega) (by simp [hu]) ?_
        simp (maxSteps := 2000000) (disch := first | omega | assumption | exact idP rfl | exact idP (bL rfl)) only [go_sem, reduceIte, Nat.reduceEqDiff, slc_lo, e11, e1]
        refine copy_own (t := n - i) (ls := us ++ J) (ld := (us.take i ++ Z).set i u) (by rw [set_ne (Ne.symm ne1), set_same]) (by rw [set_same]) (by omega) (by omega) (by simp; omega) (by simp; omega) (by rw [hdl]; exact all_drop hus i) ?_
        simp (maxSteps := 2000000) (disch := first | omega | assumption | exact idP rfl | exact idP (bL rfl)) only [go_sem, reduceIte, Nat.reduceEqDiff]
        refine fin _ _ ?_
        simp only [Nat.zero_add, hdl]
        rw [ins_new hi (by omega)]
        exact .mk' (hsub2.set' hb9) (hsub2.none hb9) (by simp; omega) set_same
      · -- room
        have hroom : n + 1 ≤ c' := by omega
        simp (maxSteps := 2000000) (disch := first | omega | assumption | exact idP rfl | exact idP (bL rfl)) only [go_sem, reduceIte, Nat.reduceEqDiff, slc_hi, e1, e2, e3, e11]
        simp (maxSteps := 2000000) (disch := first | omega | assumption | exact idP rfl | exact idP (bL rfl)) only [go_sem, reduceIte, Nat.reduceEqDiff, slc_lo, e1, e2, e11]
        have husz : 0 < us.length := by omega
        refine ⟨Ne.symm hne, by rw [set_ne (Ne.symm hne), set_same]; rfl, ?_, ?_⟩
        · cases hus' : us with
          | nil => rw [hus'] at husz; simp at husz
          | cons a t => exact ⟨a, t ++ J, by rw [set_same]; rfl⟩
        simp (maxSteps := 2000000) (disch := first | omega | assumption | exact idP rfl | exact idP (bL rfl)) only [go_sem, reduceIte, Nat.reduceEqDiff, slc_lo, e1, e2, e11]
        refine copy_own (t := n - i) (ls := us ++ J) (ld := us ++ J) set_same set_same (by omega) (by omega) (by simp; omega) (by simp; omega) (by rw [hdl]; exact all_drop hus i) ?_
        simp (maxSteps := 2000000) (disch := first | omega | assumption | exact idP rfl | exact idP (bL rfl)) only [go_sem, reduceIte, Nat.reduceEqDiff, slc_lo, e1, e2, e11]
        refine copy_own (t := 1) (ls := [u]) (ld := setAtG (us ++ J) (i + 1) ((us ++ J).drop i |>.take (n - i))) (by rw [set_ne (Ne.symm hne), set_same]) set_same (by omega) (by omega) (by simp) (by rw [setAtG_mid _ _ _ (by simp; omega)]; simp; omega) (by simp [hu]) ?_
        simp (maxSteps := 2000000) (disch := first | omega | assumption | exact idP rfl | exact idP (bL rfl)) only [go_sem, reduceIte, Nat.reduceEqDiff]
        refine finC _ _ hroom ?_ ?_ (hsub.set hm0) set_same
        · rw [hdl, ← hn]
          exact ins_room (by omega) (by omega)
        · rw [hdl, setAtG_mid _ _ _ (by simp; omega)]; simp; omega
end Go.M2

namespace Go.M2
open Go.Proofs
variable {M : MH}
def uRes (r : V) : Option (List Int) → Prop
  | none => r = .tup [.sc (.sl none 0 0 true 0), .sc (.bool false)]
  | some xs => ∃ u, r = .tup [u, .sc (.bool true)] ∧ LI u xs
theorem t_use {v w : V} {s : SysS} {st : List Int} {k : Nat} (hv : isSys s v) (hs : SysOk s) (hw : LI w st) (hin : StIn s.vars st) (hk : k < s.rules.length) :
    VCall Tryz.prog n_impl_use [v, w, .sc (.int .i64 k)] M (fun r M' => M = M' ∧ uRes r (useR s.vars s.rules[k] st)) := by
  refine VCall.froz2 fun R hP hG => v_impl_use rfl ?_
  obtain ⟨a, b, rfl, ha, hb⟩ := hv
  obtain ⟨x, y, z, hat, hx, hy, hz⟩ := hb.elt hk
  have h1 := hs.v1
  have h5 := hs.v5
  have hl := hin.1
  have hok := hin.ok hs
  obtain ⟨hw2, hst, hsets⟩ := hs.rules _ (List.getElem_mem hk)
  obtain ⟨kw, hkw⟩ := kind_some hw2
  have hx1 := hx.one.1
  have hy1 := hy.one.1
  have hz1 := hz.one.1
  (repeat' (first | ((first | with_reducible refine cond_dec (fun h => ?_) (fun h => ?_) | with_reducible refine guardK_dec (fun h => ?_) (fun h => ?_) | with_reducible refine guardD3_dec (fun h => ?_) (fun h => ?_)) <;> first | (exfalso; omega) | (simp (maxSteps := 2000000) (disch := first | omega | assumption | exact idP rfl | exact idP (bL rfl)) only [go_sem, reduceIte, Nat.reduceEqDiff, h, hb.len, hb.iaddr, hat]) | skip) | ((first | with_reducible refine cond_split (fun h => ?_) (fun h => ?_) | with_reducible refine guardK_split (fun h => ?_) (fun h => ?_) | with_reducible refine guardD3_split (fun h => ?_) (fun h => ?_)) <;> ((try simp only [Bool.not_eq_true', Bool.not_eq_false'] at h); first | (simp (maxSteps := 2000000) (disch := first | omega | assumption | exact idP rfl | exact idP (bL rfl)) only [go_sem, reduceIte, Nat.reduceEqDiff, h, hb.len, hb.iaddr, hat]) | skip)) | ((with_reducible refine (t_eval hx hw hkw hok (by omega)).mono ?_); rintro _ _ ⟨rfl, rfl⟩) | (with_reducible intro bk hbk; try have hnk := (fresh_set hbk).1) | (simp (maxSteps := 2000000) (disch := first | omega | assumption | exact idP rfl | exact idP (bL rfl)) only [go_sem, reduceIte, Nat.reduceEqDiff, hb.len, hb.iaddr, hat])))
  · refine hP _ _ (by (repeat (first | exact Sub.refl _ | assumption | (refine Sub.set' ?_ (by assumption))))) ?_
    rename_i h
    simp only [useR, h, if_true, uRes]
  · rename_i b3 hb3
    have hev := h
    refine (t_cloneInt hw (by omega)).mono ?_
    rintro r M1 hg
    have hm8 : M1 bk = some [x, y, z] := hg.sub _ _ (by simp (maxSteps := 2000000) (disch := first | omega | assumption | exact idP rfl | exact idP (bL rfl)) only [go_sem, reduceIte, Nat.reduceEqDiff])
    simp (maxSteps := 2000000) (disch := first | omega | assumption | exact idP rfl | exact idP (bL rfl)) only [go_sem, reduceIte, Nat.reduceEqDiff, hm8, hy.len]
    refine loop_k (fun e M' => ∃ i : Nat, i ≤ s.rules[k].sets.length ∧ e 1 = w ∧ e 3 = .sc (.ptr (some (b3, 0))) ∧ e 8 = .sc (.ptr (some (bk, 0))) ∧ e 25 = y ∧ e 26 = .sc (.int .i64 s.rules[k].sets.length) ∧ e 27 = .sc (.int .i64 i) ∧ Gr 1 ((M.set b3 [a, b]).set bk [x, y, z]) M' (e 9) ((setsF st s.rules[k].terms s.rules[k].sets i).map vi)) (fun e _ => ctrV s.rules[k].sets.length (e 27)) ?_ ?_
    · exact ⟨0, by omega, by simp (maxSteps := 2000000) (disch := first | omega | assumption | exact idP rfl | exact idP (bL rfl)) only [go_sem, reduceIte, Nat.reduceEqDiff], by simp (maxSteps := 2000000) (disch := first | omega | assumption | exact idP rfl | exact idP (bL rfl)) only [go_sem, reduceIte, Nat.reduceEqDiff], by simp (maxSteps := 2000000) (disch := first | omega | assumption | exact idP rfl | exact idP (bL rfl)) only [go_sem, reduceIte, Nat.reduceEqDiff], by simp (maxSteps := 2000000) (disch := first | omega | assumption | exact idP rfl | exact idP (bL rfl)) only [go_sem, reduceIte, Nat.reduceEqDiff], by simp (maxSteps := 2000000) (disch := first | omega | assumption | exact idP rfl | exact idP (bL rfl)) only [go_sem, reduceIte, Nat.reduceEqDiff], by simp (maxSteps := 2000000) (disch := first | omega | assumption | exact idP rfl | exact idP (bL rfl)) only [go_sem, reduceIte, Nat.reduceEqDiff]; rfl, by simp (maxSteps := 2000000) (disch := first | omega | assumption | exact idP rfl | exact idP (bL rfl)) only [go_sem, reduceIte, Nat.reduceEqDiff]; exact hg⟩
    · rintro e M2 ⟨i, hi, e1, e3, e8, e25, e26, e27, hg⟩ K2 hK2
      have hm3 : M2 b3 = some [a, b] := hg.sub _ _ (by simp (maxSteps := 2000000) (disch := first | omega | assumption | exact idP rfl | exact idP (bL rfl)) only [go_sem, reduceIte, Nat.reduceEqDiff])
      have hm8 : M2 bk = some [x, y, z] := hg.sub _ _ (by simp (maxSteps := 2000000) (disch := first | omega | assumption | exact idP rfl | exact idP (bL rfl)) only [go_sem, reduceIte, Nat.reduceEqDiff])
      have hsl := setsF_len st s.rules[k].terms s.rules[k].sets i
      have hle := sets_le hsets (by omega)
      simp (maxSteps := 2000000) (disch := first | omega | assumption | exact idP rfl | exact idP (bL rfl)) only [go_sem, reduceIte, Nat.reduceEqDiff, e26, e27]
      refine cond_dec (fun h => ?_) (fun h => ?_)
      · have hi' : i < s.rules[k].sets.length := by omega
        have hi2 : i < s.rules[k].terms.length := by omega
        obtain ⟨ki, hki⟩ := kind_some (hsets.kind hi' hi2)
        have hset := (hsets i hi').1
        have hat8 := hg.at (by rw [len_vi]; omega)
        have hia : ∀ {k : IntKind} {a : Int}, 0 ≤ a → a < (st.length : Int) → iaddrV 1 (e 9) (.int k a) = some (.sc (.ptr (some (oB (e 9), a.toNat)))) := fun q1 q2 => hg.own.iaddr q1 (by rw [len_vi, hsl]; exact q2)
        have hso : s.rules[k].sets[i].toNat < ((setsF st s.rules[k].terms s.rules[k].sets i).map vi).length := by rw [len_vi]; omega
        simp (maxSteps := 2000000) (disch := first | omega | assumption | exact idP rfl | exact idP (bL rfl)) only [go_sem, reduceIte, Nat.reduceEqDiff, e1, e3, e8, e25, e27, hm8, hy.iaddr, hy.at hi', hz.iaddr]
        refine (t_eval (hz.elt hi2) hw hki hok (by omega)).mono ?_
        rintro _ _ ⟨rfl, rfl⟩
        simp (maxSteps := 2000000) (disch := first | omega | assumption | exact idP rfl | exact idP (bL rfl)) only [go_sem, reduceIte, Nat.reduceEqDiff, e1, e3, e8, e25, e26, e27, hm8, hia, hat8]
        refine hK2 _ _ ⟨i + 1, by omega, by simp (maxSteps := 2000000) (disch := first | omega | assumption | exact idP rfl | exact idP (bL rfl)) only [go_sem, reduceIte, Nat.reduceEqDiff], by simp (maxSteps := 2000000) (disch := first | omega | assumption | exact idP rfl | exact idP (bL rfl)) only [go_sem, reduceIte, Nat.reduceEqDiff], by simp (maxSteps := 2000000) (disch := first | omega | assumption | exact idP rfl | exact idP (bL rfl)) only [go_sem, reduceIte, Nat.reduceEqDiff], by simp (maxSteps := 2000000) (disch := first | omega | assumption | exact idP rfl | exact idP (bL rfl)) only [go_sem, reduceIte, Nat.reduceEqDiff], by simp (maxSteps := 2000000) (disch := first | omega | assumption | exact idP rfl | exact idP (bL rfl)) only [go_sem, reduceIte, Nat.reduceEqDiff], by simp (maxSteps := 2000000) (disch := first | omega | assumption | exact idP rfl | exact idP (bL rfl)) only [go_sem, reduceIte, Nat.reduceEqDiff]; rfl, ?_⟩ (by simp (maxSteps := 2000000) (disch := first | omega | assumption | exact idP rfl | exact idP (bL rfl)) only [go_sem, reduceIte, Nat.reduceEqDiff, ctrV_int, e27]; omega)
        simp (maxSteps := 2000000) (disch := first | omega | assumption | exact idP rfl | exact idP (bL rfl)) only [go_sem, reduceIte, Nat.reduceEqDiff]
        have := hg.setO (l' := (setsF st s.rules[k].terms s.rules[k].sets (i + 1)).map vi) (by rw [len_vi]; omega) (by simp [setsF_len])
        simp only [setsF, getD_eq hi', getD_eq hi2] at this ⊢
        rw [← set_vi] at this ⊢
        exact this
      · obtain rfl : i = s.rules[k].sets.length := by omega
        simp (maxSteps := 2000000) (disch := first | omega | assumption | exact idP rfl | exact idP (bL rfl)) only [go_sem, reduceIte, Nat.reduceEqDiff, hm3, e3]
        refine (VCall.lend1 hg.own flat_eq fun u M' hu => t_inRange ha hu.li (by omega)).mono ?_
        rintro _ _ ⟨rfl, rfl⟩
        have hsub : Sub M ((M.set b3 [a, b]).set bk [x, y, z]) := by (repeat (first | exact Sub.refl _ | assumption | (refine Sub.set' ?_ (by assumption))))
        cases hib : inB s.vars (setsF st s.rules[k].terms s.rules[k].sets s.rules[k].sets.length) with
        | false =>
          simp (maxSteps := 2000000) (disch := first | omega | assumption | exact idP rfl | exact idP (bL rfl)) only [go_sem, reduceIte, Nat.reduceEqDiff]
          refine hP _ _ (hsub.trans hg.sub) ?_
          simp [useR, hev, hib, uRes]
        | true =>
          simp (maxSteps := 2000000) (disch := first | omega | assumption | exact idP rfl | exact idP (bL rfl)) only [go_sem, reduceIte, Nat.reduceEqDiff]
          refine hG _ _ _ 1 _ ⟨hsub.trans hg.sub, fun b' h' => hsub.none (hg.new b' h'), hg.own⟩ fun u hu => ?_
          have : useR s.vars s.rules[k] st = some (setsF st s.rules[k].terms s.rules[k].sets s.rules[k].sets.length) := by simp [useR, hev, hib]
          rw [this]
          exact ⟨_, rfl, hu.li⟩
theorem Cs.one {us : List V} {l : List (List Int)} (h : Cs isL us l) : us.all oneV = true := by
  refine List.all_eq_true.2 fun x hx => ?_
  obtain ⟨i, hi, rfl⟩ := List.getElem_of_mem hx
  obtain ⟨u, hu, he⟩ := h.2 i (by rw [← h.1]; exact hi)
  rw [List.getElem?_eq_getElem hi] at hu
  cases hu
  exact he.one.1
theorem Cs.take {us : List V} {l : List (List Int)} (h : Cs isL us l) (i : Nat) : Cs isL (us.take i) (l.take i) := by
  refine ⟨by simp [h.1], fun j hj => ?_⟩
  simp at hj
  obtain ⟨u, hu, he⟩ := h.2 j (by omega)
  exact ⟨u, by rw [List.getElem?_take, if_pos (by omega)]; exact hu, by rw [List.getElem_take]; exact he⟩
theorem Cs.ins {us : List V} {l : List (List Int)} {u : V} {x : List Int} (h : Cs isL us l) (hu : LI u x) {i : Nat} (hi : i ≤ l.length) : Cs isL (us.take i ++ u :: us.drop i) (l.take i ++ x :: l.drop i) := by
  have h1 : (us.take i).length = i := by have := h.1; simp; omega
  have h2 : (l.take i).length = i := by simp; omega
  refine ⟨by simp [h.1], fun j hj => ?_⟩
  have hl := h.1
  by_cases h3 : j < i
  · obtain ⟨v, hv, he⟩ := h.2 j (by omega)
    refine ⟨v, by rw [List.getElem?_append_left (by omega), List.getElem?_take, if_pos h3]; exact hv, ?_⟩
    rw [List.getElem_append_left (by omega), List.getElem_take]; exact he
  · by_cases h4 : j = i
    · subst h4
      refine ⟨u, by rw [List.getElem?_append_right (by omega), h1]; simp, ?_⟩
      rw [List.getElem_append_right (by omega)]; simp only [h2, Nat.sub_self, List.getElem_cons_zero]; exact hu
    · simp at hj
      obtain ⟨v, hv, he⟩ := h.2 (j - 1) (by omega)
      obtain ⟨q, hq⟩ : ∃ q, j - i = q + 1 := ⟨j - i - 1, by omega⟩
      refine ⟨v, ?_, ?_⟩
      · rw [List.getElem?_append_right (by omega), h1, hq, List.getElem?_cons_succ, List.getElem?_drop, show i + q = j - 1 by omega]; exact hv
      · rw [List.getElem_append_right (by omega)]
        simp only [h2, hq, List.getElem_cons_succ, List.getElem_drop, show i + q = j - 1 by omega]; exact he
theorem t_cloneSint {M0 : MH} {v : V} {us : List V} (hg : GrN M0 M v us) (hus : us.all oneV = true) (hl : us.length ≤ 1048576) : VCall Tryz.prog n_impl_clone_Sint [v] M (fun r M' => Gr 1 M M' r us) := by
  refine VCall.plain fun R hR => v_impl_clone_Sint rfl ?_
  have hlen := hg.1.len1
  simp (maxSteps := 2000000) (disch := first | omega | assumption | exact idP rfl | exact idP (bL rfl)) only [go_sem, reduceIte, Nat.reduceEqDiff, hlen]
  refine cond_dec (fun h => ?_) (fun h => ?_)
  · simp (maxSteps := 2000000) (disch := first | omega | assumption | exact idP rfl | exact idP (bL rfl)) only [go_sem, reduceIte, Nat.reduceEqDiff]
    have : us = [] := List.eq_nil_of_length_eq_zero (by omega)
    subst this
    exact hR _ _ (.nil (Sub.refl _))
  · simp (maxSteps := 2000000) (disch := first | omega | assumption | exact idP rfl | exact idP (bL rfl)) only [go_sem, reduceIte, Nat.reduceEqDiff, hlen]
    refine mks3 (by omega) (by simp [mostCells]; omega) (by simp [mostCells]; omega) ?_
    intro b3 hb3
    obtain ⟨hg1, ⟨rfl, _⟩ | ⟨b, n, rfl⟩⟩ := hg
    · exact absurd rfl h
    obtain ⟨hm, _, _, _, hn, hm0⟩ := hg1.get
    have hne : b ≠ b3 := fun e => by subst e; rw [hb3] at hm; cases hm
    have hz : ((zeros [AV.sl none 0 0 true 0] us.length).map V.sc).length = us.length := by simp [zeros_length]
    simp (maxSteps := 2000000) (disch := first | omega | assumption | exact idP rfl | exact idP (bL rfl)) only [go_sem, reduceIte, Nat.reduceEqDiff]
    generalize hZ : (zeros [AV.sl none 0 0 true 0] us.length).map V.sc = Z at hz ⊢
    refine copy_own (t := us.length) (ls := us) (ld := Z) (by rw [set_ne hne]; exact hm) set_same (by omega) (by omega) (by omega) (by omega) (by simpa using hus) ?_
    simp only [List.drop_zero, List.take_length]
    rw [setAtG_all _ _ _ (by omega)]
    simp (maxSteps := 2000000) (disch := first | omega | assumption | exact idP rfl | exact idP (bL rfl)) only [go_sem, reduceIte, Nat.reduceEqDiff]
    exact hR _ _ (Gr.new' (Sub.refl _) hb3 (by simp))
theorem t_nextStates {v w : V} {s : SysS} {st : List Int} (hv : isSys s v) (hs : SysOk s) (hw : LI w st) (hin : StIn s.vars st) :
    VCall Tryz.prog n_impl_nextStates [v, w] M (fun r M' => ∃ us, Gr 1 M M' r us ∧ Cs isL us (nextF s st)) := by
  refine VCall.plain fun R hR => v_impl_nextStates rfl ?_
  have hv0 := hv
  obtain ⟨a, b, rfl, ha, hb⟩ := hv
  have h1 := hs.v1
  have h5 := hs.v5
  have h8 := hs.r8
  (repeat' (first | ((first | with_reducible refine cond_dec (fun h => ?_) (fun h => ?_) | with_reducible refine guardK_dec (fun h => ?_) (fun h => ?_) | with_reducible refine guardD3_dec (fun h => ?_) (fun h => ?_)) <;> first | (exfalso; omega) | (simp (maxSteps := 2000000) (disch := first | omega | assumption | exact idP rfl | exact idP (bL rfl)) only [go_sem, reduceIte, Nat.reduceEqDiff, h, hb.len]) | skip) | ((first | with_reducible refine cond_split (fun h => ?_) (fun h => ?_) | with_reducible refine guardK_split (fun h => ?_) (fun h => ?_) | with_reducible refine guardD3_split (fun h => ?_) (fun h => ?_)) <;> ((try simp only [Bool.not_eq_true', Bool.not_eq_false'] at h); first | (simp (maxSteps := 2000000) (disch := first | omega | assumption | exact idP rfl | exact idP (bL rfl)) only [go_sem, reduceIte, Nat.reduceEqDiff, h, hb.len]) | skip)) | (with_reducible intro bk hbk; try have hnk := (fresh_set hbk).1) | (simp (maxSteps := 2000000) (disch := first | omega | assumption | exact idP rfl | exact idP (bL rfl)) only [go_sem, reduceIte, Nat.reduceEqDiff, hb.len])))
  refine loop_k (fun e M' => ∃ (i : Nat) (us : List V), i ≤ s.rules.length ∧ e 1 = w ∧ e 2 = .sc (.ptr (some (bk, 0))) ∧ e 13 = .sc (.int .i64 s.rules.length) ∧ e 14 = .sc (.int .i64 i) ∧ GrN (M.set bk [a, b]) M' (e 5) us ∧ Cs isL us (nextGo s.vars st (s.rules.take i) [])) (fun e _ => ctrV s.rules.length (e 14)) ?_ ?_
  · refine ⟨0, [], by omega, by simp (maxSteps := 2000000) (disch := first | omega | assumption | exact idP rfl | exact idP (bL rfl)) only [go_sem, reduceIte, Nat.reduceEqDiff], by simp (maxSteps := 2000000) (disch := first | omega | assumption | exact idP rfl | exact idP (bL rfl)) only [go_sem, reduceIte, Nat.reduceEqDiff], by simp (maxSteps := 2000000) (disch := first | omega | assumption | exact idP rfl | exact idP (bL rfl)) only [go_sem, reduceIte, Nat.reduceEqDiff], by simp (maxSteps := 2000000) (disch := first | omega | assumption | exact idP rfl | exact idP (bL rfl)) only [go_sem, reduceIte, Nat.reduceEqDiff]; rfl, ?_, Cs.nil⟩
    simp (maxSteps := 2000000) (disch := first | omega | assumption | exact idP rfl | exact idP (bL rfl)) only [go_sem, reduceIte, Nat.reduceEqDiff]
    exact ⟨.nil (Sub.refl _), .inl ⟨rfl, _, rfl⟩⟩
  · rintro e M1 ⟨i, us, hi, e1, e2, e13, e14, hg, hc⟩ K hK
    have hm : M1 bk = some [a, b] := hg.1.sub _ _ set_same
    have hul := hc.1
    have hok := nextGo_ok (vars := s.vars) (st := st) (rs := s.rules.take i) (l := []) List.Pairwise.nil (fun x hx => by cases hx)
    have hnl := nextGo_len (vars := s.vars) (st := st) (rs := s.rules.take i) (l := [])
    simp at hnl
    simp (maxSteps := 2000000) (disch := first | omega | assumption | exact idP rfl | exact idP (bL rfl)) only [go_sem, reduceIte, Nat.reduceEqDiff, e1, e2, e13, e14, hm]
    refine cond_dec (fun h => ?_) (fun h => ?_)
    · have hi' : i < s.rules.length := by omega
      simp (maxSteps := 2000000) (disch := first | omega | assumption | exact idP rfl | exact idP (bL rfl)) only [go_sem, reduceIte, Nat.reduceEqDiff, e1, e2, e14, hm]
      refine (t_use hv0 hs hw hin hi').mono ?_
      rintro r _ ⟨rfl, hr⟩
      have hnt := nextGo_take (vars := s.vars) (st := st) hi'
      cases hu : useR s.vars s.rules[i] st with
      | none =>
        rw [hu] at hr hnt
        simp only [uRes] at hr
        subst hr
        (repeat' (first | ((first | with_reducible refine cond_dec (fun h => ?_) (fun h => ?_) | with_reducible refine guardK_dec (fun h => ?_) (fun h => ?_) | with_reducible refine guardD3_dec (fun h => ?_) (fun h => ?_)) <;> first | (exfalso; omega) | (simp (maxSteps := 2000000) (disch := first | omega | assumption | exact idP rfl | exact idP (bL rfl)) only [go_sem, reduceIte, Nat.reduceEqDiff, h]) | skip) | ((first | with_reducible refine cond_split (fun h => ?_) (fun h => ?_) | with_reducible refine guardK_split (fun h => ?_) (fun h => ?_) | with_reducible refine guardD3_split (fun h => ?_) (fun h => ?_)) <;> ((try simp only [Bool.not_eq_true', Bool.not_eq_false'] at h); first | (simp (maxSteps := 2000000) (disch := first | omega | assumption | exact idP rfl | exact idP (bL rfl)) only [go_sem, reduceIte, Nat.reduceEqDiff, h]) | skip)) | (with_reducible intro bk hbk; try have hnk := (fresh_set hbk).1) | (simp (maxSteps := 2000000) (disch := first | omega | assumption | exact idP rfl | exact idP (bL rfl)) only [go_sem, reduceIte, Nat.reduceEqDiff])))
        refine hK _ _ ⟨i + 1, us, by omega, by simp (maxSteps := 2000000) (disch := first | omega | assumption | exact idP rfl | exact idP (bL rfl)) only [go_sem, reduceIte, Nat.reduceEqDiff], by simp (maxSteps := 2000000) (disch := first | omega | assumption | exact idP rfl | exact idP (bL rfl)) only [go_sem, reduceIte, Nat.reduceEqDiff], by simp (maxSteps := 2000000) (disch := first | omega | assumption | exact idP rfl | exact idP (bL rfl)) only [go_sem, reduceIte, Nat.reduceEqDiff], by simp (maxSteps := 2000000) (disch := first | omega | assumption | exact idP rfl | exact idP (bL rfl)) only [go_sem, reduceIte, Nat.reduceEqDiff]; rfl, by simp (maxSteps := 2000000) (disch := first | omega | assumption | exact idP rfl | exact idP (bL rfl)) only [go_sem, reduceIte, Nat.reduceEqDiff]; exact hg, ?_⟩ (by simp (maxSteps := 2000000) (disch := first | omega | assumption | exact idP rfl | exact idP (bL rfl)) only [go_sem, reduceIte, Nat.reduceEqDiff, ctrV_int, e14]; omega)
        rw [hnt]; exact hc
      | some x =>
        rw [hu] at hr hnt
        obtain ⟨u, rfl, hu1⟩ := hr
        simp only at hnt
        have hxi := useR_in hu
        have huo := hu1.one.1
        have hxl : x.length = s.vars.length := hxi.1
        simp (maxSteps := 2000000) (disch := first | omega | assumption | exact idP rfl | exact idP (bL rfl)) only [go_sem, reduceIte, Nat.reduceEqDiff]
        refine (VCall.lend0 hg.1.own (p := fun r => ∃ (k : Nat) (t : Bool), r = .tup [.sc (.int .i64 k), .sc (.bool t)] ∧ k ≤ (nextGo s.vars st (s.rules.take i) []).length ∧ (∀ j (h : j < (nextGo s.vars st (s.rules.take i) []).length), j < k → lessF (nextGo s.vars st (s.rules.take i) [])[j] x = true) ∧
          (t = true → ∃ h : k < (nextGo s.vars st (s.rules.take i) []).length, (nextGo s.vars st (s.rules.take i) [])[k] = x) ∧ (t = false → ∀ h : k < (nextGo s.vars st (s.rules.take i) []).length, lessF x (nextGo s.vars st (s.rules.take i) [])[k] = true))
          (fun r ⟨k, t, hr, _⟩ => by subst hr; simp [flat, flatL]) fun u' M' hu' => t_binarySearch (hu'.lsC hc) hu1 hok.1 (by omega) (fun y hy => by have := (hok.2 y hy).1; omega)).mono ?_
        rintro _ _ ⟨rfl, k, t, rfl, hk, hlt, ht, hf⟩
        cases t with
        | true =>
          obtain ⟨hk', he⟩ := ht rfl
          (repeat' (first | ((first | with_reducible refine cond_dec (fun h => ?_) (fun h => ?_) | with_reducible refine guardK_dec (fun h => ?_) (fun h => ?_) | with_reducible refine guardD3_dec (fun h => ?_) (fun h => ?_)) <;> first | (exfalso; omega) | (simp (maxSteps := 2000000) (disch := first | omega | assumption | exact idP rfl | exact idP (bL rfl)) only [go_sem, reduceIte, Nat.reduceEqDiff, h]) | skip) | ((first | with_reducible refine cond_split (fun h => ?_) (fun h => ?_) | with_reducible refine guardK_split (fun h => ?_) (fun h => ?_) | with_reducible refine guardD3_split (fun h => ?_) (fun h => ?_)) <;> ((try simp only [Bool.not_eq_true', Bool.not_eq_false'] at h); first | (simp (maxSteps := 2000000) (disch := first | omega | assumption | exact idP rfl | exact idP (bL rfl)) only [go_sem, reduceIte, Nat.reduceEqDiff, h]) | skip)) | (with_reducible intro bk hbk; try have hnk := (fresh_set hbk).1) | (simp (maxSteps := 2000000) (disch := first | omega | assumption | exact idP rfl | exact idP (bL rfl)) only [go_sem, reduceIte, Nat.reduceEqDiff])))
          refine hK _ _ ⟨i + 1, us, by omega, by simp (maxSteps := 2000000) (disch := first | omega | assumption | exact idP rfl | exact idP (bL rfl)) only [go_sem, reduceIte, Nat.reduceEqDiff], by simp (maxSteps := 2000000) (disch := first | omega | assumption | exact idP rfl | exact idP (bL rfl)) only [go_sem, reduceIte, Nat.reduceEqDiff], by simp (maxSteps := 2000000) (disch := first | omega | assumption | exact idP rfl | exact idP (bL rfl)) only [go_sem, reduceIte, Nat.reduceEqDiff], by simp (maxSteps := 2000000) (disch := first | omega | assumption | exact idP rfl | exact idP (bL rfl)) only [go_sem, reduceIte, Nat.reduceEqDiff]; rfl, by simp (maxSteps := 2000000) (disch := first | omega | assumption | exact idP rfl | exact idP (bL rfl)) only [go_sem, reduceIte, Nat.reduceEqDiff]; exact hg, ?_⟩ (by simp (maxSteps := 2000000) (disch := first | omega | assumption | exact idP rfl | exact idP (bL rfl)) only [go_sem, reduceIte, Nat.reduceEqDiff, ctrV_int, e14]; omega)
          rw [hnt, putF_in hk' hlt he]; exact hc
        | false =>
          have hge := hf rfl
          simp (maxSteps := 2000000) (disch := first | omega | assumption | exact idP rfl | exact idP (bL rfl)) only [go_sem, reduceIte, Nat.reduceEqDiff, hu1.one.1, hu1.one.2]
          intro bt hbt
          refine (t_Insert hg hbt huo hc.one (by omega) (by omega)).mono ?_
          rintro r M2 hg2
          simp (maxSteps := 2000000) (disch := first | omega | assumption | exact idP rfl | exact idP (bL rfl)) only [go_sem, reduceIte, Nat.reduceEqDiff]
          refine hK _ _ ⟨i + 1, _, by omega, by simp (maxSteps := 2000000) (disch := first | omega | assumption | exact idP rfl | exact idP (bL rfl)) only [go_sem, reduceIte, Nat.reduceEqDiff], by simp (maxSteps := 2000000) (disch := first | omega | assumption | exact idP rfl | exact idP (bL rfl)) only [go_sem, reduceIte, Nat.reduceEqDiff], by simp (maxSteps := 2000000) (disch := first | omega | assumption | exact idP rfl | exact idP (bL rfl)) only [go_sem, reduceIte, Nat.reduceEqDiff], by simp (maxSteps := 2000000) (disch := first | omega | assumption | exact idP rfl | exact idP (bL rfl)) only [go_sem, reduceIte, Nat.reduceEqDiff]; rfl, by simp (maxSteps := 2000000) (disch := first | omega | assumption | exact idP rfl | exact idP (bL rfl)) only [go_sem, reduceIte, Nat.reduceEqDiff]; exact hg2, ?_⟩ (by simp (maxSteps := 2000000) (disch := first | omega | assumption | exact idP rfl | exact idP (bL rfl)) only [go_sem, reduceIte, Nat.reduceEqDiff, ctrV_int, e14]; omega)
          rw [hnt, putF_at hk hlt hge]
          exact hc.ins hu1 hk
    · obtain rfl : i = s.rules.length := by omega
      rw [List.take_length] at hc
      have hnl2 := nextGo_len (vars := s.vars) (st := st) (rs := s.rules) (l := [])
      simp at hnl2
      simp (maxSteps := 2000000) (disch := first | omega | assumption | exact idP rfl | exact idP (bL rfl)) only [go_sem, reduceIte, Nat.reduceEqDiff]
      refine (t_cloneSint hg hc.one (by omega)).mono ?_
      rintro r M2 hg2
      simp (maxSteps := 2000000) (disch := first | omega | assumption | exact idP rfl | exact idP (bL rfl)) only [go_sem, reduceIte, Nat.reduceEqDiff]
      exact hR _ _ ⟨us, hg2.base ((show Sub M (M.set bk [a, b]) by (repeat (first | exact Sub.refl _ | assumption | (refine Sub.set' ?_ (by assumption))))).trans hg.1.sub), hc⟩
theorem f_nextStates {v w : V} {s : SysS} {st : List Int} (hv : isSys s v) (hs : SysOk s) (hw : LI w st) (hin : StIn s.vars st) : VCall Tryz.prog n_impl_nextStates [v, w] M (fun r M' => M = M' ∧ LII r (nextF s st)) :=
  (VCall.fr (l := fun _ us => Cs isL us (nextF s st)) (t_nextStates hv hs hw hin) (fun _ _ _ h => h)).mono fun r M' ⟨h1, c, h2, h3⟩ => ⟨h1, h2.lsC h3⟩
end Go.M2

namespace Go.M2
open Go.Proofs
variable {M : MH}
theorem t_number {a b w : V} {vars : List VarS} {st : List Int} (ha : LVar a vars) (hw : LI w st) (hv : ∀ v ∈ vars, VarOk v) (h5 : vars.length ≤ 5) (hin : StIn vars st) :
    VCall Tryz.prog n_impl_number [.agg [a, b], w] M (fun r M' => M = M' ∧ r = .sc (.int .i64 (numF vars st))) := by
  refine VCall.pure fun R hR => v_impl_number rfl ?_
  have hlen := hin.1
  (repeat' (first | ((first | with_reducible refine cond_dec (fun h => ?_) (fun h => ?_) | with_reducible refine guardK_dec (fun h => ?_) (fun h => ?_) | with_reducible refine guardD3_dec (fun h => ?_) (fun h => ?_)) <;> first | (exfalso; omega) | (simp (maxSteps := 2000000) (disch := first | omega | assumption | exact idP rfl | exact idP (bL rfl)) only [go_sem, reduceIte, Nat.reduceEqDiff, h, ha.len]) | skip) | ((first | with_reducible refine cond_split (fun h => ?_) (fun h => ?_) | with_reducible refine guardK_split (fun h => ?_) (fun h => ?_) | with_reducible refine guardD3_split (fun h => ?_) (fun h => ?_)) <;> ((try simp only [Bool.not_eq_true', Bool.not_eq_false'] at h); first | (simp (maxSteps := 2000000) (disch := first | omega | assumption | exact idP rfl | exact idP (bL rfl)) only [go_sem, reduceIte, Nat.reduceEqDiff, h, ha.len]) | skip)) | (with_reducible intro bk hbk; try have hnk := (fresh_set hbk).1) | (simp (maxSteps := 2000000) (disch := first | omega | assumption | exact idP rfl | exact idP (bL rfl)) only [go_sem, reduceIte, Nat.reduceEqDiff, ha.len])))
  refine loop_k (fun e M' => Sub M M' ∧ ∃ i : Nat, i ≤ vars.length ∧ e 1 = w ∧ e 9 = a ∧ e 10 = .sc (.int .i64 vars.length) ∧ e 5 = .sc (.int .i64 (numF (vars.take i) (st.take i))) ∧ e 11 = .sc (.int .i64 i)) (fun e _ => ctrV vars.length (e 11)) ?_ ?_
  · exact ⟨by (repeat (first | exact Sub.refl _ | assumption | (refine Sub.set' ?_ (by assumption)))), 0, by omega, by simp (maxSteps := 2000000) (disch := first | omega | assumption | exact idP rfl | exact idP (bL rfl)) only [go_sem, reduceIte, Nat.reduceEqDiff], by simp (maxSteps := 2000000) (disch := first | omega | assumption | exact idP rfl | exact idP (bL rfl)) only [go_sem, reduceIte, Nat.reduceEqDiff], by simp (maxSteps := 2000000) (disch := first | omega | assumption | exact idP rfl | exact idP (bL rfl)) only [go_sem, reduceIte, Nat.reduceEqDiff], by simp (maxSteps := 2000000) (disch := first | omega | assumption | exact idP rfl | exact idP (bL rfl)) only [go_sem, reduceIte, Nat.reduceEqDiff]; simp [numF, numGo], by simp (maxSteps := 2000000) (disch := first | omega | assumption | exact idP rfl | exact idP (bL rfl)) only [go_sem, reduceIte, Nat.reduceEqDiff]; rfl⟩
  · rintro e M1 ⟨hsub, i, hi, e1, e9, e10, e5, e11⟩ K hK
    simp (maxSteps := 2000000) (disch := first | omega | assumption | exact idP rfl | exact idP (bL rfl)) only [go_sem, reduceIte, Nat.reduceEqDiff, e10, e11]
    refine cond_dec (fun h => ?_) (fun h => ?_)
    · have hi1 : i < vars.length := by omega
      have hi2 : i < st.length := by omega
      have hok := hv _ (List.getElem_mem hi1)
      have hinr := hin.2 i hi1 hi2
      have hb1 := numF_bd hv hin i (by omega)
      have hb2 := numF_bd hv hin (i + 1) (by omega)
      have hs1 := sizeF_mono hv h5 (i := i)
      have hs2 := sizeF_mono hv h5 (i := i + 1)
      have hnt := numF_take hi1 hi2
      have hmb : 0 ≤ numF (vars.take i) (st.take i) * (vars[i].high - vars[i].low + 1) ∧ numF (vars.take i) (st.take i) * (vars[i].high - vars[i].low + 1) ≤ 3200000 * 20 := by
        unfold VarOk at hok
        exact ⟨Int.mul_nonneg hb1.1 (by omega), Int.mul_le_mul (by omega) (by omega) (by omega) (by omega)⟩
      unfold VarOk at hok
      simp (maxSteps := 2000000) (disch := first | omega | assumption | exact idP rfl | exact idP (bL rfl)) only [go_sem, reduceIte, Nat.reduceEqDiff, e1, e5, e9, e10, e11, ha.iaddr, LVar.at ha hi1]
      intro b7 hb7
      simp (maxSteps := 2000000) (disch := first | omega | assumption | exact idP rfl | exact idP (bL rfl)) only [go_sem, reduceIte, Nat.reduceEqDiff, e1, e5, e9, e10, e11, hw.iaddr, hw.at hi2]
      refine hK _ _ ⟨by (repeat (first | exact Sub.refl _ | assumption | (refine Sub.set' ?_ (by assumption)))), i + 1, by omega, by simp (maxSteps := 2000000) (disch := first | omega | assumption | exact idP rfl | exact idP (bL rfl)) only [go_sem, reduceIte, Nat.reduceEqDiff], by simp (maxSteps := 2000000) (disch := first | omega | assumption | exact idP rfl | exact idP (bL rfl)) only [go_sem, reduceIte, Nat.reduceEqDiff], by simp (maxSteps := 2000000) (disch := first | omega | assumption | exact idP rfl | exact idP (bL rfl)) only [go_sem, reduceIte, Nat.reduceEqDiff], by simp (maxSteps := 2000000) (disch := first | omega | assumption | exact idP rfl | exact idP (bL rfl)) only [go_sem, reduceIte, Nat.reduceEqDiff]; rw [hnt]; rfl, by simp (maxSteps := 2000000) (disch := first | omega | assumption | exact idP rfl | exact idP (bL rfl)) only [go_sem, reduceIte, Nat.reduceEqDiff]; rfl⟩ (by simp (maxSteps := 2000000) (disch := first | omega | assumption | exact idP rfl | exact idP (bL rfl)) only [go_sem, reduceIte, Nat.reduceEqDiff, ctrV_int, e11]; omega)
    · obtain rfl : i = vars.length := by omega
      simp (maxSteps := 2000000) (disch := first | omega | assumption | exact idP rfl | exact idP (bL rfl)) only [go_sem, reduceIte, Nat.reduceEqDiff, e5]
      exact hR _ _ hsub (by rw [List.take_length, ← hlen, List.take_length])
theorem t_stateAt {v : V} {s : SysS} {n : Int} (hv : isSys s v) (hs : SysOk s) (h0 : 0 ≤ n) (h1 : n ≤ 1099511627776) : VCall Tryz.prog n_impl_stateAt [v, .sc (.int .i64 n)] M (fun r M' => Gr 1 M M' r ((stGo s.vars n).map vi)) := by
  refine VCall.plain fun R hR => v_impl_stateAt rfl ?_
  obtain ⟨a, b, rfl, ha, hb⟩ := hv
  have h1' := hs.v1
  have h5 := hs.v5
  (repeat' (first | ((first | with_reducible refine cond_dec (fun h => ?_) (fun h => ?_) | with_reducible refine guardK_dec (fun h => ?_) (fun h => ?_) | with_reducible refine guardD3_dec (fun h => ?_) (fun h => ?_)) <;> first | (exfalso; omega) | (simp (maxSteps := 2000000) (disch := first | omega | assumption | exact idP rfl | exact idP (bL rfl)) only [go_sem, reduceIte, Nat.reduceEqDiff, h, ha.len]) | skip) | ((first | with_reducible refine cond_split (fun h => ?_) (fun h => ?_) | with_reducible refine guardK_split (fun h => ?_) (fun h => ?_) | with_reducible refine guardD3_split (fun h => ?_) (fun h => ?_)) <;> ((try simp only [Bool.not_eq_true', Bool.not_eq_false'] at h); first | (simp (maxSteps := 2000000) (disch := first | omega | assumption | exact idP rfl | exact idP (bL rfl)) only [go_sem, reduceIte, Nat.reduceEqDiff, h, ha.len]) | skip)) | (with_reducible intro bk hbk; try have hnk := (fresh_set hbk).1) | (simp (maxSteps := 2000000) (disch := first | omega | assumption | exact idP rfl | exact idP (bL rfl)) only [go_sem, reduceIte, Nat.reduceEqDiff, ha.len])))
  refine mks3 (by omega) (by simp [mostCells]; omega) (by simp [mostCells]; omega) ?_
  intro b12 hb12
  simp (maxSteps := 2000000) (disch := first | omega | assumption | exact idP rfl | exact idP (bL rfl)) only [go_sem, reduceIte, Nat.reduceEqDiff, zeros_vi]
  refine loop_k (fun e M' => ∃ j : Nat, j ≤ s.vars.length ∧ e 1 = .sc (.int .i64 (qGo (s.vars.drop j) n)) ∧ e 2 = .sc (.ptr (some (bk, 0))) ∧ e 6 = .sc (.int .i64 ((j : Int) - 1)) ∧ Gr 1 (M.set bk [a, b]) M' (e 5) ((List.replicate j 0 ++ stGo (s.vars.drop j) n).map vi)) (fun e _ => match e 6 with | .sc (.int _ i) => (i + 1).toNat | _ => 0) ?_ ?_
  · refine ⟨s.vars.length, Nat.le_refl _, by simp (maxSteps := 2000000) (disch := first | omega | assumption | exact idP rfl | exact idP (bL rfl)) only [go_sem, reduceIte, Nat.reduceEqDiff]; simp [qGo], by simp (maxSteps := 2000000) (disch := first | omega | assumption | exact idP rfl | exact idP (bL rfl)) only [go_sem, reduceIte, Nat.reduceEqDiff], by simp (maxSteps := 2000000) (disch := first | omega | assumption | exact idP rfl | exact idP (bL rfl)) only [go_sem, reduceIte, Nat.reduceEqDiff], ?_⟩
    simp (maxSteps := 2000000) (disch := first | omega | assumption | exact idP rfl | exact idP (bL rfl)) only [go_sem, reduceIte, Nat.reduceEqDiff]
    rw [List.drop_length]
    simp only [stGo, List.append_nil]
    exact Gr.new' (Sub.refl _) hb12 (by simp)
  · rintro e M3 ⟨j, hj, e1, e2, e6, hg⟩ K hK
    have hm := hg.sub bk _ set_same
    simp (maxSteps := 2000000) (disch := first | omega | assumption | exact idP rfl | exact idP (bL rfl)) only [go_sem, reduceIte, Nat.reduceEqDiff, e1, e2, e6]
    refine cond_dec (fun h => ?_) (fun h => ?_)
    · obtain ⟨i, rfl⟩ : ∃ i, j = i + 1 := ⟨j - 1, by omega⟩
      have hi : i < s.vars.length := by omega
      have hok := hs.vars _ (List.getElem_mem hi)
      have hsp := span_pos hok
      have hq := qGo_bd (vs := s.vars.drop (i + 1)) (n := n) (fun u hu => hs.vars u (List.mem_of_mem_drop hu)) h0
      have et : (((i + 1 : Nat) : Int) - 1) = (i : Int) := by omega
      have hol : (List.replicate (i + 1) 0 ++ stGo (s.vars.drop (i + 1)) n).length = s.vars.length := by simp [stGo_len]; omega
      simp (maxSteps := 2000000) (disch := first | omega | assumption | exact idP rfl | exact idP (bL rfl)) only [go_sem, reduceIte, Nat.reduceEqDiff, e1, e2, e6, hm, et, ha.iaddr, LVar.at ha hi]
      intro b7 hb7
      have hgm : ∀ cl, Gr 1 (M.set bk [a, b]) (M3.set b7 cl) (e 5) ((List.replicate (i + 1) 0 ++ stGo (s.vars.drop (i + 1)) n).map vi) := fun cl => hg.more ((Sub.refl _).set' hb7)
      have hat : ∀ cl, (M3.set b7 cl) (oB (e 5)) = some ((List.replicate (i + 1) 0 ++ stGo (s.vars.drop (i + 1)) n).map vi) := fun cl => (hgm cl).at (by rw [len_vi]; omega)
      have hia : ∀ {k : IntKind} {x : Int}, 0 ≤ x → x < (s.vars.length : Int) → iaddrV 1 (e 5) (.int k x) = some (.sc (.ptr (some (oB (e 5), x.toNat)))) := fun q1 q2 => hg.own.iaddr q1 (by rw [len_vi, hol]; exact q2)
      have hso : i < ((List.replicate (i + 1) 0 ++ stGo (s.vars.drop (i + 1)) n).map vi).length := by rw [len_vi]; omega
      have hm1 := Int.emod_nonneg (qGo (s.vars.drop (i + 1)) n) (show span1 s.vars[i] ≠ 0 by omega)
      have hm2 := Int.emod_lt_of_pos (qGo (s.vars.drop (i + 1)) n) (show 0 < span1 s.vars[i] by omega)
      unfold span1 at hsp hm1 hm2
      unfold VarOk at hok
      simp (maxSteps := 2000000) (disch := first | omega | assumption | exact idP rfl | exact idP (bL rfl)) only [go_sem, reduceIte, Nat.reduceEqDiff, e1, e2, e6, et, hia, hat]
      have hgs := fun cl => (hgm cl).setO (l' := (List.replicate i 0 ++ stGo (s.vars.drop i) n).map vi) (by rw [len_vi]; omega) (by rw [len_vi, len_vi, hol]; simp [stGo_len]; omega)
      refine hK _ _ ⟨i, by omega, by simp (maxSteps := 2000000) (disch := first | omega | assumption | exact idP rfl | exact idP (bL rfl)) only [go_sem, reduceIte, Nat.reduceEqDiff]; rw [drop_cons' hi]; rfl, by simp (maxSteps := 2000000) (disch := first | omega | assumption | exact idP rfl | exact idP (bL rfl)) only [go_sem, reduceIte, Nat.reduceEqDiff], by simp (maxSteps := 2000000) (disch := first | omega | assumption | exact idP rfl | exact idP (bL rfl)) only [go_sem, reduceIte, Nat.reduceEqDiff], ?_⟩ (by simp (maxSteps := 2000000) (disch := first | omega | assumption | exact idP rfl | exact idP (bL rfl)) only [go_sem, reduceIte, Nat.reduceEqDiff, e6]; omega)
      simp (maxSteps := 2000000) (disch := first | omega | assumption | exact idP rfl | exact idP (bL rfl)) only [go_sem, reduceIte, Nat.reduceEqDiff]
      have e9 : (List.replicate (i + 1) 0 ++ stGo (s.vars.drop (i + 1)) n).set i (s.vars[i].low + qGo (s.vars.drop (i + 1)) n % (s.vars[i].high - s.vars[i].low + 1)) = List.replicate i 0 ++ stGo (s.vars.drop i) n := by
        rw [drop_cons' hi, List.replicate_succ', List.append_assoc, List.set_append_right _ _ (by simp)]
        simp [stGo, span1]
      rw [set_vi, e9]
      exact hgs _
    · obtain rfl : j = 0 := by omega
      simp (maxSteps := 2000000) (disch := first | omega | assumption | exact idP rfl | exact idP (bL rfl)) only [go_sem, reduceIte, Nat.reduceEqDiff]
      refine hR _ _ ?_
      simp only [List.replicate_zero, List.nil_append, List.drop_zero] at hg
      exact hg.base (by (repeat (first | exact Sub.refl _ | assumption | (refine Sub.set' ?_ (by assumption)))))
theorem f_stateAt {v : V} {s : SysS} {n : Int} (hv : isSys s v) (hs : SysOk s) (h0 : 0 ≤ n) (h1 : n ≤ 1099511627776) : VCall Tryz.prog n_impl_stateAt [v, .sc (.int .i64 n)] M (fun r M' => M = M' ∧ LI r (stGo s.vars n)) :=
  (VCall.fr1 (t_stateAt hv hs h0 h1)).mono fun r M' ⟨h1, h2⟩ => ⟨h1, h2.li⟩
theorem Fz.pre {M M' : MH} {l l' : List V} (h : Fz M l M' l') : ∀ us : List V, Fz M (us ++ l) M' (us ++ l')
  | [] => h
  | x :: t => .keep x (Fz.pre h t)
theorem FzE.row {M0 M : MH} {b3 sz : Nat} {rv : V} {us post row : List V} (hb : M b3 = some (us ++ rv :: post)) (hr : Gr sz M0 M rv row) (hne : blkV rv ≠ some b3) :
    ∃ M' u, (∀ e, FzE e M e M') ∧ Fr sz u row ∧ M' b3 = some (us ++ u :: post) ∧ (M0 b3 = none → Sub M0 M') := by
  rcases hr.own with ⟨rfl, k, rfl⟩ | ⟨b, n, ex, rfl, h1, h2⟩
  · exact ⟨M, _, fun e => .refl _ _, .inl ⟨rfl, k, rfl⟩, hb, fun _ => hr.sub⟩
  · have hne' : b3 ≠ b := fun e => hne (by rw [e]; rfl)
    have h0 := hr.new b rfl
    have hd : M.del b b3 = some (us ++ V.sc (.sl (some (b, 0)) n n ex sz) :: post) := by simp only [MH.del]; rw [if_neg hne']; exact hb
    have hz : Fz M (us ++ V.sc (.sl (some (b, 0)) n n ex sz) :: post) (M.del b) (us ++ V.fs (some (b, 0)) n n ex sz (row.drop 0) :: post) := Fz.pre (.sl h1 (Fz.refl _ _) (Fz.refl _ _)) us
    refine ⟨_, _, fun e => FzE.cells hb hz hd, .inr ⟨_, _, _, _, _, rfl, by simpa using h2⟩, set_same, fun h3 => Sub.set (fun i l hi => ?_) h3⟩
    simp only [MH.del]
    rw [if_neg (fun e => by subst e; rw [h0] at hi; cases hi)]
    exact hr.sub i l hi
theorem Gr.setN {sz b : Nat} {M0 M : MH} {v : V} {l l' : List V} (h : Gr sz M0 M v l) (hb : M0 b = none) (hne : blkV v ≠ some b) : Gr sz M0 (M.set b l') v l := by
  rcases h.own with ⟨rfl, k, rfl⟩ | ⟨c, n, ex, rfl, h1, h2⟩
  · exact .nil (h.sub.set hb)
  · exact .mk' (h.sub.set hb) (h.new c rfl) h2 (by rw [set_ne (fun e => hne (by rw [← e]; rfl))]; exact h1)
end Go.M2

namespace Go.M2
open Go.Proofs
variable {M : MH}
def nil1 : V := .sc (.sl none 0 0 true 0)
theorem zeros_nil (n : Nat) : (zeros [AV.sl none 0 0 true 0] n).map V.sc = List.replicate n nil1 := by
  induction n with
  | zero => rfl
  | succ n ih => simp only [zeros, List.replicate_succ, List.flatten_cons, List.map_append] at ih ⊢; rw [ih]; rfl
theorem set_mid {α : Type} {us post : List α} {x y : α} {n : Nat} (h : us.length = n) : (us ++ x :: post).set n y = us ++ y :: post := by
  subst h
  rw [List.set_append_right _ _ (Nat.le_refl _), Nat.sub_self]; rfl
theorem nth_mid {α : Type} {us post : List α} {x : α} {n : Nat} (h : us.length = n) : (us ++ x :: post)[n]? = some x := by
  subst h
  rw [List.getElem?_append_right (Nat.le_refl _), Nat.sub_self]; rfl
theorem t_nexts {v : V} {s : SysS} (hv : isSys s v) (hs : SysOk s) : VCall Tryz.prog n_impl_nexts [v] M (fun r M' => ∃ us, Gr 1 M M' r us ∧ Cs isL us (tabF s)) := by
  refine VCall.plain fun R hR => v_impl_nexts rfl ?_
  have hv0 := hv
  obtain ⟨a, b, rfl, ha, hb⟩ := hv
  have hsz := hs.sz
  have htl := tabF_len s
  obtain ⟨N, hN⟩ : ∃ N : Nat, sizeF s.vars = (N : Int) := ⟨(sizeF s.vars).toNat, by omega⟩
  have hN2 : (sizeF s.vars).toNat = N := by omega
  (repeat' (first | ((first | with_reducible refine cond_dec (fun h => ?_) (fun h => ?_) | with_reducible refine guardK_dec (fun h => ?_) (fun h => ?_) | with_reducible refine guardD3_dec (fun h => ?_) (fun h => ?_)) <;> first | (exfalso; omega) | (simp (maxSteps := 2000000) (disch := first | omega | assumption | exact idP rfl | exact idP (bL rfl)) only [go_sem, reduceIte, Nat.reduceEqDiff, h]) | skip) | ((first | with_reducible refine cond_split (fun h => ?_) (fun h => ?_) | with_reducible refine guardK_split (fun h => ?_) (fun h => ?_) | with_reducible refine guardD3_split (fun h => ?_) (fun h => ?_)) <;> ((try simp only [Bool.not_eq_true', Bool.not_eq_false'] at h); first | (simp (maxSteps := 2000000) (disch := first | omega | assumption | exact idP rfl | exact idP (bL rfl)) only [go_sem, reduceIte, Nat.reduceEqDiff, h]) | skip)) | ((with_reducible refine (t_impSize ha hs.vars hs.v5).mono ?_); rintro _ _ ⟨rfl, rfl⟩) | (with_reducible intro bk hbk; try have hnk := (fresh_set hbk).1) | (simp (maxSteps := 2000000) (disch := first | omega | assumption | exact idP rfl | exact idP (bL rfl)) only [go_sem, reduceIte, Nat.reduceEqDiff])))
  rw [hN]
  refine mks3 (by omega) (by simp [mostCells]; omega) (by simp [mostCells]; omega) ?_
  intro b3 hb3
  simp (maxSteps := 2000000) (disch := first | omega | assumption | exact idP rfl | exact idP (bL rfl)) only [go_sem, reduceIte, Nat.reduceEqDiff, zeros_nil]
  refine loop_f (fun e M' => ∃ (n : Nat) (us : List V), n ≤ N ∧ e 1 = .sc (.ptr (some (bk, 0))) ∧ e 3 = .sc (.sl (some (b3, 0)) N N true 1) ∧ e 12 = .sc (.int .i64 N) ∧ e 13 = .sc (.int .i64 n) ∧ Sub (M.set bk [a, b]) M' ∧ M' b3 = some (us ++ List.replicate (N - n) nil1) ∧ Cs isL us ((tabF s).take n)) (fun e _ => ctrV N (e 13)) ?_ ?_
  · exact ⟨_, _, .refl _ _, 0, [], by omega, by simp (maxSteps := 2000000) (disch := first | omega | assumption | exact idP rfl | exact idP (bL rfl)) only [go_sem, reduceIte, Nat.reduceEqDiff], by simp (maxSteps := 2000000) (disch := first | omega | assumption | exact idP rfl | exact idP (bL rfl)) only [go_sem, reduceIte, Nat.reduceEqDiff], by simp (maxSteps := 2000000) (disch := first | omega | assumption | exact idP rfl | exact idP (bL rfl)) only [go_sem, reduceIte, Nat.reduceEqDiff], by simp (maxSteps := 2000000) (disch := first | omega | assumption | exact idP rfl | exact idP (bL rfl)) only [go_sem, reduceIte, Nat.reduceEqDiff]; rfl, (Sub.refl _).set hb3, by simp (maxSteps := 2000000) (disch := first | omega | assumption | exact idP rfl | exact idP (bL rfl)) only [go_sem, reduceIte, Nat.reduceEqDiff]; simp, .nil⟩
  · rintro e M1 ⟨n, us, hn, e1, e3, e12, e13, hsub, hm3, hc⟩ K hK
    have hm := hsub bk _ set_same
    have hul := hc.1
    rw [List.length_take, htl] at hul
    simp (maxSteps := 2000000) (disch := first | omega | assumption | exact idP rfl | exact idP (bL rfl)) only [go_sem, reduceIte, Nat.reduceEqDiff, e1, e3, e12, e13]
    refine cond_dec (fun h => ?_) (fun h => ?_)
    · have hn' : n < (sizeF s.vars).toNat := by omega
      have hul : us.length = n := by omega
      obtain ⟨q, hq⟩ : ∃ q, N - n = q + 1 := ⟨N - n - 1, by omega⟩
      rw [hq, List.replicate_succ] at hm3
      simp (maxSteps := 2000000) (disch := first | omega | assumption | exact idP rfl | exact idP (bL rfl)) only [go_sem, reduceIte, Nat.reduceEqDiff, e1, e3, e12, e13, hm]
      refine (f_stateAt hv0 hs (n := (n : Int)) (by omega) (by omega)).mono ?_
      rintro st _ ⟨rfl, hst⟩
      simp (maxSteps := 2000000) (disch := first | omega | assumption | exact idP rfl | exact idP (bL rfl)) only [go_sem, reduceIte, Nat.reduceEqDiff, e1, e3, e12, e13, hm]
      have hin : StIn s.vars (stGo s.vars (n : Int)) := stGo_in hs.vars
      refine (f_nextStates hv0 hs hst hin).mono ?_
      rintro nx _ ⟨rfl, hnx⟩
      have hnl := nextF_len hs (stGo s.vars (n : Int))
      simp (maxSteps := 2000000) (disch := first | omega | assumption | exact idP rfl | exact idP (bL rfl)) only [go_sem, reduceIte, Nat.reduceEqDiff, hnx.len]
      refine loop_k (fun e' M' => ∃ (i : Nat) (rv : V), i ≤ (nextF s (stGo s.vars (n : Int))).length ∧ e' 1 = .sc (.ptr (some (bk, 0))) ∧ e' 3 = .sc (.sl (some (b3, 0)) N N true 1) ∧ e' 4 = .sc (.int .i64 n) ∧ e' 12 = .sc (.int .i64 N) ∧ e' 13 = .sc (.int .i64 n) ∧ e' 20 = nx ∧ e' 21 = .sc (.int .i64 (nextF s (stGo s.vars (n : Int))).length) ∧ e' 22 = .sc (.int .i64 i) ∧ M' b3 = some (us ++ rv :: List.replicate q nil1) ∧ blkV rv ≠ some b3 ∧ Gr 1 (M.set bk [a, b]) M' rv ((((nextF s (stGo s.vars (n : Int))).take i).map (numF s.vars)).map vi)) (fun e' _ => ctrV (nextF s (stGo s.vars (n : Int))).length (e' 22)) ?_ ?_
      · exact ⟨0, nil1, by omega, by simp (maxSteps := 2000000) (disch := first | omega | assumption | exact idP rfl | exact idP (bL rfl)) only [go_sem, reduceIte, Nat.reduceEqDiff], by simp (maxSteps := 2000000) (disch := first | omega | assumption | exact idP rfl | exact idP (bL rfl)) only [go_sem, reduceIte, Nat.reduceEqDiff], by simp (maxSteps := 2000000) (disch := first | omega | assumption | exact idP rfl | exact idP (bL rfl)) only [go_sem, reduceIte, Nat.reduceEqDiff], by simp (maxSteps := 2000000) (disch := first | omega | assumption | exact idP rfl | exact idP (bL rfl)) only [go_sem, reduceIte, Nat.reduceEqDiff], by simp (maxSteps := 2000000) (disch := first | omega | assumption | exact idP rfl | exact idP (bL rfl)) only [go_sem, reduceIte, Nat.reduceEqDiff], by simp (maxSteps := 2000000) (disch := first | omega | assumption | exact idP rfl | exact idP (bL rfl)) only [go_sem, reduceIte, Nat.reduceEqDiff], by simp (maxSteps := 2000000) (disch := first | omega | assumption | exact idP rfl | exact idP (bL rfl)) only [go_sem, reduceIte, Nat.reduceEqDiff], by simp (maxSteps := 2000000) (disch := first | omega | assumption | exact idP rfl | exact idP (bL rfl)) only [go_sem, reduceIte, Nat.reduceEqDiff]; rfl, hm3, by simp [nil1, blkV], .nil hsub⟩
      · rintro e' M2 ⟨i, rv, hi, f1, f3, f4, f12, f13, f20, f21, f22, g3, hne, hg2⟩ K2 hK2
        have hm2 := hg2.sub bk _ set_same
        simp (maxSteps := 2000000) (disch := first | omega | assumption | exact idP rfl | exact idP (bL rfl)) only [go_sem, reduceIte, Nat.reduceEqDiff, f1, f3, f4, f12, f13, f20, f21, f22]
        refine cond_dec (fun h => ?_) (fun h => ?_)
        · have hi' : i < (nextF s (stGo s.vars (n : Int))).length := by omega
          have hxi := nextF_in (List.getElem_mem hi')
          have hnth := nth_mid (post := List.replicate q nil1) (x := rv) hul
          have ho1 := hg2.one.1
          have ho2 := hg2.one.2
          have hnN : n < N := by omega
          simp (maxSteps := 2000000) (disch := first | omega | assumption | exact idP rfl | exact idP (bL rfl)) only [go_sem, reduceIte, Nat.reduceEqDiff, f1, f3, f4, f12, f13, f20, f21, f22, hm2, hnx.iaddr, g3, hnth]
          refine (t_number ha (hnx.elt hi') hs.vars hs.v5 hxi).mono ?_
          rintro _ _ ⟨rfl, rfl⟩
          simp (maxSteps := 2000000) (disch := first | omega | assumption | exact idP rfl | exact idP (bL rfl)) only [go_sem, reduceIte, Nat.reduceEqDiff, f1, f3, f4, f12, f13, f20, f21, f22, g3, hnth]
          intro bt hbt
          refine app_int hg2 hbt (by simp; omega) (by omega) ?_
          intro s' M' hg' hoth
          obtain ⟨g3', hne'⟩ := hoth b3 _ g3 hne
          have ho3 := hg'.one.1
          have ho4 := hg'.one.2
          have hsm : (us ++ rv :: List.replicate q nil1).set n s' = us ++ s' :: List.replicate q nil1 := set_mid hul
          have hnl3 : n < (us ++ rv :: List.replicate q nil1).length := by simp; omega
          simp (maxSteps := 2000000) (disch := first | omega | assumption | exact idP rfl | exact idP (bL rfl)) only [go_sem, reduceIte, Nat.reduceEqDiff, f1, f3, f4, f12, f13, f20, f21, f22, g3', ho4, hsm]
          refine hK2 _ _ ⟨i + 1, s', by omega, by simp (maxSteps := 2000000) (disch := first | omega | assumption | exact idP rfl | exact idP (bL rfl)) only [go_sem, reduceIte, Nat.reduceEqDiff], by simp (maxSteps := 2000000) (disch := first | omega | assumption | exact idP rfl | exact idP (bL rfl)) only [go_sem, reduceIte, Nat.reduceEqDiff], by simp (maxSteps := 2000000) (disch := first | omega | assumption | exact idP rfl | exact idP (bL rfl)) only [go_sem, reduceIte, Nat.reduceEqDiff], by simp (maxSteps := 2000000) (disch := first | omega | assumption | exact idP rfl | exact idP (bL rfl)) only [go_sem, reduceIte, Nat.reduceEqDiff], by simp (maxSteps := 2000000) (disch := first | omega | assumption | exact idP rfl | exact idP (bL rfl)) only [go_sem, reduceIte, Nat.reduceEqDiff], by simp (maxSteps := 2000000) (disch := first | omega | assumption | exact idP rfl | exact idP (bL rfl)) only [go_sem, reduceIte, Nat.reduceEqDiff], by simp (maxSteps := 2000000) (disch := first | omega | assumption | exact idP rfl | exact idP (bL rfl)) only [go_sem, reduceIte, Nat.reduceEqDiff], by simp (maxSteps := 2000000) (disch := first | omega | assumption | exact idP rfl | exact idP (bL rfl)) only [go_sem, reduceIte, Nat.reduceEqDiff]; rfl, by simp (maxSteps := 2000000) (disch := first | omega | assumption | exact idP rfl | exact idP (bL rfl)) only [go_sem, reduceIte, Nat.reduceEqDiff], hne', ?_⟩ (by simp (maxSteps := 2000000) (disch := first | omega | assumption | exact idP rfl | exact idP (bL rfl)) only [go_sem, reduceIte, Nat.reduceEqDiff, ctrV_int, f22]; omega)
          rw [take_snoc hi', List.map_append]
          exact hg'.setN hb3 hne'
        · have hie : i = (nextF s (stGo s.vars (n : Int))).length := by omega
          rw [hie, List.take_length] at hg2
          simp (maxSteps := 2000000) (disch := first | omega | assumption | exact idP rfl | exact idP (bL rfl)) only [go_sem, reduceIte, Nat.reduceEqDiff, f1, f3, f4, f12, f13]
          obtain ⟨M3, u, k1, k2, k3, k4⟩ := FzE.row g3 hg2 hne
          refine hK _ _ _ _ (k1 _) ⟨n + 1, us ++ [u], by omega, by simp (maxSteps := 2000000) (disch := first | omega | assumption | exact idP rfl | exact idP (bL rfl)) only [go_sem, reduceIte, Nat.reduceEqDiff, f1], by simp (maxSteps := 2000000) (disch := first | omega | assumption | exact idP rfl | exact idP (bL rfl)) only [go_sem, reduceIte, Nat.reduceEqDiff, f3], by simp (maxSteps := 2000000) (disch := first | omega | assumption | exact idP rfl | exact idP (bL rfl)) only [go_sem, reduceIte, Nat.reduceEqDiff, f12], by simp (maxSteps := 2000000) (disch := first | omega | assumption | exact idP rfl | exact idP (bL rfl)) only [go_sem, reduceIte, Nat.reduceEqDiff, f13]; rfl, k4 hb3, by rw [k3, List.append_assoc]; simp [show N - (n + 1) = q by omega], ?_⟩ (by simp (maxSteps := 2000000) (disch := first | omega | assumption | exact idP rfl | exact idP (bL rfl)) only [go_sem, reduceIte, Nat.reduceEqDiff, ctrV_int, e13, f13]; omega)
          rw [tabF_take hn']
          exact hc.snoc (x := rowF s n) k2.li
    · have hne : n = N := by omega
      subst hne
      rw [List.take_of_length_le (by omega)] at hc
      simp (maxSteps := 2000000) (disch := first | omega | assumption | exact idP rfl | exact idP (bL rfl)) only [go_sem, reduceIte, Nat.reduceEqDiff, e3]
      refine hR _ _ ⟨us, ⟨(show Sub M (M.set bk [a, b]) by (repeat (first | exact Sub.refl _ | assumption | (refine Sub.set' ?_ (by assumption))))).trans hsub, fun b' h' => ?_, .inr ⟨b3, n, true, rfl, by simpa using hm3, by omega⟩⟩, hc⟩
      simp [blkV] at h'; subst h'
      exact (show Sub M (M.set bk [a, b]) by (repeat (first | exact Sub.refl _ | assumption | (refine Sub.set' ?_ (by assumption))))).none hb3
theorem f_nexts {v : V} {s : SysS} (hv : isSys s v) (hs : SysOk s) : VCall Tryz.prog n_impl_nexts [v] M (fun r M' => M = M' ∧ LII r (tabF s)) :=
  (VCall.fr (l := fun _ us => Cs isL us (tabF s)) (t_nexts hv hs) (fun _ _ _ h => h)).mono fun r M' ⟨h1, c, h2, h3⟩ => ⟨h1, h2.lsC h3⟩
end Go.M2

namespace Go.M2
open Go.Proofs
variable {M : MH}
def AscTo (n : Int) (xs : List Int) (k : Nat) : Prop := ∀ i (h : i < xs.length), i < k → (0 ≤ xs[i] ∧ xs[i] ≤ n - 1) ∧ (0 < i → xs[i - 1] < xs[i])
def SetOk (n : Int) (xs : List Int) : Prop := AscTo n xs xs.length
theorem AscTo.next {n : Int} {xs : List Int} {k : Nat} (h : AscTo n xs k) (hk : k < xs.length) (h1 : 0 ≤ xs[k] ∧ xs[k] ≤ n - 1) (h2 : 0 < k → xs[k - 1] < xs[k]) : AscTo n xs (k + 1) := fun i hi hik => by
  by_cases e : i = k
  · subst e; exact ⟨h1, h2⟩
  · exact h i hi (by omega)
end Go.M2

namespace Go.M2
open Go.Proofs
variable {M : MH}
def mkL (n : Nat) (p : Nat → Bool) : List Bool := (List.range n).map p
theorem mkL_len {n : Nat} {p : Nat → Bool} : (mkL n p).length = n := by simp [mkL]
theorem mkL_get {n : Nat} {p : Nat → Bool} {i : Nat} (h : i < (mkL n p).length) : (mkL n p)[i] = p i := by simp [mkL]
theorem mkL_ext {n : Nat} {p q : Nat → Bool} (h : ∀ i, i < n → p i = q i) : mkL n p = mkL n q := by
  unfold mkL
  exact List.map_congr_left fun i hi => h i (List.mem_range.1 hi)
theorem mkL_set {n k : Nat} {p q : Nat → Bool} (h : ∀ i, i < n → q i = (p i || decide (i = k))) : (mkL n p).set k true = mkL n q := by
  apply List.ext_getElem
  · simp [mkL]
  · intro i h1 h2
    have hi : i < n := by rw [mkL_len] at h2; exact h2
    rw [List.getElem_set]
    split
    · rename_i e; subst e; rw [mkL_get, h _ hi]; simp
    · rename_i e
      have e' : ¬ i = k := fun h => e h.symm
      rw [mkL_get, mkL_get, h _ hi]; simp [e']
theorem mkL_none {n : Nat} : List.replicate n false = mkL n (fun _ => false) := by
  unfold mkL
  rw [List.map_const', List.length_range]
theorem zeros_vb' (n : Nat) : (zeros [AV.bool false] n).map V.sc = (List.replicate n false).map vb := by
  induction n with
  | zero => rfl
  | succ n ih => simp only [zeros, List.replicate_succ, List.flatten_cons, List.map_append, List.map_cons] at ih ⊢; rw [ih]; rfl
theorem set_vb' {bs : List Bool} {i : Nat} {b : Bool} : (bs.map vb).set i (.sc (.bool b)) = (bs.set i b).map vb := by rw [List.map_set]; rfl
theorem len_vb' {bs : List Bool} : (bs.map vb).length = bs.length := List.length_map ..
def inL (xs : List Int) (i : Nat) : Bool := decide ((i : Int) ∈ xs)
theorem t_l4Marks {w : V} {xs : List Int} {n : Nat} (hw : LI w xs) (hn : n ≤ 1048576) (hl : xs.length ≤ 1048576) (hin : ∀ x ∈ xs, 0 ≤ x ∧ x < (n : Int)) :
    VCall Tryz.prog n_spec_l4Marks [w, .sc (.int .i64 n)] M (fun r M' => Gr 1 M M' r ((mkL n (inL xs)).map vb)) := by
  refine VCall.plain fun R hR => v_spec_l4Marks rfl ?_
  simp (maxSteps := 2000000) (disch := first | omega | assumption | exact idP rfl | exact idP (bL rfl)) only [go_sem, reduceIte, Nat.reduceEqDiff]
  refine mks3 (by omega) (by simp [mostCells]; omega) (by simp [mostCells]; omega) ?_
  intro b9 hb9
  simp (maxSteps := 2000000) (disch := first | omega | assumption | exact idP rfl | exact idP (bL rfl)) only [go_sem, reduceIte, Nat.reduceEqDiff, zeros_vb', mkL_none]
  refine loop_k (fun e M' => ∃ i : Nat, i ≤ xs.length ∧ e 5 = .sc (.sl (some (b9, 0)) n n true 1) ∧ e 0 = w ∧ e 6 = .sc (.int .i64 i) ∧ Sub M M' ∧ M' b9 = some ((mkL n (inL (xs.take i))).map vb)) (fun e _ => ctrV xs.length (e 6)) ?_ ?_
  · refine ⟨0, by omega, by simp (maxSteps := 2000000) (disch := first | omega | assumption | exact idP rfl | exact idP (bL rfl)) only [go_sem, reduceIte, Nat.reduceEqDiff], by simp (maxSteps := 2000000) (disch := first | omega | assumption | exact idP rfl | exact idP (bL rfl)) only [go_sem, reduceIte, Nat.reduceEqDiff], by simp (maxSteps := 2000000) (disch := first | omega | assumption | exact idP rfl | exact idP (bL rfl)) only [go_sem, reduceIte, Nat.reduceEqDiff]; rfl, (Sub.refl _).set hb9, ?_⟩
    simp (maxSteps := 2000000) (disch := first | omega | assumption | exact idP rfl | exact idP (bL rfl)) only [go_sem, reduceIte, Nat.reduceEqDiff]
    rw [mkL_ext]
    intro i hi; simp [inL]
  · rintro e M1 ⟨i, hi, e5, e0, e6, hsub, hm⟩ K hK
    simp (maxSteps := 2000000) (disch := first | omega | assumption | exact idP rfl | exact idP (bL rfl)) only [go_sem, reduceIte, Nat.reduceEqDiff, e0, e5, e6, hw.len]
    refine cond_dec (fun h => ?_) (fun h => ?_)
    · have hi' : i < xs.length := by omega
      have hxi := hin _ (List.getElem_mem hi')
      have hso : xs[i].toNat < ((mkL n (inL (xs.take i))).map vb).length := by rw [len_vb', mkL_len]; omega
      simp (maxSteps := 2000000) (disch := first | omega | assumption | exact idP rfl | exact idP (bL rfl)) only [go_sem, reduceIte, Nat.reduceEqDiff, e0, e5, e6, hw.iaddr, hw.at hi', hm]
      refine hK _ _ ⟨i + 1, by omega, by simp (maxSteps := 2000000) (disch := first | omega | assumption | exact idP rfl | exact idP (bL rfl)) only [go_sem, reduceIte, Nat.reduceEqDiff], by simp (maxSteps := 2000000) (disch := first | omega | assumption | exact idP rfl | exact idP (bL rfl)) only [go_sem, reduceIte, Nat.reduceEqDiff], by simp (maxSteps := 2000000) (disch := first | omega | assumption | exact idP rfl | exact idP (bL rfl)) only [go_sem, reduceIte, Nat.reduceEqDiff]; rfl, hsub.set hb9, ?_⟩ (by simp (maxSteps := 2000000) (disch := first | omega | assumption | exact idP rfl | exact idP (bL rfl)) only [go_sem, reduceIte, Nat.reduceEqDiff, ctrV_int, e6]; omega)
      simp (maxSteps := 2000000) (disch := first | omega | assumption | exact idP rfl | exact idP (bL rfl)) only [go_sem, reduceIte, Nat.reduceEqDiff]
      rw [set_vb', mkL_set]
      intro j hj
      simp only [inL, take_snoc hi', List.mem_append, List.mem_singleton, Bool.decide_or]
      congr 1
      apply decide_eq_decide.2
      omega
    · obtain rfl : i = xs.length := by omega
      rw [List.take_length] at hm
      simp (maxSteps := 2000000) (disch := first | omega | assumption | exact idP rfl | exact idP (bL rfl)) only [go_sem, reduceIte, Nat.reduceEqDiff, e5]
      exact hR _ _ ⟨hsub, fun b' h' => by simp [blkV] at h'; subst h'; exact hb9, .inr ⟨b9, n, true, rfl, hm, by rw [len_vb', mkL_len]; omega⟩⟩
end Go.M2

namespace Go.M2
open Go.Proofs
variable {M : MH}
end Go.M2

namespace Go.M2
open Go.Proofs
variable {M : MH}
theorem tabF_in {s : SysS} (hs : SysOk s) : ∀ r ∈ tabF s, r.length ≤ 1048576 ∧ ∀ x ∈ r, 0 ≤ x ∧ x < ((tabF s).length : Int) := by
  intro r hr
  obtain ⟨n, hn, rfl⟩ := List.mem_map.1 hr
  have hsz := hs.sz
  refine ⟨?_, fun x hx => ?_⟩
  · have := nextF_len hs (stGo s.vars n)
    simp [rowF]; omega
  · have := rowF_lt hs hx
    rw [tabF_len]; omega
theorem SetOk.in {n : Int} {xs : List Int} (h : SetOk n xs) : ∀ x ∈ xs, 0 ≤ x ∧ x < n := by
  intro x hx
  obtain ⟨i, hi, rfl⟩ := List.getElem_of_mem hx
  have := (h i hi hi).1
  omega
end Go.M2

namespace Go.M2
open Go.Proofs
variable {M : MH}
noncomputable def firstN (s : SysS) : Int := numF s.vars (firstF s)
theorem t_first {v : V} {s : SysS} (hv : isSys s v) (hs : SysOk s) : VCall Tryz.prog n_impl_first [v] M (fun r M' => M = M' ∧ LI r (firstF s)) := by
  refine VCall.froz fun R hP hG => v_impl_first rfl ?_
  obtain ⟨a, b, rfl, ha, hb⟩ := hv
  have h5 := hs.v5
  have hfl : (firstF s).length = s.vars.length := by simp [firstF]
  (repeat' (first | ((first | with_reducible refine cond_dec (fun h => ?_) (fun h => ?_) | with_reducible refine guardK_dec (fun h => ?_) (fun h => ?_) | with_reducible refine guardD3_dec (fun h => ?_) (fun h => ?_)) <;> first | (exfalso; omega) | (simp (maxSteps := 2000000) (disch := first | omega | assumption | exact idP rfl | exact idP (bL rfl)) only [go_sem, reduceIte, Nat.reduceEqDiff, h, ha.len]) | skip) | ((first | with_reducible refine cond_split (fun h => ?_) (fun h => ?_) | with_reducible refine guardK_split (fun h => ?_) (fun h => ?_) | with_reducible refine guardD3_split (fun h => ?_) (fun h => ?_)) <;> ((try simp only [Bool.not_eq_true', Bool.not_eq_false'] at h); first | (simp (maxSteps := 2000000) (disch := first | omega | assumption | exact idP rfl | exact idP (bL rfl)) only [go_sem, reduceIte, Nat.reduceEqDiff, h, ha.len]) | skip)) | (with_reducible intro bk hbk; try have hnk := (fresh_set hbk).1) | (simp (maxSteps := 2000000) (disch := first | omega | assumption | exact idP rfl | exact idP (bL rfl)) only [go_sem, reduceIte, Nat.reduceEqDiff, ha.len])))
  refine loop_k (fun e M' => ∃ i : Nat, i ≤ s.vars.length ∧ e 7 = a ∧ e 8 = .sc (.int .i64 s.vars.length) ∧ e 9 = .sc (.int .i64 i) ∧ Gr 1 M M' (e 3) (((firstF s).take i).map vi)) (fun e _ => ctrV s.vars.length (e 9)) ?_ ?_
  · exact ⟨0, by omega, by simp (maxSteps := 2000000) (disch := first | omega | assumption | exact idP rfl | exact idP (bL rfl)) only [go_sem, reduceIte, Nat.reduceEqDiff], by simp (maxSteps := 2000000) (disch := first | omega | assumption | exact idP rfl | exact idP (bL rfl)) only [go_sem, reduceIte, Nat.reduceEqDiff], by simp (maxSteps := 2000000) (disch := first | omega | assumption | exact idP rfl | exact idP (bL rfl)) only [go_sem, reduceIte, Nat.reduceEqDiff]; rfl, by simp (maxSteps := 2000000) (disch := first | omega | assumption | exact idP rfl | exact idP (bL rfl)) only [go_sem, reduceIte, Nat.reduceEqDiff]; exact .nil (by (repeat (first | exact Sub.refl _ | assumption | (refine Sub.set' ?_ (by assumption)))))⟩
  · rintro e M1 ⟨i, hi, e7, e8, e9, hg⟩ K hK
    simp (maxSteps := 2000000) (disch := first | omega | assumption | exact idP rfl | exact idP (bL rfl)) only [go_sem, reduceIte, Nat.reduceEqDiff, e7, e8, e9]
    refine cond_dec (fun h => ?_) (fun h => ?_)
    · have hi' : i < s.vars.length := by omega
      have hi2 : i < (firstF s).length := by omega
      simp (maxSteps := 2000000) (disch := first | omega | assumption | exact idP rfl | exact idP (bL rfl)) only [go_sem, reduceIte, Nat.reduceEqDiff, e7, e8, e9, ha.iaddr, LVar.at ha hi']
      intro b5 hb5
      try simp (maxSteps := 2000000) (disch := first | omega | assumption | exact idP rfl | exact idP (bL rfl)) only [go_sem, reduceIte, Nat.reduceEqDiff, e7, e8, e9]
      intro bt hbt
      refine app_int (hg.more ((Sub.refl _).set' hb5)) hbt (by simp; omega) (by omega) ?_
      intro s' M' hg' _
      simp (maxSteps := 2000000) (disch := first | omega | assumption | exact idP rfl | exact idP (bL rfl)) only [go_sem, reduceIte, Nat.reduceEqDiff, e7, e8, e9]
      refine hK _ _ ⟨i + 1, by omega, by simp (maxSteps := 2000000) (disch := first | omega | assumption | exact idP rfl | exact idP (bL rfl)) only [go_sem, reduceIte, Nat.reduceEqDiff], by simp (maxSteps := 2000000) (disch := first | omega | assumption | exact idP rfl | exact idP (bL rfl)) only [go_sem, reduceIte, Nat.reduceEqDiff], by simp (maxSteps := 2000000) (disch := first | omega | assumption | exact idP rfl | exact idP (bL rfl)) only [go_sem, reduceIte, Nat.reduceEqDiff]; rfl, ?_⟩ (by simp (maxSteps := 2000000) (disch := first | omega | assumption | exact idP rfl | exact idP (bL rfl)) only [go_sem, reduceIte, Nat.reduceEqDiff, ctrV_int, e9]; omega)
      simp (maxSteps := 2000000) (disch := first | omega | assumption | exact idP rfl | exact idP (bL rfl)) only [go_sem, reduceIte, Nat.reduceEqDiff]
      rw [take_snoc hi2]
      have e1 : (firstF s)[i] = s.vars[i].first := by simp [firstF]
      rw [e1]; exact hg'
    · obtain rfl : i = s.vars.length := by omega
      rw [List.take_of_length_le (by omega)] at hg
      simp (maxSteps := 2000000) (disch := first | omega | assumption | exact idP rfl | exact idP (bL rfl)) only [go_sem, reduceIte, Nat.reduceEqDiff]
      refine (VCall.give0 hg fun u M2 hu hs2 => (t_cloneInt hu.li (by omega)).mono fun r M' hr => hr.base hs2).mono ?_
      rintro r M2 hg2
      simp (maxSteps := 2000000) (disch := first | omega | assumption | exact idP rfl | exact idP (bL rfl)) only [go_sem, reduceIte, Nat.reduceEqDiff]
      exact hG _ _ _ _ hg2 fun u hu => hu.li
theorem firstN_bd {s : SysS} (hs : SysOk s) : 0 ≤ firstN s ∧ firstN s < sizeF s.vars := numF_lt hs (first_in hs)
end Go.M2

namespace Go.M2
theorem SetOk.mono {n m : Int} {xs : List Int} (h : SetOk n xs) (hnm : n ≤ m) : SetOk m xs := fun i hi hik => ⟨by have := (h i hi hik).1; omega, (h i hi hik).2⟩
theorem SetOk.snoc {n x : Int} {xs : List Int} (h : SetOk n xs) (h0 : 0 ≤ n) (hx : n ≤ x) : SetOk (x + 1) (xs ++ [x]) := by
  intro i hi _
  by_cases e : i < xs.length
  · have h1 := h i e e
    have e1 : (xs ++ [x])[i] = xs[i] := List.getElem_append_left e
    rw [e1]
    refine ⟨by omega, fun h2 => ?_⟩
    have e2 : (xs ++ [x])[i - 1] = xs[i - 1] := List.getElem_append_left (by omega)
    rw [e2]; exact h1.2 h2
  · have e3 : i = xs.length := by simp at hi; omega
    subst e3
    have e1 : (xs ++ [x])[xs.length] = x := by simp
    rw [e1]
    refine ⟨by omega, fun h2 => ?_⟩
    have hl : xs.length - 1 < xs.length := by omega
    have e2 : (xs ++ [x])[xs.length - 1] = xs[xs.length - 1] := List.getElem_append_left hl
    rw [e2]
    have := (h _ hl hl).1
    omega
end Go.M2

namespace Go.M2
open Go.Proofs
variable {M : MH}
def In {α : Type} (L : V → List α → Prop) (v : V) (ys : List α) : Prop := L v ys ∨ (v = .sc .emp ∧ ys = [])
theorem In.get {α : Type} {L : V → List α → Prop} {v : V} {ys : List α} (h : In L v ys) (h0 : 0 < ys.length) : L v ys := by
  rcases h with h | ⟨_, rfl⟩
  · exact h
  · simp at h0
theorem In.len {α : Type} {L : V → List α → Prop} {v : V} {ys : List α} (h : In L v ys) (hl : ∀ v ys, L v ys → lenF (er v) = some (.int .i64 (ys.length : Int))) : lenF (er v) = some (.int .i64 (ys.length : Int)) := by
  rcases h with h | ⟨rfl, rfl⟩
  · exact hl _ _ h
  · rfl
abbrev XI : V → List Int → Prop := In LI
abbrev XT : V → List TermS → Prop := In LT
abbrev XVar : V → List VarS → Prop := In LVar
abbrev XTT : V → List (List TermS) → Prop := In (Ls (fun ts u => XT u ts))
def isRuleX (r : RuleS) (cs : List V) : Prop := ∃ a b c, cs = [a, b, c] ∧ XT a r.when_ ∧ XI b r.sets ∧ XTT c r.terms
abbrev XR : V → List RuleS → Prop := In (Lc 3 isRuleX)
def isSysX (s : SysS) (v : V) : Prop := ∃ a b, v = .agg [a, b] ∧ XVar a s.vars ∧ XR b s.rules
def mx : Nat := 9223372036854775807
theorem x_szIntS {v : V} {xs : List Int} {t : Int} (hv : XI v xs) (h0 : xs.length ≤ 9223372036854775807) (h1 : 0 ≤ t) (h2 : t ≤ 1048576) :
    VCall Tryz.prog n_laws_szIntS [v, .sc (.int .i64 t)] M (fun r M' => M = M' ∧ ∃ k : Int, r = .sc (.int .i64 k) ∧ k ≤ t ∧ (0 ≤ k → xs.length ≤ 1048576)) := by
  refine VCall.pure fun R hR => v_laws_szIntS rfl ?_
  have hl := hv.len fun _ _ h => h.len
  (repeat' (first | ((first | with_reducible refine cond_dec (fun h => ?_) (fun h => ?_) | with_reducible refine guardK_dec (fun h => ?_) (fun h => ?_) | with_reducible refine guardD3_dec (fun h => ?_) (fun h => ?_)) <;> first | (exfalso; omega) | (simp (maxSteps := 2000000) (disch := first | omega | assumption | exact idP rfl | exact idP (bL rfl)) only [go_sem, reduceIte, Nat.reduceEqDiff, h, hl]) | skip) | ((first | with_reducible refine cond_split (fun h => ?_) (fun h => ?_) | with_reducible refine guardK_split (fun h => ?_) (fun h => ?_) | with_reducible refine guardD3_split (fun h => ?_) (fun h => ?_)) <;> ((try simp only [Bool.not_eq_true', Bool.not_eq_false'] at h); first | (simp (maxSteps := 2000000) (disch := first | omega | assumption | exact idP rfl | exact idP (bL rfl)) only [go_sem, reduceIte, Nat.reduceEqDiff, h, hl]) | skip)) | (with_reducible intro bk hbk; try have hnk := (fresh_set hbk).1) | (simp (maxSteps := 2000000) (disch := first | omega | assumption | exact idP rfl | exact idP (bL rfl)) only [go_sem, reduceIte, Nat.reduceEqDiff, hl])))
  all_goals exact hR _ _ (by (repeat (first | exact Sub.refl _ | assumption | (refine Sub.set' ?_ (by assumption))))) ⟨_, rfl, by omega, by omega⟩
theorem x_szTermS {v : V} {xs : List TermS} {t : Int} (hv : XT v xs) (h0 : xs.length ≤ 9223372036854775807) (h1 : 0 ≤ t) (h2 : t ≤ 1048576) :
    VCall Tryz.prog n_laws_szTermS [v, .sc (.int .i64 t)] M (fun r M' => M = M' ∧ ∃ k : Int, r = .sc (.int .i64 k) ∧ k ≤ t ∧ (0 ≤ k → xs.length ≤ 1048576)) := by
  refine VCall.pure fun R hR => v_laws_szTermS rfl ?_
  have hl := hv.len fun _ _ h => h.len
  (repeat' (first | ((first | with_reducible refine cond_dec (fun h => ?_) (fun h => ?_) | with_reducible refine guardK_dec (fun h => ?_) (fun h => ?_) | with_reducible refine guardD3_dec (fun h => ?_) (fun h => ?_)) <;> first | (exfalso; omega) | (simp (maxSteps := 2000000) (disch := first | omega | assumption | exact idP rfl | exact idP (bL rfl)) only [go_sem, reduceIte, Nat.reduceEqDiff, h, hl]) | skip) | ((first | with_reducible refine cond_split (fun h => ?_) (fun h => ?_) | with_reducible refine guardK_split (fun h => ?_) (fun h => ?_) | with_reducible refine guardD3_split (fun h => ?_) (fun h => ?_)) <;> ((try simp only [Bool.not_eq_true', Bool.not_eq_false'] at h); first | (simp (maxSteps := 2000000) (disch := first | omega | assumption | exact idP rfl | exact idP (bL rfl)) only [go_sem, reduceIte, Nat.reduceEqDiff, h, hl]) | skip)) | (with_reducible intro bk hbk; try have hnk := (fresh_set hbk).1) | (simp (maxSteps := 2000000) (disch := first | omega | assumption | exact idP rfl | exact idP (bL rfl)) only [go_sem, reduceIte, Nat.reduceEqDiff, hl])))
  all_goals exact hR _ _ (by (repeat (first | exact Sub.refl _ | assumption | (refine Sub.set' ?_ (by assumption))))) ⟨_, rfl, by omega, by omega⟩
theorem x_szVarS {v : V} {xs : List VarS} {t : Int} (hv : XVar v xs) (h0 : xs.length ≤ 9223372036854775807) (h1 : 0 ≤ t) (h2 : t ≤ 1048576) :
    VCall Tryz.prog n_laws_szVarS [v, .sc (.int .i64 t)] M (fun r M' => M = M' ∧ ∃ k : Int, r = .sc (.int .i64 k) ∧ k ≤ t ∧ (0 ≤ k → xs.length ≤ 1048576)) := by
  refine VCall.pure fun R hR => v_laws_szVarS rfl ?_
  have hl := hv.len fun _ _ h => h.len
  (repeat' (first | ((first | with_reducible refine cond_dec (fun h => ?_) (fun h => ?_) | with_reducible refine guardK_dec (fun h => ?_) (fun h => ?_) | with_reducible refine guardD3_dec (fun h => ?_) (fun h => ?_)) <;> first | (exfalso; omega) | (simp (maxSteps := 2000000) (disch := first | omega | assumption | exact idP rfl | exact idP (bL rfl)) only [go_sem, reduceIte, Nat.reduceEqDiff, h, hl]) | skip) | ((first | with_reducible refine cond_split (fun h => ?_) (fun h => ?_) | with_reducible refine guardK_split (fun h => ?_) (fun h => ?_) | with_reducible refine guardD3_split (fun h => ?_) (fun h => ?_)) <;> ((try simp only [Bool.not_eq_true', Bool.not_eq_false'] at h); first | (simp (maxSteps := 2000000) (disch := first | omega | assumption | exact idP rfl | exact idP (bL rfl)) only [go_sem, reduceIte, Nat.reduceEqDiff, h, hl]) | skip)) | (with_reducible intro bk hbk; try have hnk := (fresh_set hbk).1) | (simp (maxSteps := 2000000) (disch := first | omega | assumption | exact idP rfl | exact idP (bL rfl)) only [go_sem, reduceIte, Nat.reduceEqDiff, hl])))
  all_goals exact hR _ _ (by (repeat (first | exact Sub.refl _ | assumption | (refine Sub.set' ?_ (by assumption))))) ⟨_, rfl, by omega, by omega⟩
def LenOk {α : Type} (xs : List α) : Prop := xs.length ≤ 9223372036854775807
def RuleLen (r : RuleS) : Prop := LenOk r.when_ ∧ LenOk r.sets ∧ LenOk r.terms ∧ ∀ ts ∈ r.terms, LenOk ts
def RuleFit (r : RuleS) : Prop := r.when_.length ≤ 1048576 ∧ r.sets.length ≤ 1048576 ∧ r.terms.length ≤ 1048576 ∧ ∀ ts ∈ r.terms, ts.length ≤ 1048576
def SysLen (s : SysS) : Prop := LenOk s.vars ∧ LenOk s.rules ∧ ∀ r ∈ s.rules, RuleLen r
def SysFit (s : SysS) : Prop := s.vars.length ≤ 1048576 ∧ s.rules.length ≤ 1048576 ∧ ∀ r ∈ s.rules, RuleFit r
theorem x_szTermSS {v : V} {xs : List (List TermS)} {t : Int} (hv : XTT v xs) (h0 : LenOk xs) (hx : ∀ ts ∈ xs, LenOk ts) (h1 : 0 ≤ t) (h2 : t ≤ 1048576) :
    VCall Tryz.prog n_laws_szTermSS [v, .sc (.int .i64 t)] M (fun r M' => M = M' ∧ ∃ k : Int, r = .sc (.int .i64 k) ∧ k ≤ t ∧ (0 ≤ k → xs.length ≤ 1048576 ∧ ∀ ts ∈ xs, ts.length ≤ 1048576)) := by
  refine VCall.pure fun R hR => v_laws_szTermSS rfl ?_
  unfold LenOk at h0 hx
  have hl := hv.len fun _ _ h => h.len
  (repeat' (first | ((first | with_reducible refine cond_dec (fun h => ?_) (fun h => ?_) | with_reducible refine guardK_dec (fun h => ?_) (fun h => ?_) | with_reducible refine guardD3_dec (fun h => ?_) (fun h => ?_)) <;> first | (exfalso; omega) | (simp (maxSteps := 2000000) (disch := first | omega | assumption | exact idP rfl | exact idP (bL rfl)) only [go_sem, reduceIte, Nat.reduceEqDiff, h, hl]) | skip) | ((first | with_reducible refine cond_split (fun h => ?_) (fun h => ?_) | with_reducible refine guardK_split (fun h => ?_) (fun h => ?_) | with_reducible refine guardD3_split (fun h => ?_) (fun h => ?_)) <;> ((try simp only [Bool.not_eq_true', Bool.not_eq_false'] at h); first | (simp (maxSteps := 2000000) (disch := first | omega | assumption | exact idP rfl | exact idP (bL rfl)) only [go_sem, reduceIte, Nat.reduceEqDiff, h, hl]) | skip)) | (with_reducible intro bk hbk; try have hnk := (fresh_set hbk).1) | (simp (maxSteps := 2000000) (disch := first | omega | assumption | exact idP rfl | exact idP (bL rfl)) only [go_sem, reduceIte, Nat.reduceEqDiff, hl])))
  · exact hR _ _ (by (repeat (first | exact Sub.refl _ | assumption | (refine Sub.set' ?_ (by assumption))))) ⟨_, rfl, by omega, by omega⟩
  · refine loop_k (fun e M' => M' = M ∧ ∃ (i : Nat) (k : Int), i ≤ xs.length ∧ e 0 = v ∧ e 1 = .sc (.int .i64 k) ∧ e 5 = .sc (.int .i64 i) ∧ 0 ≤ k ∧ k ≤ t ∧ ∀ j (hj : j < xs.length), j < i → xs[j].length ≤ 1048576) (fun e _ => ctrV xs.length (e 5)) ?_ ?_
    · exact ⟨rfl, 0, t - xs.length, by omega, by simp (maxSteps := 2000000) (disch := first | omega | assumption | exact idP rfl | exact idP (bL rfl)) only [go_sem, reduceIte, Nat.reduceEqDiff], by simp (maxSteps := 2000000) (disch := first | omega | assumption | exact idP rfl | exact idP (bL rfl)) only [go_sem, reduceIte, Nat.reduceEqDiff], by simp (maxSteps := 2000000) (disch := first | omega | assumption | exact idP rfl | exact idP (bL rfl)) only [go_sem, reduceIte, Nat.reduceEqDiff]; rfl, by omega, by omega, fun j _ h => by omega⟩
    · rintro e _ ⟨rfl, i, k, hi, e0, e1, e5, k0, k1, hj⟩ K hK
      simp (maxSteps := 2000000) (disch := first | omega | assumption | exact idP rfl | exact idP (bL rfl)) only [go_sem, reduceIte, Nat.reduceEqDiff, e0, e1, e5, hl]
      refine cond_dec (fun h => ?_) (fun h => ?_)
      · have hi' : i < xs.length := by omega
        have hv' := hv.get (by omega)
        simp (maxSteps := 2000000) (disch := first | omega | assumption | exact idP rfl | exact idP (bL rfl)) only [go_sem, reduceIte, Nat.reduceEqDiff, e0, e1, e5, hv'.iaddr]
        refine (x_szTermS (hv'.elt hi') (hx _ (List.getElem_mem hi')) k0 (by omega)).mono ?_
        rintro _ _ ⟨rfl, k2, rfl, q1, q2⟩
        (repeat' (first | ((first | with_reducible refine cond_dec (fun h => ?_) (fun h => ?_) | with_reducible refine guardK_dec (fun h => ?_) (fun h => ?_) | with_reducible refine guardD3_dec (fun h => ?_) (fun h => ?_)) <;> first | (exfalso; omega) | (simp (maxSteps := 2000000) (disch := first | omega | assumption | exact idP rfl | exact idP (bL rfl)) only [go_sem, reduceIte, Nat.reduceEqDiff, h]) | skip) | ((first | with_reducible refine cond_split (fun h => ?_) (fun h => ?_) | with_reducible refine guardK_split (fun h => ?_) (fun h => ?_) | with_reducible refine guardD3_split (fun h => ?_) (fun h => ?_)) <;> ((try simp only [Bool.not_eq_true', Bool.not_eq_false'] at h); first | (simp (maxSteps := 2000000) (disch := first | omega | assumption | exact idP rfl | exact idP (bL rfl)) only [go_sem, reduceIte, Nat.reduceEqDiff, h]) | skip)) | (with_reducible intro bk hbk; try have hnk := (fresh_set hbk).1) | (simp (maxSteps := 2000000) (disch := first | omega | assumption | exact idP rfl | exact idP (bL rfl)) only [go_sem, reduceIte, Nat.reduceEqDiff])))
        · exact hR _ _ (by (repeat (first | exact Sub.refl _ | assumption | (refine Sub.set' ?_ (by assumption))))) ⟨_, rfl, by omega, by omega⟩
        · refine hK _ _ ⟨rfl, i + 1, k2, by omega, by simp (maxSteps := 2000000) (disch := first | omega | assumption | exact idP rfl | exact idP (bL rfl)) only [go_sem, reduceIte, Nat.reduceEqDiff, e0], by simp (maxSteps := 2000000) (disch := first | omega | assumption | exact idP rfl | exact idP (bL rfl)) only [go_sem, reduceIte, Nat.reduceEqDiff], by simp (maxSteps := 2000000) (disch := first | omega | assumption | exact idP rfl | exact idP (bL rfl)) only [go_sem, reduceIte, Nat.reduceEqDiff, e5]; rfl, by omega, by omega, fun j hj1 hj2 => ?_⟩ (by simp (maxSteps := 2000000) (disch := first | omega | assumption | exact idP rfl | exact idP (bL rfl)) only [go_sem, reduceIte, Nat.reduceEqDiff, ctrV_int, e5]; omega)
          by_cases hji : j = i
          · subst hji; exact q2 (by omega)
          · exact hj j hj1 (by omega)
      · obtain rfl : i = xs.length := by omega
        simp (maxSteps := 2000000) (disch := first | omega | assumption | exact idP rfl | exact idP (bL rfl)) only [go_sem, reduceIte, Nat.reduceEqDiff, e1]
        refine hR _ _ (by (repeat (first | exact Sub.refl _ | assumption | (refine Sub.set' ?_ (by assumption))))) ⟨_, rfl, by omega, fun _ => ⟨by omega, fun ts hts => ?_⟩⟩
        obtain ⟨j, hj1, rfl⟩ := List.getElem_of_mem hts
        exact hj j hj1 (by omega)
theorem x_szRule {cs : List V} {r : RuleS} {t : Int} (hv : isRuleX r cs) (h0 : RuleLen r) (h1 : 0 ≤ t) (h2 : t ≤ 1048576) :
    VCall Tryz.prog n_laws_szRule [.agg cs, .sc (.int .i64 t)] M (fun r' M' => M = M' ∧ ∃ k : Int, r' = .sc (.int .i64 k) ∧ k ≤ t ∧ (0 ≤ k → RuleFit r)) := by
  refine VCall.pure fun R hR => v_laws_szRule rfl ?_
  obtain ⟨a, b, c, rfl, ha, hb, hc⟩ := hv
  obtain ⟨l1, l2, l3, l4⟩ := h0
  (repeat' (first | ((first | with_reducible refine cond_dec (fun h => ?_) (fun h => ?_) | with_reducible refine guardK_dec (fun h => ?_) (fun h => ?_) | with_reducible refine guardD3_dec (fun h => ?_) (fun h => ?_)) <;> first | (exfalso; omega) | (simp (maxSteps := 2000000) (disch := first | omega | assumption | exact idP rfl | exact idP (bL rfl)) only [go_sem, reduceIte, Nat.reduceEqDiff, h]) | skip) | ((first | with_reducible refine cond_split (fun h => ?_) (fun h => ?_) | with_reducible refine guardK_split (fun h => ?_) (fun h => ?_) | with_reducible refine guardD3_split (fun h => ?_) (fun h => ?_)) <;> ((try simp only [Bool.not_eq_true', Bool.not_eq_false'] at h); first | (simp (maxSteps := 2000000) (disch := first | omega | assumption | exact idP rfl | exact idP (bL rfl)) only [go_sem, reduceIte, Nat.reduceEqDiff, h]) | skip)) | (with_reducible intro bk hbk; try have hnk := (fresh_set hbk).1) | (simp (maxSteps := 2000000) (disch := first | omega | assumption | exact idP rfl | exact idP (bL rfl)) only [go_sem, reduceIte, Nat.reduceEqDiff])))
  refine (x_szTermS ha l1 h1 h2).mono ?_
  rintro _ _ ⟨rfl, k1, rfl, p1, p2⟩
  (repeat' (first | ((first | with_reducible refine cond_dec (fun h => ?_) (fun h => ?_) | with_reducible refine guardK_dec (fun h => ?_) (fun h => ?_) | with_reducible refine guardD3_dec (fun h => ?_) (fun h => ?_)) <;> first | (exfalso; omega) | (simp (maxSteps := 2000000) (disch := first | omega | assumption | exact idP rfl | exact idP (bL rfl)) only [go_sem, reduceIte, Nat.reduceEqDiff, h]) | skip) | ((first | with_reducible refine cond_split (fun h => ?_) (fun h => ?_) | with_reducible refine guardK_split (fun h => ?_) (fun h => ?_) | with_reducible refine guardD3_split (fun h => ?_) (fun h => ?_)) <;> ((try simp only [Bool.not_eq_true', Bool.not_eq_false'] at h); first | (simp (maxSteps := 2000000) (disch := first | omega | assumption | exact idP rfl | exact idP (bL rfl)) only [go_sem, reduceIte, Nat.reduceEqDiff, h]) | skip)) | (with_reducible intro bk hbk; try have hnk := (fresh_set hbk).1) | (simp (maxSteps := 2000000) (disch := first | omega | assumption | exact idP rfl | exact idP (bL rfl)) only [go_sem, reduceIte, Nat.reduceEqDiff])))
  · exact hR _ _ (by (repeat (first | exact Sub.refl _ | assumption | (refine Sub.set' ?_ (by assumption))))) ⟨_, rfl, by omega, by omega⟩
  · refine (x_szIntS hb l2 (by omega) (by omega)).mono ?_
    rintro _ _ ⟨rfl, k2, rfl, q1, q2⟩
    (repeat' (first | ((first | with_reducible refine cond_dec (fun h => ?_) (fun h => ?_) | with_reducible refine guardK_dec (fun h => ?_) (fun h => ?_) | with_reducible refine guardD3_dec (fun h => ?_) (fun h => ?_)) <;> first | (exfalso; omega) | (simp (maxSteps := 2000000) (disch := first | omega | assumption | exact idP rfl | exact idP (bL rfl)) only [go_sem, reduceIte, Nat.reduceEqDiff, h]) | skip) | ((first | with_reducible refine cond_split (fun h => ?_) (fun h => ?_) | with_reducible refine guardK_split (fun h => ?_) (fun h => ?_) | with_reducible refine guardD3_split (fun h => ?_) (fun h => ?_)) <;> ((try simp only [Bool.not_eq_true', Bool.not_eq_false'] at h); first | (simp (maxSteps := 2000000) (disch := first | omega | assumption | exact idP rfl | exact idP (bL rfl)) only [go_sem, reduceIte, Nat.reduceEqDiff, h]) | skip)) | (with_reducible intro bk hbk; try have hnk := (fresh_set hbk).1) | (simp (maxSteps := 2000000) (disch := first | omega | assumption | exact idP rfl | exact idP (bL rfl)) only [go_sem, reduceIte, Nat.reduceEqDiff])))
    · exact hR _ _ (by (repeat (first | exact Sub.refl _ | assumption | (refine Sub.set' ?_ (by assumption))))) ⟨_, rfl, by omega, by omega⟩
    · refine (x_szTermSS hc l3 l4 (by omega) (by omega)).mono ?_
      rintro _ _ ⟨rfl, k3, rfl, w1, w2⟩
      (repeat' (first | ((first | with_reducible refine cond_dec (fun h => ?_) (fun h => ?_) | with_reducible refine guardK_dec (fun h => ?_) (fun h => ?_) | with_reducible refine guardD3_dec (fun h => ?_) (fun h => ?_)) <;> first | (exfalso; omega) | (simp (maxSteps := 2000000) (disch := first | omega | assumption | exact idP rfl | exact idP (bL rfl)) only [go_sem, reduceIte, Nat.reduceEqDiff, h]) | skip) | ((first | with_reducible refine cond_split (fun h => ?_) (fun h => ?_) | with_reducible refine guardK_split (fun h => ?_) (fun h => ?_) | with_reducible refine guardD3_split (fun h => ?_) (fun h => ?_)) <;> ((try simp only [Bool.not_eq_true', Bool.not_eq_false'] at h); first | (simp (maxSteps := 2000000) (disch := first | omega | assumption | exact idP rfl | exact idP (bL rfl)) only [go_sem, reduceIte, Nat.reduceEqDiff, h]) | skip)) | (with_reducible intro bk hbk; try have hnk := (fresh_set hbk).1) | (simp (maxSteps := 2000000) (disch := first | omega | assumption | exact idP rfl | exact idP (bL rfl)) only [go_sem, reduceIte, Nat.reduceEqDiff])))
      · exact hR _ _ (by (repeat (first | exact Sub.refl _ | assumption | (refine Sub.set' ?_ (by assumption))))) ⟨_, rfl, by omega, by omega⟩
      · exact hR _ _ (by (repeat (first | exact Sub.refl _ | assumption | (refine Sub.set' ?_ (by assumption))))) ⟨_, rfl, by omega, fun h => ⟨p2 (by omega), q2 (by omega), (w2 h).1, (w2 h).2⟩⟩
theorem x_szRuleS {v : V} {xs : List RuleS} {t : Int} (hv : XR v xs) (h0 : LenOk xs) (hx : ∀ r ∈ xs, RuleLen r) (h1 : 0 ≤ t) (h2 : t ≤ 1048576) :
    VCall Tryz.prog n_laws_szRuleS [v, .sc (.int .i64 t)] M (fun r M' => M = M' ∧ ∃ k : Int, r = .sc (.int .i64 k) ∧ k ≤ t ∧ (0 ≤ k → xs.length ≤ 1048576 ∧ ∀ r ∈ xs, RuleFit r)) := by
  refine VCall.pure fun R hR => v_laws_szRuleS rfl ?_
  unfold LenOk at h0
  have hl := hv.len fun _ _ h => h.len
  (repeat' (first | ((first | with_reducible refine cond_dec (fun h => ?_) (fun h => ?_) | with_reducible refine guardK_dec (fun h => ?_) (fun h => ?_) | with_reducible refine guardD3_dec (fun h => ?_) (fun h => ?_)) <;> first | (exfalso; omega) | (simp (maxSteps := 2000000) (disch := first | omega | assumption | exact idP rfl | exact idP (bL rfl)) only [go_sem, reduceIte, Nat.reduceEqDiff, h, hl]) | skip) | ((first | with_reducible refine cond_split (fun h => ?_) (fun h => ?_) | with_reducible refine guardK_split (fun h => ?_) (fun h => ?_) | with_reducible refine guardD3_split (fun h => ?_) (fun h => ?_)) <;> ((try simp only [Bool.not_eq_true', Bool.not_eq_false'] at h); first | (simp (maxSteps := 2000000) (disch := first | omega | assumption | exact idP rfl | exact idP (bL rfl)) only [go_sem, reduceIte, Nat.reduceEqDiff, h, hl]) | skip)) | (with_reducible intro bk hbk; try have hnk := (fresh_set hbk).1) | (simp (maxSteps := 2000000) (disch := first | omega | assumption | exact idP rfl | exact idP (bL rfl)) only [go_sem, reduceIte, Nat.reduceEqDiff, hl])))
  · exact hR _ _ (by (repeat (first | exact Sub.refl _ | assumption | (refine Sub.set' ?_ (by assumption))))) ⟨_, rfl, by omega, by omega⟩
  · refine loop_k (fun e M' => M' = M ∧ ∃ (i : Nat) (k : Int), i ≤ xs.length ∧ e 0 = v ∧ e 1 = .sc (.int .i64 k) ∧ e 5 = .sc (.int .i64 i) ∧ 0 ≤ k ∧ k ≤ t ∧ ∀ j (hj : j < xs.length), j < i → RuleFit xs[j]) (fun e _ => ctrV xs.length (e 5)) ?_ ?_
    · exact ⟨rfl, 0, t - xs.length, by omega, by simp (maxSteps := 2000000) (disch := first | omega | assumption | exact idP rfl | exact idP (bL rfl)) only [go_sem, reduceIte, Nat.reduceEqDiff], by simp (maxSteps := 2000000) (disch := first | omega | assumption | exact idP rfl | exact idP (bL rfl)) only [go_sem, reduceIte, Nat.reduceEqDiff], by simp (maxSteps := 2000000) (disch := first | omega | assumption | exact idP rfl | exact idP (bL rfl)) only [go_sem, reduceIte, Nat.reduceEqDiff]; rfl, by omega, by omega, fun j _ h => by omega⟩
    · rintro e _ ⟨rfl, i, k, hi, e0, e1, e5, k0, k1, hj⟩ K hK
      simp (maxSteps := 2000000) (disch := first | omega | assumption | exact idP rfl | exact idP (bL rfl)) only [go_sem, reduceIte, Nat.reduceEqDiff, e0, e1, e5, hl]
      refine cond_dec (fun h => ?_) (fun h => ?_)
      · have hi' : i < xs.length := by omega
        have hv' := hv.get (by omega)
        have hcs := hv'.elt hi'
        have hrule := hcs
        obtain ⟨c1, c2, c3, hat, _, _, _⟩ := hcs
        rw [hat] at hrule
        simp (maxSteps := 2000000) (disch := first | omega | assumption | exact idP rfl | exact idP (bL rfl)) only [go_sem, reduceIte, Nat.reduceEqDiff, e0, e1, e5, hv'.iaddr, hat]
        refine (x_szRule hrule (hx _ (List.getElem_mem hi')) k0 (by omega)).mono ?_
        rintro _ _ ⟨rfl, k2, rfl, q1, q2⟩
        (repeat' (first | ((first | with_reducible refine cond_dec (fun h => ?_) (fun h => ?_) | with_reducible refine guardK_dec (fun h => ?_) (fun h => ?_) | with_reducible refine guardD3_dec (fun h => ?_) (fun h => ?_)) <;> first | (exfalso; omega) | (simp (maxSteps := 2000000) (disch := first | omega | assumption | exact idP rfl | exact idP (bL rfl)) only [go_sem, reduceIte, Nat.reduceEqDiff, h]) | skip) | ((first | with_reducible refine cond_split (fun h => ?_) (fun h => ?_) | with_reducible refine guardK_split (fun h => ?_) (fun h => ?_) | with_reducible refine guardD3_split (fun h => ?_) (fun h => ?_)) <;> ((try simp only [Bool.not_eq_true', Bool.not_eq_false'] at h); first | (simp (maxSteps := 2000000) (disch := first | omega | assumption | exact idP rfl | exact idP (bL rfl)) only [go_sem, reduceIte, Nat.reduceEqDiff, h]) | skip)) | (with_reducible intro bk hbk; try have hnk := (fresh_set hbk).1) | (simp (maxSteps := 2000000) (disch := first | omega | assumption | exact idP rfl | exact idP (bL rfl)) only [go_sem, reduceIte, Nat.reduceEqDiff])))
        · exact hR _ _ (by (repeat (first | exact Sub.refl _ | assumption | (refine Sub.set' ?_ (by assumption))))) ⟨_, rfl, by omega, by omega⟩
        · refine hK _ _ ⟨rfl, i + 1, k2, by omega, by simp (maxSteps := 2000000) (disch := first | omega | assumption | exact idP rfl | exact idP (bL rfl)) only [go_sem, reduceIte, Nat.reduceEqDiff, e0], by simp (maxSteps := 2000000) (disch := first | omega | assumption | exact idP rfl | exact idP (bL rfl)) only [go_sem, reduceIte, Nat.reduceEqDiff], by simp (maxSteps := 2000000) (disch := first | omega | assumption | exact idP rfl | exact idP (bL rfl)) only [go_sem, reduceIte, Nat.reduceEqDiff, e5]; rfl, by omega, by omega, fun j hj1 hj2 => ?_⟩ (by simp (maxSteps := 2000000) (disch := first | omega | assumption | exact idP rfl | exact idP (bL rfl)) only [go_sem, reduceIte, Nat.reduceEqDiff, ctrV_int, e5]; omega)
          by_cases hji : j = i
          · subst hji; exact q2 (by omega)
          · exact hj j hj1 (by omega)
      · obtain rfl : i = xs.length := by omega
        simp (maxSteps := 2000000) (disch := first | omega | assumption | exact idP rfl | exact idP (bL rfl)) only [go_sem, reduceIte, Nat.reduceEqDiff, e1]
        refine hR _ _ (by (repeat (first | exact Sub.refl _ | assumption | (refine Sub.set' ?_ (by assumption))))) ⟨_, rfl, by omega, fun _ => ⟨by omega, fun ts hts => ?_⟩⟩
        obtain ⟨j, hj1, rfl⟩ := List.getElem_of_mem hts
        exact hj j hj1 (by omega)
theorem x_szSystem {v : V} {s : SysS} {t : Int} (hv : isSysX s v) (h0 : SysLen s) (h1 : 0 ≤ t) (h2 : t ≤ 1048576) :
    VCall Tryz.prog n_laws_szSystem [v, .sc (.int .i64 t)] M (fun r M' => M = M' ∧ ∃ k : Int, r = .sc (.int .i64 k) ∧ k ≤ t ∧ (0 ≤ k → SysFit s)) := by
  refine VCall.pure fun R hR => v_laws_szSystem rfl ?_
  obtain ⟨a, b, rfl, ha, hb⟩ := hv
  obtain ⟨l1, l2, l3⟩ := h0
  (repeat' (first | ((first | with_reducible refine cond_dec (fun h => ?_) (fun h => ?_) | with_reducible refine guardK_dec (fun h => ?_) (fun h => ?_) | with_reducible refine guardD3_dec (fun h => ?_) (fun h => ?_)) <;> first | (exfalso; omega) | (simp (maxSteps := 2000000) (disch := first | omega | assumption | exact idP rfl | exact idP (bL rfl)) only [go_sem, reduceIte, Nat.reduceEqDiff, h]) | skip) | ((first | with_reducible refine cond_split (fun h => ?_) (fun h => ?_) | with_reducible refine guardK_split (fun h => ?_) (fun h => ?_) | with_reducible refine guardD3_split (fun h => ?_) (fun h => ?_)) <;> ((try simp only [Bool.not_eq_true', Bool.not_eq_false'] at h); first | (simp (maxSteps := 2000000) (disch := first | omega | assumption | exact idP rfl | exact idP (bL rfl)) only [go_sem, reduceIte, Nat.reduceEqDiff, h]) | skip)) | (with_reducible intro bk hbk; try have hnk := (fresh_set hbk).1) | (simp (maxSteps := 2000000) (disch := first | omega | assumption | exact idP rfl | exact idP (bL rfl)) only [go_sem, reduceIte, Nat.reduceEqDiff])))
  refine (x_szVarS ha l1 h1 h2).mono ?_
  rintro _ _ ⟨rfl, k1, rfl, p1, p2⟩
  (repeat' (first | ((first | with_reducible refine cond_dec (fun h => ?_) (fun h => ?_) | with_reducible refine guardK_dec (fun h => ?_) (fun h => ?_) | with_reducible refine guardD3_dec (fun h => ?_) (fun h => ?_)) <;> first | (exfalso; omega) | (simp (maxSteps := 2000000) (disch := first | omega | assumption | exact idP rfl | exact idP (bL rfl)) only [go_sem, reduceIte, Nat.reduceEqDiff, h]) | skip) | ((first | with_reducible refine cond_split (fun h => ?_) (fun h => ?_) | with_reducible refine guardK_split (fun h => ?_) (fun h => ?_) | with_reducible refine guardD3_split (fun h => ?_) (fun h => ?_)) <;> ((try simp only [Bool.not_eq_true', Bool.not_eq_false'] at h); first | (simp (maxSteps := 2000000) (disch := first | omega | assumption | exact idP rfl | exact idP (bL rfl)) only [go_sem, reduceIte, Nat.reduceEqDiff, h]) | skip)) | (with_reducible intro bk hbk; try have hnk := (fresh_set hbk).1) | (simp (maxSteps := 2000000) (disch := first | omega | assumption | exact idP rfl | exact idP (bL rfl)) only [go_sem, reduceIte, Nat.reduceEqDiff])))
  · exact hR _ _ (by (repeat (first | exact Sub.refl _ | assumption | (refine Sub.set' ?_ (by assumption))))) ⟨_, rfl, by omega, by omega⟩
  · refine (x_szRuleS hb l2 l3 (by omega) (by omega)).mono ?_
    rintro _ _ ⟨rfl, k2, rfl, q1, q2⟩
    (repeat' (first | ((first | with_reducible refine cond_dec (fun h => ?_) (fun h => ?_) | with_reducible refine guardK_dec (fun h => ?_) (fun h => ?_) | with_reducible refine guardD3_dec (fun h => ?_) (fun h => ?_)) <;> first | (exfalso; omega) | (simp (maxSteps := 2000000) (disch := first | omega | assumption | exact idP rfl | exact idP (bL rfl)) only [go_sem, reduceIte, Nat.reduceEqDiff, h]) | skip) | ((first | with_reducible refine cond_split (fun h => ?_) (fun h => ?_) | with_reducible refine guardK_split (fun h => ?_) (fun h => ?_) | with_reducible refine guardD3_split (fun h => ?_) (fun h => ?_)) <;> ((try simp only [Bool.not_eq_true', Bool.not_eq_false'] at h); first | (simp (maxSteps := 2000000) (disch := first | omega | assumption | exact idP rfl | exact idP (bL rfl)) only [go_sem, reduceIte, Nat.reduceEqDiff, h]) | skip)) | (with_reducible intro bk hbk; try have hnk := (fresh_set hbk).1) | (simp (maxSteps := 2000000) (disch := first | omega | assumption | exact idP rfl | exact idP (bL rfl)) only [go_sem, reduceIte, Nat.reduceEqDiff])))
    · exact hR _ _ (by (repeat (first | exact Sub.refl _ | assumption | (refine Sub.set' ?_ (by assumption))))) ⟨_, rfl, by omega, by omega⟩
    · exact hR _ _ (by (repeat (first | exact Sub.refl _ | assumption | (refine Sub.set' ?_ (by assumption))))) ⟨_, rfl, by omega, fun h => ⟨p2 (by omega), (q2 h).1, (q2 h).2⟩⟩
end Go.M2

namespace Go.M2
open Go.Proofs
variable {M : MH}
theorem x_toIntS {v : V} {xs : List Int} (hv : XI v xs) (hl : xs.length ≤ 1048576) : VCall Tryz.prog n_laws_toIntS [v] M (fun r M' => Gr 1 M M' r (xs.map vi)) := by
  refine VCall.plain fun R hR => v_laws_toIntS rfl ?_
  have hlen := hv.len fun _ _ h => h.len
  simp (maxSteps := 2000000) (disch := first | omega | assumption | exact idP rfl | exact idP (bL rfl)) only [go_sem, reduceIte, Nat.reduceEqDiff, hlen]
  refine mks3 (by omega) (by simp [mostCells]; omega) (by simp [mostCells]; omega) ?_
  intro b3 hb3
  simp (maxSteps := 2000000) (disch := first | omega | assumption | exact idP rfl | exact idP (bL rfl)) only [go_sem, reduceIte, Nat.reduceEqDiff, zeros_vi]
  refine loop_k (fun e M' => ∃ i : Nat, i ≤ xs.length ∧ e 0 = v ∧ e 3 = .sc (.sl (some (b3, 0)) xs.length xs.length true 1) ∧ e 4 = .sc (.int .i64 i) ∧ Sub M M' ∧ M' b3 = some ((xs.take i ++ List.replicate (xs.length - i) 0).map vi)) (fun e _ => ctrV xs.length (e 4)) ?_ ?_
  · exact ⟨0, by omega, by simp (maxSteps := 2000000) (disch := first | omega | assumption | exact idP rfl | exact idP (bL rfl)) only [go_sem, reduceIte, Nat.reduceEqDiff], by simp (maxSteps := 2000000) (disch := first | omega | assumption | exact idP rfl | exact idP (bL rfl)) only [go_sem, reduceIte, Nat.reduceEqDiff], by simp (maxSteps := 2000000) (disch := first | omega | assumption | exact idP rfl | exact idP (bL rfl)) only [go_sem, reduceIte, Nat.reduceEqDiff]; rfl, (Sub.refl _).set hb3, by simp (maxSteps := 2000000) (disch := first | omega | assumption | exact idP rfl | exact idP (bL rfl)) only [go_sem, reduceIte, Nat.reduceEqDiff]; simp⟩
  · rintro e M1 ⟨i, hi, e0, e3, e4, hsub, hm⟩ K hK
    simp (maxSteps := 2000000) (disch := first | omega | assumption | exact idP rfl | exact idP (bL rfl)) only [go_sem, reduceIte, Nat.reduceEqDiff, e0, e3, e4, hlen]
    refine cond_dec (fun h => ?_) (fun h => ?_)
    · have hi' : i < xs.length := by omega
      have hv' := hv.get (by omega)
      have hso : i < ((xs.take i ++ List.replicate (xs.length - i) 0).map vi).length := by rw [len_vi]; simp; omega
      simp (maxSteps := 2000000) (disch := first | omega | assumption | exact idP rfl | exact idP (bL rfl)) only [go_sem, reduceIte, Nat.reduceEqDiff, e0, e3, e4, hv'.iaddr, hv'.at hi', hm]
      refine hK _ _ ⟨i + 1, by omega, by simp (maxSteps := 2000000) (disch := first | omega | assumption | exact idP rfl | exact idP (bL rfl)) only [go_sem, reduceIte, Nat.reduceEqDiff], by simp (maxSteps := 2000000) (disch := first | omega | assumption | exact idP rfl | exact idP (bL rfl)) only [go_sem, reduceIte, Nat.reduceEqDiff], by simp (maxSteps := 2000000) (disch := first | omega | assumption | exact idP rfl | exact idP (bL rfl)) only [go_sem, reduceIte, Nat.reduceEqDiff]; rfl, hsub.set hb3, ?_⟩ (by simp (maxSteps := 2000000) (disch := first | omega | assumption | exact idP rfl | exact idP (bL rfl)) only [go_sem, reduceIte, Nat.reduceEqDiff, ctrV_int, e4]; omega)
      simp (maxSteps := 2000000) (disch := first | omega | assumption | exact idP rfl | exact idP (bL rfl)) only [go_sem, reduceIte, Nat.reduceEqDiff]
      rw [set_vi, show xs.length - i = (xs.length - (i + 1)) + 1 by omega, List.replicate_succ, take_snoc hi', List.set_append_right _ _ (by simp; omega)]
      have : i - (xs.take i).length = 0 := by simp; omega
      rw [this]
      simp only [List.set_cons_zero, List.append_assoc, List.singleton_append]
    · obtain rfl : i = xs.length := by omega
      simp only [List.take_length, Nat.sub_self, List.replicate_zero, List.append_nil] at hm
      simp (maxSteps := 2000000) (disch := first | omega | assumption | exact idP rfl | exact idP (bL rfl)) only [go_sem, reduceIte, Nat.reduceEqDiff, e3]
      exact hR _ _ ⟨hsub, fun b' h' => by simp [blkV] at h'; subst h'; exact hb3, .inr ⟨b3, _, true, rfl, hm, by rw [len_vi]; omega⟩⟩
theorem f_toIntS {v : V} {xs : List Int} (hv : XI v xs) (hl : xs.length ≤ 1048576) : VCall Tryz.prog n_laws_toIntS [v] M (fun r M' => M = M' ∧ LI r xs) :=
  (VCall.fr1 (x_toIntS hv hl)).mono fun r M' ⟨h1, h2⟩ => ⟨h1, h2.li⟩
theorem x_toVar {x : VarS} : VCall Tryz.prog n_laws_toVar [.agg (encVar x)] M (fun r M' => M = M' ∧ r = .agg (encVar x)) := by
  refine VCall.pure fun R hR => v_laws_toVar rfl ?_
  simp (maxSteps := 2000000) (disch := first | omega | assumption | exact idP rfl | exact idP (bL rfl)) only [go_sem, reduceIte, Nat.reduceEqDiff, encVar]
  intro b1 hb1
  try simp (maxSteps := 2000000) (disch := first | omega | assumption | exact idP rfl | exact idP (bL rfl)) only [go_sem, reduceIte, Nat.reduceEqDiff]
  intro b2 hb2
  try simp (maxSteps := 2000000) (disch := first | omega | assumption | exact idP rfl | exact idP (bL rfl)) only [go_sem, reduceIte, Nat.reduceEqDiff]
  intro b3 hb3
  have n21 := (fresh_set hb2).1
  have n32 := (fresh_set hb3).1
  have n31 := (fresh_set (fresh_set hb3).2).1
  simp (maxSteps := 2000000) (disch := first | omega | assumption | exact idP rfl | exact idP (bL rfl)) only [go_sem, reduceIte, Nat.reduceEqDiff]
  exact hR _ _ (Sub.set (by (repeat (first | exact Sub.refl _ | assumption | (refine Sub.set' ?_ (by assumption))))) (fresh_set hb2).2) rfl
theorem x_toTerm {x : TermS} : VCall Tryz.prog n_laws_toTerm [.agg (encT x)] M (fun r M' => M = M' ∧ r = .agg (encT x)) := by
  refine VCall.pure fun R hR => v_laws_toTerm rfl ?_
  simp (maxSteps := 2000000) (disch := first | omega | assumption | exact idP rfl | exact idP (bL rfl)) only [go_sem, reduceIte, Nat.reduceEqDiff, encT]
  intro b1 hb1
  try simp (maxSteps := 2000000) (disch := first | omega | assumption | exact idP rfl | exact idP (bL rfl)) only [go_sem, reduceIte, Nat.reduceEqDiff]
  intro b2 hb2
  try simp (maxSteps := 2000000) (disch := first | omega | assumption | exact idP rfl | exact idP (bL rfl)) only [go_sem, reduceIte, Nat.reduceEqDiff]
  intro b3 hb3
  have n21 := (fresh_set hb2).1
  have n32 := (fresh_set hb3).1
  have n31 := (fresh_set (fresh_set hb3).2).1
  simp (maxSteps := 2000000) (disch := first | omega | assumption | exact idP rfl | exact idP (bL rfl)) only [go_sem, reduceIte, Nat.reduceEqDiff]
  exact hR _ _ (Sub.set (by (repeat (first | exact Sub.refl _ | assumption | (refine Sub.set' ?_ (by assumption))))) (fresh_set hb2).2) rfl
theorem x_eqIntS {v w : V} {xs ys : List Int} (hv : LI v xs) (hw : LI w ys) (hl : xs.length ≤ 1048576) : VCall Tryz.prog n_laws_eqIntS [v, w] M (fun r M' => M = M' ∧ r = .sc (.bool (decide (xs = ys)))) := by
  refine VCall.pure fun R hR => v_laws_eqIntS rfl ?_
  (repeat' (first | ((first | with_reducible refine cond_dec (fun h => ?_) (fun h => ?_) | with_reducible refine guardK_dec (fun h => ?_) (fun h => ?_) | with_reducible refine guardD3_dec (fun h => ?_) (fun h => ?_)) <;> first | (exfalso; omega) | (simp (maxSteps := 2000000) (disch := first | omega | assumption | exact idP rfl | exact idP (bL rfl)) only [go_sem, reduceIte, Nat.reduceEqDiff, h, hv.len, hw.len]) | skip) | ((first | with_reducible refine cond_split (fun h => ?_) (fun h => ?_) | with_reducible refine guardK_split (fun h => ?_) (fun h => ?_) | with_reducible refine guardD3_split (fun h => ?_) (fun h => ?_)) <;> ((try simp only [Bool.not_eq_true', Bool.not_eq_false'] at h); first | (simp (maxSteps := 2000000) (disch := first | omega | assumption | exact idP rfl | exact idP (bL rfl)) only [go_sem, reduceIte, Nat.reduceEqDiff, h, hv.len, hw.len]) | skip)) | (with_reducible intro bk hbk; try have hnk := (fresh_set hbk).1) | (simp (maxSteps := 2000000) (disch := first | omega | assumption | exact idP rfl | exact idP (bL rfl)) only [go_sem, reduceIte, Nat.reduceEqDiff, hv.len, hw.len])))
  · refine hR _ _ (by (repeat (first | exact Sub.refl _ | assumption | (refine Sub.set' ?_ (by assumption))))) ?_
    have : ¬ xs = ys := fun e => by subst e; omega
    simp [this]
  · have hlen : xs.length = ys.length := by omega
    refine loop_k (fun e M' => M' = M ∧ ∃ i : Nat, i ≤ xs.length ∧ e 0 = v ∧ e 1 = w ∧ e 5 = .sc (.int .i64 i) ∧ xs.take i = ys.take i) (fun e _ => ctrV xs.length (e 5)) ?_ ?_
    · exact ⟨rfl, 0, by omega, by simp (maxSteps := 2000000) (disch := first | omega | assumption | exact idP rfl | exact idP (bL rfl)) only [go_sem, reduceIte, Nat.reduceEqDiff], by simp (maxSteps := 2000000) (disch := first | omega | assumption | exact idP rfl | exact idP (bL rfl)) only [go_sem, reduceIte, Nat.reduceEqDiff], by simp (maxSteps := 2000000) (disch := first | omega | assumption | exact idP rfl | exact idP (bL rfl)) only [go_sem, reduceIte, Nat.reduceEqDiff]; rfl, rfl⟩
    · rintro e _ ⟨rfl, i, hi, e0, e1, e5, ht⟩ K hK
      simp (maxSteps := 2000000) (disch := first | omega | assumption | exact idP rfl | exact idP (bL rfl)) only [go_sem, reduceIte, Nat.reduceEqDiff, e0, e1, e5, hv.len]
      refine cond_dec (fun h => ?_) (fun h => ?_)
      · have hi1 : i < xs.length := by omega
        have hi2 : i < ys.length := by omega
        simp (maxSteps := 2000000) (disch := first | omega | assumption | exact idP rfl | exact idP (bL rfl)) only [go_sem, reduceIte, Nat.reduceEqDiff, e0, e1, e5, hv.iaddr, hw.iaddr, hv.at hi1, hw.at hi2]
        refine cond_dec (fun h2 => ?_) (fun h2 => ?_)
        · simp (maxSteps := 2000000) (disch := first | omega | assumption | exact idP rfl | exact idP (bL rfl)) only [go_sem, reduceIte, Nat.reduceEqDiff]
          refine hR _ _ (by (repeat (first | exact Sub.refl _ | assumption | (refine Sub.set' ?_ (by assumption))))) ?_
          have : ¬ xs = ys := fun e => by subst e; exact h2 rfl
          simp [this]
        · simp (maxSteps := 2000000) (disch := first | omega | assumption | exact idP rfl | exact idP (bL rfl)) only [go_sem, reduceIte, Nat.reduceEqDiff, e0, e1, e5]
          exact hK _ _ ⟨rfl, i + 1, by omega, by simp (maxSteps := 2000000) (disch := first | omega | assumption | exact idP rfl | exact idP (bL rfl)) only [go_sem, reduceIte, Nat.reduceEqDiff], by simp (maxSteps := 2000000) (disch := first | omega | assumption | exact idP rfl | exact idP (bL rfl)) only [go_sem, reduceIte, Nat.reduceEqDiff], by simp (maxSteps := 2000000) (disch := first | omega | assumption | exact idP rfl | exact idP (bL rfl)) only [go_sem, reduceIte, Nat.reduceEqDiff]; rfl, by rw [take_snoc hi1, take_snoc hi2, ht, Decidable.not_not.1 h2]⟩ (by simp (maxSteps := 2000000) (disch := first | omega | assumption | exact idP rfl | exact idP (bL rfl)) only [go_sem, reduceIte, Nat.reduceEqDiff, ctrV_int, e5]; omega)
      · obtain rfl : i = xs.length := by omega
        simp (maxSteps := 2000000) (disch := first | omega | assumption | exact idP rfl | exact idP (bL rfl)) only [go_sem, reduceIte, Nat.reduceEqDiff]
        refine hR _ _ (by (repeat (first | exact Sub.refl _ | assumption | (refine Sub.set' ?_ (by assumption))))) ?_
        rw [List.take_length, hlen, List.take_length] at ht
        simp [ht]
end Go.M2

namespace Go.M2
open Go.Proofs
variable {M : MH}
theorem x_eqVar {x : VarS} : VCall Tryz.prog n_laws_eqVar [.agg (encVar x), .agg (encVar x)] M (fun r M' => M = M' ∧ r = .sc (.bool true)) := by
  refine VCall.pure fun R hR => v_laws_eqVar rfl ?_
  (repeat' (first | ((first | with_reducible refine cond_dec (fun h => ?_) (fun h => ?_) | with_reducible refine guardK_dec (fun h => ?_) (fun h => ?_) | with_reducible refine guardD3_dec (fun h => ?_) (fun h => ?_)) <;> first | (exfalso; omega) | (simp (maxSteps := 2000000) (disch := first | omega | assumption | exact idP rfl | exact idP (bL rfl)) only [go_sem, reduceIte, Nat.reduceEqDiff, h, encVar]) | skip) | ((first | with_reducible refine cond_split (fun h => ?_) (fun h => ?_) | with_reducible refine guardK_split (fun h => ?_) (fun h => ?_) | with_reducible refine guardD3_split (fun h => ?_) (fun h => ?_)) <;> ((try simp only [Bool.not_eq_true', Bool.not_eq_false'] at h); first | (simp (maxSteps := 2000000) (disch := first | omega | assumption | exact idP rfl | exact idP (bL rfl)) only [go_sem, reduceIte, Nat.reduceEqDiff, h, encVar]) | skip)) | (with_reducible intro bk hbk; try have hnk := (fresh_set hbk).1) | (simp (maxSteps := 2000000) (disch := first | omega | assumption | exact idP rfl | exact idP (bL rfl)) only [go_sem, reduceIte, Nat.reduceEqDiff, encVar])))
  all_goals exact hR _ _ (by (repeat (first | exact Sub.refl _ | assumption | (refine Sub.set' ?_ (by assumption))))) rfl
theorem x_eqTerm {x : TermS} : VCall Tryz.prog n_laws_eqTerm [.agg (encT x), .agg (encT x)] M (fun r M' => M = M' ∧ r = .sc (.bool true)) := by
  refine VCall.pure fun R hR => v_laws_eqTerm rfl ?_
  (repeat' (first | ((first | with_reducible refine cond_dec (fun h => ?_) (fun h => ?_) | with_reducible refine guardK_dec (fun h => ?_) (fun h => ?_) | with_reducible refine guardD3_dec (fun h => ?_) (fun h => ?_)) <;> first | (exfalso; omega) | (simp (maxSteps := 2000000) (disch := first | omega | assumption | exact idP rfl | exact idP (bL rfl)) only [go_sem, reduceIte, Nat.reduceEqDiff, h, encT]) | skip) | ((first | with_reducible refine cond_split (fun h => ?_) (fun h => ?_) | with_reducible refine guardK_split (fun h => ?_) (fun h => ?_) | with_reducible refine guardD3_split (fun h => ?_) (fun h => ?_)) <;> ((try simp only [Bool.not_eq_true', Bool.not_eq_false'] at h); first | (simp (maxSteps := 2000000) (disch := first | omega | assumption | exact idP rfl | exact idP (bL rfl)) only [go_sem, reduceIte, Nat.reduceEqDiff, h, encT]) | skip)) | (with_reducible intro bk hbk; try have hnk := (fresh_set hbk).1) | (simp (maxSteps := 2000000) (disch := first | omega | assumption | exact idP rfl | exact idP (bL rfl)) only [go_sem, reduceIte, Nat.reduceEqDiff, encT])))
  all_goals exact hR _ _ (by (repeat (first | exact Sub.refl _ | assumption | (refine Sub.set' ?_ (by assumption))))) rfl
theorem x_eqVarS {v w : V} {xs : List VarS} (hv : LVar v xs) (hw : LVar w xs) (hl : xs.length ≤ 1048576) : VCall Tryz.prog n_laws_eqVarS [v, w] M (fun r M' => M = M' ∧ r = .sc (.bool true)) := by
  refine VCall.pure fun R hR => v_laws_eqVarS rfl ?_
  (repeat' (first | ((first | with_reducible refine cond_dec (fun h => ?_) (fun h => ?_) | with_reducible refine guardK_dec (fun h => ?_) (fun h => ?_) | with_reducible refine guardD3_dec (fun h => ?_) (fun h => ?_)) <;> first | (exfalso; omega) | (simp (maxSteps := 2000000) (disch := first | omega | assumption | exact idP rfl | exact idP (bL rfl)) only [go_sem, reduceIte, Nat.reduceEqDiff, h, hv.len, hw.len]) | skip) | ((first | with_reducible refine cond_split (fun h => ?_) (fun h => ?_) | with_reducible refine guardK_split (fun h => ?_) (fun h => ?_) | with_reducible refine guardD3_split (fun h => ?_) (fun h => ?_)) <;> ((try simp only [Bool.not_eq_true', Bool.not_eq_false'] at h); first | (simp (maxSteps := 2000000) (disch := first | omega | assumption | exact idP rfl | exact idP (bL rfl)) only [go_sem, reduceIte, Nat.reduceEqDiff, h, hv.len, hw.len]) | skip)) | (with_reducible intro bk hbk; try have hnk := (fresh_set hbk).1) | (simp (maxSteps := 2000000) (disch := first | omega | assumption | exact idP rfl | exact idP (bL rfl)) only [go_sem, reduceIte, Nat.reduceEqDiff, hv.len, hw.len])))
  refine loop_k (fun e M' => M' = M ∧ ∃ i : Nat, i ≤ xs.length ∧ e 0 = v ∧ e 1 = w ∧ e 5 = .sc (.int .i64 i)) (fun e _ => ctrV xs.length (e 5)) ?_ ?_
  · exact ⟨rfl, 0, by omega, by simp (maxSteps := 2000000) (disch := first | omega | assumption | exact idP rfl | exact idP (bL rfl)) only [go_sem, reduceIte, Nat.reduceEqDiff], by simp (maxSteps := 2000000) (disch := first | omega | assumption | exact idP rfl | exact idP (bL rfl)) only [go_sem, reduceIte, Nat.reduceEqDiff], by simp (maxSteps := 2000000) (disch := first | omega | assumption | exact idP rfl | exact idP (bL rfl)) only [go_sem, reduceIte, Nat.reduceEqDiff]; rfl⟩
  · rintro e _ ⟨rfl, i, hi, e0, e1, e5⟩ K hK
    simp (maxSteps := 2000000) (disch := first | omega | assumption | exact idP rfl | exact idP (bL rfl)) only [go_sem, reduceIte, Nat.reduceEqDiff, e0, e1, e5, hv.len]
    refine cond_dec (fun h => ?_) (fun h => ?_)
    · have hi1 : i < xs.length := by omega
      have a1 : atN 3 v i = encVar xs[i] := hv.elt hi1
      have a2 : atN 3 w i = encVar xs[i] := hw.elt hi1
      simp (maxSteps := 2000000) (disch := first | omega | assumption | exact idP rfl | exact idP (bL rfl)) only [go_sem, reduceIte, Nat.reduceEqDiff, e0, e1, e5, hv.iaddr, hw.iaddr, a1, a2]
      refine x_eqVar.mono ?_
      rintro _ _ ⟨rfl, rfl⟩
      simp (maxSteps := 2000000) (disch := first | omega | assumption | exact idP rfl | exact idP (bL rfl)) only [go_sem, reduceIte, Nat.reduceEqDiff, e0, e1, e5]
      exact hK _ _ ⟨rfl, i + 1, by omega, by simp (maxSteps := 2000000) (disch := first | omega | assumption | exact idP rfl | exact idP (bL rfl)) only [go_sem, reduceIte, Nat.reduceEqDiff], by simp (maxSteps := 2000000) (disch := first | omega | assumption | exact idP rfl | exact idP (bL rfl)) only [go_sem, reduceIte, Nat.reduceEqDiff], by simp (maxSteps := 2000000) (disch := first | omega | assumption | exact idP rfl | exact idP (bL rfl)) only [go_sem, reduceIte, Nat.reduceEqDiff]; rfl⟩ (by simp (maxSteps := 2000000) (disch := first | omega | assumption | exact idP rfl | exact idP (bL rfl)) only [go_sem, reduceIte, Nat.reduceEqDiff, ctrV_int, e5]; omega)
    · simp (maxSteps := 2000000) (disch := first | omega | assumption | exact idP rfl | exact idP (bL rfl)) only [go_sem, reduceIte, Nat.reduceEqDiff]
      exact hR _ _ (by (repeat (first | exact Sub.refl _ | assumption | (refine Sub.set' ?_ (by assumption))))) rfl
theorem x_eqTermS {v w : V} {xs : List TermS} (hv : LT v xs) (hw : LT w xs) (hl : xs.length ≤ 1048576) : VCall Tryz.prog n_laws_eqTermS [v, w] M (fun r M' => M = M' ∧ r = .sc (.bool true)) := by
  refine VCall.pure fun R hR => v_laws_eqTermS rfl ?_
  (repeat' (first | ((first | with_reducible refine cond_dec (fun h => ?_) (fun h => ?_) | with_reducible refine guardK_dec (fun h => ?_) (fun h => ?_) | with_reducible refine guardD3_dec (fun h => ?_) (fun h => ?_)) <;> first | (exfalso; omega) | (simp (maxSteps := 2000000) (disch := first | omega | assumption | exact idP rfl | exact idP (bL rfl)) only [go_sem, reduceIte, Nat.reduceEqDiff, h, hv.len, hw.len]) | skip) | ((first | with_reducible refine cond_split (fun h => ?_) (fun h => ?_) | with_reducible refine guardK_split (fun h => ?_) (fun h => ?_) | with_reducible refine guardD3_split (fun h => ?_) (fun h => ?_)) <;> ((try simp only [Bool.not_eq_true', Bool.not_eq_false'] at h); first | (simp (maxSteps := 2000000) (disch := first | omega | assumption | exact idP rfl | exact idP (bL rfl)) only [go_sem, reduceIte, Nat.reduceEqDiff, h, hv.len, hw.len]) | skip)) | (with_reducible intro bk hbk; try have hnk := (fresh_set hbk).1) | (simp (maxSteps := 2000000) (disch := first | omega | assumption | exact idP rfl | exact idP (bL rfl)) only [go_sem, reduceIte, Nat.reduceEqDiff, hv.len, hw.len])))
  refine loop_k (fun e M' => M' = M ∧ ∃ i : Nat, i ≤ xs.length ∧ e 0 = v ∧ e 1 = w ∧ e 5 = .sc (.int .i64 i)) (fun e _ => ctrV xs.length (e 5)) ?_ ?_
  · exact ⟨rfl, 0, by omega, by simp (maxSteps := 2000000) (disch := first | omega | assumption | exact idP rfl | exact idP (bL rfl)) only [go_sem, reduceIte, Nat.reduceEqDiff], by simp (maxSteps := 2000000) (disch := first | omega | assumption | exact idP rfl | exact idP (bL rfl)) only [go_sem, reduceIte, Nat.reduceEqDiff], by simp (maxSteps := 2000000) (disch := first | omega | assumption | exact idP rfl | exact idP (bL rfl)) only [go_sem, reduceIte, Nat.reduceEqDiff]; rfl⟩
  · rintro e _ ⟨rfl, i, hi, e0, e1, e5⟩ K hK
    simp (maxSteps := 2000000) (disch := first | omega | assumption | exact idP rfl | exact idP (bL rfl)) only [go_sem, reduceIte, Nat.reduceEqDiff, e0, e1, e5, hv.len]
    refine cond_dec (fun h => ?_) (fun h => ?_)
    · have hi1 : i < xs.length := by omega
      have a1 : atN 4 v i = encT xs[i] := hv.elt hi1
      have a2 : atN 4 w i = encT xs[i] := hw.elt hi1
      simp (maxSteps := 2000000) (disch := first | omega | assumption | exact idP rfl | exact idP (bL rfl)) only [go_sem, reduceIte, Nat.reduceEqDiff, e0, e1, e5, hv.iaddr, hw.iaddr, a1, a2]
      refine x_eqTerm.mono ?_
      rintro _ _ ⟨rfl, rfl⟩
      simp (maxSteps := 2000000) (disch := first | omega | assumption | exact idP rfl | exact idP (bL rfl)) only [go_sem, reduceIte, Nat.reduceEqDiff, e0, e1, e5]
      exact hK _ _ ⟨rfl, i + 1, by omega, by simp (maxSteps := 2000000) (disch := first | omega | assumption | exact idP rfl | exact idP (bL rfl)) only [go_sem, reduceIte, Nat.reduceEqDiff], by simp (maxSteps := 2000000) (disch := first | omega | assumption | exact idP rfl | exact idP (bL rfl)) only [go_sem, reduceIte, Nat.reduceEqDiff], by simp (maxSteps := 2000000) (disch := first | omega | assumption | exact idP rfl | exact idP (bL rfl)) only [go_sem, reduceIte, Nat.reduceEqDiff]; rfl⟩ (by simp (maxSteps := 2000000) (disch := first | omega | assumption | exact idP rfl | exact idP (bL rfl)) only [go_sem, reduceIte, Nat.reduceEqDiff, ctrV_int, e5]; omega)
    · simp (maxSteps := 2000000) (disch := first | omega | assumption | exact idP rfl | exact idP (bL rfl)) only [go_sem, reduceIte, Nat.reduceEqDiff]
      exact hR _ _ (by (repeat (first | exact Sub.refl _ | assumption | (refine Sub.set' ?_ (by assumption))))) rfl
theorem x_eqTermSS {v w : V} {xs : List (List TermS)} (hv : LTT v xs) (hw : LTT w xs) (hl : xs.length ≤ 1048576) (hl2 : ∀ ts ∈ xs, ts.length ≤ 1048576) : VCall Tryz.prog n_laws_eqTermSS [v, w] M (fun r M' => M = M' ∧ r = .sc (.bool true)) := by
  refine VCall.pure fun R hR => v_laws_eqTermSS rfl ?_
  (repeat' (first | ((first | with_reducible refine cond_dec (fun h => ?_) (fun h => ?_) | with_reducible refine guardK_dec (fun h => ?_) (fun h => ?_) | with_reducible refine guardD3_dec (fun h => ?_) (fun h => ?_)) <;> first | (exfalso; omega) | (simp (maxSteps := 2000000) (disch := first | omega | assumption | exact idP rfl | exact idP (bL rfl)) only [go_sem, reduceIte, Nat.reduceEqDiff, h, hv.len, hw.len]) | skip) | ((first | with_reducible refine cond_split (fun h => ?_) (fun h => ?_) | with_reducible refine guardK_split (fun h => ?_) (fun h => ?_) | with_reducible refine guardD3_split (fun h => ?_) (fun h => ?_)) <;> ((try simp only [Bool.not_eq_true', Bool.not_eq_false'] at h); first | (simp (maxSteps := 2000000) (disch := first | omega | assumption | exact idP rfl | exact idP (bL rfl)) only [go_sem, reduceIte, Nat.reduceEqDiff, h, hv.len, hw.len]) | skip)) | (with_reducible intro bk hbk; try have hnk := (fresh_set hbk).1) | (simp (maxSteps := 2000000) (disch := first | omega | assumption | exact idP rfl | exact idP (bL rfl)) only [go_sem, reduceIte, Nat.reduceEqDiff, hv.len, hw.len])))
  refine loop_k (fun e M' => M' = M ∧ ∃ i : Nat, i ≤ xs.length ∧ e 0 = v ∧ e 1 = w ∧ e 5 = .sc (.int .i64 i)) (fun e _ => ctrV xs.length (e 5)) ?_ ?_
  · exact ⟨rfl, 0, by omega, by simp (maxSteps := 2000000) (disch := first | omega | assumption | exact idP rfl | exact idP (bL rfl)) only [go_sem, reduceIte, Nat.reduceEqDiff], by simp (maxSteps := 2000000) (disch := first | omega | assumption | exact idP rfl | exact idP (bL rfl)) only [go_sem, reduceIte, Nat.reduceEqDiff], by simp (maxSteps := 2000000) (disch := first | omega | assumption | exact idP rfl | exact idP (bL rfl)) only [go_sem, reduceIte, Nat.reduceEqDiff]; rfl⟩
  · rintro e _ ⟨rfl, i, hi, e0, e1, e5⟩ K hK
    simp (maxSteps := 2000000) (disch := first | omega | assumption | exact idP rfl | exact idP (bL rfl)) only [go_sem, reduceIte, Nat.reduceEqDiff, e0, e1, e5, hv.len]
    refine cond_dec (fun h => ?_) (fun h => ?_)
    · have hi1 : i < xs.length := by omega
      simp (maxSteps := 2000000) (disch := first | omega | assumption | exact idP rfl | exact idP (bL rfl)) only [go_sem, reduceIte, Nat.reduceEqDiff, e0, e1, e5, hv.iaddr, hw.iaddr]
      refine (x_eqTermS (hv.elt hi1) (hw.elt hi1) (hl2 _ (List.getElem_mem hi1))).mono ?_
      rintro _ _ ⟨rfl, rfl⟩
      simp (maxSteps := 2000000) (disch := first | omega | assumption | exact idP rfl | exact idP (bL rfl)) only [go_sem, reduceIte, Nat.reduceEqDiff, e0, e1, e5]
      exact hK _ _ ⟨rfl, i + 1, by omega, by simp (maxSteps := 2000000) (disch := first | omega | assumption | exact idP rfl | exact idP (bL rfl)) only [go_sem, reduceIte, Nat.reduceEqDiff], by simp (maxSteps := 2000000) (disch := first | omega | assumption | exact idP rfl | exact idP (bL rfl)) only [go_sem, reduceIte, Nat.reduceEqDiff], by simp (maxSteps := 2000000) (disch := first | omega | assumption | exact idP rfl | exact idP (bL rfl)) only [go_sem, reduceIte, Nat.reduceEqDiff]; rfl⟩ (by simp (maxSteps := 2000000) (disch := first | omega | assumption | exact idP rfl | exact idP (bL rfl)) only [go_sem, reduceIte, Nat.reduceEqDiff, ctrV_int, e5]; omega)
    · simp (maxSteps := 2000000) (disch := first | omega | assumption | exact idP rfl | exact idP (bL rfl)) only [go_sem, reduceIte, Nat.reduceEqDiff]
      exact hR _ _ (by (repeat (first | exact Sub.refl _ | assumption | (refine Sub.set' ?_ (by assumption))))) rfl
theorem x_eqRule {cs ds : List V} {r : RuleS} (hv : isRule r cs) (hw : isRule r ds) (hf : RuleFit r) : VCall Tryz.prog n_laws_eqRule [.agg cs, .agg ds] M (fun r' M' => M = M' ∧ r' = .sc (.bool true)) := by
  refine VCall.pure fun R hR => v_laws_eqRule rfl ?_
  obtain ⟨a, b, c, rfl, ha, hb, hc⟩ := hv
  obtain ⟨a', b', c', rfl, ha', hb', hc'⟩ := hw
  obtain ⟨f1, f2, f3, f4⟩ := hf
  have ei : decide (r.sets = r.sets) = true := by simp
  (repeat' (first | ((first | with_reducible refine cond_dec (fun h => ?_) (fun h => ?_) | with_reducible refine guardK_dec (fun h => ?_) (fun h => ?_) | with_reducible refine guardD3_dec (fun h => ?_) (fun h => ?_)) <;> first | (exfalso; omega) | (simp (maxSteps := 2000000) (disch := first | omega | assumption | exact idP rfl | exact idP (bL rfl)) only [go_sem, reduceIte, Nat.reduceEqDiff, h, ei]) | skip) | ((first | with_reducible refine cond_split (fun h => ?_) (fun h => ?_) | with_reducible refine guardK_split (fun h => ?_) (fun h => ?_) | with_reducible refine guardD3_split (fun h => ?_) (fun h => ?_)) <;> ((try simp only [Bool.not_eq_true', Bool.not_eq_false'] at h); first | (simp (maxSteps := 2000000) (disch := first | omega | assumption | exact idP rfl | exact idP (bL rfl)) only [go_sem, reduceIte, Nat.reduceEqDiff, h, ei]) | skip)) | ((with_reducible refine (x_eqTermS ha ha' f1).mono ?_); rintro _ _ ⟨rfl, rfl⟩) | ((with_reducible refine (x_eqIntS hb hb' f2).mono ?_); rintro _ _ ⟨rfl, rfl⟩) | ((with_reducible refine (x_eqTermSS hc hc' f3 f4).mono ?_); rintro _ _ ⟨rfl, rfl⟩) | (with_reducible intro bk hbk; try have hnk := (fresh_set hbk).1) | (simp (maxSteps := 2000000) (disch := first | omega | assumption | exact idP rfl | exact idP (bL rfl)) only [go_sem, reduceIte, Nat.reduceEqDiff, ei])))
  all_goals exact hR _ _ (by (repeat (first | exact Sub.refl _ | assumption | (refine Sub.set' ?_ (by assumption))))) rfl
theorem x_eqRuleS {v w : V} {xs : List RuleS} (hv : LR v xs) (hw : LR w xs) (hl : xs.length ≤ 1048576) (hl2 : ∀ r ∈ xs, RuleFit r) : VCall Tryz.prog n_laws_eqRuleS [v, w] M (fun r M' => M = M' ∧ r = .sc (.bool true)) := by
  refine VCall.pure fun R hR => v_laws_eqRuleS rfl ?_
  (repeat' (first | ((first | with_reducible refine cond_dec (fun h => ?_) (fun h => ?_) | with_reducible refine guardK_dec (fun h => ?_) (fun h => ?_) | with_reducible refine guardD3_dec (fun h => ?_) (fun h => ?_)) <;> first | (exfalso; omega) | (simp (maxSteps := 2000000) (disch := first | omega | assumption | exact idP rfl | exact idP (bL rfl)) only [go_sem, reduceIte, Nat.reduceEqDiff, h, hv.len, hw.len]) | skip) | ((first | with_reducible refine cond_split (fun h => ?_) (fun h => ?_) | with_reducible refine guardK_split (fun h => ?_) (fun h => ?_) | with_reducible refine guardD3_split (fun h => ?_) (fun h => ?_)) <;> ((try simp only [Bool.not_eq_true', Bool.not_eq_false'] at h); first | (simp (maxSteps := 2000000) (disch := first | omega | assumption | exact idP rfl | exact idP (bL rfl)) only [go_sem, reduceIte, Nat.reduceEqDiff, h, hv.len, hw.len]) | skip)) | (with_reducible intro bk hbk; try have hnk := (fresh_set hbk).1) | (simp (maxSteps := 2000000) (disch := first | omega | assumption | exact idP rfl | exact idP (bL rfl)) only [go_sem, reduceIte, Nat.reduceEqDiff, hv.len, hw.len])))
  refine loop_k (fun e M' => M' = M ∧ ∃ i : Nat, i ≤ xs.length ∧ e 0 = v ∧ e 1 = w ∧ e 5 = .sc (.int .i64 i)) (fun e _ => ctrV xs.length (e 5)) ?_ ?_
  · exact ⟨rfl, 0, by omega, by simp (maxSteps := 2000000) (disch := first | omega | assumption | exact idP rfl | exact idP (bL rfl)) only [go_sem, reduceIte, Nat.reduceEqDiff], by simp (maxSteps := 2000000) (disch := first | omega | assumption | exact idP rfl | exact idP (bL rfl)) only [go_sem, reduceIte, Nat.reduceEqDiff], by simp (maxSteps := 2000000) (disch := first | omega | assumption | exact idP rfl | exact idP (bL rfl)) only [go_sem, reduceIte, Nat.reduceEqDiff]; rfl⟩
  · rintro e _ ⟨rfl, i, hi, e0, e1, e5⟩ K hK
    simp (maxSteps := 2000000) (disch := first | omega | assumption | exact idP rfl | exact idP (bL rfl)) only [go_sem, reduceIte, Nat.reduceEqDiff, e0, e1, e5, hv.len]
    refine cond_dec (fun h => ?_) (fun h => ?_)
    · have hi1 : i < xs.length := by omega
      have r1 := hv.elt hi1
      have r2 := hw.elt hi1
      have s1 := r1
      have s2 := r2
      obtain ⟨c1, c2, c3, hat, _, _, _⟩ := r1
      obtain ⟨d1, d2, d3, hat2, _, _, _⟩ := r2
      rw [hat] at s1
      rw [hat2] at s2
      simp (maxSteps := 2000000) (disch := first | omega | assumption | exact idP rfl | exact idP (bL rfl)) only [go_sem, reduceIte, Nat.reduceEqDiff, e0, e1, e5, hv.iaddr, hw.iaddr, hat, hat2]
      refine (x_eqRule s1 s2 (hl2 _ (List.getElem_mem hi1))).mono ?_
      rintro _ _ ⟨rfl, rfl⟩
      simp (maxSteps := 2000000) (disch := first | omega | assumption | exact idP rfl | exact idP (bL rfl)) only [go_sem, reduceIte, Nat.reduceEqDiff, e0, e1, e5]
      exact hK _ _ ⟨rfl, i + 1, by omega, by simp (maxSteps := 2000000) (disch := first | omega | assumption | exact idP rfl | exact idP (bL rfl)) only [go_sem, reduceIte, Nat.reduceEqDiff], by simp (maxSteps := 2000000) (disch := first | omega | assumption | exact idP rfl | exact idP (bL rfl)) only [go_sem, reduceIte, Nat.reduceEqDiff], by simp (maxSteps := 2000000) (disch := first | omega | assumption | exact idP rfl | exact idP (bL rfl)) only [go_sem, reduceIte, Nat.reduceEqDiff]; rfl⟩ (by simp (maxSteps := 2000000) (disch := first | omega | assumption | exact idP rfl | exact idP (bL rfl)) only [go_sem, reduceIte, Nat.reduceEqDiff, ctrV_int, e5]; omega)
    · simp (maxSteps := 2000000) (disch := first | omega | assumption | exact idP rfl | exact idP (bL rfl)) only [go_sem, reduceIte, Nat.reduceEqDiff]
      exact hR _ _ (by (repeat (first | exact Sub.refl _ | assumption | (refine Sub.set' ?_ (by assumption))))) rfl
theorem x_eqSystem {v w : V} {s : SysS} (hv : isSys s v) (hw : isSys s w) (hf : SysFit s) : VCall Tryz.prog n_laws_eqSystem [v, w] M (fun r M' => M = M' ∧ r = .sc (.bool true)) := by
  refine VCall.pure fun R hR => v_laws_eqSystem rfl ?_
  obtain ⟨a, b, rfl, ha, hb⟩ := hv
  obtain ⟨a', b', rfl, ha', hb'⟩ := hw
  obtain ⟨f1, f2, f3⟩ := hf
  (repeat' (first | ((first | with_reducible refine cond_dec (fun h => ?_) (fun h => ?_) | with_reducible refine guardK_dec (fun h => ?_) (fun h => ?_) | with_reducible refine guardD3_dec (fun h => ?_) (fun h => ?_)) <;> first | (exfalso; omega) | (simp (maxSteps := 2000000) (disch := first | omega | assumption | exact idP rfl | exact idP (bL rfl)) only [go_sem, reduceIte, Nat.reduceEqDiff, h]) | skip) | ((first | with_reducible refine cond_split (fun h => ?_) (fun h => ?_) | with_reducible refine guardK_split (fun h => ?_) (fun h => ?_) | with_reducible refine guardD3_split (fun h => ?_) (fun h => ?_)) <;> ((try simp only [Bool.not_eq_true', Bool.not_eq_false'] at h); first | (simp (maxSteps := 2000000) (disch := first | omega | assumption | exact idP rfl | exact idP (bL rfl)) only [go_sem, reduceIte, Nat.reduceEqDiff, h]) | skip)) | ((with_reducible refine (x_eqVarS ha ha' f1).mono ?_); rintro _ _ ⟨rfl, rfl⟩) | ((with_reducible refine (x_eqRuleS hb hb' f2 f3).mono ?_); rintro _ _ ⟨rfl, rfl⟩) | (with_reducible intro bk hbk; try have hnk := (fresh_set hbk).1) | (simp (maxSteps := 2000000) (disch := first | omega | assumption | exact idP rfl | exact idP (bL rfl)) only [go_sem, reduceIte, Nat.reduceEqDiff])))
  all_goals exact hR _ _ (by (repeat (first | exact Sub.refl _ | assumption | (refine Sub.set' ?_ (by assumption))))) rfl
end Go.M2

namespace Go.M2
open Go.Proofs
variable {M : MH}
def catV {α : Type} (enc : α → List V) (xs : List α) : List V := (xs.map enc).flatten
theorem catV_len {α : Type} {enc : α → List V} {sz : Nat} (he : ∀ x, (enc x).length = sz) : ∀ xs : List α, (catV enc xs).length = xs.length * sz
  | [] => by simp [catV]
  | x :: t => by
    have := catV_len he t
    simp only [catV, List.map_cons, List.flatten_cons, List.length_append, he, List.length_cons, Nat.succ_mul] at this ⊢
    omega
theorem catV_snoc {α : Type} {enc : α → List V} {xs : List α} {x : α} : catV enc (xs ++ [x]) = catV enc xs ++ enc x := by simp [catV]
theorem zeros_cat {α : Type} {enc : α → List V} {z : α} {zs : List AV} (h : enc z = zs.map V.sc) (n : Nat) : (zeros zs n).map V.sc = catV enc (List.replicate n z) := by
  induction n with
  | zero => rfl
  | succ n ih => simp only [zeros, catV, List.replicate_succ, List.flatten_cons, List.map_append, List.map_cons] at ih ⊢; rw [ih, h]
theorem cat_set {α : Type} {enc : α → List V} {z x : α} {xs : List α} {sz m o : Nat} (he : ∀ x, (enc x).length = sz) (ho : o = xs.length * sz) :
    setAtG (catV enc xs ++ catV enc (List.replicate (m + 1) z)) o (enc x) = catV enc (xs ++ [x]) ++ catV enc (List.replicate m z) := by
  have h1 := catV_len he xs
  have e1 : catV enc (List.replicate (m + 1) z) = enc z ++ catV enc (List.replicate m z) := by simp [catV, List.replicate_succ]
  rw [e1, setAtG_mid _ _ _ (by simp [he]; omega), catV_snoc, List.take_left' (by omega)]
  congr 1
  rw [← List.append_assoc, List.drop_left' (by simp [he]; omega)]
theorem x_toVarS {v : V} {xs : List VarS} (hv : XVar v xs) (hl : xs.length ≤ 1048576) : VCall Tryz.prog n_laws_toVarS [v] M (fun r M' => Gr 3 M M' r (catV encVar xs)) := by
  refine VCall.plain fun R hR => v_laws_toVarS rfl ?_
  have hlen := hv.len fun _ _ h => h.len
  simp (maxSteps := 2000000) (disch := first | omega | assumption | exact idP rfl | exact idP (bL rfl)) only [go_sem, reduceIte, Nat.reduceEqDiff, hlen]
  refine mks3 (by omega) (by simp [mostCells]; omega) (by simp [mostCells]; omega) ?_
  intro b3 hb3
  simp (maxSteps := 2000000) (disch := first | omega | assumption | exact idP rfl | exact idP (bL rfl)) only [go_sem, reduceIte, Nat.reduceEqDiff, zeros_cat (enc := encVar) (z := ⟨0, 0, 0⟩) (zs := [AV.int .i64 0, AV.int .i64 0, AV.int .i64 0]) rfl]
  have henc : ∀ x, (encVar x).length = 3 := fun x => rfl
  refine loop_k (fun e M' => ∃ i : Nat, i ≤ xs.length ∧ e 0 = v ∧ e 3 = .sc (.sl (some (b3, 0)) xs.length xs.length true 3) ∧ e 4 = .sc (.int .i64 i) ∧ Sub M M' ∧ M' b3 = some (catV encVar (xs.take i) ++ catV encVar (List.replicate (xs.length - i) ⟨0, 0, 0⟩))) (fun e _ => ctrV xs.length (e 4)) ?_ ?_
  · exact ⟨0, by omega, by simp (maxSteps := 2000000) (disch := first | omega | assumption | exact idP rfl | exact idP (bL rfl)) only [go_sem, reduceIte, Nat.reduceEqDiff], by simp (maxSteps := 2000000) (disch := first | omega | assumption | exact idP rfl | exact idP (bL rfl)) only [go_sem, reduceIte, Nat.reduceEqDiff], by simp (maxSteps := 2000000) (disch := first | omega | assumption | exact idP rfl | exact idP (bL rfl)) only [go_sem, reduceIte, Nat.reduceEqDiff]; rfl, (Sub.refl _).set hb3, by simp (maxSteps := 2000000) (disch := first | omega | assumption | exact idP rfl | exact idP (bL rfl)) only [go_sem, reduceIte, Nat.reduceEqDiff]; simp [catV]⟩
  · rintro e M1 ⟨i, hi, e0, e3, e4, hsub, hm⟩ K hK
    simp (maxSteps := 2000000) (disch := first | omega | assumption | exact idP rfl | exact idP (bL rfl)) only [go_sem, reduceIte, Nat.reduceEqDiff, e0, e3, e4, hlen]
    refine cond_dec (fun h => ?_) (fun h => ?_)
    · have hi' : i < xs.length := by omega
      have hv' := hv.get (by omega)
      have a1 : atN 3 v i = encVar xs[i] := hv'.elt hi'
      simp (maxSteps := 2000000) (disch := first | omega | assumption | exact idP rfl | exact idP (bL rfl)) only [go_sem, reduceIte, Nat.reduceEqDiff, e0, e3, e4, hv'.iaddr, a1]
      refine x_toVar.mono ?_
      rintro _ _ ⟨rfl, rfl⟩
      simp (maxSteps := 2000000) (disch := first | omega | assumption | exact idP rfl | exact idP (bL rfl)) only [go_sem, reduceIte, Nat.reduceEqDiff, e0, e3, e4, hm]
      have hti : (xs.take i).length = i := by simp; omega
      refine ⟨henc _, by simp [encVar, oneV, er, oneA], ?_, ?_⟩
      · rw [List.length_append, catV_len henc, catV_len henc, hti, List.length_replicate]; omega
      rw [show xs.length - i = (xs.length - (i + 1)) + 1 by omega, cat_set henc (by rw [hti]), ← take_snoc hi']
      simp (maxSteps := 2000000) (disch := first | omega | assumption | exact idP rfl | exact idP (bL rfl)) only [go_sem, reduceIte, Nat.reduceEqDiff, e0, e3, e4]
      exact hK _ _ ⟨i + 1, by omega, by simp (maxSteps := 2000000) (disch := first | omega | assumption | exact idP rfl | exact idP (bL rfl)) only [go_sem, reduceIte, Nat.reduceEqDiff], by simp (maxSteps := 2000000) (disch := first | omega | assumption | exact idP rfl | exact idP (bL rfl)) only [go_sem, reduceIte, Nat.reduceEqDiff], by simp (maxSteps := 2000000) (disch := first | omega | assumption | exact idP rfl | exact idP (bL rfl)) only [go_sem, reduceIte, Nat.reduceEqDiff]; rfl, hsub.set hb3, by simp (maxSteps := 2000000) (disch := first | omega | assumption | exact idP rfl | exact idP (bL rfl)) only [go_sem, reduceIte, Nat.reduceEqDiff]⟩ (by simp (maxSteps := 2000000) (disch := first | omega | assumption | exact idP rfl | exact idP (bL rfl)) only [go_sem, reduceIte, Nat.reduceEqDiff, ctrV_int, e4]; omega)
    · obtain rfl : i = xs.length := by omega
      simp only [List.take_length, Nat.sub_self, List.replicate_zero] at hm
      simp (maxSteps := 2000000) (disch := first | omega | assumption | exact idP rfl | exact idP (bL rfl)) only [go_sem, reduceIte, Nat.reduceEqDiff, e3]
      exact hR _ _ ⟨hsub, fun b' h' => by simp [blkV] at h'; subst h'; exact hb3, .inr ⟨b3, _, true, rfl, by simpa [catV] using hm, catV_len henc xs⟩⟩
theorem x_toTermS {v : V} {xs : List TermS} (hv : XT v xs) (hl : xs.length ≤ 1048576) : VCall Tryz.prog n_laws_toTermS [v] M (fun r M' => Gr 4 M M' r (catV encT xs)) := by
  refine VCall.plain fun R hR => v_laws_toTermS rfl ?_
  have hlen := hv.len fun _ _ h => h.len
  simp (maxSteps := 2000000) (disch := first | omega | assumption | exact idP rfl | exact idP (bL rfl)) only [go_sem, reduceIte, Nat.reduceEqDiff, hlen]
  refine mks3 (by omega) (by simp [mostCells]; omega) (by simp [mostCells]; omega) ?_
  intro b3 hb3
  simp (maxSteps := 2000000) (disch := first | omega | assumption | exact idP rfl | exact idP (bL rfl)) only [go_sem, reduceIte, Nat.reduceEqDiff, zeros_cat (enc := encT) (z := ⟨0, 0, 0, 0⟩) (zs := [AV.int .i64 0, AV.int .i64 0, AV.int .i64 0, AV.int .i64 0]) rfl]
  have henc : ∀ x, (encT x).length = 4 := fun x => rfl
  refine loop_k (fun e M' => ∃ i : Nat, i ≤ xs.length ∧ e 0 = v ∧ e 3 = .sc (.sl (some (b3, 0)) xs.length xs.length true 4) ∧ e 4 = .sc (.int .i64 i) ∧ Sub M M' ∧ M' b3 = some (catV encT (xs.take i) ++ catV encT (List.replicate (xs.length - i) ⟨0, 0, 0, 0⟩))) (fun e _ => ctrV xs.length (e 4)) ?_ ?_
  · exact ⟨0, by omega, by simp (maxSteps := 2000000) (disch := first | omega | assumption | exact idP rfl | exact idP (bL rfl)) only [go_sem, reduceIte, Nat.reduceEqDiff], by simp (maxSteps := 2000000) (disch := first | omega | assumption | exact idP rfl | exact idP (bL rfl)) only [go_sem, reduceIte, Nat.reduceEqDiff], by simp (maxSteps := 2000000) (disch := first | omega | assumption | exact idP rfl | exact idP (bL rfl)) only [go_sem, reduceIte, Nat.reduceEqDiff]; rfl, (Sub.refl _).set hb3, by simp (maxSteps := 2000000) (disch := first | omega | assumption | exact idP rfl | exact idP (bL rfl)) only [go_sem, reduceIte, Nat.reduceEqDiff]; simp [catV]⟩
  · rintro e M1 ⟨i, hi, e0, e3, e4, hsub, hm⟩ K hK
    simp (maxSteps := 2000000) (disch := first | omega | assumption | exact idP rfl | exact idP (bL rfl)) only [go_sem, reduceIte, Nat.reduceEqDiff, e0, e3, e4, hlen]
    refine cond_dec (fun h => ?_) (fun h => ?_)
    · have hi' : i < xs.length := by omega
      have hv' := hv.get (by omega)
      have a1 : atN 4 v i = encT xs[i] := hv'.elt hi'
      simp (maxSteps := 2000000) (disch := first | omega | assumption | exact idP rfl | exact idP (bL rfl)) only [go_sem, reduceIte, Nat.reduceEqDiff, e0, e3, e4, hv'.iaddr, a1]
      refine x_toTerm.mono ?_
      rintro _ _ ⟨rfl, rfl⟩
      simp (maxSteps := 2000000) (disch := first | omega | assumption | exact idP rfl | exact idP (bL rfl)) only [go_sem, reduceIte, Nat.reduceEqDiff, e0, e3, e4, hm]
      have hti : (xs.take i).length = i := by simp; omega
      refine ⟨henc _, by simp [encT, oneV, er, oneA], ?_, ?_⟩
      · rw [List.length_append, catV_len henc, catV_len henc, hti, List.length_replicate]; omega
      rw [show xs.length - i = (xs.length - (i + 1)) + 1 by omega, cat_set henc (by rw [hti]), ← take_snoc hi']
      simp (maxSteps := 2000000) (disch := first | omega | assumption | exact idP rfl | exact idP (bL rfl)) only [go_sem, reduceIte, Nat.reduceEqDiff, e0, e3, e4]
      exact hK _ _ ⟨i + 1, by omega, by simp (maxSteps := 2000000) (disch := first | omega | assumption | exact idP rfl | exact idP (bL rfl)) only [go_sem, reduceIte, Nat.reduceEqDiff], by simp (maxSteps := 2000000) (disch := first | omega | assumption | exact idP rfl | exact idP (bL rfl)) only [go_sem, reduceIte, Nat.reduceEqDiff], by simp (maxSteps := 2000000) (disch := first | omega | assumption | exact idP rfl | exact idP (bL rfl)) only [go_sem, reduceIte, Nat.reduceEqDiff]; rfl, hsub.set hb3, by simp (maxSteps := 2000000) (disch := first | omega | assumption | exact idP rfl | exact idP (bL rfl)) only [go_sem, reduceIte, Nat.reduceEqDiff]⟩ (by simp (maxSteps := 2000000) (disch := first | omega | assumption | exact idP rfl | exact idP (bL rfl)) only [go_sem, reduceIte, Nat.reduceEqDiff, ctrV_int, e4]; omega)
    · obtain rfl : i = xs.length := by omega
      simp only [List.take_length, Nat.sub_self, List.replicate_zero] at hm
      simp (maxSteps := 2000000) (disch := first | omega | assumption | exact idP rfl | exact idP (bL rfl)) only [go_sem, reduceIte, Nat.reduceEqDiff, e3]
      exact hR _ _ ⟨hsub, fun b' h' => by simp [blkV] at h'; subst h'; exact hb3, .inr ⟨b3, _, true, rfl, by simpa [catV] using hm, catV_len henc xs⟩⟩
theorem catV_at {α : Type} {enc : α → List V} {sz : Nat} (he : ∀ x, (enc x).length = sz) {xs : List α} {i : Nat} (hi : i < xs.length) : ((catV enc xs).drop (i * sz)).take sz = enc xs[i] := by
  have e1 : xs = xs.take i ++ xs[i] :: xs.drop (i + 1) := by rw [← List.drop_eq_getElem_cons hi, List.take_append_drop]
  have e2 : catV enc xs = catV enc (xs.take i) ++ (enc xs[i] ++ catV enc (xs.drop (i + 1))) := by
    have e3 : catV enc xs = catV enc (xs.take i ++ xs[i] :: xs.drop (i + 1)) := congrArg (catV enc) e1
    rw [e3]
    simp only [catV, List.map_append, List.map_cons, List.flatten_append, List.flatten_cons]
  have h3 := catV_len he (xs.take i)
  have h4 : (xs.take i).length = i := by simp; omega
  rw [e2, List.drop_left' (by rw [h3, h4]), List.take_left' (he _)]
theorem f_toVarS {v : V} {xs : List VarS} (hv : XVar v xs) (hl : xs.length ≤ 1048576) : VCall Tryz.prog n_laws_toVarS [v] M (fun r M' => M = M' ∧ LVar r xs) :=
  (VCall.fr1 (x_toVarS hv hl)).mono fun r M' ⟨h1, h2⟩ => ⟨h1, h2.lc (by omega) (catV_len (sz := 3) (enc := encVar) (fun _ => rfl) xs) fun i hi => catV_at (sz := 3) (enc := encVar) (fun _ => rfl) hi⟩
theorem f_toTermS {v : V} {xs : List TermS} (hv : XT v xs) (hl : xs.length ≤ 1048576) : VCall Tryz.prog n_laws_toTermS [v] M (fun r M' => M = M' ∧ LT r xs) :=
  (VCall.fr1 (x_toTermS hv hl)).mono fun r M' ⟨h1, h2⟩ => ⟨h1, h2.lc (by omega) (catV_len (sz := 4) (enc := encT) (fun _ => rfl) xs) fun i hi => catV_at (sz := 4) (enc := encT) (fun _ => rfl) hi⟩
end Go.M2

namespace Go.M2
open Go.Proofs
variable {M : MH}
theorem f_toTermSS {v : V} {xs : List (List TermS)} (hv : XTT v xs) (hl : xs.length ≤ 1048576) (hx : ∀ ts ∈ xs, ts.length ≤ 1048576) : VCall Tryz.prog n_laws_toTermSS [v] M (fun r M' => M = M' ∧ LTT r xs) := by
  refine VCall.froz fun R hP hG => v_laws_toTermSS rfl ?_
  have hlen := hv.len fun _ _ h => h.len
  simp (maxSteps := 2000000) (disch := first | omega | assumption | exact idP rfl | exact idP (bL rfl)) only [go_sem, reduceIte, Nat.reduceEqDiff, hlen]
  refine mks3 (by omega) (by simp [mostCells]; omega) (by simp [mostCells]; omega) ?_
  intro b3 hb3
  simp (maxSteps := 2000000) (disch := first | omega | assumption | exact idP rfl | exact idP (bL rfl)) only [go_sem, reduceIte, Nat.reduceEqDiff, zeros_nil]
  refine loop_k (fun e M' => ∃ (i : Nat) (us : List V), i ≤ xs.length ∧ e 0 = v ∧ e 3 = .sc (.sl (some (b3, 0)) xs.length xs.length true 1) ∧ e 4 = .sc (.int .i64 i) ∧ Sub M M' ∧ M' b3 = some (us ++ List.replicate (xs.length - i) nil1) ∧ Cs (fun ts u => LT u ts) us (xs.take i)) (fun e _ => ctrV xs.length (e 4)) ?_ ?_
  · exact ⟨0, [], by omega, by simp (maxSteps := 2000000) (disch := first | omega | assumption | exact idP rfl | exact idP (bL rfl)) only [go_sem, reduceIte, Nat.reduceEqDiff], by simp (maxSteps := 2000000) (disch := first | omega | assumption | exact idP rfl | exact idP (bL rfl)) only [go_sem, reduceIte, Nat.reduceEqDiff], by simp (maxSteps := 2000000) (disch := first | omega | assumption | exact idP rfl | exact idP (bL rfl)) only [go_sem, reduceIte, Nat.reduceEqDiff]; rfl, (Sub.refl _).set hb3, by simp (maxSteps := 2000000) (disch := first | omega | assumption | exact idP rfl | exact idP (bL rfl)) only [go_sem, reduceIte, Nat.reduceEqDiff]; simp, .nil⟩
  · rintro e M1 ⟨i, us, hi, e0, e3, e4, hsub, hm, hc⟩ K hK
    have hul : us.length = i := by have := hc.1; simp at this; omega
    simp (maxSteps := 2000000) (disch := first | omega | assumption | exact idP rfl | exact idP (bL rfl)) only [go_sem, reduceIte, Nat.reduceEqDiff, e0, e3, e4, hlen]
    refine cond_dec (fun h => ?_) (fun h => ?_)
    · have hi' : i < xs.length := by omega
      have hv' := hv.get (by omega)
      obtain ⟨q, hq⟩ : ∃ q, xs.length - i = q + 1 := ⟨xs.length - i - 1, by omega⟩
      rw [hq, List.replicate_succ] at hm
      simp (maxSteps := 2000000) (disch := first | omega | assumption | exact idP rfl | exact idP (bL rfl)) only [go_sem, reduceIte, Nat.reduceEqDiff, e0, e3, e4, hv'.iaddr]
      refine (f_toTermS (hv'.elt hi') (hx _ (List.getElem_mem hi'))).mono ?_
      rintro r _ ⟨rfl, hr⟩
      have hr1 := hr.one.1
      have hr2 := hr.one.2
      have hsm : (us ++ nil1 :: List.replicate q nil1).set i r = us ++ r :: List.replicate q nil1 := set_mid hul
      have hnl3 : i < (us ++ nil1 :: List.replicate q nil1).length := by simp; omega
      simp (maxSteps := 2000000) (disch := first | omega | assumption | exact idP rfl | exact idP (bL rfl)) only [go_sem, reduceIte, Nat.reduceEqDiff, e0, e3, e4, hm, hr2, hsm]
      refine hK _ _ ⟨i + 1, us ++ [r], by omega, by simp (maxSteps := 2000000) (disch := first | omega | assumption | exact idP rfl | exact idP (bL rfl)) only [go_sem, reduceIte, Nat.reduceEqDiff], by simp (maxSteps := 2000000) (disch := first | omega | assumption | exact idP rfl | exact idP (bL rfl)) only [go_sem, reduceIte, Nat.reduceEqDiff], by simp (maxSteps := 2000000) (disch := first | omega | assumption | exact idP rfl | exact idP (bL rfl)) only [go_sem, reduceIte, Nat.reduceEqDiff]; rfl, hsub.set hb3, by simp (maxSteps := 2000000) (disch := first | omega | assumption | exact idP rfl | exact idP (bL rfl)) only [go_sem, reduceIte, Nat.reduceEqDiff]; simp [show xs.length - (i + 1) = q by omega], ?_⟩ (by simp (maxSteps := 2000000) (disch := first | omega | assumption | exact idP rfl | exact idP (bL rfl)) only [go_sem, reduceIte, Nat.reduceEqDiff, ctrV_int, e4]; omega)
      rw [take_snoc hi']
      exact hc.snoc hr
    · obtain rfl : i = xs.length := by omega
      rw [List.take_length] at hc
      simp (maxSteps := 2000000) (disch := first | omega | assumption | exact idP rfl | exact idP (bL rfl)) only [go_sem, reduceIte, Nat.reduceEqDiff, e3]
      exact hG _ _ 1 us ⟨hsub, fun b' h' => by simp [blkV] at h'; subst h'; exact hb3, .inr ⟨b3, _, true, rfl, by simpa using hm, by omega⟩⟩ fun u hu => hu.lsC hc
theorem f_toRule {cs : List V} {r : RuleS} (hv : isRuleX r cs) (hf : RuleFit r) : VCall Tryz.prog n_laws_toRule [.agg cs] M (fun r' M' => M = M' ∧ ∃ ds, r' = .agg ds ∧ isRule r ds) := by
  refine VCall.pure fun R hR => v_laws_toRule rfl ?_
  obtain ⟨a, b, c, rfl, ha, hb, hc⟩ := hv
  obtain ⟨f1, f2, f3, f4⟩ := hf
  simp (maxSteps := 2000000) (disch := first | omega | assumption | exact idP rfl | exact idP (bL rfl)) only [go_sem, reduceIte, Nat.reduceEqDiff]
  intro b1 hb1
  try simp (maxSteps := 2000000) (disch := first | omega | assumption | exact idP rfl | exact idP (bL rfl)) only [go_sem, reduceIte, Nat.reduceEqDiff]
  intro b2 hb2
  try simp (maxSteps := 2000000) (disch := first | omega | assumption | exact idP rfl | exact idP (bL rfl)) only [go_sem, reduceIte, Nat.reduceEqDiff]
  intro b3 hb3
  have n21 := (fresh_set hb2).1
  have n32 := (fresh_set hb3).1
  have n31 := (fresh_set (fresh_set hb3).2).1
  simp (maxSteps := 2000000) (disch := first | omega | assumption | exact idP rfl | exact idP (bL rfl)) only [go_sem, reduceIte, Nat.reduceEqDiff]
  refine (f_toTermS ha f1).mono ?_
  rintro x _ ⟨rfl, hx⟩
  have hx1 := hx.one.1
  have hx2 := hx.one.2
  simp (maxSteps := 2000000) (disch := first | omega | assumption | exact idP rfl | exact idP (bL rfl)) only [go_sem, reduceIte, Nat.reduceEqDiff, hx2]
  refine (f_toIntS hb f2).mono ?_
  rintro y _ ⟨rfl, hy⟩
  have hy1 := hy.one.1
  have hy2 := hy.one.2
  simp (maxSteps := 2000000) (disch := first | omega | assumption | exact idP rfl | exact idP (bL rfl)) only [go_sem, reduceIte, Nat.reduceEqDiff, hy2]
  refine (f_toTermSS hc f3 f4).mono ?_
  rintro z _ ⟨rfl, hz⟩
  have hz1 := hz.one.1
  have hz2 := hz.one.2
  simp (maxSteps := 2000000) (disch := first | omega | assumption | exact idP rfl | exact idP (bL rfl)) only [go_sem, reduceIte, Nat.reduceEqDiff, hz2]
  refine hR _ _ ?_ ⟨_, rfl, x, y, z, rfl, hx, hy, hz⟩
  repeat (first | exact Sub.refl _ | assumption | (refine Sub.set ?_ (fresh_set hb2).2) | (refine Sub.set ?_ (fresh_set (fresh_set hb3).2).2) | (refine Sub.set' ?_ (by assumption)))
abbrev T3 := {l : List V // l.length = 3}
def z3 : T3 := ⟨[nil1, nil1, nil1], rfl⟩
theorem f_toRuleS {v : V} {xs : List RuleS} (hv : XR v xs) (hl : xs.length ≤ 1048576) (hx : ∀ r ∈ xs, RuleFit r) : VCall Tryz.prog n_laws_toRuleS [v] M (fun r M' => M = M' ∧ LR r xs) := by
  refine VCall.froz fun R hP hG => v_laws_toRuleS rfl ?_
  have hlen := hv.len fun _ _ h => h.len
  have henc : ∀ x : T3, x.val.length = 3 := fun x => x.property
  simp (maxSteps := 2000000) (disch := first | omega | assumption | exact idP rfl | exact idP (bL rfl)) only [go_sem, reduceIte, Nat.reduceEqDiff, hlen]
  refine mks3 (by omega) (by simp [mostCells]; omega) (by simp [mostCells]; omega) ?_
  intro b3 hb3
  simp (maxSteps := 2000000) (disch := first | omega | assumption | exact idP rfl | exact idP (bL rfl)) only [go_sem, reduceIte, Nat.reduceEqDiff, zeros_cat (enc := fun x : T3 => x.val) (z := z3) (zs := [AV.sl none 0 0 true 0, AV.sl none 0 0 true 0, AV.sl none 0 0 true 0]) rfl]
  refine loop_k (fun e M' => ∃ (i : Nat) (us : List T3), i ≤ xs.length ∧ us.length = i ∧ e 0 = v ∧ e 3 = .sc (.sl (some (b3, 0)) xs.length xs.length true 3) ∧ e 4 = .sc (.int .i64 i) ∧ Sub M M' ∧ M' b3 = some (catV (fun x : T3 => x.val) us ++ catV (fun x : T3 => x.val) (List.replicate (xs.length - i) z3)) ∧ ∀ j (h1 : j < xs.length) (h2 : j < us.length), isRule xs[j] us[j].val) (fun e _ => ctrV xs.length (e 4)) ?_ ?_
  · exact ⟨0, [], by omega, rfl, by simp (maxSteps := 2000000) (disch := first | omega | assumption | exact idP rfl | exact idP (bL rfl)) only [go_sem, reduceIte, Nat.reduceEqDiff], by simp (maxSteps := 2000000) (disch := first | omega | assumption | exact idP rfl | exact idP (bL rfl)) only [go_sem, reduceIte, Nat.reduceEqDiff], by simp (maxSteps := 2000000) (disch := first | omega | assumption | exact idP rfl | exact idP (bL rfl)) only [go_sem, reduceIte, Nat.reduceEqDiff]; rfl, (Sub.refl _).set hb3, by simp (maxSteps := 2000000) (disch := first | omega | assumption | exact idP rfl | exact idP (bL rfl)) only [go_sem, reduceIte, Nat.reduceEqDiff]; simp [catV], fun j _ h => by simp at h⟩
  · rintro e M1 ⟨i, us, hi, hul, e0, e3, e4, hsub, hm, hc⟩ K hK
    simp (maxSteps := 2000000) (disch := first | omega | assumption | exact idP rfl | exact idP (bL rfl)) only [go_sem, reduceIte, Nat.reduceEqDiff, e0, e3, e4, hlen]
    refine cond_dec (fun h => ?_) (fun h => ?_)
    · have hi' : i < xs.length := by omega
      have hv' := hv.get (by omega)
      have hcs := hv'.elt hi'
      have hrule := hcs
      obtain ⟨c1, c2, c3, hat, _, _, _⟩ := hcs
      rw [hat] at hrule
      simp (maxSteps := 2000000) (disch := first | omega | assumption | exact idP rfl | exact idP (bL rfl)) only [go_sem, reduceIte, Nat.reduceEqDiff, e0, e3, e4, hv'.iaddr, hat]
      refine (f_toRule hrule (hx _ (List.getElem_mem hi'))).mono ?_
      rintro _ _ ⟨rfl, ds, rfl, hr⟩
      have hr0 := hr
      obtain ⟨x, y, z, rfl, hx1, hx2, hx3⟩ := hr
      simp (maxSteps := 2000000) (disch := first | omega | assumption | exact idP rfl | exact idP (bL rfl)) only [go_sem, reduceIte, Nat.reduceEqDiff, e0, e3, e4, hm]
      refine ⟨rfl, by simp [hx1.one.1, hx2.one.1, hx3.one.1], ?_, ?_⟩
      · rw [List.length_append, catV_len henc, catV_len henc, hul, List.length_replicate]; omega
      rw [show xs.length - i = (xs.length - (i + 1)) + 1 by omega, cat_set (x := (⟨[x, y, z], rfl⟩ : T3)) henc (by rw [hul])]
      simp (maxSteps := 2000000) (disch := first | omega | assumption | exact idP rfl | exact idP (bL rfl)) only [go_sem, reduceIte, Nat.reduceEqDiff, e0, e3, e4]
      refine hK _ _ ⟨i + 1, us ++ [⟨[x, y, z], rfl⟩], by omega, by simp [hul], by simp (maxSteps := 2000000) (disch := first | omega | assumption | exact idP rfl | exact idP (bL rfl)) only [go_sem, reduceIte, Nat.reduceEqDiff], by simp (maxSteps := 2000000) (disch := first | omega | assumption | exact idP rfl | exact idP (bL rfl)) only [go_sem, reduceIte, Nat.reduceEqDiff], by simp (maxSteps := 2000000) (disch := first | omega | assumption | exact idP rfl | exact idP (bL rfl)) only [go_sem, reduceIte, Nat.reduceEqDiff]; rfl, hsub.set hb3, by simp (maxSteps := 2000000) (disch := first | omega | assumption | exact idP rfl | exact idP (bL rfl)) only [go_sem, reduceIte, Nat.reduceEqDiff], fun j h1 h2 => ?_⟩ (by simp (maxSteps := 2000000) (disch := first | omega | assumption | exact idP rfl | exact idP (bL rfl)) only [go_sem, reduceIte, Nat.reduceEqDiff, ctrV_int, e4]; omega)
      by_cases hj : j < us.length
      · rw [List.getElem_append_left hj]; exact hc j h1 hj
      · obtain rfl : j = us.length := by simp at h2; omega
        subst hul
        simpa using hr0
    · obtain rfl : i = xs.length := by omega
      simp (maxSteps := 2000000) (disch := first | omega | assumption | exact idP rfl | exact idP (bL rfl)) only [go_sem, reduceIte, Nat.reduceEqDiff, e3]
      exact hG _ _ 3 (catV (fun x : T3 => x.val) us) ⟨hsub, fun b' h' => by simp [blkV] at h'; subst h'; exact hb3, .inr ⟨b3, _, true, rfl, by simpa [catV] using hm, by rw [catV_len henc, hul]⟩⟩ fun u hu => hu.lc (by omega) (by rw [catV_len henc, hul]) fun j hj => by rw [catV_at henc (by omega)]; exact hc j hj (by omega)
theorem f_toSystem {v : V} {s : SysS} (hv : isSysX s v) (hf : SysFit s) : VCall Tryz.prog n_laws_toSystem [v] M (fun r' M' => M = M' ∧ isSys s r') := by
  refine VCall.pure fun R hR => v_laws_toSystem rfl ?_
  obtain ⟨a, b, rfl, ha, hb⟩ := hv
  obtain ⟨f1, f2, f3⟩ := hf
  simp (maxSteps := 2000000) (disch := first | omega | assumption | exact idP rfl | exact idP (bL rfl)) only [go_sem, reduceIte, Nat.reduceEqDiff]
  intro b1 hb1
  try simp (maxSteps := 2000000) (disch := first | omega | assumption | exact idP rfl | exact idP (bL rfl)) only [go_sem, reduceIte, Nat.reduceEqDiff]
  intro b2 hb2
  try simp (maxSteps := 2000000) (disch := first | omega | assumption | exact idP rfl | exact idP (bL rfl)) only [go_sem, reduceIte, Nat.reduceEqDiff]
  intro b3 hb3
  have n21 := (fresh_set hb2).1
  have n32 := (fresh_set hb3).1
  have n31 := (fresh_set (fresh_set hb3).2).1
  simp (maxSteps := 2000000) (disch := first | omega | assumption | exact idP rfl | exact idP (bL rfl)) only [go_sem, reduceIte, Nat.reduceEqDiff]
  refine (f_toVarS ha f1).mono ?_
  rintro x _ ⟨rfl, hx⟩
  have hx1 := hx.one.1
  have hx2 := hx.one.2
  simp (maxSteps := 2000000) (disch := first | omega | assumption | exact idP rfl | exact idP (bL rfl)) only [go_sem, reduceIte, Nat.reduceEqDiff, hx2]
  refine (f_toRuleS hb f2 f3).mono ?_
  rintro y _ ⟨rfl, hy⟩
  have hy1 := hy.one.1
  have hy2 := hy.one.2
  simp (maxSteps := 2000000) (disch := first | omega | assumption | exact idP rfl | exact idP (bL rfl)) only [go_sem, reduceIte, Nat.reduceEqDiff, hy2]
  refine hR _ _ ?_ ⟨x, y, rfl, hx, hy⟩
  repeat (first | exact Sub.refl _ | assumption | (refine Sub.set ?_ (fresh_set hb2).2) | (refine Sub.set ?_ (fresh_set (fresh_set hb3).2).2) | (refine Sub.set' ?_ (by assumption)))
end Go.M2

namespace Go.M2
open Go.Proofs
variable {M : MH}
theorem SysFit.sz {s : SysS} (h : SysFit s) : SysSz s := ⟨h.1, h.2.1, fun r hr => (h.2.2 r hr).2.1⟩
end Go.M2

namespace Go.M2
open Go.Proofs
def EV {α : Type} (E : α → List V → Prop) : Heap → α → List AV → Prop := fun H x cs => ∃ vs : List V, erl vs = cs ∧ okL H vs ∧ E x vs
theorem erl_len : ∀ l : List V, (erl l).length = l.length
  | [] => rfl
  | v :: t => by simp only [erl, List.length_cons, erl_len t]
theorem erl_app : ∀ a b : List V, erl (a ++ b) = erl a ++ erl b
  | [], b => rfl
  | v :: t, b => by simp only [List.cons_append, erl, erl_app t b]
theorem okL_app {H : Heap} : ∀ {a b : List V}, okL H a → okL H b → okL H (a ++ b)
  | [], b, _, h => h
  | v :: t, b, h, k => by
    simp only [List.cons_append, okL] at h ⊢
    exact ⟨h.1, okL_app h.2 k⟩
theorem lift_cells {α : Type} {E : α → List V → Prop} {H : Heap} {b sz : Nat} : ∀ {xs : List α} {o : Nat}, (∀ i (h : i < xs.length), ∃ cs, cs.length = sz ∧ Rd H b (o + i * sz) cs ∧ EV E H xs[i] cs) →
    ∃ vs : List V, vs.length = xs.length * sz ∧ Rd H b o (erl vs) ∧ okL H vs ∧ ∀ i (h : i < xs.length), E xs[i] ((vs.drop (i * sz)).take sz)
  | [], o, _ => ⟨[], by simp, Rd.nil _ _ _, by simp [okL], fun i h => by simp at h⟩
  | x :: t, o, h => by
    obtain ⟨cs, h1, h2, us, h3, h4, h5⟩ := h 0 (by simp)
    obtain ⟨vs, k1, k2, k3, k4⟩ := lift_cells (xs := t) (o := o + sz) (E := E) (H := H) (b := b) (sz := sz) (fun i hi => by
      obtain ⟨cs, q1, q2, q3⟩ := h (i + 1) (by simp; omega)
      exact ⟨cs, q1, by rw [show o + sz + i * sz = o + (i + 1) * sz by rw [Nat.succ_mul]; omega]; exact q2, by simpa using q3⟩)
    have hu : us.length = sz := by rw [← erl_len, h3]; exact h1
    refine ⟨us ++ vs, by simp [hu, k1, Nat.succ_mul]; omega, ?_, okL_app h4 k3, fun i hi => ?_⟩
    · intro i y hy
      rw [erl_app] at hy
      by_cases hlt : i < (erl us).length
      · rw [List.getElem?_append_left hlt, h3] at hy
        have := h2 i y hy
        simpa using this
      · rw [List.getElem?_append_right (by omega)] at hy
        have e1 : (erl us).length = sz := by rw [erl_len]; exact hu
        rw [e1] at hy hlt
        have := k2 (i - sz) y hy
        rwa [show o + sz + (i - sz) = o + i by omega] at this
    · cases i with
      | zero => simpa [List.take_left' hu] using h5
      | succ i =>
        have := k4 i (by simpa using hi)
        have e2 : (us ++ vs).drop ((i + 1) * sz) = vs.drop (i * sz) := by
          rw [show (i + 1) * sz = us.length + i * sz by rw [Nat.succ_mul, hu]; omega, List.drop_append]
          simp
        rw [e2]
        simpa using this
theorem lift_slice {α : Type} {E : α → List V → Prop} {H : Heap} {sz : Nat} {v : AV} {xs : List α} (h : InS sz (EV E) H v xs) : ∃ v', er v' = v ∧ okV H v' ∧ In (Lc sz E) v' xs := by
  rcases h with ⟨A, c, ex, k, rfl, h⟩ | ⟨rfl, rfl⟩
  · obtain ⟨vs, h1, h2, h3, h4⟩ := lift_cells h
    exact ⟨.fs A xs.length c ex k vs, rfl, by simp only [okV]; exact ⟨h2, h3⟩, .inl (.inr ⟨A, c, ex, k, vs, rfl, by omega, fun i hi => h4 i hi⟩)⟩
  · exact ⟨.sc .emp, rfl, by simp [okV], .inr ⟨rfl, rfl⟩⟩
def E1 {α : Type} (E : α → V → Prop) : α → List V → Prop := fun a cs => ∃ u, cs = [u] ∧ E a u
theorem lc1_ls {α : Type} {E : α → V → Prop} {v : V} {ys : List α} (h : Lc 1 (E1 E) v ys) : Ls E v ys := by
  rcases h with h | ⟨A, c, ex, k, xs, rfl, hl, h⟩
  · exact .inl h
  · refine .inr ⟨A, c, ex, k, xs, rfl, by omega, fun i hi => ?_⟩
    obtain ⟨u, h1, h2⟩ := h i hi
    have h3 : xs[i]? = some u := by
      have := congrArg (fun l => l[0]?) h1
      simpa [atN, List.getElem?_take, List.getElem?_drop] using this
    have h4 : at1 (.fs A ys.length c ex k xs) i = u := by
      simp [at1, List.getD_eq_getElem?_getD, h3]
    rw [h4]; exact h2
section
open Go.ChangeShapes Go.WideShapes Go.ChangeAt Go.RowKit
variable {HH : Type} {enc : TypeId × Value → HH} {P : Program} {W : World} {t e : TypeId} {fuel : Nat} {cs : List Value} {x : DataW HH × List MemPlace}
def LiftE {α : Type} (W : World) (E : α → List V → Prop) (a : α) (cs : List Value) : Prop := ∃ vs, erl vs = cs.map (avC W.heap.size) ∧ okL (heap0 W) vs ∧ E a vs
theorem in_list {α : Type} {E : α → List V → Prop} {good : α → Prop} {sz : Nat} (ht : P.underlying t = some (.slice e)) (hsz : P.cellsOf e = sz) (h0 : 0 < sz)
    (he : ∀ n cs x, DataW.trod enc P W 0 (fun _ => true) true n e cs = some x → ∃ a, LiftE W E a cs ∧ good a)
    (h : DataW.trod enc P W 0 (fun _ => true) true fuel t cs = some x) : ∃ xs : List α, LiftE W (E1 (fun (ys : List α) u => In (Lc sz E) u ys)) xs cs ∧ (xs.length ≤ 9223372036854775807 ∧ ∀ a ∈ xs, good a) := by
  obtain ⟨v, xs, rfl, h1, h2, h3⟩ := in_slice (E := EV E) (good := good) ht hsz h0 (fun n cs x hx => by
    obtain ⟨a, ⟨vs, h1, h2, h3⟩, h4⟩ := he n cs x hx
    exact ⟨a, ⟨vs, h1, h2, h3⟩, h4⟩) h
  obtain ⟨u, k1, k2, k3⟩ := lift_slice h1
  exact ⟨xs, ⟨[u], by simp [erl, k1], by simp only [okL]; exact ⟨k2, trivial⟩, u, rfl, k3⟩, h3, h2⟩
theorem in_list1 {α : Type} {E : α → V → Prop} {good : α → Prop} (ht : P.underlying t = some (.slice e)) (hsz : P.cellsOf e = 1)
    (he : ∀ n cs x, DataW.trod enc P W 0 (fun _ => true) true n e cs = some x → ∃ a, LiftE W (E1 E) a cs ∧ good a)
    (h : DataW.trod enc P W 0 (fun _ => true) true fuel t cs = some x) : ∃ xs : List α, LiftE W (E1 (fun (ys : List α) u => In (Ls E) u ys)) xs cs ∧ (xs.length ≤ 9223372036854775807 ∧ ∀ a ∈ xs, good a) := by
  obtain ⟨xs, ⟨vs, h1, h2, u, rfl, h3⟩, h4⟩ := in_list ht hsz (by omega) he h
  exact ⟨xs, ⟨[u], h1, h2, u, rfl, h3.imp lc1_ls id⟩, h4⟩
theorem in_n (ht : P.underlying t = some (.int .i64)) (h : DataW.trod enc P W 0 (fun _ => true) true fuel t cs = some x) : ∃ n, LiftE W (E1 isI) n cs ∧ (-9223372036854775808 ≤ n ∧ n ≤ 9223372036854775807) := by
  obtain ⟨n, rfl, h1⟩ := in_int ht h
  exact ⟨n, ⟨[.sc (.int .i64 n)], rfl, by simp [okL, okV], _, rfl, rfl⟩, h1⟩
theorem LiftE.one {α : Type} {E : α → V → Prop} {a : α} {c : Value} (h : LiftE W (E1 E) a [c]) : ∃ u, er u = avC W.heap.size c ∧ okV (heap0 W) u ∧ E a u := by
  obtain ⟨vs, h1, h2, u, rfl, h3⟩ := h
  simp only [erl, List.map_cons, List.map_nil, List.cons.injEq, and_true] at h1
  simp only [okL] at h2
  exact ⟨u, h1, h2.1, h3⟩
end
theorem calls_of_vcall {P : Program} {f : FuncId} {vs : List Value} {vv : List V} {W : World} (h : VCall P f vv (fun _ => none) (fun r M' => (fun _ => none) = M' ∧ r = .sc (.bool true)))
    (he : vv.map er = vs.map (avT W.heap.size)) (ho : okL (heap0 W) vv) : Calls P f vs.toArray W (fun e w' => e = .returned (.bool true) ∧ Go.RowKit.Below W.heap.size W w') := by
  refine calls_of_acall ?_
  rw [← he]
  refine (h (heap0 W) (heap0 W) ⟨rfl, fun b _ => .inr rfl, fun b l hb => by cases hb⟩ ho).mono ?_
  rintro a H' ⟨r, M', F', rfl, _, _, _, _, rfl⟩
  rfl
end Go.M2

namespace Go.M2
open Go.Proofs
open Go.ChangeShapes Go.WideShapes Go.ChangeAt Go.RowKit
variable {HH : Type} {enc : TypeId × Value → HH} {W : World} {fuel : Nat} {cs : List Value} {x : DataW HH × List MemPlace}
theorem list4 {α : Type} {l : List α} (h : l.length = 4) : ∃ a b c d, l = [a, b, c, d] := by
  match l, h with
  | [a, b, c, d], _ => exact ⟨a, b, c, d, rfl⟩
theorem list3 {α : Type} {l : List α} (h : l.length = 3) : ∃ a b c, l = [a, b, c] := by
  match l, h with
  | [a, b, c], _ => exact ⟨a, b, c, rfl⟩
theorem in_i64 (h : DataW.trod enc Tryz.prog W 0 (fun _ => true) true fuel 3 cs = some x) : ∃ n : Int, cs = [.int .i64 n] := by
  obtain ⟨n, h1, _⟩ := in_int Tryz.underlying3 h
  exact ⟨n, h1⟩
theorem in_term (h : DataW.trod enc Tryz.prog W 0 (fun _ => true) true fuel 88 cs = some x) : ∃ t : TermS, LiftE W isT t cs ∧ True := by
  have c3 : Tryz.prog.cellsOf 3 = 1 := by kernel_rfl
  obtain ⟨xs, n, _, _, hl, hxl, hf⟩ := DataW.trod_struct Tryz.underlying88 h
  have hxl : xs.length = 4 := hxl
  have hl : cs.length = 4 := hl.trans (by kernel_rfl)
  obtain ⟨a, b, c, d, rfl⟩ := list4 hl
  have f0 := hf 0 ⟨ "Op", 3, 0, false, "", "", 0⟩ rfl
  have f1 := hf 1 ⟨ "N", 3, 1, false, "", "", 8⟩ rfl
  have f2 := hf 2 ⟨ "A", 3, 2, false, "", "", 16⟩ rfl
  have f3 := hf 3 ⟨ "B", 3, 3, false, "", "", 24⟩ rfl
  rw [List.getElem?_eq_getElem (by omega), c3] at f0 f1 f2 f3
  obtain ⟨n0, e0⟩ := in_i64 f0
  obtain ⟨n1, e1⟩ := in_i64 f1
  obtain ⟨n2, e2⟩ := in_i64 f2
  obtain ⟨n3, e3⟩ := in_i64 f3
  simp only [List.drop_zero, List.drop_succ_cons, List.take_succ_cons, List.take_zero, List.cons.injEq, and_true] at e0 e1 e2 e3
  subst e0 e1 e2 e3
  exact ⟨⟨n0, n1, n2, n3⟩, ⟨encT ⟨n0, n1, n2, n3⟩, rfl, by simp [encT, okL, okV], rfl⟩, trivial⟩
theorem in_var (h : DataW.trod enc Tryz.prog W 0 (fun _ => true) true fuel 105 cs = some x) : ∃ t : VarS, LiftE W isVar t cs ∧ True := by
  have c3 : Tryz.prog.cellsOf 3 = 1 := by kernel_rfl
  obtain ⟨xs, n, _, _, hl, hxl, hf⟩ := DataW.trod_struct Tryz.underlying105 h
  have hxl : xs.length = 3 := hxl
  have hl : cs.length = 3 := hl.trans (by kernel_rfl)
  obtain ⟨a, b, c, rfl⟩ := list3 hl
  have f0 := hf 0 ⟨ "Low", 3, 0, false, "", "", 0⟩ rfl
  have f1 := hf 1 ⟨ "High", 3, 1, false, "", "", 8⟩ rfl
  have f2 := hf 2 ⟨ "First", 3, 2, false, "", "", 16⟩ rfl
  rw [List.getElem?_eq_getElem (by omega), c3] at f0 f1 f2
  obtain ⟨n0, e0⟩ := in_i64 f0
  obtain ⟨n1, e1⟩ := in_i64 f1
  obtain ⟨n2, e2⟩ := in_i64 f2
  simp only [List.drop_zero, List.drop_succ_cons, List.take_succ_cons, List.take_zero, List.cons.injEq, and_true] at e0 e1 e2
  subst e0 e1 e2
  exact ⟨⟨n0, n1, n2⟩, ⟨encVar ⟨n0, n1, n2⟩, rfl, by simp [encVar, okL, okV], rfl⟩, trivial⟩
theorem in_ints (h : DataW.trod enc Tryz.prog W 0 (fun _ => true) true fuel 26 cs = some x) : ∃ ns : List Int, LiftE W (E1 (fun (ys : List Int) u => XI u ys)) ns cs ∧ LenOk ns := by
  obtain ⟨ns, h1, h2, _⟩ := in_list1 (E := isI) (good := fun n => -9223372036854775808 ≤ n ∧ n ≤ 9223372036854775807) Tryz.underlying26 (by kernel_rfl) (fun n cs x h => in_n Tryz.underlying3 h) h
  exact ⟨ns, h1, h2⟩
theorem in_terms (h : DataW.trod enc Tryz.prog W 0 (fun _ => true) true fuel 43 cs = some x) : ∃ ts : List TermS, LiftE W (E1 (fun (ys : List TermS) u => XT u ys)) ts cs ∧ LenOk ts := by
  obtain ⟨ns, h1, h2, _⟩ := in_list (E := isT) (good := fun _ => True) (sz := 4) Tryz.underlying43 (by kernel_rfl) (by omega) (fun n cs x h => in_term h) h
  exact ⟨ns, h1, h2⟩
theorem in_vars (h : DataW.trod enc Tryz.prog W 0 (fun _ => true) true fuel 22 cs = some x) : ∃ ts : List VarS, LiftE W (E1 (fun (ys : List VarS) u => XVar u ys)) ts cs ∧ LenOk ts := by
  obtain ⟨ns, h1, h2, _⟩ := in_list (E := isVar) (good := fun _ => True) (sz := 3) Tryz.underlying22 (by kernel_rfl) (by omega) (fun n cs x h => in_var h) h
  exact ⟨ns, h1, h2⟩
theorem in_termss (h : DataW.trod enc Tryz.prog W 0 (fun _ => true) true fuel 99 cs = some x) : ∃ ts : List (List TermS), LiftE W (E1 (fun (ys : List (List TermS)) u => XTT u ys)) ts cs ∧ (LenOk ts ∧ ∀ t ∈ ts, LenOk t) :=
  in_list1 (E := fun (ts : List TermS) u => XT u ts) (good := fun ts => LenOk ts) Tryz.underlying99 (by kernel_rfl) (fun n cs x h => in_terms h) h
theorem in_rule (h : DataW.trod enc Tryz.prog W 0 (fun _ => true) true fuel 101 cs = some x) : ∃ r : RuleS, LiftE W isRuleX r cs ∧ RuleLen r := by
  obtain ⟨xs, n, _, _, hl, hxl, hf⟩ := DataW.trod_struct Tryz.underlying101 h
  have hxl : xs.length = 3 := hxl
  have hl : cs.length = 3 := hl.trans (by kernel_rfl)
  have c1 : Tryz.prog.cellsOf 43 = 1 := by kernel_rfl
  have c2 : Tryz.prog.cellsOf 26 = 1 := by kernel_rfl
  have c3 : Tryz.prog.cellsOf 99 = 1 := by kernel_rfl
  obtain ⟨a, b, c, rfl⟩ := list3 hl
  have f0 := hf 0 ⟨ "When", 43, 0, false, "", "", 0⟩ rfl
  have f1 := hf 1 ⟨ "Sets", 26, 1, false, "", "", 24⟩ rfl
  have f2 := hf 2 ⟨ "Terms", 99, 2, false, "", "", 48⟩ rfl
  rw [List.getElem?_eq_getElem (by omega)] at f0 f1 f2
  simp only [c1, c2, c3, List.drop_zero, List.drop_succ_cons, List.take_succ_cons, List.take_zero] at f0 f1 f2
  obtain ⟨n0, e0, g0⟩ := in_terms f0
  obtain ⟨n1, e1, g1⟩ := in_ints f1
  obtain ⟨n2, e2, g2, g3⟩ := in_termss f2
  obtain ⟨u0, p0, q0, r0⟩ := e0.one
  obtain ⟨u1, p1, q1, r1⟩ := e1.one
  obtain ⟨u2, p2, q2, r2⟩ := e2.one
  exact ⟨⟨n0, n1, n2⟩, ⟨[u0, u1, u2], by simp [erl, p0, p1, p2], by simp only [okL]; exact ⟨q0, q1, q2, trivial⟩, u0, u1, u2, rfl, r0, r1, r2⟩, g0, g1, g2, g3⟩
theorem in_rules (h : DataW.trod enc Tryz.prog W 0 (fun _ => true) true fuel 23 cs = some x) : ∃ rs : List RuleS, LiftE W (E1 (fun (ys : List RuleS) u => XR u ys)) rs cs ∧ (LenOk rs ∧ ∀ r ∈ rs, RuleLen r) :=
  in_list (E := isRuleX) (good := RuleLen) (sz := 3) Tryz.underlying23 (by kernel_rfl) (by omega) (fun n cs x h => in_rule h) h
def UpV {α : Type} (W : World) (E : α → V → Prop) (a : α) (v : Value) : Prop := ∃ u, er u = avT W.heap.size v ∧ okV (heap0 W) u ∧ E a u
theorem up_system {v : Value} (hv : ∃ a, v = .agg a) (h : DataW.trod enc Tryz.prog W 0 (fun _ => true) true fuel 25 v.cells.toList = some x) : ∃ s : SysS, UpV W (fun (s : SysS) u => isSysX s u) s v ∧ SysLen s := by
  obtain ⟨cs, rfl⟩ := hv
  have c1 : Tryz.prog.cellsOf 22 = 1 := by kernel_rfl
  have c2 : Tryz.prog.cellsOf 23 = 1 := by kernel_rfl
  obtain ⟨xs, n, _, _, hl, hxl, hf⟩ := DataW.trod_struct Tryz.underlying25 h
  have hxl : xs.length = 2 := hxl
  have hl : cs.toList.length = 2 := hl.trans (by kernel_rfl)
  obtain ⟨a, b, hab⟩ : ∃ a b, cs.toList = [a, b] := by
    match hcs : cs.toList, hl with
    | [a, b], _ => exact ⟨a, b, rfl⟩
  have f0 := hf 0 ⟨ "Vars", 22, 0, false, "", "", 0⟩ rfl
  have f1 := hf 1 ⟨ "Rules", 23, 1, false, "", "", 24⟩ rfl
  rw [List.getElem?_eq_getElem (by omega)] at f0 f1
  simp only [Value.cells, hab, c1, c2, List.drop_zero, List.drop_succ_cons, List.take_succ_cons, List.take_zero] at f0 f1
  obtain ⟨n0, e0, g0⟩ := in_vars f0
  obtain ⟨n1, e1, g1, g2⟩ := in_rules f1
  obtain ⟨u0, p0, q0, r0⟩ := e0.one
  obtain ⟨u1, p1, q1, r1⟩ := e1.one
  refine ⟨⟨n0, n1⟩, ⟨.agg [u0, u1], ?_, by simp only [okV, okL]; exact ⟨q0, q1, trivial⟩, u0, u1, rfl, r0, r1⟩, g0, g1, g2⟩
  simp [er, erl, avT, hab, p0, p1]
end Go.M2

namespace Go.M2
open Go.Proofs
variable {M : MH}
end Go.M2

namespace Go.M2
open Go.Proofs
variable {M : MH}
end Go.M2

namespace Go.M2
open Go.Proofs
theorem least {p : Nat → Prop} (h : ∃ n, p n) : ∃ n, p n ∧ ∀ m, p m → n ≤ m := by
  obtain ⟨n, hn⟩ := h
  induction n using Nat.strongRecOn with
  | _ n ih =>
    by_cases h2 : ∃ m, m < n ∧ p m
    · obtain ⟨m, h3, h4⟩ := h2
      exact ih m h3 h4
    · refine ⟨n, hn, fun m hm => ?_⟩
      rcases Nat.lt_or_ge m n with h3 | h3
      · exact absurd ⟨m, h3, hm⟩ h2
      · exact h3
open Classical in
noncomputable def leastOf (p : Nat → Prop) : Nat := if h : ∃ n, p n then (least h).choose else 0
theorem leastOf_spec {p : Nat → Prop} (h : ∃ n, p n) : p (leastOf p) ∧ ∀ m, p m → leastOf p ≤ m := by
  unfold leastOf
  rw [dif_pos h]
  exact (least h).choose_spec
theorem loop_g {P : Program} {Q : PostV} {e : EnvV} {M : MH} {a : IR} (I : Nat → EnvV → MH → Prop) (n : Nat) (h0 : I n e M)
    (hr : ∀ n e M, I n e M → ∀ K : EnvV → MH → Prop, (∀ m e' M', m < n → I m e' M' → K e' M') → wpV P a (thenQV K Q) e M) : wpV P (.loop a) Q e M := by
  refine loop_k (fun e M => ∃ n, I n e M) (fun e M => leastOf fun n => I n e M) ⟨n, h0⟩ fun e M hI K hK => ?_
  have h1 := leastOf_spec hI
  exact hr _ e M h1.1 K fun m e' M' hm hI' => hK e' M' ⟨m, hI'⟩ (Nat.lt_of_le_of_lt ((leastOf_spec ⟨m, hI'⟩).2 m hI') hm)
def Wn (M0 M : MH) (v : V) (xs : List Int) : Prop := ∃ b o ex l, v = .sc (.sl (some (b, o)) xs.length xs.length ex 1) ∧ M b = some l ∧ o + xs.length ≤ l.length ∧ (l.drop o).take xs.length = xs.map vi ∧ M0 b = none ∧ Sub M0 M
section
variable {M0 M : MH} {v : V} {x : Int} {xs : List Int} {K : V → MH → Prop} {by_ : Nat}
theorem Wn.len (h : Wn M0 M v xs) : lenF (er v) = some (.int .i64 (xs.length : Int)) := by
  obtain ⟨b, o, ex, l, rfl, _⟩ := h; rfl
theorem Wn.sub (h : Wn M0 M v xs) : Sub M0 M := by
  obtain ⟨b, o, ex, l, rfl, _, _, _, _, hs⟩ := h; exact hs
theorem Wn.head (h : Wn M0 M v (x :: xs)) : ∃ p, iaddrV 1 v (.int .i64 0) = some p ∧ loadV M 1 false p = some (.sc (.int .i64 x)) := by
  obtain ⟨b, o, ex, l, rfl, h1, h2, h3, _⟩ := h
  refine ⟨.sc (.ptr (some (b, o))), ?_, ?_⟩
  · simp only [iaddrV, AA.b_some, AA.o_some]
    rw [if_pos ⟨by omega, by simp only [List.length_cons]; omega⟩]; simp
  · simp only [loadV, h1, Option.map_some, loadO, Bool.false_eq_true, if_false]
    have := congrArg (fun l => l[0]?) h3
    simpa [List.getElem?_take, vi] using this
theorem wn_drop (h : Wn M0 M v (x :: xs)) (hk : ∀ v', Wn M0 M v' xs → blkV v' = blkV v → K v' M) : slcdV 1 v M K := by
  obtain ⟨b, o, ex, l, rfl, h1, h2, h3, h4, h5⟩ := h
  simp only [List.length_cons] at h2 h3
  have ht : (l.drop (o + 1)).take xs.length = xs.map vi := by
    have := congrArg (fun l => l.drop 1) h3
    simpa [List.drop_take, List.drop_drop, Nat.add_comm] using this
  simp only [slcdV, List.length_cons, AA.b_some, AA.o_some]
  refine ⟨trivial, by omega, Nat.le_refl _, ?_⟩
  split
  · rename_i hc
    have hx : xs = [] := List.eq_nil_of_length_eq_zero (by omega)
    subst hx
    exact ⟨hk _ ⟨b, o, true, l, rfl, h1, by simp only [List.length_nil]; omega, by simp, h4, h5⟩ rfl, hk _ ⟨b, o + 1, false, l, rfl, h1, by simp only [List.length_nil] at h2 ⊢; omega, by simp, h4, h5⟩ rfl⟩
  · rename_i hc
    by_cases hx : xs = []
    · subst hx
      simp only [List.length_nil, Nat.zero_add, if_pos, Nat.sub_self]
      exact hk _ ⟨b, o, ex, l, rfl, h1, by simp only [List.length_nil]; omega, by simp, h4, h5⟩ rfl
    · have : 0 < xs.length := List.length_pos_iff.2 hx
      rw [if_neg (by omega)]
      simp only [Nat.add_sub_cancel]
      exact hk _ ⟨b, o + 1, ex, l, rfl, h1, by omega, ht, h4, h5⟩ rfl
theorem wn_app {bt c k : Nat} {ex2 : Bool} (h : Wn M0 M v xs) (hbt : M bt = none) (hb : xs.length + 1 ≤ 68719476736) (hby : by_ ≤ 16)
    (hk : ∀ v' M', Wn M0 M' v' (xs ++ [x]) → Oth M M' v v' → K v' M') : appV 1 by_ v (.sc (.sl (some (bt, 0)) 1 c ex2 k)) (M.set bt [.sc (.int .i64 x)]) K := by
  obtain ⟨b, o, ex, l, rfl, h1, h2, h3, h4, h5⟩ := h
  have hne : b ≠ bt := fun e => by subst e; rw [hbt] at h1; cases h1
  have h1' : (M.set bt [V.sc (.int .i64 x)]) b = some l := by rw [set_ne hne]; exact h1
  have hcs : cellsS (1 * 1) (.sc (.sl (some (bt, 0)) 1 c ex2 k)) (M.set bt [.sc (.int .i64 x)]) = some [.sc (.int .i64 x)] := by
    simp only [cellsS, Nat.one_mul, set_same, Nat.zero_add, List.drop_zero]; rfl
  simp only [appV, lenS, hcs]
  refine ⟨_, _, .refl _ _, ?_⟩
  simp only [appW]
  rw [if_neg (by omega), if_neg (by omega)]
  have hbb : (xs.length + 1) * by_ ≤ mostCells := by
    have : (xs.length + 1) * by_ ≤ (xs.length + 1) * 16 := Nat.mul_le_mul_left _ hby
    simp [mostCells]; omega
  refine ⟨hbb, by simp [mostCells]; omega, ?_⟩
  cases ex with
  | true =>
    simp only [if_true]
    have hco : cellsS (xs.length * 1) (.sc (.sl (some (b, o)) xs.length xs.length true 1)) (M.set bt [.sc (.int .i64 x)]) = some (xs.map vi) := by
      simp only [cellsS, Nat.mul_one, h1']
      split
      · rename_i h0
        have hx : xs = [] := List.eq_nil_of_length_eq_zero h0
        subst hx; rfl
      · first | rw [if_pos h2, h3] | rw [h3]
    simp only [hco]
    intro b' hb'
    have hb2 := fresh_set hb'
    refine hk _ _ ⟨b', 0, false, xs.map vi ++ [.sc (.int .i64 x)], by simp, set_same, by simp, by rw [List.drop_zero, List.take_of_length_le (by simp)]; simp [vi], h5.none hb2.2, ?_⟩ fun q l' hq hqb => ⟨?_, ?_⟩
    · intro i l' hi
      have hi2 := h5 i l' hi
      rw [set_ne (fun e => by subst e; rw [hb2.2] at hi2; cases hi2), set_ne (fun e => by subst e; rw [hbt] at hi2; cases hi2)]
      exact hi2
    · rw [set_ne (fun e => by subst e; rw [hb2.2] at hq; cases hq), set_ne (fun e => by subst e; rw [hbt] at hq; cases hq)]
      exact hq
    · simp only [blkV, ne_eq, Option.some.injEq]
      exact fun e => by subst e; rw [hb2.2] at hq; cases hq
  | false =>
    simp only [Bool.false_eq_true, if_false, h1']
    refine ⟨trivial, by simp [oneV, er, oneA], by omega, fun b' hb' => ?_⟩
    rw [Nat.mul_one, h3]
    have hb2 := fresh_set hb'
    refine hk _ _ ⟨b', 0, false, xs.map vi ++ [.sc (.int .i64 x)], by simp, set_same, by simp, by rw [List.drop_zero, List.take_of_length_le (by simp)]; simp [vi], h5.none hb2.2, ?_⟩ fun q l' hq hqb => ⟨?_, ?_⟩
    · intro i l' hi
      have hi2 := h5 i l' hi
      rw [set_ne (fun e => by subst e; rw [hb2.2] at hi2; cases hi2), del_ne (fun e => by subst e; rw [h4] at hi; cases hi), set_ne (fun e => by subst e; rw [hbt] at hi2; cases hi2)]
      exact hi2
    · rw [set_ne (fun e => by subst e; rw [hb2.2] at hq; cases hq), del_ne (fun e => hqb (by simp [blkV, e])), set_ne (fun e => by subst e; rw [hbt] at hq; cases hq)]
      exact hq
    · simp only [blkV, ne_eq, Option.some.injEq]
      exact fun e => by subst e; rw [hb2.2] at hq; cases hq
theorem Wn.oth {q : Nat} {l' : List V} (h : Wn M0 M v xs) (hq : blkV v ≠ some q) (h0 : M0 q = none) : Wn M0 (M.set q l') v xs := by
  obtain ⟨b, o, ex, l, rfl, h1, h2, h3, h4, h5⟩ := h
  have hne : b ≠ q := fun e => hq (by simp [blkV, e])
  exact ⟨b, o, ex, l, rfl, by rw [set_ne hne]; exact h1, h2, h3, h4, h5.set h0⟩
end
inductive Rch (tab : List (List Int)) (st : Nat → Prop) : Nat → Prop
  | base {i : Nat} : st i → Rch tab st i
  | step {i : Nat} {x : Int} : Rch tab st i → x ∈ tab.getD i [] → Rch tab st x.toNat
noncomputable def rB (tab : List (List Int)) (st : Nat → Prop) (i : Nat) : Bool := @decide (Rch tab st i) (Classical.propDecidable _)
theorem rB_iff {tab : List (List Int)} {st : Nat → Prop} {i : Nat} : rB tab st i = true ↔ Rch tab st i := by unfold rB; exact @decide_eq_true_iff _ (Classical.propDecidable _)
theorem rB_closed {tab : List (List Int)} {st : Nat → Prop} {m : Nat → Bool} (h0 : ∀ i, st i → m i = true) (h1 : ∀ i, m i = true → Rch tab st i) (h2 : ∀ i, m i = true → ∀ x ∈ tab.getD i [], m x.toNat = true) (i : Nat) : m i = rB tab st i := by
  rw [Bool.eq_iff_iff, rB_iff]
  constructor
  · exact h1 i
  · intro h
    induction h with
    | base h => exact h0 _ h
    | step _ hx ih => exact h2 _ ih _ hx
def unm (n : Nat) (m : Nat → Bool) : Nat := ((List.range n).filter fun i => !m i).length
theorem filter_len_le {α : Type} {p q : α → Bool} (h : ∀ x, q x = true → p x = true) : ∀ l : List α, (l.filter q).length ≤ (l.filter p).length
  | [] => Nat.le_refl _
  | x :: t => by
    have ih := filter_len_le h t
    simp only [List.filter_cons]
    cases hq : q x with
    | true => rw [h x hq]; simpa using ih
    | false => cases p x <;> simp <;> omega
theorem filter_len_lt {α : Type} {p q : α → Bool} {y : α} (h : ∀ x, q x = true → p x = true) (hp : p y = true) (hq : q y = false) : ∀ {l : List α}, y ∈ l → (l.filter q).length < (l.filter p).length
  | x :: t, hy => by
    have ih := filter_len_le h t
    rcases List.mem_cons.1 hy with rfl | hy
    · simp only [List.filter_cons, hp, hq, if_true, Bool.false_eq_true, if_false, List.length_cons]; omega
    · have ih2 := filter_len_lt h hp hq hy
      simp only [List.filter_cons]
      cases hq : q x with
      | true => rw [h x hq]; simpa using ih2
      | false => cases p x <;> simp <;> omega
theorem unm_lt {n k : Nat} {m m' : Nat → Bool} (hk : k < n) (h1 : m k = false) (h2 : m' k = true) (h : ∀ i, m i = true → m' i = true) : unm n m' < unm n m := by
  refine filter_len_lt (y := k) (fun x hx => ?_) (by simp [h1]) (by simp [h2]) (List.mem_range.2 hk)
  simp only [Bool.not_eq_true'] at hx ⊢
  cases hm : m x with
  | false => rfl
  | true => rw [h x hm] at hx; cases hx
end Go.M2

namespace Go.M2
open Go.Proofs
variable {M : MH}
structure QO (tab : List (List Int)) (N : Nat) (st : Nat → Prop) (m : Nat → Bool) (row : List Int) : Prop where
  a : ∀ i, m i = true → i < N ∧ Rch tab st i
  b : ∀ i, st i → m i = true
  c : ∀ x ∈ row, 0 ≤ x ∧ m x.toNat = true
  d : ∀ i : Nat, m i = true → ¬ (i : Int) ∈ row → ∀ y ∈ tab.getD i [], m y.toNat = true
structure QI (tab : List (List Int)) (N : Nat) (st : Nat → Prop) (m : Nat → Bool) (row : List Int) (n j : Nat) : Prop where
  a : ∀ i, m i = true → i < N ∧ Rch tab st i
  b : ∀ i, st i → m i = true
  c : ∀ x ∈ row, 0 ≤ x ∧ m x.toNat = true
  d : ∀ i : Nat, m i = true → ¬ (i : Int) ∈ row → i ≠ n → ∀ y ∈ tab.getD i [], m y.toNat = true
  e : ∀ y ∈ (tab.getD n []).take j, m y.toNat = true
  n_ : m n = true
section
variable {tab : List (List Int)} {N : Nat} {st : Nat → Prop} {m : Nat → Bool} {row : List Int} {n j : Nat} {x : Int}
theorem QO.pop (h : QO tab N st m (x :: row)) : QI tab N st m row x.toNat 0 := by
  obtain ⟨hx0, hx1⟩ := h.c x (List.mem_cons_self ..)
  refine ⟨h.a, h.b, fun y hy => h.c y (List.mem_cons_of_mem _ hy), fun i hi hr hn => h.d i hi fun hm => ?_, fun y hy => by simp at hy, hx1⟩
  rcases List.mem_cons.1 hm with h1 | h1
  · omega
  · exact hr h1
theorem QI.done (h : QI tab N st m row n j) (hj : (tab.getD n []).length ≤ j) : QO tab N st m row := by
  refine ⟨h.a, h.b, h.c, fun i hi hr => ?_⟩
  by_cases e : i = n
  · subst e
    have := h.e
    rwa [List.take_of_length_le hj] at this
  · exact h.d i hi hr e
theorem QI.skip (h : QI tab N st m row n j) (hj : j < (tab.getD n []).length) (hm : m (tab.getD n [])[j].toNat = true) : QI tab N st m row n (j + 1) := by
  refine ⟨h.a, h.b, h.c, h.d, fun y hy => ?_, h.n_⟩
  rw [take_snoc hj, List.mem_append, List.mem_singleton] at hy
  rcases hy with h1 | rfl
  · exact h.e y h1
  · exact hm
theorem QI.push (h : QI tab N st m row n j) (hj : j < (tab.getD n []).length) (h0 : 0 ≤ (tab.getD n [])[j]) (hN : (tab.getD n [])[j].toNat < N) :
    QI tab N st (fun i => m i || decide (i = (tab.getD n [])[j].toNat)) (row ++ [(tab.getD n [])[j]]) n (j + 1) := by
  have up : ∀ i, m i = true → (m i || decide (i = (tab.getD n [])[j].toNat)) = true := fun i hi => by simp [hi]
  refine ⟨fun i hi => ?_, fun i hi => up i (h.b i hi), fun y hy => ?_, fun i hi hr hn y hy => ?_, fun y hy => ?_, up _ h.n_⟩
  · simp only [Bool.or_eq_true, decide_eq_true_eq] at hi
    rcases hi with h1 | rfl
    · exact h.a i h1
    · exact ⟨hN, .step (h.a n h.n_).2 (List.getElem_mem hj)⟩
  · rcases List.mem_append.1 hy with h1 | h1
    · exact ⟨(h.c y h1).1, up _ (h.c y h1).2⟩
    · rw [List.mem_singleton] at h1
      subst h1
      exact ⟨h0, by simp⟩
  · simp only [Bool.or_eq_true, decide_eq_true_eq] at hi
    rcases hi with h1 | h1
    · exact up _ (h.d i h1 (fun hm => hr (List.mem_append_left _ hm)) hn y hy)
    · exact absurd (List.mem_append_right _ (List.mem_singleton.2 (by omega))) hr
  · rw [take_snoc hj, List.mem_append, List.mem_singleton] at hy
    rcases hy with h1 | rfl
    · exact up _ (h.e y h1)
    · simp
theorem QO.final (h : QO tab N st m []) (i : Nat) : m i = rB tab st i := rB_closed h.b (fun i hi => (h.a i hi).2) (fun i hi => h.d i hi (by simp)) i
end
theorem Gr.wn {M0 M : MH} {v : V} {xs : List Int} (h : Gr 1 M0 M v (xs.map vi)) (h0 : 0 < xs.length) : Wn M0 M v xs := by
  rcases h.own with ⟨h1, _⟩ | ⟨b, n, ex, rfl, h1, h2⟩
  · have : xs = [] := by simpa using h1
    subst this; simp at h0
  · have hn : n = xs.length := by simp at h2; omega
    subst hn
    exact ⟨b, 0, ex, _, rfl, h1, by simp, by rw [List.drop_zero, List.take_of_length_le (by simp)], h.new b rfl, h.sub⟩
theorem Wn.base {M0 M1 M : MH} {v : V} {xs : List Int} (h : Wn M1 M v xs) (hs : Sub M0 M1) : Wn M0 M v xs := by
  obtain ⟨b, o, ex, l, rfl, h1, h2, h3, h4, h5⟩ := h
  exact ⟨b, o, ex, l, rfl, h1, h2, h3, hs.none h4, hs.trans h5⟩
end Go.M2

namespace Go.M2
open Go.Proofs
inductive Rk (tab : List (List Int)) (st : Nat → Prop) : Nat → Nat → Prop
  | zero {i : Nat} : st i → Rk tab st 0 i
  | succ {k i : Nat} {x : Int} : Rk tab st k i → x ∈ tab.getD i [] → Rk tab st (k + 1) x.toNat
open Classical in
noncomputable def dst (tab : List (List Int)) (st : Nat → Prop) (i : Nat) : Int := if ∃ k, Rk tab st k i then (leastOf fun k => Rk tab st k i : Nat) else -1
section
variable {tab : List (List Int)} {st : Nat → Prop} {i d : Nat}
theorem dst_of {k : Nat} (h : Rk tab st k i) : ∃ n : Nat, dst tab st i = (n : Int) ∧ Rk tab st n i ∧ n ≤ k := by
  have hs := leastOf_spec (p := fun k => Rk tab st k i) ⟨k, h⟩
  refine ⟨_, ?_, hs.1, hs.2 k h⟩
  unfold dst
  rw [if_pos ⟨k, h⟩]
theorem dst_ge (tab : List (List Int)) (st : Nat → Prop) (i : Nat) : -1 ≤ dst tab st i := by
  unfold dst
  split <;> omega
theorem dst_nat {n : Nat} (h : dst tab st i = (n : Int)) : Rk tab st n i ∧ ∀ k, Rk tab st k i → n ≤ k := by
  have hex : ∃ k, Rk tab st k i := by
    apply Classical.byContradiction
    intro hn
    unfold dst at h
    rw [if_neg hn] at h
    omega
  have hs := leastOf_spec (p := fun k => Rk tab st k i) hex
  have e : (leastOf fun k => Rk tab st k i) = n := by
    unfold dst at h
    rw [if_pos hex] at h
    omega
  rw [e] at hs
  exact hs
theorem dst_rch : 0 ≤ dst tab st i ↔ Rch tab st i := by
  constructor
  · intro h
    obtain ⟨n, hn⟩ : ∃ n : Nat, dst tab st i = (n : Int) := ⟨(dst tab st i).toNat, by omega⟩
    have h1 := (dst_nat hn).1
    clear hn h
    induction h1 with
    | zero h => exact .base h
    | succ _ hx ih => exact .step ih hx
  · intro h
    have : ∃ k, Rk tab st k i := by
      induction h with
      | base h => exact ⟨0, .zero h⟩
      | step _ hx ih => obtain ⟨k, hk⟩ := ih; exact ⟨k + 1, .succ hk hx⟩
    obtain ⟨k, hk⟩ := this
    obtain ⟨n, h1, _⟩ := dst_of hk
    omega
theorem dst_zero : dst tab st i = 0 ↔ st i := by
  constructor
  · intro h
    have h1 := (dst_nat (n := 0) h).1
    cases h1 with
    | zero h => exact h
  · intro h
    obtain ⟨n, h1, _, h2⟩ := dst_of (tab := tab) (.zero h)
    omega
theorem dst_pred (h : dst tab st i = ((d + 1 : Nat) : Int)) : ∃ (p : Nat) (x : Int), dst tab st p = (d : Int) ∧ x ∈ tab.getD p [] ∧ x.toNat = i := by
  obtain ⟨h1, h2⟩ := dst_nat h
  generalize hk : d + 1 = k at h1
  cases h1 with
  | zero h => omega
  | @succ k p x hp hx =>
    obtain ⟨n, q1, q2, q3⟩ := dst_of hp
    have := h2 _ (.succ q2 hx)
    exact ⟨p, x, by omega, hx, rfl⟩
theorem dst_next {x : Int} (h : dst tab st i = (d : Int)) (hx : x ∈ tab.getD i []) : 0 ≤ dst tab st x.toNat ∧ dst tab st x.toNat ≤ (d : Int) + 1 := by
  obtain ⟨n, q1, _, q2⟩ := dst_of (.succ (dst_nat h).1 hx)
  omega
theorem dst_all (h : ∀ i, dst tab st i ≠ ((d + 1 : Nat) : Int)) : ∀ i, dst tab st i ≤ (d : Int) := by
  have key : ∀ (n : Nat) (i : Nat), dst tab st i = ((d + 1 + n : Nat) : Int) → False := by
    intro n
    induction n with
    | zero => exact fun i hi => h i hi
    | succ n ih =>
      intro i hi
      obtain ⟨p, x, hp, _⟩ := dst_pred (d := d + 1 + n) hi
      exact ih p hp
  intro i
  rcases Int.lt_or_le (d : Int) (dst tab st i) with h1 | h1
  · exact (key ((dst tab st i).toNat - (d + 1)) i (by omega)).elim
  · exact h1
end
noncomputable def lv (tab : List (List Int)) (st : Nat → Prop) (d : Int) (i : Nat) : Int := if dst tab st i ≤ d then dst tab st i else -1
def mkI (n : Nat) (f : Nat → Int) : List Int := (List.range n).map f
theorem mkI_len {n : Nat} {f : Nat → Int} : (mkI n f).length = n := by simp [mkI]
theorem mkI_get {n : Nat} {f : Nat → Int} {i : Nat} (h : i < (mkI n f).length) : (mkI n f)[i] = f i := by simp [mkI]
theorem mkI_ext {n : Nat} {f g : Nat → Int} (h : ∀ i, i < n → f i = g i) : mkI n f = mkI n g := by
  unfold mkI
  exact List.map_congr_left fun i hi => h i (List.mem_range.1 hi)
theorem mkI_set {n k : Nat} {f g : Nat → Int} {x : Int} (h : ∀ i, i < n → g i = if i = k then x else f i) : (mkI n f).set k x = mkI n g := by
  apply List.ext_getElem
  · simp [mkI]
  · intro i h1 h2
    rw [List.getElem_set, mkI_get, mkI_get]
    rw [mkI_len] at h2
    rw [h i h2]
    by_cases e : k = i
    · subst e; simp
    · rw [if_neg e, if_neg (fun e' => e e'.symm)]
theorem mkI_succ {n : Nat} {f : Nat → Int} : mkI (n + 1) f = mkI n f ++ [f n] := by simp [mkI, List.range_succ]
structure LvI (tab : List (List Int)) (N : Nat) (st : Nat → Prop) (d : Nat) (a : Nat → Bool) (n : Nat) : Prop where
  s : ∀ i, a i = true → i < N ∧ dst tab st i = ((d + 1 : Nat) : Int)
  c : ∀ p, p < n → dst tab st p = (d : Int) → ∀ y ∈ tab.getD p [], 0 ≤ lv tab st d y.toNat ∨ a y.toNat = true
noncomputable def lvA (tab : List (List Int)) (st : Nat → Prop) (d : Nat) (a : Nat → Bool) (i : Nat) : Int := if a i = true then (d : Int) + 1 else lv tab st d i
section
variable {tab : List (List Int)} {N : Nat} {st : Nat → Prop} {d n : Nat} {a : Nat → Bool}
theorem LvI.last (h : LvI tab N st d a N) (hst : ∀ i, Rch tab st i → i < N) (i : Nat) : lvA tab st d a i = lv tab st ((d : Int) + 1) i := by
  unfold lvA lv
  by_cases ha : a i = true
  · rw [if_pos ha, (h.s i ha).2, if_pos (by omega)]; omega
  · rw [if_neg ha]
    by_cases h1 : dst tab st i ≤ (d : Int)
    · rw [if_pos h1, if_pos (by omega)]
    · rw [if_neg h1]
      by_cases h2 : dst tab st i ≤ (d : Int) + 1
      · exfalso
        obtain ⟨p, x, hp, hx, rfl⟩ := dst_pred (d := d) (show dst tab st i = ((d + 1 : Nat) : Int) by omega)
        rcases h.c p (hst p (dst_rch.1 (by omega))) hp x hx with h3 | h3
        · unfold lv at h3
          rw [if_neg h1] at h3
          omega
        · exact ha h3
      · rw [if_neg h2]
theorem LvI.none (h : LvI tab N st d a N) (hst : ∀ i, Rch tab st i → i < N) (ha : ∀ i, a i = false) (i : Nat) : lvA tab st d a i = dst tab st i := by
  have hall := dst_all (tab := tab) (st := st) (d := d) fun j hj => by
    have h1 := h.last hst j
    unfold lvA lv at h1
    rw [ha j] at h1
    simp only [Bool.false_eq_true, if_false] at h1
    rw [if_neg (by omega), if_pos (by omega)] at h1
    omega
  unfold lvA lv
  rw [ha i, if_pos (hall i)]
  simp
theorem LvI.mono {a' : Nat → Bool} (h : LvI tab N st d a n) (h2 : ∀ i, a' i = true → i < N ∧ dst tab st i = ((d + 1 : Nat) : Int)) (h3 : ∀ i, a i = true → a' i = true) : LvI tab N st d a' n :=
  ⟨h2, fun p hp hd y hy => (h.c p hp hd y hy).imp id (h3 _)⟩
end
end Go.M2

namespace Go.M2
open Go.Proofs
variable {M : MH}
abbrev stF (s : SysS) : Nat → Prop := fun i => (i : Int) ∈ [firstN s]
theorem t_l5First {v : V} {s : SysS} (hv : isSys s v) (hs : SysOk s) : VCall Tryz.prog n_spec_l5First [v] M (fun r M' => Gr 1 M M' r ((mkL (tabF s).length (inL [firstN s])).map vb)) := by
  refine VCall.plain fun R hR => v_spec_l5First rfl ?_
  have hv0 := hv
  obtain ⟨a, b, rfl, ha, hb⟩ := hv
  have hsz := hs.sz
  have htl := tabF_len s
  have hfb := firstN_bd hs
  (repeat' (first | ((first | with_reducible refine cond_dec (fun h => ?_) (fun h => ?_) | with_reducible refine guardK_dec (fun h => ?_) (fun h => ?_) | with_reducible refine guardD3_dec (fun h => ?_) (fun h => ?_)) <;> first | (exfalso; omega) | (simp (maxSteps := 2000000) (disch := first | omega | assumption | exact idP rfl | exact idP (bL rfl)) only [go_sem, reduceIte, Nat.reduceEqDiff, h]) | skip) | ((first | with_reducible refine cond_split (fun h => ?_) (fun h => ?_) | with_reducible refine guardK_split (fun h => ?_) (fun h => ?_) | with_reducible refine guardD3_split (fun h => ?_) (fun h => ?_)) <;> ((try simp only [Bool.not_eq_true', Bool.not_eq_false'] at h); first | (simp (maxSteps := 2000000) (disch := first | omega | assumption | exact idP rfl | exact idP (bL rfl)) only [go_sem, reduceIte, Nat.reduceEqDiff, h]) | skip)) | (with_reducible intro bk hbk; try have hnk := (fresh_set hbk).1) | (simp (maxSteps := 2000000) (disch := first | omega | assumption | exact idP rfl | exact idP (bL rfl)) only [go_sem, reduceIte, Nat.reduceEqDiff])))
  refine (VCall.fr1 (t_FirstState hv0 hs)).mono ?_
  rintro f _ ⟨rfl, hf⟩
  simp (maxSteps := 2000000) (disch := first | omega | assumption | exact idP rfl | exact idP (bL rfl)) only [go_sem, reduceIte, Nat.reduceEqDiff]
  refine (t_l4Number ha hf.li hs.vars hs.v5 (first_in hs)).mono ?_
  rintro _ _ ⟨rfl, rfl⟩
  have e9 : numF s.vars (firstF s) = firstN s := rfl
  simp (maxSteps := 2000000) (disch := first | omega | assumption | exact idP rfl | exact idP (bL rfl)) only [go_sem, reduceIte, Nat.reduceEqDiff, e9]
  refine (t_SizeOf hv0 hs).mono ?_
  rintro _ _ ⟨rfl, rfl⟩
  simp (maxSteps := 2000000) (disch := first | omega | assumption | exact idP rfl | exact idP (bL rfl)) only [go_sem, reduceIte, Nat.reduceEqDiff]
  intro b9 hb9
  have hg : Gr 1 M ((M.set bk [a, b]).set b9 [.sc (.int .i64 (firstN s))]) (.sc (.sl (some (b9, 0)) 1 1 true 1)) ([firstN s].map vi) := Gr.new' ((Sub.refl M).set' hbk) hb9 rfl
  have hle : sizeF s.vars = ((tabF s).length : Int) := by omega
  rw [hle]
  refine (VCall.give0 hg fun u M2 hu hs2 => (t_l4Marks hu.li (by omega) (by simp) (by intro x hx; rw [List.mem_singleton] at hx; subst hx; omega)).mono fun r M' hr => hr.base hs2).mono ?_
  rintro r M' hr
  simp (maxSteps := 2000000) (disch := first | omega | assumption | exact idP rfl | exact idP (bL rfl)) only [go_sem, reduceIte, Nat.reduceEqDiff]
  exact hR _ _ hr
theorem vi_at {n : Nat} {f : Nat → Int} {i : Nat} (h : i < n) : ((mkI n f).map vi)[i]? = some (.sc (.int .i64 (f i))) := by
  rw [List.getElem?_map, List.getElem?_eq_getElem (by rw [mkI_len]; exact h), mkI_get]; rfl
theorem set_vi' {bs : List Int} {i : Nat} {b : Int} : (bs.map vi).set i (.sc (.int .i64 b)) = (bs.set i b).map vi := by rw [List.map_set]; rfl
theorem t_l5Steps {v w : V} {tab : List (List Int)} {m0 : Nat → Bool} {st : Nat → Prop} (hv : LII v tab) (hw : LB w (mkL tab.length m0)) (hN : tab.length ≤ 1048576) (hm0 : ∀ i, i < tab.length → (m0 i = true ↔ st i)) (hst : ∀ i, Rch tab st i → i < tab.length)
    (htl : ∀ r ∈ tab, r.length ≤ 1048576 ∧ ∀ x ∈ r, 0 ≤ x ∧ x < (tab.length : Int)) :
    VCall Tryz.prog n_spec_l5Steps [v, w] M (fun r M' => Gr 1 M M' r ((mkI tab.length (dst tab st)).map vi)) := by
  refine VCall.plain fun R hR => v_spec_l5Steps rfl ?_
  obtain ⟨N, hNe⟩ : ∃ N, tab.length = N := ⟨_, rfl⟩
  have hvl := hv.len
  rw [hNe] at hvl hw hN hm0 hst htl hR
  have hlv0 : ∀ i, (st i → lv tab st (0 : Nat) i = 0) ∧ (¬ st i → lv tab st (0 : Nat) i = -1) := by
    intro i
    have hg := dst_ge tab st i
    unfold lv
    refine ⟨fun hs => ?_, fun hs => ?_⟩
    · rw [(dst_zero (tab := tab)).2 hs, if_pos (by omega)]
    · split
      · rename_i h
        have : dst tab st i ≠ 0 := fun h0 => hs (dst_zero.1 h0)
        omega
      · rfl
  simp (maxSteps := 2000000) (disch := first | omega | assumption | exact idP rfl | exact idP (bL rfl)) only [go_sem, reduceIte, Nat.reduceEqDiff]
  intro b5 hb5
  refine loop_k (fun e M' => ∃ i : Nat, i ≤ N ∧ e 0 = v ∧ e 1 = w ∧ e 6 = .sc (.int .i64 i) ∧ Gr 1 M M' (e 5) ((mkI i (lv tab st (0 : Nat))).map vi)) (fun e _ => ctrV N (e 6)) ?_ ?_
  · exact ⟨0, by omega, by simp (maxSteps := 2000000) (disch := first | omega | assumption | exact idP rfl | exact idP (bL rfl)) only [go_sem, reduceIte, Nat.reduceEqDiff], by simp (maxSteps := 2000000) (disch := first | omega | assumption | exact idP rfl | exact idP (bL rfl)) only [go_sem, reduceIte, Nat.reduceEqDiff], by simp (maxSteps := 2000000) (disch := first | omega | assumption | exact idP rfl | exact idP (bL rfl)) only [go_sem, reduceIte, Nat.reduceEqDiff]; rfl, by simp (maxSteps := 2000000) (disch := first | omega | assumption | exact idP rfl | exact idP (bL rfl)) only [go_sem, reduceIte, Nat.reduceEqDiff]; exact Gr.new' (Sub.refl _) hb5 rfl⟩
  · rintro e M1 ⟨i, hi, e0, e1, e6, hg⟩ K hK
    have hil : (mkI i (lv tab st (0 : Nat))).length = i := mkI_len
    simp (maxSteps := 2000000) (disch := first | omega | assumption | exact idP rfl | exact idP (bL rfl)) only [go_sem, reduceIte, Nat.reduceEqDiff, e0, e1, e6, hvl]
    refine cond_dec (fun h => ?_) (fun h => ?_)
    · have hi' : i < (mkL N m0).length := by rw [mkL_len]; omega
      simp (maxSteps := 2000000) (disch := first | omega | assumption | exact idP rfl | exact idP (bL rfl)) only [go_sem, reduceIte, Nat.reduceEqDiff, e0, e1, e6, hw.iaddr, hw.at hi', mkL_get]
      refine cond_split (fun h2 => ?_) (fun h2 => ?_)
      · simp (maxSteps := 2000000) (disch := first | omega | assumption | exact idP rfl | exact idP (bL rfl)) only [go_sem, reduceIte, Nat.reduceEqDiff, e0, e1, e6]
        intro bt hbt
        refine app_int hg hbt (by omega) (by omega) ?_
        intro s' M' hg' _
        simp (maxSteps := 2000000) (disch := first | omega | assumption | exact idP rfl | exact idP (bL rfl)) only [go_sem, reduceIte, Nat.reduceEqDiff, e0, e1, e6]
        refine hK _ _ ⟨i + 1, by omega, by simp (maxSteps := 2000000) (disch := first | omega | assumption | exact idP rfl | exact idP (bL rfl)) only [go_sem, reduceIte, Nat.reduceEqDiff, e0], by simp (maxSteps := 2000000) (disch := first | omega | assumption | exact idP rfl | exact idP (bL rfl)) only [go_sem, reduceIte, Nat.reduceEqDiff, e1], by simp (maxSteps := 2000000) (disch := first | omega | assumption | exact idP rfl | exact idP (bL rfl)) only [go_sem, reduceIte, Nat.reduceEqDiff, e6]; rfl, ?_⟩ (by simp (maxSteps := 2000000) (disch := first | omega | assumption | exact idP rfl | exact idP (bL rfl)) only [go_sem, reduceIte, Nat.reduceEqDiff, ctrV_int, e6]; omega)
        have hsi := (hm0 i (by omega)).1 h2
        have h3 := (hlv0 i).1 hsi
        simp (maxSteps := 2000000) (disch := first | omega | assumption | exact idP rfl | exact idP (bL rfl)) only [go_sem, reduceIte, Nat.reduceEqDiff]
        rw [mkI_succ, h3]; exact hg'
      · simp (maxSteps := 2000000) (disch := first | omega | assumption | exact idP rfl | exact idP (bL rfl)) only [go_sem, reduceIte, Nat.reduceEqDiff, e0, e1, e6]
        intro bt hbt
        refine app_int hg hbt (by omega) (by omega) ?_
        intro s' M' hg' _
        simp (maxSteps := 2000000) (disch := first | omega | assumption | exact idP rfl | exact idP (bL rfl)) only [go_sem, reduceIte, Nat.reduceEqDiff, e0, e1, e6]
        refine hK _ _ ⟨i + 1, by omega, by simp (maxSteps := 2000000) (disch := first | omega | assumption | exact idP rfl | exact idP (bL rfl)) only [go_sem, reduceIte, Nat.reduceEqDiff, e0], by simp (maxSteps := 2000000) (disch := first | omega | assumption | exact idP rfl | exact idP (bL rfl)) only [go_sem, reduceIte, Nat.reduceEqDiff, e1], by simp (maxSteps := 2000000) (disch := first | omega | assumption | exact idP rfl | exact idP (bL rfl)) only [go_sem, reduceIte, Nat.reduceEqDiff, e6]; rfl, ?_⟩ (by simp (maxSteps := 2000000) (disch := first | omega | assumption | exact idP rfl | exact idP (bL rfl)) only [go_sem, reduceIte, Nat.reduceEqDiff, ctrV_int, e6]; omega)
        have hsi : ¬ st i := fun hc => by rw [(hm0 i (by omega)).2 hc] at h2; cases h2
        have h3 := (hlv0 i).2 hsi
        simp (maxSteps := 2000000) (disch := first | omega | assumption | exact idP rfl | exact idP (bL rfl)) only [go_sem, reduceIte, Nat.reduceEqDiff]
        rw [mkI_succ, h3]; exact hg'
    · obtain rfl : i = N := by omega
      simp (maxSteps := 2000000) (disch := first | omega | assumption | exact idP rfl | exact idP (bL rfl)) only [go_sem, reduceIte, Nat.reduceEqDiff, e0, e1]
      refine loop_g (fun k e M' => ∃ (d : Nat) (t : Bool), e 0 = v ∧ e 7 = .sc (.bool t) ∧ e 8 = .sc (.int .i64 d) ∧ Gr 1 M M' (e 5) ((mkI i (if t = true then lv tab st d else dst tab st)).map vi) ∧
        2 * unm i (fun j => decide (0 ≤ lv tab st d j)) + (if t = true then 1 else 0) ≤ k ∧ (t = true → d + unm i (fun j => decide (0 ≤ lv tab st d j)) ≤ i)) (2 * i + 1) ?_ ?_
      · have hun : unm i (fun j => decide (0 ≤ lv tab st (0 : Nat) j)) ≤ i := by unfold unm; exact Nat.le_trans (List.length_filter_le ..) (by simp)
        exact ⟨0, true, by simp (maxSteps := 2000000) (disch := first | omega | assumption | exact idP rfl | exact idP (bL rfl)) only [go_sem, reduceIte, Nat.reduceEqDiff, e0], by simp (maxSteps := 2000000) (disch := first | omega | assumption | exact idP rfl | exact idP (bL rfl)) only [go_sem, reduceIte, Nat.reduceEqDiff], by simp (maxSteps := 2000000) (disch := first | omega | assumption | exact idP rfl | exact idP (bL rfl)) only [go_sem, reduceIte, Nat.reduceEqDiff]; rfl, by simp (maxSteps := 2000000) (disch := first | omega | assumption | exact idP rfl | exact idP (bL rfl)) only [go_sem, reduceIte, Nat.reduceEqDiff]; exact hg, by simp only [if_true]; omega, fun _ => by omega⟩
      · rintro k e M2 ⟨d, t, f0, f7, f8, fg, fk, fd⟩ K2 hK2
        cases t with
        | false =>
          simp (maxSteps := 2000000) (disch := first | omega | assumption | exact idP rfl | exact idP (bL rfl)) only [go_sem, reduceIte, Nat.reduceEqDiff, f7]
          simp only [Bool.false_eq_true, if_false] at fg
          exact hR _ _ fg
        | true =>
          simp only [if_true] at fg fk
          have fd := fd rfl
          simp (maxSteps := 2000000) (disch := first | omega | assumption | exact idP rfl | exact idP (bL rfl)) only [go_sem, reduceIte, Nat.reduceEqDiff, f7]
          refine loop_k (fun e' M' => ∃ (n : Nat) (a : Nat → Bool) (t : Bool), n ≤ i ∧ e' 0 = v ∧ e' 7 = .sc (.bool t) ∧ e' 8 = .sc (.int .i64 d) ∧ e' 9 = .sc (.int .i64 n) ∧ Gr 1 M M' (e' 5) ((mkI i (lvA tab st d a)).map vi) ∧ LvI tab i st d a n ∧ (t = true ↔ ∃ j, a j = true)) (fun e' _ => ctrV i (e' 9)) ?_ ?_
          · refine ⟨0, fun _ => false, false, by omega, by simp (maxSteps := 2000000) (disch := first | omega | assumption | exact idP rfl | exact idP (bL rfl)) only [go_sem, reduceIte, Nat.reduceEqDiff, f0], by simp (maxSteps := 2000000) (disch := first | omega | assumption | exact idP rfl | exact idP (bL rfl)) only [go_sem, reduceIte, Nat.reduceEqDiff], by simp (maxSteps := 2000000) (disch := first | omega | assumption | exact idP rfl | exact idP (bL rfl)) only [go_sem, reduceIte, Nat.reduceEqDiff, f8], by simp (maxSteps := 2000000) (disch := first | omega | assumption | exact idP rfl | exact idP (bL rfl)) only [go_sem, reduceIte, Nat.reduceEqDiff]; rfl, ?_, ⟨fun j hj => (by cases hj), fun p hp => (by omega)⟩, by simp⟩
            simp (maxSteps := 2000000) (disch := first | omega | assumption | exact idP rfl | exact idP (bL rfl)) only [go_sem, reduceIte, Nat.reduceEqDiff]
            rw [mkI_ext (g := lv tab st d) (fun j _ => by simp [lvA])]
            exact fg
          · rintro e' M3 ⟨n, a, t, hn, g0, g7, g8, g9, gg, gi, gt⟩ K3 hK3
            simp (maxSteps := 2000000) (disch := first | omega | assumption | exact idP rfl | exact idP (bL rfl)) only [go_sem, reduceIte, Nat.reduceEqDiff, g0, g7, g8, g9, hvl]
            refine cond_dec (fun hc => ?_) (fun hc => ?_)
            · have hnN : n < tab.length := by omega
              have hrow := hv.elt hnN
              have hri := htl _ (List.getElem_mem hnN)
              have hgd : tab.getD n [] = tab[n] := by simp [List.getD, hnN]
              simp (maxSteps := 2000000) (disch := first | omega | assumption | exact idP rfl | exact idP (bL rfl)) only [go_sem, reduceIte, Nat.reduceEqDiff, g0, g7, g8, g9]
              refine loop_k (fun e2 M' => ∃ (j : Nat) (a : Nat → Bool) (t : Bool), j ≤ tab[n].length ∧ e2 0 = v ∧ e2 7 = .sc (.bool t) ∧ e2 8 = .sc (.int .i64 d) ∧ e2 9 = .sc (.int .i64 n) ∧ e2 10 = .sc (.int .i64 j) ∧ Gr 1 M M' (e2 5) ((mkI i (lvA tab st d a)).map vi) ∧ LvI tab i st d a n ∧ (dst tab st n = (d : Int) → ∀ y ∈ tab[n].take j, 0 ≤ lv tab st d y.toNat ∨ a y.toNat = true) ∧ (t = true ↔ ∃ j, a j = true)) (fun e2 _ => ctrV tab[n].length (e2 10)) ?_ ?_
              · exact ⟨0, a, t, by omega, by simp (maxSteps := 2000000) (disch := first | omega | assumption | exact idP rfl | exact idP (bL rfl)) only [go_sem, reduceIte, Nat.reduceEqDiff, g0], by simp (maxSteps := 2000000) (disch := first | omega | assumption | exact idP rfl | exact idP (bL rfl)) only [go_sem, reduceIte, Nat.reduceEqDiff, g7], by simp (maxSteps := 2000000) (disch := first | omega | assumption | exact idP rfl | exact idP (bL rfl)) only [go_sem, reduceIte, Nat.reduceEqDiff, g8], by simp (maxSteps := 2000000) (disch := first | omega | assumption | exact idP rfl | exact idP (bL rfl)) only [go_sem, reduceIte, Nat.reduceEqDiff, g9], by simp (maxSteps := 2000000) (disch := first | omega | assumption | exact idP rfl | exact idP (bL rfl)) only [go_sem, reduceIte, Nat.reduceEqDiff]; rfl, by simp (maxSteps := 2000000) (disch := first | omega | assumption | exact idP rfl | exact idP (bL rfl)) only [go_sem, reduceIte, Nat.reduceEqDiff]; exact gg, gi, fun _ y hy => by simp at hy, gt⟩
              · rintro e2 M4 ⟨j, a, t, hj, u0, u7, u8, u9, u10, ug, ui, up, ut⟩ K4 hK4
                have ua := ug.at (by rw [List.length_map, mkI_len]; omega)
                have un := vi_at (n := i) (f := lvA tab st d a) (i := n) (by omega)
                have ui2 : (dst tab st n = (d : Int) → ∀ y ∈ tab[n], 0 ≤ lv tab st d y.toNat ∨ a y.toNat = true) → LvI tab i st d a (n + 1) := fun wp => ⟨ui.s, fun p hp hd => by
                  by_cases e : p = n
                  · subst e; rw [hgd]; exact wp hd
                  · exact ui.c p (by omega) hd⟩
                have fin : ∀ (e3 : EnvV) (M5 : MH), e3 0 = v → e3 7 = .sc (.bool t) → e3 8 = .sc (.int .i64 d) → e3 9 = .sc (.int .i64 ((n : Int) + 1)) → Gr 1 M M5 (e3 5) ((mkI i (lvA tab st d a)).map vi) → (dst tab st n = (d : Int) → ∀ y ∈ tab[n], 0 ≤ lv tab st d y.toNat ∨ a y.toNat = true) → K3 e3 M5 := fun e3 M5 w0 w7 w8 w9 wg wp =>
                  hK3 _ _ ⟨n + 1, a, t, by omega, w0, w7, w8, w9, wg, ui2 wp, ut⟩ (by rw [w9, g9]; simp (maxSteps := 2000000) (disch := first | omega | assumption | exact idP rfl | exact idP (bL rfl)) only [go_sem, reduceIte, Nat.reduceEqDiff, ctrV_int]; omega)
                simp (maxSteps := 2000000) (disch := first | omega | assumption | exact idP rfl | exact idP (bL rfl)) only [go_sem, reduceIte, Nat.reduceEqDiff, u0, u7, u8, u9, u10, hv.iaddr, hrow.len]
                have hia : ∀ {k : IntKind} {x : Int}, 0 ≤ x → x < (i : Int) → iaddrV 1 (e2 5) (.int k x) = some (.sc (.ptr (some (oB (e2 5), x.toNat)))) := fun q1 q2 => ug.own.iaddr q1 (by rw [len_vi, mkI_len]; exact q2)
                have vat : ∀ {q : Nat}, q < i → ((mkI i (lvA tab st d a)).map vi)[q]? = some (.sc (.int .i64 (lvA tab st d a q))) := fun h => vi_at h
                have dn : lvA tab st d a n = (d : Int) → dst tab st n = (d : Int) := fun hx => by
                  unfold lvA at hx
                  split at hx
                  · omega
                  · unfold lv at hx
                    split at hx <;> omega
                have dn2 : dst tab st n = (d : Int) → lvA tab st d a n = (d : Int) := fun hx => by
                  unfold lvA
                  split
                  · rename_i ha
                    have := (ui.s n ha).2
                    omega
                  · unfold lv
                    rw [if_pos (by omega)]; exact hx
                refine guardK_dec (fun hjl => ?_) (fun hjl => ?_)
                · have hj' : j < tab[n].length := by omega
                  have hyj := hri.2 _ (List.getElem_mem hj')
                  obtain ⟨y, hy⟩ : ∃ y, tab[n][j] = y := ⟨_, rfl⟩
                  rw [hy] at hyj
                  have hyi : y.toNat < i := by omega
                  simp (maxSteps := 2000000) (disch := first | omega | assumption | exact idP rfl | exact idP (bL rfl)) only [go_sem, reduceIte, Nat.reduceEqDiff, u0, u7, u8, u9, u10, hia, ua, vat, hjl]
                  refine cond_dec (fun hdn => ?_) (fun hdn => ?_)
                  · have hd := dn hdn
                    have hyt : y ∈ tab.getD n [] := by rw [hgd, ← hy]; exact List.getElem_mem hj'
                    have hnx := dst_next hd hyt
                    simp (maxSteps := 2000000) (disch := first | omega | assumption | exact idP rfl | exact idP (bL rfl)) only [go_sem, reduceIte, Nat.reduceEqDiff, u0, u7, u8, u9, u10, hv.iaddr, hrow.iaddr, hrow.at hj', hy, hia, ua, vat]
                    refine cond_dec (fun hneg => ?_) (fun hneg => ?_)
                    · have hay : a y.toNat = false := by
                        cases hq : a y.toNat with
                        | false => rfl
                        | true =>
                          unfold lvA at hneg
                          rw [if_pos hq] at hneg; omega
                      have hdy : dst tab st y.toNat = ((d + 1 : Nat) : Int) := by
                        unfold lvA at hneg
                        rw [hay] at hneg
                        simp only [Bool.false_eq_true, if_false] at hneg
                        unfold lv at hneg
                        split at hneg <;> omega
                      have hso : y.toNat < ((mkI i (lvA tab st d a)).map vi).length := by rw [len_vi, mkI_len]; exact hyi
                      simp (maxSteps := 2000000) (disch := first | omega | assumption | exact idP rfl | exact idP (bL rfl)) only [go_sem, reduceIte, Nat.reduceEqDiff, u0, u7, u8, u9, u10, hv.iaddr, hrow.iaddr, hrow.at hj', hy, hia, ua]
                      have hset := ug.setO (l' := (mkI i (lvA tab st d fun q => a q || decide (q = y.toNat))).map vi) (by rw [len_vi, mkI_len]; omega) (by simp [mkI_len])
                      have hlist : ((mkI i (lvA tab st d a)).map vi).set y.toNat (.sc (.int .i64 ((d : Int) + 1))) = (mkI i (lvA tab st d fun q => a q || decide (q = y.toNat))).map vi := by
                        rw [set_vi', mkI_set]
                        intro q hq
                        by_cases e : q = y.toNat
                        · subst e; simp [lvA]
                        · simp [lvA, e]
                      rw [hlist]
                      refine hK4 _ _ ⟨j + 1, fun q => a q || decide (q = y.toNat), true, by omega, by simp (maxSteps := 2000000) (disch := first | omega | assumption | exact idP rfl | exact idP (bL rfl)) only [go_sem, reduceIte, Nat.reduceEqDiff, u0], by simp (maxSteps := 2000000) (disch := first | omega | assumption | exact idP rfl | exact idP (bL rfl)) only [go_sem, reduceIte, Nat.reduceEqDiff], by simp (maxSteps := 2000000) (disch := first | omega | assumption | exact idP rfl | exact idP (bL rfl)) only [go_sem, reduceIte, Nat.reduceEqDiff, u8], by simp (maxSteps := 2000000) (disch := first | omega | assumption | exact idP rfl | exact idP (bL rfl)) only [go_sem, reduceIte, Nat.reduceEqDiff, u9], by simp (maxSteps := 2000000) (disch := first | omega | assumption | exact idP rfl | exact idP (bL rfl)) only [go_sem, reduceIte, Nat.reduceEqDiff, u10]; rfl, by simp (maxSteps := 2000000) (disch := first | omega | assumption | exact idP rfl | exact idP (bL rfl)) only [go_sem, reduceIte, Nat.reduceEqDiff]; exact hset, ui.mono (fun q hq => ?_) (fun q hq => by simp [hq]), fun _ z hz => ?_, ⟨fun _ => ⟨y.toNat, by simp⟩, fun _ => rfl⟩⟩ (by simp (maxSteps := 2000000) (disch := first | omega | assumption | exact idP rfl | exact idP (bL rfl)) only [go_sem, reduceIte, Nat.reduceEqDiff, ctrV_int, u10]; omega)
                      · simp only [Bool.or_eq_true, decide_eq_true_eq] at hq
                        rcases hq with h1 | rfl
                        · exact ui.s q h1
                        · exact ⟨hyi, hdy⟩
                      · rw [take_snoc hj', List.mem_append, List.mem_singleton, hy] at hz
                        rcases hz with h1 | rfl
                        · exact (up hd z h1).imp id fun h => by simp [h]
                        · exact .inr (by simp)
                    · simp (maxSteps := 2000000) (disch := first | omega | assumption | exact idP rfl | exact idP (bL rfl)) only [go_sem, reduceIte, Nat.reduceEqDiff, u0, u7, u8, u9, u10]
                      refine hK4 _ _ ⟨j + 1, a, t, by omega, by simp (maxSteps := 2000000) (disch := first | omega | assumption | exact idP rfl | exact idP (bL rfl)) only [go_sem, reduceIte, Nat.reduceEqDiff, u0], by simp (maxSteps := 2000000) (disch := first | omega | assumption | exact idP rfl | exact idP (bL rfl)) only [go_sem, reduceIte, Nat.reduceEqDiff, u7], by simp (maxSteps := 2000000) (disch := first | omega | assumption | exact idP rfl | exact idP (bL rfl)) only [go_sem, reduceIte, Nat.reduceEqDiff, u8], by simp (maxSteps := 2000000) (disch := first | omega | assumption | exact idP rfl | exact idP (bL rfl)) only [go_sem, reduceIte, Nat.reduceEqDiff, u9], by simp (maxSteps := 2000000) (disch := first | omega | assumption | exact idP rfl | exact idP (bL rfl)) only [go_sem, reduceIte, Nat.reduceEqDiff, u10]; rfl, by simp (maxSteps := 2000000) (disch := first | omega | assumption | exact idP rfl | exact idP (bL rfl)) only [go_sem, reduceIte, Nat.reduceEqDiff]; exact ug, ui, fun _ z hz => ?_, ut⟩ (by simp (maxSteps := 2000000) (disch := first | omega | assumption | exact idP rfl | exact idP (bL rfl)) only [go_sem, reduceIte, Nat.reduceEqDiff, ctrV_int, u10]; omega)
                      rw [take_snoc hj', List.mem_append, List.mem_singleton, hy] at hz
                      rcases hz with h1 | rfl
                      · exact up hd z h1
                      · unfold lvA at hneg
                        split at hneg
                        · rename_i ha; exact .inr ha
                        · exact .inl (by omega)
                  · simp (maxSteps := 2000000) (disch := first | omega | assumption | exact idP rfl | exact idP (bL rfl)) only [go_sem, reduceIte, Nat.reduceEqDiff, u0, u7, u8, u9]
                    exact fin _ _ (by simp (maxSteps := 2000000) (disch := first | omega | assumption | exact idP rfl | exact idP (bL rfl)) only [go_sem, reduceIte, Nat.reduceEqDiff, u0]) (by simp (maxSteps := 2000000) (disch := first | omega | assumption | exact idP rfl | exact idP (bL rfl)) only [go_sem, reduceIte, Nat.reduceEqDiff, u7]) (by simp (maxSteps := 2000000) (disch := first | omega | assumption | exact idP rfl | exact idP (bL rfl)) only [go_sem, reduceIte, Nat.reduceEqDiff, u8]) (by simp (maxSteps := 2000000) (disch := first | omega | assumption | exact idP rfl | exact idP (bL rfl)) only [go_sem, reduceIte, Nat.reduceEqDiff, u9]) (by simp (maxSteps := 2000000) (disch := first | omega | assumption | exact idP rfl | exact idP (bL rfl)) only [go_sem, reduceIte, Nat.reduceEqDiff]; exact ug) fun hd => absurd (dn2 hd) hdn
                · have hjl2 : j = tab[n].length := by omega
                  rw [hjl2, List.take_length] at up
                  simp (maxSteps := 2000000) (disch := first | omega | assumption | exact idP rfl | exact idP (bL rfl)) only [go_sem, reduceIte, Nat.reduceEqDiff, u0, u7, u8, u9, hjl]
                  exact fin _ _ (by simp (maxSteps := 2000000) (disch := first | omega | assumption | exact idP rfl | exact idP (bL rfl)) only [go_sem, reduceIte, Nat.reduceEqDiff, u0]) (by simp (maxSteps := 2000000) (disch := first | omega | assumption | exact idP rfl | exact idP (bL rfl)) only [go_sem, reduceIte, Nat.reduceEqDiff, u7]) (by simp (maxSteps := 2000000) (disch := first | omega | assumption | exact idP rfl | exact idP (bL rfl)) only [go_sem, reduceIte, Nat.reduceEqDiff, u8]) (by simp (maxSteps := 2000000) (disch := first | omega | assumption | exact idP rfl | exact idP (bL rfl)) only [go_sem, reduceIte, Nat.reduceEqDiff, u9]) (by simp (maxSteps := 2000000) (disch := first | omega | assumption | exact idP rfl | exact idP (bL rfl)) only [go_sem, reduceIte, Nat.reduceEqDiff]; exact ug) up
            · obtain rfl : n = i := by omega
              simp (maxSteps := 2000000) (disch := first | omega | assumption | exact idP rfl | exact idP (bL rfl)) only [go_sem, reduceIte, Nat.reduceEqDiff, g0, g7, g8]
              have hd1 : 0 ≤ (d : Int) + 1 ∧ (d : Int) + 1 ≤ 1048578 := by
                omega
              cases ht : t with
              | true =>
                subst ht
                obtain ⟨q, hq⟩ := gt.1 rfl
                obtain ⟨hq1, hq2⟩ := gi.s q hq
                have e1 : mkI n (lvA tab st d a) = mkI n (lv tab st ((d + 1 : Nat) : Int)) := mkI_ext fun j _ => by rw [gi.last hst j]; congr 1
                have hun := unm_lt (n := n) (m := fun j => decide (0 ≤ lv tab st d j)) (m' := fun j => decide (0 ≤ lv tab st ((d + 1 : Nat) : Int) j)) hq1 (by unfold lv; rw [if_neg (by omega)]; rfl) (by unfold lv; rw [if_pos (by omega)]; simp; omega) (fun j hj => by
                  simp only [decide_eq_true_eq] at hj ⊢
                  unfold lv at hj ⊢
                  split at hj
                  · rw [if_pos (by omega)]; exact hj
                  · omega)
                rw [e1] at gg
                refine hK2 (k - 1) _ _ (by omega) ⟨d + 1, true, by simp (maxSteps := 2000000) (disch := first | omega | assumption | exact idP rfl | exact idP (bL rfl)) only [go_sem, reduceIte, Nat.reduceEqDiff, g0], by simp (maxSteps := 2000000) (disch := first | omega | assumption | exact idP rfl | exact idP (bL rfl)) only [go_sem, reduceIte, Nat.reduceEqDiff, g7], by simp (maxSteps := 2000000) (disch := first | omega | assumption | exact idP rfl | exact idP (bL rfl)) only [go_sem, reduceIte, Nat.reduceEqDiff, g8]; rfl, by simp (maxSteps := 2000000) (disch := first | omega | assumption | exact idP rfl | exact idP (bL rfl)) only [go_sem, reduceIte, Nat.reduceEqDiff]; exact gg, by simp only [if_true]; omega, fun _ => by omega⟩
              | false =>
                subst ht
                have ha : ∀ j, a j = false := fun j => by
                  cases hq : a j with
                  | false => rfl
                  | true => have := gt.2 ⟨j, hq⟩; cases this
                have e1 : mkI n (lvA tab st d a) = mkI n (dst tab st) := mkI_ext fun j _ => gi.none hst ha j
                have e2 : unm n (fun j => decide (0 ≤ lv tab st ((d + 1 : Nat) : Int) j)) ≤ unm n (fun j => decide (0 ≤ lv tab st d j)) := by
                  refine filter_len_le (fun j hj => ?_) _
                  simp only [Bool.not_eq_true', decide_eq_false_iff_not] at hj ⊢
                  intro h2
                  refine hj ?_
                  unfold lv at h2 ⊢
                  split at h2
                  · rw [if_pos (by omega)]; exact h2
                  · omega
                rw [e1] at gg
                refine hK2 (k - 1) _ _ (by omega) ⟨d + 1, false, by simp (maxSteps := 2000000) (disch := first | omega | assumption | exact idP rfl | exact idP (bL rfl)) only [go_sem, reduceIte, Nat.reduceEqDiff, g0], by simp (maxSteps := 2000000) (disch := first | omega | assumption | exact idP rfl | exact idP (bL rfl)) only [go_sem, reduceIte, Nat.reduceEqDiff, g7], by simp (maxSteps := 2000000) (disch := first | omega | assumption | exact idP rfl | exact idP (bL rfl)) only [go_sem, reduceIte, Nat.reduceEqDiff, g8]; rfl, by simp (maxSteps := 2000000) (disch := first | omega | assumption | exact idP rfl | exact idP (bL rfl)) only [go_sem, reduceIte, Nat.reduceEqDiff]; exact gg, by simp only [Bool.false_eq_true, if_false]; omega, fun h => by cases h⟩
end Go.M2

namespace Go.M2
open Go.Proofs
variable {M : MH}
theorem rch_in {s : SysS} (hs : SysOk s) : ∀ i, Rch (tabF s) (stF s) i → i < (tabF s).length := by
  have hsz := hs.sz
  have htl := tabF_len s
  have hfb := firstN_bd hs
  intro i hi
  induction hi with
  | base h =>
    simp only [stF, List.mem_singleton] at h
    omega
  | @step i x _ hx ih =>
    have hgd : (tabF s).getD i [] = (tabF s)[i] := by simp [List.getD, ih]
    rw [hgd] at hx
    have := (tabF_in hs _ (List.getElem_mem ih)).2 x hx
    omega
noncomputable def stepsS (s : SysS) : List Int := if sysB s = true then mkI (tabF s).length (dst (tabF s) (stF s)) else []
theorem t_StepsTo {v : V} {s : SysS} (hv : isSys s v) : VCall Tryz.prog n_spec_StepsTo [v] M (fun r M' => M = M' ∧ LI r (stepsS s)) := by
  refine VCall.froz fun R hP hG => v_spec_StepsTo rfl ?_
  have hv0 := hv
  obtain ⟨a, b, rfl, ha, hb⟩ := hv
  (repeat' (first | ((first | with_reducible refine cond_dec (fun h => ?_) (fun h => ?_) | with_reducible refine guardK_dec (fun h => ?_) (fun h => ?_) | with_reducible refine guardD3_dec (fun h => ?_) (fun h => ?_)) <;> first | (exfalso; omega) | (simp (maxSteps := 2000000) (disch := first | omega | assumption | exact idP rfl | exact idP (bL rfl)) only [go_sem, reduceIte, Nat.reduceEqDiff, h]) | skip) | ((first | with_reducible refine cond_split (fun h => ?_) (fun h => ?_) | with_reducible refine guardK_split (fun h => ?_) (fun h => ?_) | with_reducible refine guardD3_split (fun h => ?_) (fun h => ?_)) <;> ((try simp only [Bool.not_eq_true', Bool.not_eq_false'] at h); first | (simp (maxSteps := 2000000) (disch := first | omega | assumption | exact idP rfl | exact idP (bL rfl)) only [go_sem, reduceIte, Nat.reduceEqDiff, h]) | skip)) | ((with_reducible refine (t_SystemValidS hv0).mono ?_); rintro _ _ ⟨rfl, rfl⟩) | (with_reducible intro bk hbk; try have hnk := (fresh_set hbk).1) | (simp (maxSteps := 2000000) (disch := first | omega | assumption | exact idP rfl | exact idP (bL rfl)) only [go_sem, reduceIte, Nat.reduceEqDiff])))
  · exact hP _ _ (by (repeat (first | exact Sub.refl _ | assumption | (refine Sub.set' ?_ (by assumption))))) (by unfold stepsS; rw [if_neg (by rw [h]; simp)]; exact .nil)
  · have hs := (sysB_iff s).1 h
    have hsz := hs.sz
    have htl := tabF_len s
    refine (f_l4Steps hv0 hs).mono ?_
    rintro t _ ⟨rfl, ht⟩
    simp (maxSteps := 2000000) (disch := first | omega | assumption | exact idP rfl | exact idP (bL rfl)) only [go_sem, reduceIte, Nat.reduceEqDiff]
    refine (VCall.fr1 (t_l5First hv0 hs)).mono ?_
    rintro m _ ⟨rfl, hm⟩
    simp (maxSteps := 2000000) (disch := first | omega | assumption | exact idP rfl | exact idP (bL rfl)) only [go_sem, reduceIte, Nat.reduceEqDiff]
    refine (t_l5Steps (st := stF s) ht hm.lb (by omega) (fun i _ => by simp [inL, stF]) (rch_in hs) (tabF_in hs)).mono ?_
    rintro r M2 hg
    simp (maxSteps := 2000000) (disch := first | omega | assumption | exact idP rfl | exact idP (bL rfl)) only [go_sem, reduceIte, Nat.reduceEqDiff]
    refine hG _ _ _ _ (hg.base ((Sub.refl M).set' hbk)) fun u hu => ?_
    unfold stepsS
    rw [if_pos h]
    exact hu.li
end Go.M2
