/- Contracts: small functions of numbers; terms. -/
import Derived.Test.YtbghdkclhbenkaaWR4
import Derived.Test.YtbghdkclhbenkaaChecked
set_option linter.unusedVariables false
set_option linter.unusedSimpArgs false
set_option maxRecDepth 10000
set_option maxHeartbeats 4000000
namespace Go.M2
open Go.Proofs
variable {M : MH}
theorem eqB {a b : Bool} (h : a = true ↔ b = true) : V.sc (.bool a) = V.sc (.bool b) := by
  have : a = b := by cases a <;> cases b <;> simp_all
  rw [this]
theorem eqI {a b : Int} (h : a = b) : V.sc (.int .i64 a) = V.sc (.int .i64 b) := by rw [h]
theorem t_l1In {n lo hi : Int} : VCall Try.prog n_spec_l1In [.sc (.int .i64 n), .sc (.int .i64 lo), .sc (.int .i64 hi)] M (fun r M' => M = M' ∧ r = .sc (.bool (decide (lo ≤ n ∧ n ≤ hi)))) := by
  refine VCall.pure fun R hR => v_spec_l1In rfl ?_
  (repeat' (first | ((with_reducible first | refine cond_dec (fun h => ?_) (fun h => ?_) | refine guardK_dec (fun h => ?_) (fun h => ?_) | refine guardD3_dec (fun h => ?_) (fun h => ?_)) <;> first | (exfalso; omega) | (simp (maxSteps := 2000000) (disch := first | omega | assumption | exact idP rfl | exact idP (bL rfl)) only [go_sem, reduceIte, Nat.reduceEqDiff, wpV_kd, wpV_tH, h]) | skip) | ((with_reducible first | refine cond_split (fun h => ?_) (fun h => ?_) | refine guardK_split (fun h => ?_) (fun h => ?_) | refine guardD3_split (fun h => ?_) (fun h => ?_)) <;> ((try simp only [Bool.not_eq_true', Bool.not_eq_false'] at h); first | (simp (maxSteps := 2000000) (disch := first | omega | assumption | exact idP rfl | exact idP (bL rfl)) only [go_sem, reduceIte, Nat.reduceEqDiff, wpV_kd, wpV_tH, h]) | skip)) | (with_reducible intro bk hbk; try have hnk := (fresh_set hbk).1) | (simp (maxSteps := 2000000) (disch := first | omega | assumption | exact idP rfl | exact idP (bL rfl)) only [go_sem, reduceIte, Nat.reduceEqDiff, wpV_kd, wpV_tH])))
  all_goals exact hR _ _ (Sub.refl _) (by (refine eqB ?_; (try simp only [decide_eq_true_eq, Bool.false_eq_true, Bool.and_eq_true, Bool.or_eq_true, Bool.not_eq_true', decide_eq_false_iff_not, eq_self_iff_true, true_iff, false_iff, iff_true, iff_false, ne_eq]); (try omega)))
theorem t_in {n lo hi : Int} : VCall Try.prog n_impl_in [.sc (.int .i64 n), .sc (.int .i64 lo), .sc (.int .i64 hi)] M (fun r M' => M = M' ∧ r = .sc (.bool (decide (lo ≤ n ∧ n ≤ hi)))) := by
  refine VCall.pure fun R hR => v_impl_in rfl ?_
  (repeat' (first | ((with_reducible first | refine cond_dec (fun h => ?_) (fun h => ?_) | refine guardK_dec (fun h => ?_) (fun h => ?_) | refine guardD3_dec (fun h => ?_) (fun h => ?_)) <;> first | (exfalso; omega) | (simp (maxSteps := 2000000) (disch := first | omega | assumption | exact idP rfl | exact idP (bL rfl)) only [go_sem, reduceIte, Nat.reduceEqDiff, wpV_kd, wpV_tH, h]) | skip) | ((with_reducible first | refine cond_split (fun h => ?_) (fun h => ?_) | refine guardK_split (fun h => ?_) (fun h => ?_) | refine guardD3_split (fun h => ?_) (fun h => ?_)) <;> ((try simp only [Bool.not_eq_true', Bool.not_eq_false'] at h); first | (simp (maxSteps := 2000000) (disch := first | omega | assumption | exact idP rfl | exact idP (bL rfl)) only [go_sem, reduceIte, Nat.reduceEqDiff, wpV_kd, wpV_tH, h]) | skip)) | (with_reducible intro bk hbk; try have hnk := (fresh_set hbk).1) | (simp (maxSteps := 2000000) (disch := first | omega | assumption | exact idP rfl | exact idP (bL rfl)) only [go_sem, reduceIte, Nat.reduceEqDiff, wpV_kd, wpV_tH])))
  all_goals exact hR _ _ (Sub.refl _) (by (refine eqB ?_; (try simp only [decide_eq_true_eq, Bool.false_eq_true, Bool.and_eq_true, Bool.or_eq_true, Bool.not_eq_true', decide_eq_false_iff_not, eq_self_iff_true, true_iff, false_iff, iff_true, iff_false, ne_eq]); (try omega)))
theorem t_l1Held {n : Int} : VCall Try.prog n_spec_l1Held [.sc (.int .i64 n)] M (fun r M' => M = M' ∧ r = .sc (.int .i64 (heldF n))) := by
  refine VCall.pure fun R hR => v_spec_l1Held rfl ?_
  (repeat' (first | ((with_reducible first | refine cond_dec (fun h => ?_) (fun h => ?_) | refine guardK_dec (fun h => ?_) (fun h => ?_) | refine guardD3_dec (fun h => ?_) (fun h => ?_)) <;> first | (exfalso; omega) | (simp (maxSteps := 2000000) (disch := first | omega | assumption | exact idP rfl | exact idP (bL rfl)) only [go_sem, reduceIte, Nat.reduceEqDiff, wpV_kd, wpV_tH, h]) | skip) | ((with_reducible first | refine cond_split (fun h => ?_) (fun h => ?_) | refine guardK_split (fun h => ?_) (fun h => ?_) | refine guardD3_split (fun h => ?_) (fun h => ?_)) <;> ((try simp only [Bool.not_eq_true', Bool.not_eq_false'] at h); first | (simp (maxSteps := 2000000) (disch := first | omega | assumption | exact idP rfl | exact idP (bL rfl)) only [go_sem, reduceIte, Nat.reduceEqDiff, wpV_kd, wpV_tH, h]) | skip)) | (with_reducible intro bk hbk; try have hnk := (fresh_set hbk).1) | (simp (maxSteps := 2000000) (disch := first | omega | assumption | exact idP rfl | exact idP (bL rfl)) only [go_sem, reduceIte, Nat.reduceEqDiff, wpV_kd, wpV_tH])))
  all_goals exact hR _ _ (Sub.refl _) (eqI (by unfold heldF; split <;> (try split) <;> omega))
theorem t_held {n : Int} : VCall Try.prog n_impl_held [.sc (.int .i64 n)] M (fun r M' => M = M' ∧ r = .sc (.int .i64 (heldF n))) := by
  refine VCall.pure fun R hR => v_impl_held rfl ?_
  (repeat' (first | ((with_reducible first | refine cond_dec (fun h => ?_) (fun h => ?_) | refine guardK_dec (fun h => ?_) (fun h => ?_) | refine guardD3_dec (fun h => ?_) (fun h => ?_)) <;> first | (exfalso; omega) | (simp (maxSteps := 2000000) (disch := first | omega | assumption | exact idP rfl | exact idP (bL rfl)) only [go_sem, reduceIte, Nat.reduceEqDiff, wpV_kd, wpV_tH, h]) | skip) | ((with_reducible first | refine cond_split (fun h => ?_) (fun h => ?_) | refine guardK_split (fun h => ?_) (fun h => ?_) | refine guardD3_split (fun h => ?_) (fun h => ?_)) <;> ((try simp only [Bool.not_eq_true', Bool.not_eq_false'] at h); first | (simp (maxSteps := 2000000) (disch := first | omega | assumption | exact idP rfl | exact idP (bL rfl)) only [go_sem, reduceIte, Nat.reduceEqDiff, wpV_kd, wpV_tH, h]) | skip)) | (with_reducible intro bk hbk; try have hnk := (fresh_set hbk).1) | (simp (maxSteps := 2000000) (disch := first | omega | assumption | exact idP rfl | exact idP (bL rfl)) only [go_sem, reduceIte, Nat.reduceEqDiff, wpV_kd, wpV_tH])))
  all_goals exact hR _ _ (Sub.refl _) (eqI (by unfold heldF; split <;> (try split) <;> omega))
theorem t_l1One {n : Int} : VCall Try.prog n_spec_l1One [.sc (.int .i64 n)] M (fun r M' => M = M' ∧ r = .sc (.bool (decide (n = 7)))) := by
  refine VCall.pure fun R hR => v_spec_l1One rfl ?_
  (repeat' (first | ((with_reducible first | refine cond_dec (fun h => ?_) (fun h => ?_) | refine guardK_dec (fun h => ?_) (fun h => ?_) | refine guardD3_dec (fun h => ?_) (fun h => ?_)) <;> first | (exfalso; omega) | (simp (maxSteps := 2000000) (disch := first | omega | assumption | exact idP rfl | exact idP (bL rfl)) only [go_sem, reduceIte, Nat.reduceEqDiff, wpV_kd, wpV_tH, h]) | skip) | ((with_reducible first | refine cond_split (fun h => ?_) (fun h => ?_) | refine guardK_split (fun h => ?_) (fun h => ?_) | refine guardD3_split (fun h => ?_) (fun h => ?_)) <;> ((try simp only [Bool.not_eq_true', Bool.not_eq_false'] at h); first | (simp (maxSteps := 2000000) (disch := first | omega | assumption | exact idP rfl | exact idP (bL rfl)) only [go_sem, reduceIte, Nat.reduceEqDiff, wpV_kd, wpV_tH, h]) | skip)) | (with_reducible intro bk hbk; try have hnk := (fresh_set hbk).1) | (simp (maxSteps := 2000000) (disch := first | omega | assumption | exact idP rfl | exact idP (bL rfl)) only [go_sem, reduceIte, Nat.reduceEqDiff, wpV_kd, wpV_tH])))
  all_goals exact hR _ _ (Sub.refl _) rfl
theorem t_l1Truth {b : Bool} : VCall Try.prog n_spec_l1Truth [.sc (.bool b)] M (fun r M' => M = M' ∧ r = .sc (.int .i64 (if b = true then 1 else 0))) := by
  refine VCall.pure fun R hR => v_spec_l1Truth rfl ?_
  cases b <;> (repeat' (first | ((with_reducible first | refine cond_dec (fun h => ?_) (fun h => ?_) | refine guardK_dec (fun h => ?_) (fun h => ?_) | refine guardD3_dec (fun h => ?_) (fun h => ?_)) <;> first | (exfalso; omega) | (simp (maxSteps := 2000000) (disch := first | omega | assumption | exact idP rfl | exact idP (bL rfl)) only [go_sem, reduceIte, Nat.reduceEqDiff, wpV_kd, wpV_tH, h]) | skip) | ((with_reducible first | refine cond_split (fun h => ?_) (fun h => ?_) | refine guardK_split (fun h => ?_) (fun h => ?_) | refine guardD3_split (fun h => ?_) (fun h => ?_)) <;> ((try simp only [Bool.not_eq_true', Bool.not_eq_false'] at h); first | (simp (maxSteps := 2000000) (disch := first | omega | assumption | exact idP rfl | exact idP (bL rfl)) only [go_sem, reduceIte, Nat.reduceEqDiff, wpV_kd, wpV_tH, h]) | skip)) | (with_reducible intro bk hbk; try have hnk := (fresh_set hbk).1) | (simp (maxSteps := 2000000) (disch := first | omega | assumption | exact idP rfl | exact idP (bL rfl)) only [go_sem, reduceIte, Nat.reduceEqDiff, wpV_kd, wpV_tH])))
  all_goals exact hR _ _ (Sub.refl _) rfl
theorem t_bit {b : Bool} : VCall Try.prog n_impl_bit [.sc (.bool b)] M (fun r M' => M = M' ∧ r = .sc (.int .i64 (if b = true then 1 else 0))) := by
  refine VCall.pure fun R hR => v_impl_bit rfl ?_
  cases b <;> (repeat' (first | ((with_reducible first | refine cond_dec (fun h => ?_) (fun h => ?_) | refine guardK_dec (fun h => ?_) (fun h => ?_) | refine guardD3_dec (fun h => ?_) (fun h => ?_)) <;> first | (exfalso; omega) | (simp (maxSteps := 2000000) (disch := first | omega | assumption | exact idP rfl | exact idP (bL rfl)) only [go_sem, reduceIte, Nat.reduceEqDiff, wpV_kd, wpV_tH, h]) | skip) | ((with_reducible first | refine cond_split (fun h => ?_) (fun h => ?_) | refine guardK_split (fun h => ?_) (fun h => ?_) | refine guardD3_split (fun h => ?_) (fun h => ?_)) <;> ((try simp only [Bool.not_eq_true', Bool.not_eq_false'] at h); first | (simp (maxSteps := 2000000) (disch := first | omega | assumption | exact idP rfl | exact idP (bL rfl)) only [go_sem, reduceIte, Nat.reduceEqDiff, wpV_kd, wpV_tH, h]) | skip)) | (with_reducible intro bk hbk; try have hnk := (fresh_set hbk).1) | (simp (maxSteps := 2000000) (disch := first | omega | assumption | exact idP rfl | exact idP (bL rfl)) only [go_sem, reduceIte, Nat.reduceEqDiff, wpV_kd, wpV_tH])))
  all_goals exact hR _ _ (Sub.refl _) rfl
def encT (t : TermS) : List V := [.sc (.int .i64 t.op), .sc (.int .i64 t.n), .sc (.int .i64 t.a), .sc (.int .i64 t.b)]
def isT (t : TermS) (cs : List V) : Prop := cs = encT t
abbrev LT : V → List TermS → Prop := Lc 4 isT
theorem LI.ix {v : V} {ys : List Int} (h : LI v ys) {i : Int} (h0 : 0 ≤ i) (h1 : i < (ys.length : Int)) : at1 v i.toNat = .sc (.int .i64 (ix ys i)) := by
  obtain ⟨h2, e⟩ := ix_eq h0 h1
  rw [LI.at h h2, e]
theorem t_l1Kind {t : TermS} {v : V} {ks : List Int} {vars : Int} (hv : LI v ks) (hl : ks.length ≤ 40) (h0 : 0 ≤ vars) (h1 : vars ≤ 5) :
    VCall Try.prog n_spec_l1Kind [.agg (encT t), v, .sc (.int .i64 vars)] M (fun r M' => M = M' ∧ r = .sc (.int .i64 (kind1 vars t ks))) := by
  refine VCall.pure fun R hR => v_spec_l1Kind rfl ?_
  obtain ⟨op, n, a, b⟩ := t
  simp only [encT]
  (repeat' (first | ((with_reducible first | refine cond_dec (fun h => ?_) (fun h => ?_) | refine guardK_dec (fun h => ?_) (fun h => ?_) | refine guardD3_dec (fun h => ?_) (fun h => ?_)) <;> first | (exfalso; omega) | (simp (maxSteps := 2000000) (disch := first | omega | assumption | exact idP rfl | exact idP (bL rfl)) only [go_sem, reduceIte, Nat.reduceEqDiff, wpV_kd, wpV_tH, h, hv.len, hv.iaddr, hv.ix]) | skip) | ((with_reducible first | refine cond_split (fun h => ?_) (fun h => ?_) | refine guardK_split (fun h => ?_) (fun h => ?_) | refine guardD3_split (fun h => ?_) (fun h => ?_)) <;> ((try simp only [Bool.not_eq_true', Bool.not_eq_false'] at h); first | (simp (maxSteps := 2000000) (disch := first | omega | assumption | exact idP rfl | exact idP (bL rfl)) only [go_sem, reduceIte, Nat.reduceEqDiff, wpV_kd, wpV_tH, h, hv.len, hv.iaddr, hv.ix]) | skip)) | ((with_reducible refine (t_l1In).mono ?_); rintro _ _ ⟨rfl, rfl⟩) | ((with_reducible refine (t_l1One).mono ?_); rintro _ _ ⟨rfl, rfl⟩) | (with_reducible intro bk hbk; try have hnk := (fresh_set hbk).1) | (simp (maxSteps := 2000000) (disch := first | omega | assumption | exact idP rfl | exact idP (bL rfl)) only [go_sem, reduceIte, Nat.reduceEqDiff, wpV_kd, wpV_tH, hv.len, hv.iaddr, hv.ix])))
  all_goals refine hR _ _ (sB) (eqI ?_)
  all_goals simp only [kind1, wantK]
  all_goals repeat' split
  all_goals first | omega | trace_state
theorem nth_ix {ks : List Int} {a : Int} (h0 : 0 ≤ a) (h1 : a < (ks.length : Int)) : (ks.map vi)[a.toNat]? = .some (.sc (.int .i64 (ix ks a))) := by
  obtain ⟨h, e⟩ := ix_eq h0 h1
  rw [nth_vi h, e]
end Go.M2

namespace Go.M2
open Go.Proofs
variable {M : MH}
theorem encT_eq (t : TermS) : encT t = [.sc (.int .i64 t.op), .sc (.int .i64 t.n), .sc (.int .i64 t.a), .sc (.int .i64 t.b)] := rfl
theorem encT_take (t : TermS) : (encT t).take 4 = encT t := rfl
theorem LT.at {v : V} {ts : List TermS} (h : LT v ts) {i : Nat} (hi : i < ts.length) : atN 4 v i = encT ts[i] := h.elt hi
def kRes (r : V) : Option (List Int) → Prop
  | none => r = .sc (.sl none 0 0 true 0)
  | some ks => LI r ks
theorem t_KindsOf {v : V} {ts : List TermS} {vars : Int} (hv : LT v ts) : VCall Try.prog n_spec_KindsOf [v, .sc (.int .i64 vars)] M (fun r M' => M = M' ∧ kRes r (kindsF vars ts)) := by
  refine VCall.froz fun R hP hG => v_spec_KindsOf rfl ?_
  (repeat' (first | ((with_reducible first | refine cond_dec (fun h => ?_) (fun h => ?_) | refine guardK_dec (fun h => ?_) (fun h => ?_) | refine guardD3_dec (fun h => ?_) (fun h => ?_)) <;> first | (exfalso; omega) | (simp (maxSteps := 2000000) (disch := first | omega | assumption | exact idP rfl | exact idP (bL rfl)) only [go_sem, reduceIte, Nat.reduceEqDiff, wpV_kd, wpV_tH, h, hv.len]) | skip) | ((with_reducible first | refine cond_split (fun h => ?_) (fun h => ?_) | refine guardK_split (fun h => ?_) (fun h => ?_) | refine guardD3_split (fun h => ?_) (fun h => ?_)) <;> ((try simp only [Bool.not_eq_true', Bool.not_eq_false'] at h); first | (simp (maxSteps := 2000000) (disch := first | omega | assumption | exact idP rfl | exact idP (bL rfl)) only [go_sem, reduceIte, Nat.reduceEqDiff, wpV_kd, wpV_tH, h, hv.len]) | skip)) | ((with_reducible refine (t_l1In).mono ?_); rintro _ _ ⟨rfl, rfl⟩) | (with_reducible intro bk hbk; try have hnk := (fresh_set hbk).1) | (simp (maxSteps := 2000000) (disch := first | omega | assumption | exact idP rfl | exact idP (bL rfl)) only [go_sem, reduceIte, Nat.reduceEqDiff, wpV_kd, wpV_tH, hv.len])))
  all_goals try (refine hP _ _ (sB) ?_; unfold kindsF; rw [if_neg (by omega)]; rfl)
  have hkf : kindsF vars ts = kindsGo vars ts [] := by unfold kindsF; rw [if_pos (by omega)]
  refine loop_k (fun e M' => ∃ (i : Nat) (ks : List Int), i ≤ ts.length ∧ e 0 = v ∧ e 1 = .sc (.int .i64 vars) ∧ e 6 = .sc (.int .i64 i) ∧ kindsGo vars (ts.take i) [] = .some ks ∧ Gr 1 M M' (e 5) (ks.map vi)) (fun e _ => ctrV ts.length (e 6)) ?_ ?_
  · exact ⟨0, [], by omega, sT0, sT0, by refine sS0 ?_; rfl, rfl, by refine sS0 ?_; exact Gr.new' (Sub.refl _) (by assumption) rfl⟩
  · rintro e M1 ⟨i, ks, hi, e0, e1, e6, hk, hg⟩ K hK
    have hkl := (kindsGo_len hk).1
    simp at hkl
    refine sS4 @e0 @e1 @e6 @hv.len ?_
    refine cond_dec (fun h => ?_) (fun h => ?_)
    · have hi' : i < ts.length := by omega
      simp (maxSteps := 2000000) (disch := first | omega | assumption | exact idP rfl | exact idP (bL rfl)) only [go_sem, reduceIte, Nat.reduceEqDiff, wpV_kd, wpV_tH, e0, e1, e6, hv.iaddr, LT.at hv hi', encT_take]
      refine (VCall.lend1 hg.own flat_eq fun u M' hu => t_l1Kind hu.li (by omega) (by omega) (by omega)).mono ?_
      rintro _ _ ⟨rfl, rfl⟩
      have hs := kindsGo_take hi' hk
      refine sS0 ?_
      refine cond_dec (fun h0 => ?_) (fun h0 => ?_)
      · refine sS0 ?_
        refine hP _ _ hg.sub ?_
        rw [hkf, kindsGo_none (i := i + 1) (by rw [hs, if_pos h0])]; rfl
      · refine sS0 ?_
        intro bt hbt
        refine app_int hg hbt (by omega) (by omega) ?_
        intro s' M' hg' _
        refine sS0 ?_
        exact hK _ _ ⟨i + 1, _, by omega, sT0, sT0, by refine sS0 ?_; rfl, by rw [hs, if_neg h0], by refine sS0 ?_; exact hg'⟩ (by refine sS2 @ctrV_int @e6 ?_; omega)
    · obtain rfl : i = ts.length := by omega
      rw [List.take_length] at hk
      refine sS0 ?_
      exact hG _ _ _ _ hg fun u hu => by rw [hkf, hk]; exact hu.li
end Go.M2

namespace Go.M2
open Go.Proofs
variable {M : MH}
def encVar (v : VarS) : List V := [.sc (.int .i64 v.low), .sc (.int .i64 v.high), .sc (.int .i64 v.first)]
def isVar (v : VarS) (cs : List V) : Prop := cs = encVar v
abbrev LVar : V → List VarS → Prop := Lc 3 isVar
abbrev LTT : V → List (List TermS) → Prop := Ls (fun ts u => LT u ts)
def isRule (r : RuleS) (cs : List V) : Prop := ∃ a b c, cs = [a, b, c] ∧ LT a r.when_ ∧ LI b r.sets ∧ LTT c r.terms
abbrev LR : V → List RuleS → Prop := Lc 3 isRule
theorem LVar.at {v : V} {vs : List VarS} (h : LVar v vs) {i : Nat} (hi : i < vs.length) : atN 3 v i = [.sc (.int .i64 vs[i].low), .sc (.int .i64 vs[i].high), .sc (.int .i64 vs[i].first)] := h.elt hi
def isSys (s : SysS) (v : V) : Prop := ∃ a b, v = .agg [a, b] ∧ LVar a s.vars ∧ LR b s.rules
theorem t_l2Var {v : VarS} : VCall Try.prog n_spec_l2Var [.agg (encVar v)] M (fun r M' => M = M' ∧ r = .sc (.bool (decide (VarOk v)))) := by
  refine VCall.pure fun R hR => v_spec_l2Var rfl ?_
  obtain ⟨lo, hi, f⟩ := v
  simp only [encVar]
  (repeat' (first | ((with_reducible first | refine cond_dec (fun h => ?_) (fun h => ?_) | refine guardK_dec (fun h => ?_) (fun h => ?_) | refine guardD3_dec (fun h => ?_) (fun h => ?_)) <;> first | (exfalso; omega) | (simp (maxSteps := 2000000) (disch := first | omega | assumption | exact idP rfl | exact idP (bL rfl)) only [go_sem, reduceIte, Nat.reduceEqDiff, wpV_kd, wpV_tH, h]) | skip) | ((with_reducible first | refine cond_split (fun h => ?_) (fun h => ?_) | refine guardK_split (fun h => ?_) (fun h => ?_) | refine guardD3_split (fun h => ?_) (fun h => ?_)) <;> ((try simp only [Bool.not_eq_true', Bool.not_eq_false'] at h); first | (simp (maxSteps := 2000000) (disch := first | omega | assumption | exact idP rfl | exact idP (bL rfl)) only [go_sem, reduceIte, Nat.reduceEqDiff, wpV_kd, wpV_tH, h]) | skip)) | ((with_reducible refine (t_l1In).mono ?_); rintro _ _ ⟨rfl, rfl⟩) | (with_reducible intro bk hbk; try have hnk := (fresh_set hbk).1) | (simp (maxSteps := 2000000) (disch := first | omega | assumption | exact idP rfl | exact idP (bL rfl)) only [go_sem, reduceIte, Nat.reduceEqDiff, wpV_kd, wpV_tH])))
  all_goals exact hR _ _ (sB) (by (refine eqB ?_; (try simp only [decide_eq_true_eq, Bool.false_eq_true, Bool.and_eq_true, Bool.or_eq_true, Bool.not_eq_true', decide_eq_false_iff_not, eq_self_iff_true, true_iff, false_iff, iff_true, iff_false, ne_eq]); (try simp only [VarOk]); (try omega)))
theorem t_l2Is {v : V} {ts : List TermS} {vars kind : Int} (hv : LT v ts) : VCall Try.prog n_spec_l2Is [v, .sc (.int .i64 vars), .sc (.int .i64 kind)] M (fun r M' => M = M' ∧ r = .sc (.bool (kindIs vars kind ts))) := by
  refine VCall.pure fun R hR => v_spec_l2Is rfl ?_
  refine sS0 ?_
  refine (t_KindsOf hv).mono ?_
  rintro r _ ⟨rfl, hr⟩
  cases hk : kindsF vars ts with
  | none =>
    rw [hk] at hr
    simp only [kRes] at hr
    subst hr
    (repeat' (first | ((with_reducible first | refine cond_dec (fun h => ?_) (fun h => ?_) | refine guardK_dec (fun h => ?_) (fun h => ?_) | refine guardD3_dec (fun h => ?_) (fun h => ?_)) <;> first | (exfalso; omega) | (simp (maxSteps := 2000000) (disch := first | omega | assumption | exact idP rfl | exact idP (bL rfl)) only [go_sem, reduceIte, Nat.reduceEqDiff, wpV_kd, wpV_tH, h]) | skip) | ((with_reducible first | refine cond_split (fun h => ?_) (fun h => ?_) | refine guardK_split (fun h => ?_) (fun h => ?_) | refine guardD3_split (fun h => ?_) (fun h => ?_)) <;> ((try simp only [Bool.not_eq_true', Bool.not_eq_false'] at h); first | (simp (maxSteps := 2000000) (disch := first | omega | assumption | exact idP rfl | exact idP (bL rfl)) only [go_sem, reduceIte, Nat.reduceEqDiff, wpV_kd, wpV_tH, h]) | skip)) | (with_reducible intro bk hbk; try have hnk := (fresh_set hbk).1) | (simp (maxSteps := 2000000) (disch := first | omega | assumption | exact idP rfl | exact idP (bL rfl)) only [go_sem, reduceIte, Nat.reduceEqDiff, wpV_kd, wpV_tH])))
    all_goals exact hR _ _ (sB) (by simp [kindIs, hk])
  | some ks =>
    rw [hk] at hr
    have hr : LI r ks := hr
    obtain ⟨_, _, q1, q2, _, q3⟩ := kindsF_some hk
    have e1 : ((ks.length : Int) - 1).toNat = ks.length - 1 := by omega
    (repeat' (first | ((with_reducible first | refine cond_dec (fun h => ?_) (fun h => ?_) | refine guardK_dec (fun h => ?_) (fun h => ?_) | refine guardD3_dec (fun h => ?_) (fun h => ?_)) <;> first | (exfalso; omega) | (simp (maxSteps := 2000000) (disch := first | omega | assumption | exact idP rfl | exact idP (bL rfl)) only [go_sem, reduceIte, Nat.reduceEqDiff, wpV_kd, wpV_tH, h, hr.len, hr.iaddr, e1, hr.at]) | skip) | ((with_reducible first | refine cond_split (fun h => ?_) (fun h => ?_) | refine guardK_split (fun h => ?_) (fun h => ?_) | refine guardD3_split (fun h => ?_) (fun h => ?_)) <;> ((try simp only [Bool.not_eq_true', Bool.not_eq_false'] at h); first | (simp (maxSteps := 2000000) (disch := first | omega | assumption | exact idP rfl | exact idP (bL rfl)) only [go_sem, reduceIte, Nat.reduceEqDiff, wpV_kd, wpV_tH, h, hr.len, hr.iaddr, e1, hr.at]) | skip)) | (with_reducible intro bk hbk; try have hnk := (fresh_set hbk).1) | (simp (maxSteps := 2000000) (disch := first | omega | assumption | exact idP rfl | exact idP (bL rfl)) only [go_sem, reduceIte, Nat.reduceEqDiff, wpV_kd, wpV_tH, hr.len, hr.iaddr, e1, hr.at])))
    all_goals refine hR _ _ (sB) (by simp only [kindIs, hk, getLastD_eq (show 0 < ks.length by omega)]; refine eqB ?_; simp [*])
end Go.M2

namespace Go.M2
open Go.Proofs
variable {M : MH}
def pN (op : Int) : Int := if 2 ≤ op ∧ op ≤ 6 then 2 else if op = 7 then 1 else if op = 8 ∨ op = 9 then 2 else 0
def pOf (op : Int) : Int := if 2 ≤ op ∧ op ≤ 6 then 1 else if 7 ≤ op ∧ op ≤ 9 then 2 else 0
def pKind (op : Int) : Int := if 5 ≤ op ∧ op ≤ 9 then 2 else 1
theorem tup3 {a b c a' b' c' : Int} (h1 : a = a') (h2 : b = b') (h3 : c = c') : V.tup [.sc (.int .i64 a), .sc (.int .i64 b), .sc (.int .i64 c)] = V.tup [.sc (.int .i64 a'), .sc (.int .i64 b'), .sc (.int .i64 c')] := by rw [h1, h2, h3]
theorem t_parts {op : Int} : VCall Try.prog n_impl_parts [.sc (.int .i64 op)] M (fun r M' => M = M' ∧ r = .tup [.sc (.int .i64 (pN op)), .sc (.int .i64 (pOf op)), .sc (.int .i64 (pKind op))]) := by
  refine VCall.pure fun R hR => v_impl_parts rfl ?_
  (repeat' (first | ((with_reducible first | refine cond_dec (fun h => ?_) (fun h => ?_) | refine guardK_dec (fun h => ?_) (fun h => ?_) | refine guardD3_dec (fun h => ?_) (fun h => ?_)) <;> first | (exfalso; omega) | (simp (maxSteps := 2000000) (disch := first | omega | assumption | exact idP rfl | exact idP (bL rfl)) only [go_sem, reduceIte, Nat.reduceEqDiff, wpV_kd, wpV_tH, h]) | skip) | ((with_reducible first | refine cond_split (fun h => ?_) (fun h => ?_) | refine guardK_split (fun h => ?_) (fun h => ?_) | refine guardD3_split (fun h => ?_) (fun h => ?_)) <;> ((try simp only [Bool.not_eq_true', Bool.not_eq_false'] at h); first | (simp (maxSteps := 2000000) (disch := first | omega | assumption | exact idP rfl | exact idP (bL rfl)) only [go_sem, reduceIte, Nat.reduceEqDiff, wpV_kd, wpV_tH, h]) | skip)) | (with_reducible intro bk hbk; try have hnk := (fresh_set hbk).1) | (simp (maxSteps := 2000000) (disch := first | omega | assumption | exact idP rfl | exact idP (bL rfl)) only [go_sem, reduceIte, Nat.reduceEqDiff, wpV_kd, wpV_tH])))
  all_goals refine hR _ _ (sB) (tup3 ?_ ?_ ?_)
  all_goals first | (unfold pN; repeat' split) | (unfold pOf; repeat' split) | (unfold pKind; repeat' split)
  all_goals omega
theorem kind1_eq (vars : Int) (t : TermS) (ks : List Int) : kind1 vars t ks = (if t.op = 0 then (if -9999 ≤ t.n ∧ t.n ≤ 9999 ∧ t.a = 0 ∧ t.b = 0 then pKind t.op else 0)
  else if t.op = 1 then (if 0 ≤ t.n ∧ t.n < vars ∧ t.a = 0 ∧ t.b = 0 then pKind t.op else 0)
  else if 2 ≤ t.op ∧ t.op ≤ 9 ∧ t.n = 0 ∧ (0 ≤ t.a ∧ t.a < (ks.length : Int)) ∧ (0 ≤ t.b ∧ t.b < (ks.length : Int)) ∧ ix ks t.a = pOf t.op ∧ ix ks t.b = pOf t.op ∧ (pN t.op = 2 ∨ t.a = t.b) then pKind t.op else 0) := by
  unfold kind1 wantK pOf pN pKind
  repeat' split
  all_goals first | omega | skip
def kRes' (r : V) : Option (List Int) → Prop
  | none => r = .sc (.sl none 0 0 true 0)
  | some ks => LI r ks ∧ isNilF .sl (er r) = .some false
theorem rep_snoc {ks : List Int} {x : Int} {n : Nat} (h : 0 < n) : (ks.map vi ++ List.replicate n (vi 0)).set ks.length (.sc (.int .i64 x)) = (ks ++ [x]).map vi ++ List.replicate (n - 1) (vi 0) := by
  obtain ⟨m, rfl⟩ : ∃ m, n = m + 1 := ⟨n - 1, by omega⟩
  rw [List.set_append_right _ _ (by simp)]
  simp [List.replicate_succ, vi]
theorem rep_snoc' {ks : List Int} {x : Int} {i L : Nat} (hk : ks.length = i) (h : i < L) : (ks.map vi ++ List.replicate (L - i) (vi 0)).set i (.sc (.int .i64 x)) = (ks ++ [x]).map vi ++ List.replicate (L - (i + 1)) (vi 0) := by
  subst hk
  rw [rep_snoc (by omega)]
  congr 2
theorem nth_ix_app {ks : List Int} {l : List V} {a : Int} (h0 : 0 ≤ a) (h1 : a < (ks.length : Int)) : (ks.map vi ++ l)[a.toNat]? = .some (.sc (.int .i64 (ix ks a))) := by
  rw [List.getElem?_append_left (by simp; omega), nth_ix h0 h1]
theorem t_kindsOf {v : V} {ts : List TermS} {vars : Int} (hv : LT v ts) : VCall Try.prog n_impl_kindsOf [v, .sc (.int .i64 vars)] M (fun r M' => M = M' ∧ kRes' r (kindsF vars ts)) := by
  refine VCall.froz fun R hP hG => v_impl_kindsOf rfl ?_
  (repeat' (first | ((with_reducible first | refine cond_dec (fun h => ?_) (fun h => ?_) | refine guardK_dec (fun h => ?_) (fun h => ?_) | refine guardD3_dec (fun h => ?_) (fun h => ?_)) <;> first | (exfalso; omega) | (simp (maxSteps := 2000000) (disch := first | omega | assumption | exact idP rfl | exact idP (bL rfl)) only [go_sem, reduceIte, Nat.reduceEqDiff, wpV_kd, wpV_tH, h, hv.len]) | skip) | ((with_reducible first | refine cond_split (fun h => ?_) (fun h => ?_) | refine guardK_split (fun h => ?_) (fun h => ?_) | refine guardD3_split (fun h => ?_) (fun h => ?_)) <;> ((try simp only [Bool.not_eq_true', Bool.not_eq_false'] at h); first | (simp (maxSteps := 2000000) (disch := first | omega | assumption | exact idP rfl | exact idP (bL rfl)) only [go_sem, reduceIte, Nat.reduceEqDiff, wpV_kd, wpV_tH, h, hv.len]) | skip)) | ((with_reducible refine (t_in).mono ?_); rintro _ _ ⟨rfl, rfl⟩) | (with_reducible intro bk hbk; try have hnk := (fresh_set hbk).1) | (simp (maxSteps := 2000000) (disch := first | omega | assumption | exact idP rfl | exact idP (bL rfl)) only [go_sem, reduceIte, Nat.reduceEqDiff, wpV_kd, wpV_tH, hv.len])))
  all_goals try (refine hP _ _ (sB) ?_; unfold kindsF; rw [if_neg (by omega)]; rfl)
  have hkf : kindsF vars ts = kindsGo vars ts [] := by unfold kindsF; rw [if_pos (by omega)]
  refine ⟨by omega, by omega, by simp [mostCells]; omega, by simp [mostCells]; omega, ?_⟩
  intro b5 hb5
  have e0' : (0 : Int).toNat = 0 := rfl
  refine sS2 @hv.len @e0' ?_
  refine loop_k (fun e M' => ∃ (i : Nat) (ks : List Int), i ≤ ts.length ∧ e 1 = .sc (.int .i64 vars) ∧ e 5 = .sc (.sl (some (b5, 0)) i ts.length true 1) ∧ e 24 = v ∧ e 25 = .sc (.int .i64 ts.length) ∧ e 26 = .sc (.int .i64 i) ∧ kindsGo vars (ts.take i) [] = .some ks ∧ Sub M M' ∧ M' b5 = .some (ks.map vi ++ List.replicate (ts.length - i) (vi 0))) (fun e _ => ctrV ts.length (e 26)) ?_ ?_
  · exact ⟨0, [], by omega, sT0, sT0, sT0, sT0, by refine sS0 ?_; rfl, rfl, (Sub.refl _).set hb5, by
      refine sS0 ?_
      rw [zeros_vi]; simp⟩
  · rintro e M1 ⟨i, ks, hi, e1, e5, e24, e25, e26, hk, hsub, hm⟩ K hK
    have hkl := (kindsGo_len hk).1
    simp at hkl
    refine sS2 @e25 @e26 ?_
    refine cond_dec (fun h => ?_) (fun h => ?_)
    · have hi' : i < ts.length := by omega
      have hkl' : ks.length = i := by omega
      have hs := kindsGo_take hi' hk
      have hke := kind1_eq vars ts[i] ks
      rw [hkl'] at hke
      simp (maxSteps := 2000000) (disch := first | omega | assumption | exact idP rfl | exact idP (bL rfl)) only [go_sem, reduceIte, Nat.reduceEqDiff, wpV_kd, wpV_tH, e1, e5, e24, e25, e26, hv.iaddr, LT.at hv hi', encT_eq]
      intro b7 hb7
      have hne : b5 ≠ b7 := fun hh => by subst hh; rw [hm] at hb7; cases hb7
      refine t_parts.mono ?_
      rintro _ _ ⟨rfl, rfl⟩
      have hpk : pKind ts[i].op ≠ 0 := by unfold pKind; split <;> omega
      have bad : kind1 vars ts[i] ks = 0 → ∀ cl, R (.sc (.sl none 0 0 true 0)) (M1.set b7 cl) := fun h0 cl => by
        refine hP _ _ (sB) ?_
        rw [hkf, kindsGo_none (i := i + 1) (by rw [hs, if_pos h0])]; rfl
      have good : kind1 vars ts[i] ks = pKind ts[i].op → ∀ (cl : List V) (K' : V → MH → Prop), (∀ M', kindsGo vars (ts.take (i + 1)) [] = .some (ks ++ [pKind ts[i].op]) → Sub M M' → M' b5 = .some ((ks ++ [pKind ts[i].op]).map vi ++ List.replicate (ts.length - (i + 1)) (vi 0)) → K' (.sc (.sl (some (b5, 0)) (i + 1) ts.length true 1)) M') →
          ∀ bt, (M1.set b7 cl) bt = none → appV 1 8 (.sc (.sl (some (b5, 0)) i ts.length true 1)) (.sc (.sl (some (bt, 0)) 1 1 true 1)) ((M1.set b7 cl).set bt [.sc (.int .i64 (pKind ts[i].op))]) K' := by
        intro h0 cl K' hk' bt hbt
        refine app_room (by rw [set_ne hne]; exact hm) hbt (by simp [oneV, er, oneA]) (by omega) (by simp; omega) ?_
        refine hk' _ (by rw [hs, if_neg (by rw [h0]; exact hpk), h0]) ?_ ?_
        · refine Sub.set ?_ (by cases hq : M b5 with | none => rfl | some l => rw [hq] at hb5; cases hb5)
          (repeat (first | exact Sub.refl _ | assumption | (refine Sub.set' ?_ (by assumption))))
        · rw [set_same, Nat.zero_add, rep_snoc' hkl' hi']
      have fin : ∀ M', kindsGo vars (ts.take (i + 1)) [] = .some (ks ++ [pKind ts[i].op]) → Sub M M' → M' b5 = .some ((ks ++ [pKind ts[i].op]).map vi ++ List.replicate (ts.length - (i + 1)) (vi 0)) → ∀ e' : EnvV, e' 1 = .sc (.int .i64 vars) → e' 5 = .sc (.sl (some (b5, 0)) ((i + 1 : Nat)) ts.length true 1) → e' 24 = v → e' 25 = .sc (.int .i64 ts.length) → e' 26 = .sc (.int .i64 ((i : Int) + 1)) → K e' M' :=
        fun M' q1 q2 q3 e' g1 g5 g24 g25 g26 => hK _ _ ⟨i + 1, _, by omega, g1, g5, g24, g25, g26, q1, q2, q3⟩ (by rw [g26, e26]; refine sS0 ?_; omega)
      by_cases c0 : ts[i].op = 0
      · rw [if_pos c0] at hke
        have c0' : decide (ts[i].op = 0) = true := by simpa using c0
        (repeat' (first | ((with_reducible first | refine cond_dec (fun h => ?_) (fun h => ?_) | refine guardK_dec (fun h => ?_) (fun h => ?_) | refine guardD3_dec (fun h => ?_) (fun h => ?_)) <;> first | (exfalso; omega) | (simp (maxSteps := 2000000) (disch := first | omega | assumption | exact idP rfl | exact idP (bL rfl)) only [go_sem, reduceIte, Nat.reduceEqDiff, wpV_kd, wpV_tH, h, c0', e1, e5]) | skip) | ((with_reducible first | refine cond_split (fun h => ?_) (fun h => ?_) | refine guardK_split (fun h => ?_) (fun h => ?_) | refine guardD3_split (fun h => ?_) (fun h => ?_)) <;> ((try simp only [Bool.not_eq_true', Bool.not_eq_false'] at h); first | (simp (maxSteps := 2000000) (disch := first | omega | assumption | exact idP rfl | exact idP (bL rfl)) only [go_sem, reduceIte, Nat.reduceEqDiff, wpV_kd, wpV_tH, h, c0', e1, e5]) | skip)) | ((with_reducible refine (t_in).mono ?_); rintro _ _ ⟨rfl, rfl⟩) | (with_reducible intro bk hbk; try have hnk := (fresh_set hbk).1) | (simp (maxSteps := 2000000) (disch := first | omega | assumption | exact idP rfl | exact idP (bL rfl)) only [go_sem, reduceIte, Nat.reduceEqDiff, wpV_kd, wpV_tH, c0', e1, e5])))
        all_goals first
          | (refine bad ?_ _; rw [hke, if_neg (by omega)])
          | (refine good (by rw [hke, if_pos (by omega)]) _ _ ?_ _ (by assumption); intro M' q1 q2 q3; refine sS0 ?_; exact fin M' q1 q2 q3 _ (sT0) (sT0) (sT0) (sT0) (sT0))
      · rw [if_neg c0] at hke
        have c0' : decide (ts[i].op = 0) = false := by simpa using c0
        by_cases c1 : ts[i].op = 1
        · rw [if_pos c1] at hke
          have c1' : decide (ts[i].op = 1) = true := by simpa using c1
          (repeat' (first | ((with_reducible first | refine cond_dec (fun h => ?_) (fun h => ?_) | refine guardK_dec (fun h => ?_) (fun h => ?_) | refine guardD3_dec (fun h => ?_) (fun h => ?_)) <;> first | (exfalso; omega) | (simp (maxSteps := 2000000) (disch := first | omega | assumption | exact idP rfl | exact idP (bL rfl)) only [go_sem, reduceIte, Nat.reduceEqDiff, wpV_kd, wpV_tH, h, c0', c1', e1, e5]) | skip) | ((with_reducible first | refine cond_split (fun h => ?_) (fun h => ?_) | refine guardK_split (fun h => ?_) (fun h => ?_) | refine guardD3_split (fun h => ?_) (fun h => ?_)) <;> ((try simp only [Bool.not_eq_true', Bool.not_eq_false'] at h); first | (simp (maxSteps := 2000000) (disch := first | omega | assumption | exact idP rfl | exact idP (bL rfl)) only [go_sem, reduceIte, Nat.reduceEqDiff, wpV_kd, wpV_tH, h, c0', c1', e1, e5]) | skip)) | ((with_reducible refine (t_in).mono ?_); rintro _ _ ⟨rfl, rfl⟩) | (with_reducible intro bk hbk; try have hnk := (fresh_set hbk).1) | (simp (maxSteps := 2000000) (disch := first | omega | assumption | exact idP rfl | exact idP (bL rfl)) only [go_sem, reduceIte, Nat.reduceEqDiff, wpV_kd, wpV_tH, c0', c1', e1, e5])))
          all_goals first
            | (refine bad ?_ _; rw [hke, if_neg (by omega)])
            | (refine good (by rw [hke, if_pos (by omega)]) _ _ ?_ _ (by assumption); intro M' q1 q2 q3; refine sS0 ?_; exact fin M' q1 q2 q3 _ (sT0) (sT0) (sT0) (sT0) (sT0))
        · rw [if_neg c1] at hke
          have c1' : decide (ts[i].op = 1) = false := by simpa using c1
          have rd : ∀ {a : Int}, 0 ≤ a → a < (i : Int) → (ks.map vi ++ List.replicate (ts.length - i) (vi 0))[a.toNat]? = .some (.sc (.int .i64 (ix ks a))) := fun q1 q2 => nth_ix_app q1 (by omega)
          (repeat' (first | ((with_reducible first | refine cond_dec (fun h => ?_) (fun h => ?_) | refine guardK_dec (fun h => ?_) (fun h => ?_) | refine guardD3_dec (fun h => ?_) (fun h => ?_)) <;> first | (exfalso; omega) | (simp (maxSteps := 2000000) (disch := first | omega | assumption | exact idP rfl | exact idP (bL rfl)) only [go_sem, reduceIte, Nat.reduceEqDiff, wpV_kd, wpV_tH, h, c0', c1', e1, e5, hm, rd]) | skip) | ((with_reducible first | refine cond_split (fun h => ?_) (fun h => ?_) | refine guardK_split (fun h => ?_) (fun h => ?_) | refine guardD3_split (fun h => ?_) (fun h => ?_)) <;> ((try simp only [Bool.not_eq_true', Bool.not_eq_false'] at h); first | (simp (maxSteps := 2000000) (disch := first | omega | assumption | exact idP rfl | exact idP (bL rfl)) only [go_sem, reduceIte, Nat.reduceEqDiff, wpV_kd, wpV_tH, h, c0', c1', e1, e5, hm, rd]) | skip)) | ((with_reducible refine (t_in).mono ?_); rintro _ _ ⟨rfl, rfl⟩) | (with_reducible intro bk hbk; try have hnk := (fresh_set hbk).1) | (simp (maxSteps := 2000000) (disch := first | omega | assumption | exact idP rfl | exact idP (bL rfl)) only [go_sem, reduceIte, Nat.reduceEqDiff, wpV_kd, wpV_tH, c0', c1', e1, e5, hm, rd])))
          all_goals first
            | (refine bad ?_ _; rw [hke, if_neg (by omega)])
            | (refine good (by rw [hke, if_pos (by omega)]) _ _ ?_ _ (by assumption); intro M' q1 q2 q3; refine sS0 ?_; exact fin M' q1 q2 q3 _ (sT0) (sT0) (sT0) (sT0) (sT0))
    · obtain rfl : i = ts.length := by omega
      rw [List.take_length] at hk
      have hkl2 : ks.length = ts.length := by omega
      refine sS1 @e5 ?_
      refine hG _ _ 1 (ks.map vi) (.mk' hsub (by cases hq : M b5 with | none => rfl | some l => rw [hq] at hb5; cases hb5) (by simp; omega) (by rw [hm]; simp)) fun u hu => ?_
      rw [hkf, hk]
      exact ⟨hu.li, hu.some (by simp; omega)⟩
theorem t_kindOf {v : V} {ts : List TermS} {vars : Int} (hv : LT v ts) : VCall Try.prog n_impl_kindOf [v, .sc (.int .i64 vars)] M (fun r M' => M = M' ∧ ∃ k : Int, r = .sc (.int .i64 k) ∧ ∀ want, 0 < want → ((k = want) ↔ kindIs vars want ts = true)) := by
  refine VCall.pure fun R hR => v_impl_kindOf rfl ?_
  refine sS0 ?_
  refine (t_kindsOf hv).mono ?_
  rintro r _ ⟨rfl, hr⟩
  cases hk : kindsF vars ts with
  | none =>
    rw [hk] at hr
    simp only [kRes'] at hr
    subst hr
    (repeat' (first | ((with_reducible first | refine cond_dec (fun h => ?_) (fun h => ?_) | refine guardK_dec (fun h => ?_) (fun h => ?_) | refine guardD3_dec (fun h => ?_) (fun h => ?_)) <;> first | (exfalso; omega) | (simp (maxSteps := 2000000) (disch := first | omega | assumption | exact idP rfl | exact idP (bL rfl)) only [go_sem, reduceIte, Nat.reduceEqDiff, wpV_kd, wpV_tH, h]) | skip) | ((with_reducible first | refine cond_split (fun h => ?_) (fun h => ?_) | refine guardK_split (fun h => ?_) (fun h => ?_) | refine guardD3_split (fun h => ?_) (fun h => ?_)) <;> ((try simp only [Bool.not_eq_true', Bool.not_eq_false'] at h); first | (simp (maxSteps := 2000000) (disch := first | omega | assumption | exact idP rfl | exact idP (bL rfl)) only [go_sem, reduceIte, Nat.reduceEqDiff, wpV_kd, wpV_tH, h]) | skip)) | (with_reducible intro bk hbk; try have hnk := (fresh_set hbk).1) | (simp (maxSteps := 2000000) (disch := first | omega | assumption | exact idP rfl | exact idP (bL rfl)) only [go_sem, reduceIte, Nat.reduceEqDiff, wpV_kd, wpV_tH])))
    all_goals exact hR _ _ (sB) ⟨0, rfl, fun want hw => by simp [kindIs, hk]; omega⟩
  | some ks =>
    rw [hk] at hr
    obtain ⟨hr, hn⟩ := hr
    obtain ⟨_, _, q1, q2, _, q3⟩ := kindsF_some hk
    have e1 : ((ks.length : Int) - 1).toNat = ks.length - 1 := by omega
    (repeat' (first | ((with_reducible first | refine cond_dec (fun h => ?_) (fun h => ?_) | refine guardK_dec (fun h => ?_) (fun h => ?_) | refine guardD3_dec (fun h => ?_) (fun h => ?_)) <;> first | (exfalso; omega) | (simp (maxSteps := 2000000) (disch := first | omega | assumption | exact idP rfl | exact idP (bL rfl)) only [go_sem, reduceIte, Nat.reduceEqDiff, wpV_kd, wpV_tH, h, hn, hr.len, hr.iaddr, e1, hr.at]) | skip) | ((with_reducible first | refine cond_split (fun h => ?_) (fun h => ?_) | refine guardK_split (fun h => ?_) (fun h => ?_) | refine guardD3_split (fun h => ?_) (fun h => ?_)) <;> ((try simp only [Bool.not_eq_true', Bool.not_eq_false'] at h); first | (simp (maxSteps := 2000000) (disch := first | omega | assumption | exact idP rfl | exact idP (bL rfl)) only [go_sem, reduceIte, Nat.reduceEqDiff, wpV_kd, wpV_tH, h, hn, hr.len, hr.iaddr, e1, hr.at]) | skip)) | (with_reducible intro bk hbk; try have hnk := (fresh_set hbk).1) | (simp (maxSteps := 2000000) (disch := first | omega | assumption | exact idP rfl | exact idP (bL rfl)) only [go_sem, reduceIte, Nat.reduceEqDiff, wpV_kd, wpV_tH, hn, hr.len, hr.iaddr, e1, hr.at])))
    all_goals exact hR _ _ (sB) ⟨_, rfl, fun want hw => by simp only [kindIs, hk, getLastD_eq (show 0 < ks.length by omega), beq_iff_eq]⟩
end Go.M2

namespace Go.M2
open Go.Proofs
variable {M : MH}
theorem sets_le {vars : Int} {r : RuleS} (h : SetsOk vars r) (h0 : 0 ≤ vars) : (r.sets.length : Int) ≤ vars := by
  have : ∀ i (hi : i < r.sets.length), (i : Int) ≤ r.sets[i] := by
    intro i
    induction i with
    | zero => intro hi; have := (h 0 hi).1.1; omega
    | succ i ih =>
      intro hi
      have h1 := ih (by omega)
      have h2 := (h (i + 1) hi).2.1 (by omega)
      simp at h2
      omega
  by_cases hl : r.sets.length = 0
  · omega
  · have h1 := this (r.sets.length - 1) (by omega)
    have h2 := (h (r.sets.length - 1) (by omega)).1.2
    omega
theorem SetsOk.kind {vars : Int} {r : RuleS} (h : SetsOk vars r) {i : Nat} (hi : i < r.sets.length) (h2 : i < r.terms.length) : kindIs vars 1 r.terms[i] = true := (h i hi).2.2 h2
theorem t_l2Rule {a b c : V} {r : RuleS} {vars : Int} (ha : LT a r.when_) (hb : LI b r.sets) (hc : LTT c r.terms) (h0 : 0 ≤ vars) (h5 : vars ≤ 5) :
    VCall Try.prog n_spec_l2Rule [.agg [a, b, c], .sc (.int .i64 vars)] M (fun r' M' => M = M' ∧ ∃ t : Bool, r' = .sc (.bool t) ∧ (t = true ↔ RuleOk vars r)) := by
  refine VCall.pure fun R hR => v_spec_l2Rule rfl ?_
  refine sS0 ?_
  intro bb hbb
  have fin : ∀ t : Bool, (t = true ↔ RuleOk vars r) → R (.sc (.bool t)) (M.set bb [a, b, c]) := fun t h => hR _ _ ((Sub.refl _).set hbb) ⟨t, rfl, h⟩
  refine (t_l2Is ha).mono ?_
  rintro _ _ ⟨rfl, rfl⟩
  cases hw : kindIs vars 2 r.when_ with
  | false =>
    refine sS1 @hw ?_
    exact fin _ (by simp [RuleOk, hw])
  | true =>
    (repeat' (first | ((with_reducible first | refine cond_dec (fun h => ?_) (fun h => ?_) | refine guardK_dec (fun h => ?_) (fun h => ?_) | refine guardD3_dec (fun h => ?_) (fun h => ?_)) <;> first | (exfalso; omega) | (simp (maxSteps := 2000000) (disch := first | omega | assumption | exact idP rfl | exact idP (bL rfl)) only [go_sem, reduceIte, Nat.reduceEqDiff, wpV_kd, wpV_tH, h, hw, hb.len, hc.len]) | skip) | ((with_reducible first | refine cond_split (fun h => ?_) (fun h => ?_) | refine guardK_split (fun h => ?_) (fun h => ?_) | refine guardD3_split (fun h => ?_) (fun h => ?_)) <;> ((try simp only [Bool.not_eq_true', Bool.not_eq_false'] at h); first | (simp (maxSteps := 2000000) (disch := first | omega | assumption | exact idP rfl | exact idP (bL rfl)) only [go_sem, reduceIte, Nat.reduceEqDiff, wpV_kd, wpV_tH, h, hw, hb.len, hc.len]) | skip)) | (with_reducible intro bk hbk; try have hnk := (fresh_set hbk).1) | (simp (maxSteps := 2000000) (disch := first | omega | assumption | exact idP rfl | exact idP (bL rfl)) only [go_sem, reduceIte, Nat.reduceEqDiff, wpV_kd, wpV_tH, hw, hb.len, hc.len])))
    all_goals try (refine fin _ ?_; simp only [Bool.false_eq_true, false_iff]; intro hr; have := hr.2.1; have := sets_le hr.2.2 h0; omega)
    refine loop_k (fun e M' => M' = M.set bb [a, b, c] ∧ ∃ i : Nat, i ≤ r.sets.length ∧ e 1 = .sc (.int .i64 vars) ∧ e 2 = .sc (.ptr (some (bb, 0))) ∧ e 5 = .sc (.int .i64 i) ∧
      ∀ j (hj : j < r.sets.length), j < i → (0 ≤ r.sets[j] ∧ r.sets[j] < vars) ∧ (∀ h0 : 0 < j, r.sets[j - 1]'(by omega) < r.sets[j]) ∧ (∀ h2 : j < r.terms.length, kindIs vars 1 r.terms[j] = true)) (fun e _ => ctrV r.sets.length (e 5)) ?_ ?_
    · exact ⟨rfl, 0, by omega, sT0, sT0, by refine sS0 ?_; rfl, fun j _ h => by omega⟩
    · rintro e _ ⟨rfl, i, hi, e1, e2, e5, hj⟩ K hK
      refine sS4 @e1 @e2 @e5 @hb.len ?_
      refine cond_dec (fun h => ?_) (fun h => ?_)
      · have hi' : i < r.sets.length := by omega
        have ht := hc.elt (i := i) (by omega)
        have e8 : ((i : Int) - 1).toNat = i - 1 := by omega
        (repeat' (first | ((with_reducible first | refine cond_dec (fun h => ?_) (fun h => ?_) | refine guardK_dec (fun h => ?_) (fun h => ?_) | refine guardD3_dec (fun h => ?_) (fun h => ?_)) <;> first | (exfalso; omega) | (simp (maxSteps := 2000000) (disch := first | omega | assumption | exact idP rfl | exact idP (bL rfl)) only [go_sem, reduceIte, Nat.reduceEqDiff, wpV_kd, wpV_tH, h, e1, e2, e5, hb.len, hb.iaddr, hb.at, hc.iaddr, e8]) | skip) | ((with_reducible first | refine cond_split (fun h => ?_) (fun h => ?_) | refine guardK_split (fun h => ?_) (fun h => ?_) | refine guardD3_split (fun h => ?_) (fun h => ?_)) <;> ((try simp only [Bool.not_eq_true', Bool.not_eq_false'] at h); first | (simp (maxSteps := 2000000) (disch := first | omega | assumption | exact idP rfl | exact idP (bL rfl)) only [go_sem, reduceIte, Nat.reduceEqDiff, wpV_kd, wpV_tH, h, e1, e2, e5, hb.len, hb.iaddr, hb.at, hc.iaddr, e8]) | skip)) | ((with_reducible refine (t_l1In).mono ?_); rintro _ _ ⟨rfl, rfl⟩) | ((with_reducible refine (t_l2Is ht).mono ?_); rintro _ _ ⟨rfl, rfl⟩) | (with_reducible intro bk hbk; try have hnk := (fresh_set hbk).1) | (simp (maxSteps := 2000000) (disch := first | omega | assumption | exact idP rfl | exact idP (bL rfl)) only [go_sem, reduceIte, Nat.reduceEqDiff, wpV_kd, wpV_tH, e1, e2, e5, hb.len, hb.iaddr, hb.at, hc.iaddr, e8])))
        all_goals first
          | (refine fin _ ?_; simp only [Bool.false_eq_true, false_iff]; intro hr; have h3 := (hr.2.2 i hi').1; have h4 := (hr.2.2 i hi').2.1; have h5 := (hr.2.2 i hi').2.2 (by omega); first | omega | (have := h4 (by omega); omega) | (simp_all; done))
          | (refine hK _ _ ⟨rfl, i + 1, by omega, sT0, sT0, by refine sS0 ?_; rfl, fun j hj1 hj2 => ?_⟩ (by refine sS2 @ctrV_int @e5 ?_; omega)
             by_cases hji : j = i
             · subst hji; exact ⟨by omega, fun h0 => by omega, fun _ => by assumption⟩
             · exact hj j hj1 (by omega))
      · refine sS0 ?_
        exact fin _ (by
          simp only [true_iff]
          exact ⟨hw, by omega, fun j hj1 => hj j hj1 (by omega)⟩)
theorem t_specSystemValid {v : V} {s : SysS} (hv : isSys s v) : VCall Try.prog n_spec_SystemValid [v] M (fun r' M' => M = M' ∧ ∃ t : Bool, r' = .sc (.bool t) ∧ (t = true ↔ SysOk s)) := by
  refine VCall.pure fun R hR => v_spec_SystemValid rfl ?_
  obtain ⟨a, b, rfl, ha, hb⟩ := hv
  refine sS0 ?_
  intro bb hbb
  have fin : ∀ t : Bool, (t = true ↔ SysOk s) → R (.sc (.bool t)) (M.set bb [a, b]) := fun t h => hR _ _ ((Sub.refl _).set hbb) ⟨t, rfl, h⟩
  (repeat' (first | ((with_reducible first | refine cond_dec (fun h => ?_) (fun h => ?_) | refine guardK_dec (fun h => ?_) (fun h => ?_) | refine guardD3_dec (fun h => ?_) (fun h => ?_)) <;> first | (exfalso; omega) | (simp (maxSteps := 2000000) (disch := first | omega | assumption | exact idP rfl | exact idP (bL rfl)) only [go_sem, reduceIte, Nat.reduceEqDiff, wpV_kd, wpV_tH, h, ha.len, hb.len]) | skip) | ((with_reducible first | refine cond_split (fun h => ?_) (fun h => ?_) | refine guardK_split (fun h => ?_) (fun h => ?_) | refine guardD3_split (fun h => ?_) (fun h => ?_)) <;> ((try simp only [Bool.not_eq_true', Bool.not_eq_false'] at h); first | (simp (maxSteps := 2000000) (disch := first | omega | assumption | exact idP rfl | exact idP (bL rfl)) only [go_sem, reduceIte, Nat.reduceEqDiff, wpV_kd, wpV_tH, h, ha.len, hb.len]) | skip)) | ((with_reducible refine (t_l1In).mono ?_); rintro _ _ ⟨rfl, rfl⟩) | (with_reducible intro bk hbk; try have hnk := (fresh_set hbk).1) | (simp (maxSteps := 2000000) (disch := first | omega | assumption | exact idP rfl | exact idP (bL rfl)) only [go_sem, reduceIte, Nat.reduceEqDiff, wpV_kd, wpV_tH, ha.len, hb.len])))
  all_goals try (refine fin _ ?_; simp only [Bool.false_eq_true, false_iff]; intro hr; have := hr.v1; have := hr.v5; have := hr.r8; omega)
  refine loop_k (fun e M' => M' = M.set bb [a, b] ∧ ∃ i : Nat, i ≤ s.vars.length ∧ e 1 = .sc (.ptr (some (bb, 0))) ∧ e 3 = .sc (.int .i64 (sizeF (s.vars.take i))) ∧ e 4 = .sc (.int .i64 i) ∧
    ∀ j (hj : j < s.vars.length), j < i → VarOk s.vars[j]) (fun e _ => ctrV s.vars.length (e 4)) ?_ ?_
  · exact ⟨rfl, 0, by omega, sT0, by refine sS0 ?_; simp [sizeF], by refine sS0 ?_; rfl, fun j _ h => by omega⟩
  · rintro e _ ⟨rfl, i, hi, e1, e3, e4, hj⟩ K hK
    have hbd := sizeF_take_bd (by omega) hj
    refine sS4 @e1 @e3 @e4 @ha.len ?_
    refine cond_dec (fun h => ?_) (fun h => ?_)
    · have hi' : i < s.vars.length := by omega
      have e5 : (encVar s.vars[i]).take 3 = encVar s.vars[i] := rfl
      have hat := ha.elt hi'
      simp only [isVar] at hat
      refine sS6 @e1 @e3 @e4 @ha.iaddr @hat @e5 ?_
      refine t_l2Var.mono ?_
      rintro _ _ ⟨rfl, rfl⟩
      refine sS0 ?_
      refine cond_dec (fun h2 => ?_) (fun h2 => ?_)
      · refine sS0 ?_
        exact fin _ (by simp only [Bool.false_eq_true, false_iff]; intro hr; exact h2 (hr.vars _ (List.getElem_mem hi')))
      · have h2 : VarOk s.vars[i] := Decidable.not_not.1 h2
        have hbd2 := sizeF_take_bd (i := i + 1) (vs := s.vars) (by omega) (fun j hj1 hj2 => by
          by_cases hji : j = i
          · subst hji; exact h2
          · exact hj j hj1 (by omega))
        have hsz := sizeF_take hi'
        rw [hsz] at hbd2
        obtain ⟨q1, q2, q3, q4⟩ := h2
        simp (maxSteps := 2000000) (disch := first | omega | assumption | exact idP rfl | exact idP (bL rfl)) only [go_sem, reduceIte, Nat.reduceEqDiff, wpV_kd, wpV_tH, e1, e3, e4, ha.iaddr, hat, encVar]
        refine hK _ _ ⟨rfl, i + 1, by omega, sT0, by refine sS0 ?_; rw [hsz], by refine sS0 ?_; rfl, fun j hj1 hj2 => ?_⟩ (by refine sS2 @ctrV_int @e4 ?_; omega)
        by_cases hji : j = i
        · subst hji; exact ⟨q1, q2, q3, q4⟩
        · exact hj j hj1 (by omega)
    · obtain rfl : i = s.vars.length := by omega
      rw [List.take_length] at e3 hbd
      refine sS1 @e3 ?_
      refine loop_k (fun e M' => M' = M.set bb [a, b] ∧ ∃ i : Nat, i ≤ s.rules.length ∧ e 1 = .sc (.ptr (some (bb, 0))) ∧ e 3 = .sc (.int .i64 (sizeF s.vars)) ∧ e 5 = .sc (.int .i64 i) ∧
        ∀ j (hj : j < s.rules.length), j < i → RuleOk (s.vars.length : Int) s.rules[j]) (fun e _ => ctrV s.rules.length (e 5)) ?_ ?_
      · exact ⟨rfl, 0, by omega, sT1 @e1, by simp (maxSteps := 2000000) (disch := first | omega | assumption | exact idP rfl | exact idP (bL rfl)) only [go_sem, reduceIte, Nat.reduceEqDiff, wpV_kd, wpV_tH, List.take_length], by refine sS0 ?_; rfl, fun j _ h => by omega⟩
      · rintro e _ ⟨rfl, i, hi2, e1, e3, e5, hj2⟩ K2 hK2
        refine sS4 @e1 @e3 @e5 @hb.len ?_
        refine cond_dec (fun h => ?_) (fun h => ?_)
        · have hi' : i < s.rules.length := by omega
          obtain ⟨x, y, z, hat, q1, q2, q3⟩ := hb.elt hi'
          refine sS6 @e1 @e3 @e5 @hb.iaddr @hat @ha.len ?_
          refine (t_l2Rule q1 q2 q3 (by omega) (by omega)).mono ?_
          rintro _ _ ⟨rfl, t, rfl, ht⟩
          cases t with
          | false =>
            refine sS0 ?_
            exact fin _ (by simp only [Bool.false_eq_true, false_iff]; intro hr; have := ht.2 (hr.rules _ (List.getElem_mem hi')); cases this)
          | true =>
            refine sS0 ?_
            refine hK2 _ _ ⟨rfl, i + 1, by omega, sT0, sT0, by refine sS0 ?_; rfl, fun j hj3 hj4 => ?_⟩ (by refine sS2 @ctrV_int @e5 ?_; omega)
            by_cases hji : j = i
            · subst hji; exact ht.1 rfl
            · exact hj2 j hj3 (by omega)
        · refine sS1 @e3 ?_
          refine fin _ ?_
          simp only [decide_eq_true_eq]
          refine ⟨fun h400 => ⟨by omega, by omega, by omega, fun v hv => ?_, fun r hr => ?_, h400⟩, fun h => h.size⟩
          · obtain ⟨j, hj1, rfl⟩ := List.getElem_of_mem hv
            exact hj j hj1 hj1
          · obtain ⟨j, hj1, rfl⟩ := List.getElem_of_mem hr
            exact hj2 j hj1 (by omega)
noncomputable def sysB (s : SysS) : Bool := @decide (SysOk s) (Classical.propDecidable _)
theorem sysB_iff (s : SysS) : sysB s = true ↔ SysOk s := by unfold sysB; exact @decide_eq_true_iff _ (Classical.propDecidable _)
theorem eq_of_iff {t u : Bool} (h : t = true ↔ u = true) : t = u := by cases t <;> cases u <;> simp_all
theorem t_SystemValidS {v : V} {s : SysS} (hv : isSys s v) : VCall Try.prog n_spec_SystemValid [v] M (fun r' M' => M = M' ∧ r' = .sc (.bool (sysB s))) :=
  (t_specSystemValid hv).mono fun r M' ⟨h, t, h1, h2⟩ => ⟨h, by rw [h1, eq_of_iff (h2.trans (sysB_iff s).symm)]⟩
end Go.M2

namespace Go.M2
open Go.Proofs
variable {M : MH}
theorem t_varOk {v : VarS} : VCall Try.prog n_impl_varOk [.agg (encVar v)] M (fun r M' => M = M' ∧ r = .sc (.bool (decide (VarOk v)))) := by
  refine VCall.pure fun R hR => v_impl_varOk rfl ?_
  obtain ⟨lo, hi, f⟩ := v
  simp only [encVar]
  (repeat' (first | ((with_reducible first | refine cond_dec (fun h => ?_) (fun h => ?_) | refine guardK_dec (fun h => ?_) (fun h => ?_) | refine guardD3_dec (fun h => ?_) (fun h => ?_)) <;> first | (exfalso; omega) | (simp (maxSteps := 2000000) (disch := first | omega | assumption | exact idP rfl | exact idP (bL rfl)) only [go_sem, reduceIte, Nat.reduceEqDiff, wpV_kd, wpV_tH, h]) | skip) | ((with_reducible first | refine cond_split (fun h => ?_) (fun h => ?_) | refine guardK_split (fun h => ?_) (fun h => ?_) | refine guardD3_split (fun h => ?_) (fun h => ?_)) <;> ((try simp only [Bool.not_eq_true', Bool.not_eq_false'] at h); first | (simp (maxSteps := 2000000) (disch := first | omega | assumption | exact idP rfl | exact idP (bL rfl)) only [go_sem, reduceIte, Nat.reduceEqDiff, wpV_kd, wpV_tH, h]) | skip)) | ((with_reducible refine (t_in).mono ?_); rintro _ _ ⟨rfl, rfl⟩) | (with_reducible intro bk hbk; try have hnk := (fresh_set hbk).1) | (simp (maxSteps := 2000000) (disch := first | omega | assumption | exact idP rfl | exact idP (bL rfl)) only [go_sem, reduceIte, Nat.reduceEqDiff, wpV_kd, wpV_tH])))
  all_goals exact hR _ _ (sB) (by (refine eqB ?_; (try simp only [decide_eq_true_eq, Bool.false_eq_true, Bool.and_eq_true, Bool.or_eq_true, Bool.not_eq_true', decide_eq_false_iff_not, eq_self_iff_true, true_iff, false_iff, iff_true, iff_false, ne_eq]); (try simp only [VarOk]); (try omega)))
theorem t_impSize {v : V} {vars : List VarS} (hv : LVar v vars) (hok : ∀ x ∈ vars, VarOk x) (h5 : vars.length ≤ 5) : VCall Try.prog n_impl_size [v] M (fun r M' => M = M' ∧ r = .sc (.int .i64 (sizeF vars))) := by
  refine VCall.pure fun R hR => v_impl_size rfl ?_
  refine sS1 @hv.len ?_
  refine loop_k (fun e M' => Sub M M' ∧ ∃ i : Nat, i ≤ vars.length ∧ e 3 = .sc (.int .i64 (sizeF (vars.take i))) ∧ e 6 = v ∧ e 7 = .sc (.int .i64 vars.length) ∧ e 8 = .sc (.int .i64 i)) (fun e _ => ctrV vars.length (e 8)) ?_ ?_
  · exact ⟨Sub.refl _, 0, by omega, by refine sS0 ?_; simp [sizeF], sT0, sT0, by refine sS0 ?_; rfl⟩
  · rintro e M1 ⟨hsub, i, hi, e3, e6, e7, e8⟩ K hK
    have hb1 := sizeF_take_bd (vs := vars) (i := i) h5 (fun j hj _ => hok _ (List.getElem_mem hj))
    refine sS2 @e7 @e8 ?_
    refine cond_dec (fun h => ?_) (fun h => ?_)
    · have hi' : i < vars.length := by omega
      have hb2 := sizeF_take_bd (vs := vars) (i := i + 1) h5 (fun j hj _ => hok _ (List.getElem_mem hj))
      have hsz := sizeF_take hi'
      rw [hsz] at hb2
      have ho := hok _ (List.getElem_mem hi')
      unfold VarOk at ho
      simp (maxSteps := 2000000) (disch := first | omega | assumption | exact idP rfl | exact idP (bL rfl)) only [go_sem, reduceIte, Nat.reduceEqDiff, wpV_kd, wpV_tH, e3, e6, e8, hv.iaddr, LVar.at hv hi']
      intro b5 hb5
      exact hK _ _ ⟨sB, i + 1, by omega, by refine sS0 ?_; rw [hsz], sT0, sT0, by refine sS0 ?_; rfl⟩ (by refine sS2 @ctrV_int @e8 ?_; omega)
    · obtain rfl : i = vars.length := by omega
      refine sS1 @e3 ?_
      exact hR _ _ (sB) (by rw [List.take_length])
theorem t_ruleOk {a b c : V} {r : RuleS} {vars : Int} (ha : LT a r.when_) (hb : LI b r.sets) (hc : LTT c r.terms) (h0 : 0 ≤ vars) (h5 : vars ≤ 5) (hl : r.sets.length ≤ 1048576) :
    VCall Try.prog n_impl_ruleOk [.agg [a, b, c], .sc (.int .i64 vars)] M (fun r' M' => M = M' ∧ ∃ t : Bool, r' = .sc (.bool t) ∧ (t = true ↔ RuleOk vars r)) := by
  refine VCall.pure fun R hR => v_impl_ruleOk rfl ?_
  refine sS0 ?_
  intro bb hbb
  refine (t_kindOf ha).mono ?_
  rintro _ _ ⟨rfl, kw, rfl, hw⟩
  have hw := hw 2 (by omega)
  (repeat' (first | ((with_reducible first | refine cond_dec (fun h => ?_) (fun h => ?_) | refine guardK_dec (fun h => ?_) (fun h => ?_) | refine guardD3_dec (fun h => ?_) (fun h => ?_)) <;> first | (exfalso; omega) | (simp (maxSteps := 2000000) (disch := first | omega | assumption | exact idP rfl | exact idP (bL rfl)) only [go_sem, reduceIte, Nat.reduceEqDiff, wpV_kd, wpV_tH, h, hb.len, hc.len]) | skip) | ((with_reducible first | refine cond_split (fun h => ?_) (fun h => ?_) | refine guardK_split (fun h => ?_) (fun h => ?_) | refine guardD3_split (fun h => ?_) (fun h => ?_)) <;> ((try simp only [Bool.not_eq_true', Bool.not_eq_false'] at h); first | (simp (maxSteps := 2000000) (disch := first | omega | assumption | exact idP rfl | exact idP (bL rfl)) only [go_sem, reduceIte, Nat.reduceEqDiff, wpV_kd, wpV_tH, h, hb.len, hc.len]) | skip)) | (with_reducible intro bk hbk; try have hnk := (fresh_set hbk).1) | (simp (maxSteps := 2000000) (disch := first | omega | assumption | exact idP rfl | exact idP (bL rfl)) only [go_sem, reduceIte, Nat.reduceEqDiff, wpV_kd, wpV_tH, hb.len, hc.len])))
  · refine hR _ _ (sB) ⟨false, rfl, ?_⟩
    simp only [Bool.false_eq_true, false_iff]
    intro hr; exact absurd (hw.2 hr.1) (by assumption)
  · refine hR _ _ (sB) ⟨false, rfl, ?_⟩
    simp only [Bool.false_eq_true, false_iff]
    intro hr; have := hr.2.1; omega
  · have hkw : kindIs vars 2 r.when_ = true := hw.1 (by omega)
    refine loop_k (fun e M' => M' = M.set bb [a, b, c] ∧ ∃ i : Nat, i ≤ r.sets.length ∧ e 1 = .sc (.int .i64 vars) ∧ e 2 = .sc (.ptr (some (bb, 0))) ∧ e 22 = b ∧ e 23 = .sc (.int .i64 r.sets.length) ∧ e 24 = .sc (.int .i64 i) ∧
      ∀ j (hj : j < r.sets.length), j < i → (0 ≤ r.sets[j] ∧ r.sets[j] < vars) ∧ (∀ h0 : 0 < j, r.sets[j - 1]'(by omega) < r.sets[j]) ∧ (∀ h2 : j < r.terms.length, kindIs vars 1 r.terms[j] = true)) (fun e _ => ctrV r.sets.length (e 24)) ?_ ?_
    · exact ⟨rfl, 0, by omega, sT0, sT0, sT0, sT0, by refine sS0 ?_; rfl, fun j _ h => by omega⟩
    · rintro e _ ⟨rfl, i, hi, e1, e2, e22, e23, e24, hj⟩ K hK
      refine sS2 @e23 @e24 ?_
      refine cond_dec (fun h => ?_) (fun h => ?_)
      · have hi' : i < r.sets.length := by omega
        have e8 : ((i : Int) - 1).toNat = i - 1 := by omega
        have bad : ¬ RuleOk vars r → R (.sc (.bool false)) (M.set bb [a, b, c]) := fun hn => hR _ _ (sB) ⟨false, rfl, by simp only [Bool.false_eq_true, false_iff]; exact hn⟩
        have hti := hc.elt (i := i) (by omega)
        (repeat' (first | ((with_reducible first | refine cond_dec (fun h => ?_) (fun h => ?_) | refine guardK_dec (fun h => ?_) (fun h => ?_) | refine guardD3_dec (fun h => ?_) (fun h => ?_)) <;> first | (exfalso; omega) | (simp (maxSteps := 2000000) (disch := first | omega | assumption | exact idP rfl | exact idP (bL rfl)) only [go_sem, reduceIte, Nat.reduceEqDiff, wpV_kd, wpV_tH, h, e1, e2, e22, e24, hb.iaddr, hb.at, hc.iaddr, e8]) | skip) | ((with_reducible first | refine cond_split (fun h => ?_) (fun h => ?_) | refine guardK_split (fun h => ?_) (fun h => ?_) | refine guardD3_split (fun h => ?_) (fun h => ?_)) <;> ((try simp only [Bool.not_eq_true', Bool.not_eq_false'] at h); first | (simp (maxSteps := 2000000) (disch := first | omega | assumption | exact idP rfl | exact idP (bL rfl)) only [go_sem, reduceIte, Nat.reduceEqDiff, wpV_kd, wpV_tH, h, e1, e2, e22, e24, hb.iaddr, hb.at, hc.iaddr, e8]) | skip)) | ((with_reducible refine (t_in).mono ?_); rintro _ _ ⟨rfl, rfl⟩) | (with_reducible intro bk hbk; try have hnk := (fresh_set hbk).1) | (simp (maxSteps := 2000000) (disch := first | omega | assumption | exact idP rfl | exact idP (bL rfl)) only [go_sem, reduceIte, Nat.reduceEqDiff, wpV_kd, wpV_tH, e1, e2, e22, e24, hb.iaddr, hb.at, hc.iaddr, e8])))
        all_goals first
          | (refine bad fun hr => ?_; have h3 := (hr.2.2 i hi').1; have h4 := (hr.2.2 i hi').2.1; first | omega | (have := h4 (by omega); omega))
          | skip
        all_goals (refine (t_kindOf hti).mono ?_; rintro _ _ ⟨rfl, ki, rfl, hki⟩; have hki := hki 1 (by omega))
        all_goals (repeat' (first | ((with_reducible first | refine cond_dec (fun h => ?_) (fun h => ?_) | refine guardK_dec (fun h => ?_) (fun h => ?_) | refine guardD3_dec (fun h => ?_) (fun h => ?_)) <;> first | (exfalso; omega) | (simp (maxSteps := 2000000) (disch := first | omega | assumption | exact idP rfl | exact idP (bL rfl)) only [go_sem, reduceIte, Nat.reduceEqDiff, wpV_kd, wpV_tH, h, e1, e2, e22, e24, hb.iaddr, hb.at, hc.iaddr, e8]) | skip) | ((with_reducible first | refine cond_split (fun h => ?_) (fun h => ?_) | refine guardK_split (fun h => ?_) (fun h => ?_) | refine guardD3_split (fun h => ?_) (fun h => ?_)) <;> ((try simp only [Bool.not_eq_true', Bool.not_eq_false'] at h); first | (simp (maxSteps := 2000000) (disch := first | omega | assumption | exact idP rfl | exact idP (bL rfl)) only [go_sem, reduceIte, Nat.reduceEqDiff, wpV_kd, wpV_tH, h, e1, e2, e22, e24, hb.iaddr, hb.at, hc.iaddr, e8]) | skip)) | (with_reducible intro bk hbk; try have hnk := (fresh_set hbk).1) | (simp (maxSteps := 2000000) (disch := first | omega | assumption | exact idP rfl | exact idP (bL rfl)) only [go_sem, reduceIte, Nat.reduceEqDiff, wpV_kd, wpV_tH, e1, e2, e22, e24, hb.iaddr, hb.at, hc.iaddr, e8])))
        all_goals first
          | (refine bad fun hr => ?_; have h5 := (hr.2.2 i hi').2.2 (by omega); exact absurd (hki.2 h5) (by assumption))
          | (refine hK _ _ ⟨rfl, i + 1, by omega, sT0, sT0, sT0, sT0, by refine sS0 ?_; rfl, fun j hj1 hj2 => ?_⟩ (by refine sS2 @ctrV_int @e24 ?_; omega)
             by_cases hji : j = i
             · subst hji; exact ⟨by omega, fun h0 => by omega, fun _ => hki.1 (by omega)⟩
             · exact hj j hj1 (by omega))
      · refine sS0 ?_
        exact hR _ _ (sB) ⟨true, rfl, by
          simp only [true_iff]
          exact ⟨hkw, by omega, fun j hj1 => hj j hj1 (by omega)⟩⟩
theorem t_IndexVar {v : V} {fn : Nat} {caps : List V} {xs : List VarS} {pred : VarS → Bool} (hv : LVar v xs) (hl : xs.length ≤ 1048576)
    (hf : ∀ x ∈ xs, VCall Try.prog fn (.agg (encVar x) :: caps) M (fun r M' => M = M' ∧ r = .sc (.bool (pred x)))) :
    VCall Try.prog n_slices_ContainsFunc_Simpl_Var_impl_Var [v, .fn fn caps] M (fun r M' => M = M' ∧ r = .sc (.bool (xs.any pred))) := by
  have key : VCall Try.prog n_slices_IndexFunc_Simpl_Var_impl_Var [v, .fn fn caps] M (fun r M' => M = M' ∧ ∃ k : Int, r = .sc (.int .i64 k) ∧ (0 ≤ k ↔ xs.any pred = true)) := by
    refine VCall.pure fun R hR => v_slices_IndexFunc_Simpl_Var_impl_Var rfl ?_
    refine sS1 @hv.len ?_
    refine loop_k (fun e M' => M' = M ∧ ∃ i : Nat, i ≤ xs.length ∧ e 0 = v ∧ e 1 = .fn fn caps ∧ e 7 = .sc (.int .i64 xs.length) ∧ e 8 = .sc (.int .i64 i) ∧ ∀ j (hj : j < xs.length), j < i → pred xs[j] = false) (fun e _ => ctrV xs.length (e 8)) ?_ ?_
    · exact ⟨rfl, 0, by omega, sT0, sT0, sT0, by refine sS0 ?_; rfl, fun j _ h => by omega⟩
    · rintro e M1 ⟨hM, i, hi, e0, e1, e7, e8, hj⟩ K hK
      subst hM
      refine sS2 @e7 @e8 ?_
      refine cond_dec (fun h => ?_) (fun h => ?_)
      · have hi' : i < xs.length := by omega
        simp (maxSteps := 2000000) (disch := first | omega | assumption | exact idP rfl | exact idP (bL rfl)) only [go_sem, reduceIte, Nat.reduceEqDiff, wpV_kd, wpV_tH, e0, e1, e8, hv.iaddr, LVar.at hv hi']
        refine (hf _ (List.getElem_mem hi')).mono ?_
        rintro _ _ ⟨rfl, rfl⟩
        cases hp : pred xs[i] with
        | true =>
          refine sS0 ?_
          exact hR _ _ (sB) ⟨_, rfl, by simp only [Int.natCast_nonneg, true_iff]; exact List.any_eq_true.2 ⟨_, List.getElem_mem hi', hp⟩⟩
        | false =>
          refine sS1 @e8 ?_
          refine hK _ _ ⟨rfl, i + 1, by omega, sT0, sT0, sT0, by refine sS0 ?_; rfl, fun j hj1 hj2 => ?_⟩ (by refine sS2 @ctrV_int @e8 ?_; omega)
          by_cases hji : j = i
          · subst hji; exact hp
          · exact hj j hj1 (by omega)
      · refine sS0 ?_
        refine hR _ _ (sB) ⟨-1, rfl, ⟨fun h => by omega, fun h => ?_⟩⟩
        obtain ⟨x, hx, hpx⟩ := List.any_eq_true.1 h
        obtain ⟨j, hj1, rfl⟩ := List.getElem_of_mem hx
        rw [hj j hj1 (by omega)] at hpx; cases hpx
  refine VCall.pure fun R hR => v_slices_ContainsFunc_Simpl_Var_impl_Var rfl ?_
  refine sS0 ?_
  refine key.mono ?_
  rintro _ _ ⟨rfl, k, rfl, hk⟩
  refine sS0 ?_
  exact hR _ _ (sB) (eqB (by simp only [decide_eq_true_eq]; exact hk))
end Go.M2

namespace Go.M2
open Go.Proofs
variable {M : MH}
theorem t_IndexRule {v : V} {fn : Nat} {caps : List V} {xs : List RuleS} {pred : RuleS → Bool} (hv : LR v xs) (hl : xs.length ≤ 1048576)
    (hf : ∀ x ∈ xs, ∀ cs, isRule x cs → VCall Try.prog fn (.agg cs :: caps) M (fun r M' => M = M' ∧ r = .sc (.bool (pred x)))) :
    VCall Try.prog n_slices_ContainsFunc_Simpl_Rule_impl_Rule [v, .fn fn caps] M (fun r M' => M = M' ∧ r = .sc (.bool (xs.any pred))) := by
  have key : VCall Try.prog n_slices_IndexFunc_Simpl_Rule_impl_Rule [v, .fn fn caps] M (fun r M' => M = M' ∧ ∃ k : Int, r = .sc (.int .i64 k) ∧ (0 ≤ k ↔ xs.any pred = true)) := by
    refine VCall.pure fun R hR => v_slices_IndexFunc_Simpl_Rule_impl_Rule rfl ?_
    refine sS1 @hv.len ?_
    refine loop_k (fun e M' => M' = M ∧ ∃ i : Nat, i ≤ xs.length ∧ e 0 = v ∧ e 1 = .fn fn caps ∧ e 7 = .sc (.int .i64 xs.length) ∧ e 8 = .sc (.int .i64 i) ∧ ∀ j (hj : j < xs.length), j < i → pred xs[j] = false) (fun e _ => ctrV xs.length (e 8)) ?_ ?_
    · exact ⟨rfl, 0, by omega, sT0, sT0, sT0, by refine sS0 ?_; rfl, fun j _ h => by omega⟩
    · rintro e M1 ⟨hM, i, hi, e0, e1, e7, e8, hj⟩ K hK
      subst hM
      refine sS2 @e7 @e8 ?_
      refine cond_dec (fun h => ?_) (fun h => ?_)
      · have hi' : i < xs.length := by omega
        have hcs := hv.elt hi'
        have hrule := hcs
        obtain ⟨c1, c2, c3, hat, _, _, _⟩ := hcs
        rw [hat] at hrule
        refine sS5 @e0 @e1 @e8 @hv.iaddr @hat ?_
        refine (hf _ (List.getElem_mem hi') _ hrule).mono ?_
        rintro _ _ ⟨rfl, rfl⟩
        cases hp : pred xs[i] with
        | true =>
          refine sS0 ?_
          exact hR _ _ (sB) ⟨_, rfl, by simp only [Int.natCast_nonneg, true_iff]; exact List.any_eq_true.2 ⟨_, List.getElem_mem hi', hp⟩⟩
        | false =>
          refine sS1 @e8 ?_
          refine hK _ _ ⟨rfl, i + 1, by omega, sT0, sT0, sT0, by refine sS0 ?_; rfl, fun j hj1 hj2 => ?_⟩ (by refine sS2 @ctrV_int @e8 ?_; omega)
          by_cases hji : j = i
          · subst hji; exact hp
          · exact hj j hj1 (by omega)
      · refine sS0 ?_
        refine hR _ _ (sB) ⟨-1, rfl, ⟨fun h => by omega, fun h => ?_⟩⟩
        obtain ⟨x, hx, hpx⟩ := List.any_eq_true.1 h
        obtain ⟨j, hj1, rfl⟩ := List.getElem_of_mem hx
        rw [hj j hj1 (by omega)] at hpx; cases hpx
  refine VCall.pure fun R hR => v_slices_ContainsFunc_Simpl_Rule_impl_Rule rfl ?_
  refine sS0 ?_
  refine key.mono ?_
  rintro _ _ ⟨rfl, k, rfl, hk⟩
  refine sS0 ?_
  exact hR _ _ (sB) (eqB (by simp only [decide_eq_true_eq]; exact hk))
noncomputable def ruleB (vars : Int) (r : RuleS) : Bool := @decide (RuleOk vars r) (Classical.propDecidable _)
theorem ruleB_iff (vars : Int) (r : RuleS) : ruleB vars r = true ↔ RuleOk vars r := by unfold ruleB; exact @decide_eq_true_iff _ (Classical.propDecidable _)
def SysSz (s : SysS) : Prop := s.vars.length ≤ 1048576 ∧ s.rules.length ≤ 1048576 ∧ ∀ r ∈ s.rules, r.sets.length ≤ 1048576
theorem t_impSystemValid {v : V} {s : SysS} (hv : isSys s v) (hsz : SysSz s) : VCall Try.prog n_impl_SystemValid [v] M (fun r' M' => M = M' ∧ r' = .sc (.bool (sysB s))) := by
  refine VCall.pure fun R hR => v_impl_SystemValid rfl ?_
  obtain ⟨a, b, rfl, ha, hb⟩ := hv
  have bad : ¬ SysOk s → sysB s = false := fun h => by
    cases hq : sysB s with
    | false => rfl
    | true => exact absurd ((sysB_iff s).1 hq) h
  have h1 : ∀ (M : MH), ∀ x ∈ s.vars, VCall Try.prog n_impl_SystemValid_1 (.agg (encVar x) :: []) M (fun r M' => M = M' ∧ r = .sc (.bool (!decide (VarOk x)))) := by
    intro M x _
    refine VCall.pure fun R hR => v_impl_SystemValid_1 rfl ?_
    simp (maxSteps := 2000000) (disch := first | omega | assumption | exact idP rfl | exact idP (bL rfl)) only [go_sem, reduceIte, Nat.reduceEqDiff, wpV_kd, wpV_tH, encVar]
    intro b1 hb1
    refine (t_varOk (v := x)).mono ?_
    rintro _ _ ⟨rfl, rfl⟩
    refine sS0 ?_
    exact hR _ _ (sB) (by rw [decide_not])
  (repeat' (first | ((with_reducible first | refine cond_dec (fun h => ?_) (fun h => ?_) | refine guardK_dec (fun h => ?_) (fun h => ?_) | refine guardD3_dec (fun h => ?_) (fun h => ?_)) <;> first | (exfalso; omega) | (simp (maxSteps := 2000000) (disch := first | omega | assumption | exact idP rfl | exact idP (bL rfl)) only [go_sem, reduceIte, Nat.reduceEqDiff, wpV_kd, wpV_tH, h, ha.len, hb.len]) | skip) | ((with_reducible first | refine cond_split (fun h => ?_) (fun h => ?_) | refine guardK_split (fun h => ?_) (fun h => ?_) | refine guardD3_split (fun h => ?_) (fun h => ?_)) <;> ((try simp only [Bool.not_eq_true', Bool.not_eq_false'] at h); first | (simp (maxSteps := 2000000) (disch := first | omega | assumption | exact idP rfl | exact idP (bL rfl)) only [go_sem, reduceIte, Nat.reduceEqDiff, wpV_kd, wpV_tH, h, ha.len, hb.len]) | skip)) | ((with_reducible refine (t_in).mono ?_); rintro _ _ ⟨rfl, rfl⟩) | (with_reducible intro bk hbk; try have hnk := (fresh_set hbk).1) | (simp (maxSteps := 2000000) (disch := first | omega | assumption | exact idP rfl | exact idP (bL rfl)) only [go_sem, reduceIte, Nat.reduceEqDiff, wpV_kd, wpV_tH, ha.len, hb.len])))
  all_goals try (exact hR _ _ (sB) (by rw [bad fun hs => by have := hs.v1; have := hs.v5; have := hs.r8; omega]))
  · refine (t_IndexVar ha hsz.1 (h1 _)).mono ?_
    rintro _ _ ⟨rfl, rfl⟩
    cases hany : s.vars.any (fun x => !decide (VarOk x)) with
    | true =>
      (repeat' (first | ((with_reducible first | refine cond_dec (fun h => ?_) (fun h => ?_) | refine guardK_dec (fun h => ?_) (fun h => ?_) | refine guardD3_dec (fun h => ?_) (fun h => ?_)) <;> first | (exfalso; omega) | (simp (maxSteps := 2000000) (disch := first | omega | assumption | exact idP rfl | exact idP (bL rfl)) only [go_sem, reduceIte, Nat.reduceEqDiff, wpV_kd, wpV_tH, h]) | skip) | ((with_reducible first | refine cond_split (fun h => ?_) (fun h => ?_) | refine guardK_split (fun h => ?_) (fun h => ?_) | refine guardD3_split (fun h => ?_) (fun h => ?_)) <;> ((try simp only [Bool.not_eq_true', Bool.not_eq_false'] at h); first | (simp (maxSteps := 2000000) (disch := first | omega | assumption | exact idP rfl | exact idP (bL rfl)) only [go_sem, reduceIte, Nat.reduceEqDiff, wpV_kd, wpV_tH, h]) | skip)) | (with_reducible intro bk hbk; try have hnk := (fresh_set hbk).1) | (simp (maxSteps := 2000000) (disch := first | omega | assumption | exact idP rfl | exact idP (bL rfl)) only [go_sem, reduceIte, Nat.reduceEqDiff, wpV_kd, wpV_tH])))
      all_goals refine hR _ _ (sB) ?_
      all_goals rw [bad fun hs => by
        obtain ⟨x, hx, hpx⟩ := List.any_eq_true.1 hany
        have := hs.vars x hx
        simp [this] at hpx]
    | false =>
      have hvars : ∀ x ∈ s.vars, VarOk x := fun x hx => by
        have := List.any_eq_false.1 hany x hx
        simpa using this
      (repeat' (first | ((with_reducible first | refine cond_dec (fun h => ?_) (fun h => ?_) | refine guardK_dec (fun h => ?_) (fun h => ?_) | refine guardD3_dec (fun h => ?_) (fun h => ?_)) <;> first | (exfalso; omega) | (simp (maxSteps := 2000000) (disch := first | omega | assumption | exact idP rfl | exact idP (bL rfl)) only [go_sem, reduceIte, Nat.reduceEqDiff, wpV_kd, wpV_tH, h]) | skip) | ((with_reducible first | refine cond_split (fun h => ?_) (fun h => ?_) | refine guardK_split (fun h => ?_) (fun h => ?_) | refine guardD3_split (fun h => ?_) (fun h => ?_)) <;> ((try simp only [Bool.not_eq_true', Bool.not_eq_false'] at h); first | (simp (maxSteps := 2000000) (disch := first | omega | assumption | exact idP rfl | exact idP (bL rfl)) only [go_sem, reduceIte, Nat.reduceEqDiff, wpV_kd, wpV_tH, h]) | skip)) | ((with_reducible refine (t_impSize ha hvars (by omega)).mono ?_); rintro _ _ ⟨rfl, rfl⟩) | (with_reducible intro bk hbk; try have hnk := (fresh_set hbk).1) | (simp (maxSteps := 2000000) (disch := first | omega | assumption | exact idP rfl | exact idP (bL rfl)) only [go_sem, reduceIte, Nat.reduceEqDiff, wpV_kd, wpV_tH])))
      · exact hR _ _ (sB) (by rw [bad fun hs => by have := hs.size; omega])
      · have h2 : ∀ x ∈ s.rules, ∀ cs, isRule x cs → VCall Try.prog n_impl_SystemValid_2 (.agg cs :: [.sc (.ptr (some (bk, 0)))]) (M.set bk [a, b]) (fun r M' => (M.set bk [a, b]) = M' ∧ r = .sc (.bool (!ruleB (s.vars.length : Int) x))) := by
          rintro x hx cs ⟨c1, c2, c3, rfl, q1, q2, q3⟩
          refine VCall.pure fun R hR => v_impl_SystemValid_2 rfl ?_
          refine sS0 ?_
          intro b2 hb2
          have hne := (fresh_set hb2).1
          refine sS1 @ha.len ?_
          refine (t_ruleOk q1 q2 q3 (by omega) (by omega) (hsz.2.2 x hx)).mono ?_
          rintro _ _ ⟨rfl, t, rfl, ht⟩
          refine sS0 ?_
          exact hR _ _ (sB) (by rw [eq_of_iff (ht.trans (ruleB_iff _ _).symm)])
        refine (t_IndexRule hb hsz.2.1 h2).mono ?_
        rintro _ _ ⟨rfl, rfl⟩
        refine sS0 ?_
        refine hR _ _ (sB) ?_
        congr 2
        refine eq_of_iff ?_
        rw [sysB_iff, Bool.not_eq_true', List.any_eq_false]
        constructor
        · intro h
          exact ⟨by omega, by omega, by omega, hvars, fun r hr => by have := h r hr; simpa [ruleB_iff] using this, by omega⟩
        · intro hs r hr
          simp [(ruleB_iff _ _).2 (hs.rules r hr)]
end Go.M2

namespace Go.M2
open Go.Proofs
variable {M : MH}
structure DoOk (op a b : Int) : Prop where
  o2 : 2 ≤ op
  o9 : op ≤ 9
  a1 : -9999 ≤ a
  a2 : a ≤ 9999
  b1 : -9999 ≤ b
  b2 : b ≤ 9999
  tr : 8 ≤ op → (a = 0 ∨ a = 1) ∧ (b = 0 ∨ b = 1)
theorem mul_bd {a b : Int} (a1 : -9999 ≤ a) (a2 : a ≤ 9999) (b1 : -9999 ≤ b) (b2 : b ≤ 9999) : -99980001 ≤ a * b ∧ a * b ≤ 99980001 := by
  have h1 : (a * b).natAbs = a.natAbs * b.natAbs := Int.natAbs_mul a b
  have h2 : a.natAbs * b.natAbs ≤ 9999 * 9999 := Nat.mul_le_mul (by omega) (by omega)
  omega
theorem t_l1Do {op a b : Int} (h : DoOk op a b) : VCall Try.prog n_spec_l1Do [.sc (.int .i64 op), .sc (.int .i64 a), .sc (.int .i64 b)] M (fun r M' => M = M' ∧ r = .sc (.int .i64 (do1 op a b))) := by
  refine VCall.pure fun R hR => v_spec_l1Do rfl ?_
  obtain ⟨o2, o9, a1, a2, b1, b2, tr⟩ := h
  have hm := mul_bd a1 a2 b1 b2
  (repeat' (first | ((with_reducible first | refine cond_dec (fun h => ?_) (fun h => ?_) | refine guardK_dec (fun h => ?_) (fun h => ?_) | refine guardD3_dec (fun h => ?_) (fun h => ?_)) <;> first | (exfalso; omega) | (simp (maxSteps := 2000000) (disch := first | omega | assumption | exact idP rfl | exact idP (bL rfl)) only [go_sem, reduceIte, Nat.reduceEqDiff, wpV_kd, wpV_tH, h]) | skip) | ((with_reducible first | refine cond_split (fun h => ?_) (fun h => ?_) | refine guardK_split (fun h => ?_) (fun h => ?_) | refine guardD3_split (fun h => ?_) (fun h => ?_)) <;> ((try simp only [Bool.not_eq_true', Bool.not_eq_false'] at h); first | (simp (maxSteps := 2000000) (disch := first | omega | assumption | exact idP rfl | exact idP (bL rfl)) only [go_sem, reduceIte, Nat.reduceEqDiff, wpV_kd, wpV_tH, h]) | skip)) | ((with_reducible refine (t_l1Held).mono ?_); rintro _ _ ⟨rfl, rfl⟩) | ((with_reducible refine (t_l1Truth).mono ?_); rintro _ _ ⟨rfl, rfl⟩) | (with_reducible intro bk hbk; try have hnk := (fresh_set hbk).1) | (simp (maxSteps := 2000000) (disch := first | omega | assumption | exact idP rfl | exact idP (bL rfl)) only [go_sem, reduceIte, Nat.reduceEqDiff, wpV_kd, wpV_tH])))
  all_goals refine hR _ _ (sB) (eqI ?_)
  all_goals unfold do1
  all_goals try (simp (config := { decide := true }) only [*, if_true, if_false]; done)
  all_goals simp only [*, decide_eq_true_eq, if_false, if_true, if_pos, if_neg, not_false_eq_true]
  all_goals try (simp; done)
  all_goals first
    | (obtain ⟨h1 | h1, h2 | h2⟩ := tr (by omega) <;> subst h1 h2 <;> first | decide | simp)
    | skip
theorem DoOk.of {vars : Int} {ts : List TermS} {ks state : List Int} {i : Nat} (hk : kindsGo vars ts [] = .some ks) (hs : stOk state) (hv : vars ≤ (state.length : Int)) (hi : i < ts.length) (h0 : ¬ ts[i].op = 0) (h1 : ¬ ts[i].op = 1) :
    DoOk ts[i].op (ix (valsF state (ts.take i)) ts[i].a) (ix (valsF state (ts.take i)) ts[i].b) ∧ (0 ≤ ts[i].a ∧ ts[i].a < i) ∧ (0 ≤ ts[i].b ∧ ts[i].b < i) := by
  obtain ⟨hl, hat⟩ := kindsGo_at hk
  obtain ⟨q1, q2⟩ := hat i hi (by omega)
  have q3 : kind1 vars ts[i] (ks.take i) ≠ 0 := by rw [q1]; exact q2
  unfold kind1 at q3
  rw [if_neg h0, if_neg h1] at q3
  split at q3
  · rename_i hc
    obtain ⟨c1, c2, c3, c4, c5, c6, c7, c8⟩ := hc
    have hkl : (ks.take i).length = i := by simp; omega
    rw [hkl] at c4 c5
    have hkt : kindsGo vars (ts.take i) [] = .some (ks.take i) := by
      have e := hk
      rw [← List.take_append_drop i ts, kindsGo_append] at e
      cases h2 : kindsGo vars (ts.take i) [] with
      | none => rw [h2] at e; cases e
      | some ks0 =>
        rw [h2] at e
        have h3 := (kindsGo_len (show kindsGo vars (ts.drop i) ks0 = .some ks from e)).2
        have h4 := (kindsGo_len h2).1
        simp at h4
        rw [show ks0.length = i by omega] at h3
        rw [h3]
    have V := vals_ok hs hv _ (l := ts.take i) (ks := ks.take i) rfl hkt
    have hvl : (valsF state (ts.take i)).length = i := by rw [valsF_len]; simp; omega
    obtain ⟨ha, ea⟩ := ix_eq (l := valsF state (ts.take i)) (i := ts[i].a) c4.1 (by omega)
    obtain ⟨hb, eb⟩ := ix_eq (l := valsF state (ts.take i)) (i := ts[i].b) c5.1 (by omega)
    obtain ⟨ha', ea'⟩ := ix_eq (l := ks.take i) (i := ts[i].a) c4.1 (by omega)
    obtain ⟨hb', eb'⟩ := ix_eq (l := ks.take i) (i := ts[i].b) c5.1 (by omega)
    have A := V _ ha ha'
    have B := V _ hb hb'
    rw [← ea, ← ea', c6] at A
    rw [← eb, ← eb', c7] at B
    refine ⟨⟨c1, c2, A.1, A.2.1, B.1, B.2.1, fun h8 => ?_⟩, c4, c5⟩
    unfold wantK at A B
    rw [if_pos (by omega)] at A B
    have A2 := A.2.2 rfl
    have B2 := B.2.2 rfl
    omega
  · exact absurd rfl q3
theorem varOk_of {vars : Int} {ts : List TermS} {ks : List Int} {i : Nat} (hk : kindsGo vars ts [] = .some ks) (hi : i < ts.length) (h1 : ts[i].op = 1) : 0 ≤ ts[i].n ∧ ts[i].n < vars := by
  obtain ⟨hl, hat⟩ := kindsGo_at hk
  obtain ⟨q1, q2⟩ := hat i hi (by omega)
  have q3 : kind1 vars ts[i] (ks.take i) ≠ 0 := by rw [q1]; exact q2
  unfold kind1 at q3
  rw [if_neg (by omega), if_pos h1] at q3
  split at q3
  · rename_i hc; exact ⟨hc.1, hc.2.1⟩
  · exact absurd rfl q3
theorem t_l1Values {v w : V} {ts : List TermS} {state ks : List Int} {vars : Int} (hv : LT v ts) (hw : LI w state) (hk : kindsF vars ts = .some ks) (hs : stOk state) (hvs : vars ≤ (state.length : Int)) :
    VCall Try.prog n_spec_l1Values [v, w] M (fun r M' => Gr 1 M M' r ((valsF state ts).map vi)) := by
  obtain ⟨_, _, k1, k2, hk, _⟩ := kindsF_some hk
  refine VCall.plain fun R hR => v_spec_l1Values rfl ?_
  (repeat' (first | ((with_reducible first | refine cond_dec (fun h => ?_) (fun h => ?_) | refine guardK_dec (fun h => ?_) (fun h => ?_) | refine guardD3_dec (fun h => ?_) (fun h => ?_)) <;> first | (exfalso; omega) | (simp (maxSteps := 2000000) (disch := first | omega | assumption | exact idP rfl | exact idP (bL rfl)) only [go_sem, reduceIte, Nat.reduceEqDiff, wpV_kd, wpV_tH, h]) | skip) | ((with_reducible first | refine cond_split (fun h => ?_) (fun h => ?_) | refine guardK_split (fun h => ?_) (fun h => ?_) | refine guardD3_split (fun h => ?_) (fun h => ?_)) <;> ((try simp only [Bool.not_eq_true', Bool.not_eq_false'] at h); first | (simp (maxSteps := 2000000) (disch := first | omega | assumption | exact idP rfl | exact idP (bL rfl)) only [go_sem, reduceIte, Nat.reduceEqDiff, wpV_kd, wpV_tH, h]) | skip)) | (with_reducible intro bk hbk; try have hnk := (fresh_set hbk).1) | (simp (maxSteps := 2000000) (disch := first | omega | assumption | exact idP rfl | exact idP (bL rfl)) only [go_sem, reduceIte, Nat.reduceEqDiff, wpV_kd, wpV_tH])))
  refine loop_k (fun e M' => ∃ i : Nat, i ≤ ts.length ∧ e 0 = v ∧ e 1 = w ∧ e 6 = .sc (.int .i64 i) ∧ Gr 1 M M' (e 5) ((valsF state (ts.take i)).map vi)) (fun e _ => ctrV ts.length (e 6)) ?_ ?_
  · exact ⟨0, by omega, sT0, sT0, by refine sS0 ?_; rfl, by refine sS0 ?_; exact Gr.new' (Sub.refl _) (by assumption) rfl⟩
  · rintro e M1 ⟨i, hi, e0, e1, e6, hg⟩ K hK
    refine sS4 @e0 @e1 @e6 @hv.len ?_
    refine cond_dec (fun h => ?_) (fun h => ?_)
    · have hi' : i < ts.length := by omega
      have hvl : (valsF state (ts.take i)).length = i := by rw [valsF_len]; simp; omega
      have fin : ∀ s' M', Gr 1 M M' s' ((valsF state (ts.take i) ++ [val1 state ts[i] (valsF state (ts.take i))]).map vi) → Gr 1 M M' s' ((valsF state (ts.take (i + 1))).map vi) := fun s' M' h => by rw [valsF_take hi']; exact h
      simp (maxSteps := 2000000) (disch := first | omega | assumption | exact idP rfl | exact idP (bL rfl)) only [go_sem, reduceIte, Nat.reduceEqDiff, wpV_kd, wpV_tH, e0, e1, e6, hv.iaddr, LT.at hv hi', encT_eq]
      intro b7 hb7
      have hg1 := hg.more ((Sub.refl M1).set (l := [.sc (.int .i64 ts[i].op), .sc (.int .i64 ts[i].n), .sc (.int .i64 ts[i].a), .sc (.int .i64 ts[i].b)]) hb7)
      refine cond_dec (fun h0 => ?_) (fun h0 => ?_)
      · refine sS0 ?_
        intro bt hbt
        refine app_int hg1 hbt (by omega) (by omega) ?_
        intro s' M' hg' _
        refine sS0 ?_
        refine hK _ _ ⟨i + 1, by omega, sT0, sT0, by refine sS0 ?_; rfl, ?_⟩ (by refine sS2 @ctrV_int @e6 ?_; omega)
        refine sS0 ?_
        refine fin _ _ ?_
        rw [show val1 state ts[i] (valsF state (ts.take i)) = ts[i].n by simp [val1, h0]]
        exact hg'
      · refine sS0 ?_
        refine cond_dec (fun h1 => ?_) (fun h1 => ?_)
        · have hn := varOk_of hk hi' h1
          refine sS2 @hw.iaddr @hw.ix ?_
          intro bt hbt
          refine app_int hg1 hbt (by omega) (by omega) ?_
          intro s' M' hg' _
          refine sS0 ?_
          refine hK _ _ ⟨i + 1, by omega, sT0, sT0, by refine sS0 ?_; rfl, ?_⟩ (by refine sS2 @ctrV_int @e6 ?_; omega)
          refine sS0 ?_
          refine fin _ _ ?_
          rw [show val1 state ts[i] (valsF state (ts.take i)) = ix state ts[i].n by simp [val1, h0, h1]]
          exact hg'
        · obtain ⟨hd, ha, hb⟩ := DoOk.of hk hs hvs hi' h0 h1
          have hat := hg1.at (by rw [len_vi]; omega)
          have hne : oB (e 5) ≠ b7 := fun hh => by
            have := hg.at (by rw [len_vi]; omega)
            rw [hh, hb7] at this; cases this
          rw [set_ne hne] at hat
          have hia : ∀ {k : IntKind} {a : Int}, 0 ≤ a → a < (i : Int) → iaddrV 1 (e 5) (.int k a) = .some (.sc (.ptr (some (oB (e 5), a.toNat)))) := fun q1 q2 => hg.own.iaddr q1 (by rw [len_vi, hvl]; exact q2)
          simp (maxSteps := 2000000) (disch := first | omega | assumption | exact idP rfl | exact idP (bL rfl)) only [go_sem, reduceIte, Nat.reduceEqDiff, wpV_kd, wpV_tH, hia, hat, nth_ix]
          refine (t_l1Do hd).mono ?_
          rintro _ _ ⟨rfl, rfl⟩
          simp (maxSteps := 2000000) (disch := first | omega | assumption | exact idP rfl | exact idP (bL rfl)) only [go_sem, reduceIte, Nat.reduceEqDiff, wpV_kd, wpV_tH, hia, hat, nth_ix]
          intro bt hbt
          refine app_int hg1 hbt (by omega) (by omega) ?_
          intro s' M' hg' _
          refine sS0 ?_
          refine hK _ _ ⟨i + 1, by omega, sT0, sT0, by refine sS0 ?_; rfl, ?_⟩ (by refine sS2 @ctrV_int @e6 ?_; omega)
          refine sS0 ?_
          refine fin _ _ ?_
          rw [show val1 state ts[i] (valsF state (ts.take i)) = do1 ts[i].op (ix (valsF state (ts.take i)) ts[i].a) (ix (valsF state (ts.take i)) ts[i].b) by simp [val1, h0, h1]]
          exact hg'
    · obtain rfl : i = ts.length := by omega
      rw [List.take_length] at hg
      refine sS0 ?_
      exact hR _ _ hg
theorem f_l1Values {v w : V} {ts : List TermS} {state ks : List Int} {vars : Int} (hv : LT v ts) (hw : LI w state) (hk : kindsF vars ts = .some ks) (hs : stOk state) (hvs : vars ≤ (state.length : Int)) :
    VCall Try.prog n_spec_l1Values [v, w] M (fun r M' => M = M' ∧ LI r (valsF state ts)) := (VCall.fr1 (t_l1Values hv hw hk hs hvs)).mono fun r M' ⟨h1, h2⟩ => ⟨h1, h2.li⟩
theorem evalF_eq {ts : List TermS} {state : List Int} (h : 0 < ts.length) : evalF ts state = (valsF state ts)[ts.length - 1]'(by rw [valsF_len]; omega) := by
  unfold evalF
  rw [getLastD_eq (by rw [valsF_len]; exact h)]
  congr 1
  rw [valsF_len]
theorem t_l2Last {v w : V} {ts : List TermS} {state ks : List Int} {vars : Int} (hv : LT v ts) (hw : LI w state) (hk : kindsF vars ts = .some ks) (hs : stOk state) (hvs : vars ≤ (state.length : Int)) :
    VCall Try.prog n_spec_l2Last [v, w] M (fun r M' => M = M' ∧ r = .sc (.int .i64 (evalF ts state))) := by
  obtain ⟨_, _, k1, k2, _, _⟩ := kindsF_some hk
  refine VCall.pure fun R hR => v_spec_l2Last rfl ?_
  refine sS0 ?_
  refine (f_l1Values hv hw hk hs hvs).mono ?_
  rintro r _ ⟨rfl, hr⟩
  have e1 : ((ts.length : Int) - 1).toNat = ts.length - 1 := by omega
  have hl := valsF_len state ts
  refine sS4 @hv.len @hr.iaddr @e1 @hr.at ?_
  exact hR _ _ (sB) (by rw [evalF_eq (by omega)])
end Go.M2

namespace Go.M2
open Go.Proofs
variable {M : MH}
theorem t_l2In {a b w : V} {vars : List VarS} {st : List Int} (ha : LVar a vars) (hw : LI w st) (hvl : vars.length ≤ 5) : VCall Try.prog n_spec_l2In [.agg [a, b], w] M (fun r M' => M = M' ∧ r = .sc (.bool (inB vars st))) := by
  refine VCall.pure fun R hR => v_spec_l2In rfl ?_
  (repeat' (first | ((with_reducible first | refine cond_dec (fun h => ?_) (fun h => ?_) | refine guardK_dec (fun h => ?_) (fun h => ?_) | refine guardD3_dec (fun h => ?_) (fun h => ?_)) <;> first | (exfalso; omega) | (simp (maxSteps := 2000000) (disch := first | omega | assumption | exact idP rfl | exact idP (bL rfl)) only [go_sem, reduceIte, Nat.reduceEqDiff, wpV_kd, wpV_tH, h, ha.len, hw.len]) | skip) | ((with_reducible first | refine cond_split (fun h => ?_) (fun h => ?_) | refine guardK_split (fun h => ?_) (fun h => ?_) | refine guardD3_split (fun h => ?_) (fun h => ?_)) <;> ((try simp only [Bool.not_eq_true', Bool.not_eq_false'] at h); first | (simp (maxSteps := 2000000) (disch := first | omega | assumption | exact idP rfl | exact idP (bL rfl)) only [go_sem, reduceIte, Nat.reduceEqDiff, wpV_kd, wpV_tH, h, ha.len, hw.len]) | skip)) | (with_reducible intro bk hbk; try have hnk := (fresh_set hbk).1) | (simp (maxSteps := 2000000) (disch := first | omega | assumption | exact idP rfl | exact idP (bL rfl)) only [go_sem, reduceIte, Nat.reduceEqDiff, wpV_kd, wpV_tH, ha.len, hw.len])))
  · refine hR _ _ (sB) ?_
    rw [(inB_false _ _).2 (fun hh => by have := hh.1; omega)]
  · have hlen : st.length = vars.length := by omega
    refine loop_k (fun e M' => M' = M.set bk [a, b] ∧ ∃ i : Nat, i ≤ st.length ∧ e 1 = w ∧ e 2 = .sc (.ptr (some (bk, 0))) ∧ e 5 = .sc (.int .i64 i) ∧ ∀ j (hj : j < vars.length) (h2 : j < st.length), j < i → vars[j].low ≤ st[j] ∧ st[j] ≤ vars[j].high) (fun e _ => ctrV st.length (e 5)) ?_ ?_
    · exact ⟨rfl, 0, by omega, sT0, sT0, by refine sS0 ?_; rfl, fun j _ _ h => by omega⟩
    · rintro e _ ⟨rfl, i, hi, e1, e2, e5, hj⟩ K hK
      refine sS4 @e1 @e2 @e5 @hw.len ?_
      refine cond_dec (fun h => ?_) (fun h => ?_)
      · have hi' : i < vars.length := by omega
        have hi2 : i < st.length := by omega
        (repeat' (first | ((with_reducible first | refine cond_dec (fun h => ?_) (fun h => ?_) | refine guardK_dec (fun h => ?_) (fun h => ?_) | refine guardD3_dec (fun h => ?_) (fun h => ?_)) <;> first | (exfalso; omega) | (simp (maxSteps := 2000000) (disch := first | omega | assumption | exact idP rfl | exact idP (bL rfl)) only [go_sem, reduceIte, Nat.reduceEqDiff, wpV_kd, wpV_tH, h, e1, e2, e5, ha.iaddr, LVar.at ha hi', hw.iaddr, LI.at hw hi2]) | skip) | ((with_reducible first | refine cond_split (fun h => ?_) (fun h => ?_) | refine guardK_split (fun h => ?_) (fun h => ?_) | refine guardD3_split (fun h => ?_) (fun h => ?_)) <;> ((try simp only [Bool.not_eq_true', Bool.not_eq_false'] at h); first | (simp (maxSteps := 2000000) (disch := first | omega | assumption | exact idP rfl | exact idP (bL rfl)) only [go_sem, reduceIte, Nat.reduceEqDiff, wpV_kd, wpV_tH, h, e1, e2, e5, ha.iaddr, LVar.at ha hi', hw.iaddr, LI.at hw hi2]) | skip)) | ((with_reducible refine (t_l1In).mono ?_); rintro _ _ ⟨rfl, rfl⟩) | (with_reducible intro bk hbk; try have hnk := (fresh_set hbk).1) | (simp (maxSteps := 2000000) (disch := first | omega | assumption | exact idP rfl | exact idP (bL rfl)) only [go_sem, reduceIte, Nat.reduceEqDiff, wpV_kd, wpV_tH, e1, e2, e5, ha.iaddr, LVar.at ha hi', hw.iaddr, LI.at hw hi2])))
        · refine hR _ _ (sB) ?_
          rw [(inB_false _ _).2 (fun hh => by have := hh.2 i hi' hi2; omega)]
        · refine hK _ _ ⟨rfl, i + 1, by omega, sT0, sT0, by refine sS0 ?_; rfl, fun j hj1 hj2 hj3 => ?_⟩ (by refine sS2 @ctrV_int @e5 ?_; omega)
          by_cases hji : j = i
          · subst hji; omega
          · exact hj j hj1 hj2 (by omega)
      · refine sS0 ?_
        refine hR _ _ (sB) ?_
        rw [(inB_iff _ _).2 ⟨hlen, fun j h1 h2 => hj j h1 h2 (by omega)⟩]
theorem t_l3Copy {v : V} {xs : List Int} (hv : LI v xs) (hl : xs.length ≤ 1048576) : VCall Try.prog n_spec_l3Copy [v] M (fun r M' => Gr 1 M M' r (xs.map vi)) := by
  refine VCall.plain fun R hR => v_spec_l3Copy rfl ?_
  (repeat' (first | ((with_reducible first | refine cond_dec (fun h => ?_) (fun h => ?_) | refine guardK_dec (fun h => ?_) (fun h => ?_) | refine guardD3_dec (fun h => ?_) (fun h => ?_)) <;> first | (exfalso; omega) | (simp (maxSteps := 2000000) (disch := first | omega | assumption | exact idP rfl | exact idP (bL rfl)) only [go_sem, reduceIte, Nat.reduceEqDiff, wpV_kd, wpV_tH, h]) | skip) | ((with_reducible first | refine cond_split (fun h => ?_) (fun h => ?_) | refine guardK_split (fun h => ?_) (fun h => ?_) | refine guardD3_split (fun h => ?_) (fun h => ?_)) <;> ((try simp only [Bool.not_eq_true', Bool.not_eq_false'] at h); first | (simp (maxSteps := 2000000) (disch := first | omega | assumption | exact idP rfl | exact idP (bL rfl)) only [go_sem, reduceIte, Nat.reduceEqDiff, wpV_kd, wpV_tH, h]) | skip)) | (with_reducible intro bk hbk; try have hnk := (fresh_set hbk).1) | (simp (maxSteps := 2000000) (disch := first | omega | assumption | exact idP rfl | exact idP (bL rfl)) only [go_sem, reduceIte, Nat.reduceEqDiff, wpV_kd, wpV_tH])))
  refine loop_k (fun e M' => ∃ i : Nat, i ≤ xs.length ∧ e 0 = v ∧ e 4 = .sc (.int .i64 i) ∧ Gr 1 M M' (e 3) ((xs.take i).map vi)) (fun e _ => ctrV xs.length (e 4)) ?_ ?_
  · exact ⟨0, by omega, sT0, by refine sS0 ?_; rfl, by refine sS0 ?_; exact Gr.new' (Sub.refl _) (by assumption) rfl⟩
  · rintro e M1 ⟨i, hi, e0, e4, hg⟩ K hK
    refine sS3 @e0 @e4 @hv.len ?_
    refine cond_dec (fun h => ?_) (fun h => ?_)
    · have hi' : i < xs.length := by omega
      refine sS4 @e0 @e4 @hv.iaddr @hv.at ?_
      intro bt hbt
      refine app_int hg hbt (by simp; omega) (by omega) ?_
      intro s' M' hg' _
      refine sS0 ?_
      exact hK _ _ ⟨i + 1, by omega, sT0, by refine sS0 ?_; rfl, by refine sS0 ?_; rw [take_snoc hi']; exact hg'⟩ (by refine sS2 @ctrV_int @e4 ?_; omega)
    · obtain rfl : i = xs.length := by omega
      rw [List.take_length] at hg
      refine sS0 ?_
      exact hR _ _ hg
theorem t_FirstState {v : V} {s : SysS} (hv : isSys s v) (hs : SysOk s) : VCall Try.prog n_spec_FirstState [v] M (fun r M' => Gr 1 M M' r ((firstF s).map vi)) := by
  refine VCall.plain fun R hR => v_spec_FirstState rfl ?_
  have hv0 := hv
  obtain ⟨a, b, rfl, ha, hb⟩ := hv
  have h1 := hs.v1
  have h5 := hs.v5
  (repeat' (first | ((with_reducible first | refine cond_dec (fun h => ?_) (fun h => ?_) | refine guardK_dec (fun h => ?_) (fun h => ?_) | refine guardD3_dec (fun h => ?_) (fun h => ?_)) <;> first | (exfalso; omega) | (simp (maxSteps := 2000000) (disch := first | omega | assumption | exact idP rfl | exact idP (bL rfl)) only [go_sem, reduceIte, Nat.reduceEqDiff, wpV_kd, wpV_tH, h]) | skip) | ((with_reducible first | refine cond_split (fun h => ?_) (fun h => ?_) | refine guardK_split (fun h => ?_) (fun h => ?_) | refine guardD3_split (fun h => ?_) (fun h => ?_)) <;> ((try simp only [Bool.not_eq_true', Bool.not_eq_false'] at h); first | (simp (maxSteps := 2000000) (disch := first | omega | assumption | exact idP rfl | exact idP (bL rfl)) only [go_sem, reduceIte, Nat.reduceEqDiff, wpV_kd, wpV_tH, h]) | skip)) | (with_reducible intro bk hbk; try have hnk := (fresh_set hbk).1) | (simp (maxSteps := 2000000) (disch := first | omega | assumption | exact idP rfl | exact idP (bL rfl)) only [go_sem, reduceIte, Nat.reduceEqDiff, wpV_kd, wpV_tH])))
  rename_i bb hbb
  refine loop_k (fun e M' => ∃ i : Nat, i ≤ s.vars.length ∧ e 1 = .sc (.ptr (some (bb, 0))) ∧ e 4 = .sc (.int .i64 i) ∧ Gr 1 (M.set bb [a, b]) M' (e 3) (((s.vars.take i).map (·.first)).map vi)) (fun e _ => ctrV s.vars.length (e 4)) ?_ ?_
  · exact ⟨0, by omega, sT0, by refine sS0 ?_; rfl, by refine sS0 ?_; exact Gr.new' (Sub.refl _) hbk rfl⟩
  · rintro e M1 ⟨i, hi, e1, e4, hg⟩ K hK
    have hm : M1 bb = .some [a, b] := hg.sub _ _ set_same
    refine sS4 @e1 @e4 @hm @ha.len ?_
    by_cases h : i < s.vars.length
    · have hd : decide ((i : Int) < (s.vars.length : Int)) = true := by simpa using h
      refine sS2 @hd @hm ?_
      refine (t_SystemValidS hv0).mono ?_
      rintro _ _ ⟨rfl, rfl⟩
      simp (maxSteps := 2000000) (disch := first | omega | assumption | exact idP rfl | exact idP (bL rfl)) only [go_sem, reduceIte, Nat.reduceEqDiff, wpV_kd, wpV_tH, (sysB_iff s).2 hs, hd, hm, e4, ha.iaddr, LVar.at ha h]
      intro bt hbt
      refine app_int hg hbt (by simp; omega) (by omega) ?_
      intro s' M' hg' _
      refine sS0 ?_
      refine hK _ _ ⟨i + 1, by omega, sT0, by refine sS0 ?_; rfl, ?_⟩ (by refine sS2 @ctrV_int @e4 ?_; omega)
      refine sS0 ?_
      rw [take_snoc h, List.map_append]
      exact hg'
    · have hd : decide ((i : Int) < (s.vars.length : Int)) = false := by simpa using h
      obtain rfl : i = s.vars.length := by omega
      refine sS1 @hd ?_
      refine hR _ _ ?_
      rw [List.take_length] at hg
      exact ⟨((Sub.refl M).set hbb).trans hg.sub, fun b' h' => by
        have := hg.new b' h'
        exact ((Sub.refl M).set (l := [a, b]) hbb).none this, hg.own⟩
end Go.M2

namespace Go.M2
open Go.Proofs
variable {M : MH}
theorem getD_eq {α : Type} {l : List α} {i : Nat} {d : α} (h : i < l.length) : l.getD i d = l[i] := by simp [List.getD, h]
def lRes (r : V) : Option (List Int) → Prop
  | none => r = .sc (.sl none 0 0 true 0)
  | some xs => LI r xs
theorem kind_some {vars kind : Int} {ts : List TermS} (h : kindIs vars kind ts = true) : ∃ ks, kindsF vars ts = .some ks := by
  unfold kindIs at h
  split at h
  · exact ⟨_, by assumption⟩
  · cases h
theorem t_l2Use {v w : V} {s : SysS} {st : List Int} {k : Nat} (hv : isSys s v) (hs : SysOk s) (hw : LI w st) (hin : StIn s.vars st) (hk : k < s.rules.length) :
    VCall Try.prog n_spec_l2Use [v, w, .sc (.int .i64 k)] M (fun r M' => M = M' ∧ lRes r (useR s.vars s.rules[k] st)) := by
  refine VCall.froz fun R hP hG => v_spec_l2Use rfl ?_
  obtain ⟨a, b, rfl, ha, hb⟩ := hv
  obtain ⟨x, y, z, hat, hx, hy, hz⟩ := hb.elt hk
  have h1 := hs.v1
  have h5 := hs.v5
  have hl := hin.1
  have hok := hin.ok hs
  obtain ⟨hw2, hst, hsets⟩ := hs.rules _ (List.getElem_mem hk)
  obtain ⟨kw, hkw⟩ := kind_some hw2
  have hx1 := hx.one.1
  have hy1 := hy.one.1
  have hz1 := hz.one.1
  (repeat' (first | ((with_reducible first | refine cond_dec (fun h => ?_) (fun h => ?_) | refine guardK_dec (fun h => ?_) (fun h => ?_) | refine guardD3_dec (fun h => ?_) (fun h => ?_)) <;> first | (exfalso; omega) | (simp (maxSteps := 2000000) (disch := first | omega | assumption | exact idP rfl | exact idP (bL rfl)) only [go_sem, reduceIte, Nat.reduceEqDiff, wpV_kd, wpV_tH, h, hb.len, hb.iaddr, hat]) | skip) | ((with_reducible first | refine cond_split (fun h => ?_) (fun h => ?_) | refine guardK_split (fun h => ?_) (fun h => ?_) | refine guardD3_split (fun h => ?_) (fun h => ?_)) <;> ((try simp only [Bool.not_eq_true', Bool.not_eq_false'] at h); first | (simp (maxSteps := 2000000) (disch := first | omega | assumption | exact idP rfl | exact idP (bL rfl)) only [go_sem, reduceIte, Nat.reduceEqDiff, wpV_kd, wpV_tH, h, hb.len, hb.iaddr, hat]) | skip)) | ((with_reducible refine (t_l2Last hx hw hkw hok (by omega)).mono ?_); rintro _ _ ⟨rfl, rfl⟩) | (with_reducible intro bk hbk; try have hnk := (fresh_set hbk).1) | (simp (maxSteps := 2000000) (disch := first | omega | assumption | exact idP rfl | exact idP (bL rfl)) only [go_sem, reduceIte, Nat.reduceEqDiff, wpV_kd, wpV_tH, hb.len, hb.iaddr, hat])))
  · refine hP _ _ (sB) ?_
    rename_i h
    simp only [useR, h, if_true, lRes]
  · rename_i b3 hb3 b7 hb7 hne7
    have hev := h
    refine loop_k (fun e M' => ∃ i : Nat, i ≤ st.length ∧ e 1 = w ∧ e 3 = .sc (.ptr (some (b3, 0))) ∧ e 7 = .sc (.ptr (some (b7, 0))) ∧ e 9 = .sc (.int .i64 i) ∧ Gr 1 ((M.set b3 [a, b]).set b7 [x, y, z]) M' (e 8) ((st.take i).map vi)) (fun e _ => ctrV st.length (e 9)) ?_ ?_
    · exact ⟨0, by omega, sT0, sT0, sT0, by refine sS0 ?_; rfl, by refine sS0 ?_; exact Gr.new' (Sub.refl _) hbk rfl⟩
    · rintro e M1 ⟨i, hi, e1, e3, e7, e9, hg⟩ K hK
      refine sS5 @e1 @e3 @e7 @e9 @hw.len ?_
      refine cond_dec (fun h => ?_) (fun h => ?_)
      · have hi' : i < st.length := by omega
        refine sS4 @e1 @e9 @hw.iaddr @hw.at ?_
        intro bt hbt
        refine app_int hg hbt (by simp; omega) (by omega) ?_
        intro s' M' hg' _
        refine sS0 ?_
        exact hK _ _ ⟨i + 1, by omega, sT0, sT0, sT0, by refine sS0 ?_; rfl, by refine sS0 ?_; rw [take_snoc hi']; exact hg'⟩ (by refine sS2 @ctrV_int @e9 ?_; omega)
      · obtain rfl : i = st.length := by omega
        rw [List.take_length] at hg
        refine sS0 ?_
        refine loop_k (fun e M' => ∃ i : Nat, i ≤ s.rules[k].sets.length ∧ e 1 = w ∧ e 3 = .sc (.ptr (some (b3, 0))) ∧ e 7 = .sc (.ptr (some (b7, 0))) ∧ e 10 = .sc (.int .i64 i) ∧ Gr 1 ((M.set b3 [a, b]).set b7 [x, y, z]) M' (e 8) ((setsF st s.rules[k].terms s.rules[k].sets i).map vi)) (fun e _ => ctrV s.rules[k].sets.length (e 10)) ?_ ?_
        · exact ⟨0, by omega, sT0, sT0, sT0, by refine sS0 ?_; rfl, by refine sS0 ?_; exact hg⟩
        · rintro e M2 ⟨i, hi, e1, e3, e7, e10, hg⟩ K2 hK2
          have hm3 : M2 b3 = .some [a, b] := hg.sub _ _ (sT0)
          have hm7 : M2 b7 = .some [x, y, z] := hg.sub _ _ (sT0)
          have hsl := setsF_len st s.rules[k].terms s.rules[k].sets i
          have hle := sets_le hsets (by omega)
          refine sS6 @e1 @e3 @e7 @e10 @hm7 @hy.len ?_
          refine cond_dec (fun h => ?_) (fun h => ?_)
          · have hi' : i < s.rules[k].sets.length := by omega
            have hi2 : i < s.rules[k].terms.length := by omega
            obtain ⟨ki, hki⟩ := kind_some (hsets.kind hi' hi2)
            have hset := (hsets i hi').1
            have hat8 := hg.at (by rw [len_vi]; omega)
            have hia : ∀ {k : IntKind} {a : Int}, 0 ≤ a → a < (st.length : Int) → iaddrV 1 (e 8) (.int k a) = .some (.sc (.ptr (some (oB (e 8), a.toNat)))) := fun q1 q2 => hg.own.iaddr q1 (by rw [len_vi, hsl]; exact q2)
            have hso : s.rules[k].sets[i].toNat < ((setsF st s.rules[k].terms s.rules[k].sets i).map vi).length := by rw [len_vi]; omega
            simp (maxSteps := 2000000) (disch := first | omega | assumption | exact idP rfl | exact idP (bL rfl)) only [go_sem, reduceIte, Nat.reduceEqDiff, wpV_kd, wpV_tH, e1, e3, e7, e10, hm7, hy.iaddr, hy.at hi', hz.iaddr]
            refine (t_l2Last (hz.elt hi2) hw hki hok (by omega)).mono ?_
            rintro _ _ ⟨rfl, rfl⟩
            simp (maxSteps := 2000000) (disch := first | omega | assumption | exact idP rfl | exact idP (bL rfl)) only [go_sem, reduceIte, Nat.reduceEqDiff, wpV_kd, wpV_tH, e1, e3, e7, e10, hm7, hy.iaddr, hy.at hi', hz.iaddr, hia, hat8]
            refine hK2 _ _ ⟨i + 1, by omega, sT0, sT0, sT0, by refine sS0 ?_; rfl, ?_⟩ (by refine sS2 @ctrV_int @e10 ?_; omega)
            refine sS0 ?_
            have := hg.setO (l' := (setsF st s.rules[k].terms s.rules[k].sets (i + 1)).map vi) (by rw [len_vi]; omega) (by simp [setsF_len])
            simp only [setsF, getD_eq hi', getD_eq hi2] at this ⊢
            rw [← set_vi] at this ⊢
            exact this
          · obtain rfl : i = s.rules[k].sets.length := by omega
            refine sS1 @hm3 ?_
            refine (VCall.lend1 hg.own flat_eq fun u M' hu => t_l2In ha hu.li (by omega)).mono ?_
            rintro _ _ ⟨rfl, rfl⟩
            have hsub : Sub M ((M.set b3 [a, b]).set b7 [x, y, z]) := sB
            cases hib : inB s.vars (setsF st s.rules[k].terms s.rules[k].sets s.rules[k].sets.length) with
            | false =>
              refine sS0 ?_
              refine hP _ _ (hsub.trans hg.sub) ?_
              simp [useR, hev, hib, lRes]
            | true =>
              refine sS0 ?_
              refine hG _ _ 1 _ ⟨hsub.trans hg.sub, fun b' h' => hsub.none (hg.new b' h'), hg.own⟩ fun u hu => ?_
              have : useR s.vars s.rules[k] st = .some (setsF st s.rules[k].terms s.rules[k].sets s.rules[k].sets.length) := by simp [useR, hev, hib]
              rw [this]
              exact hu.li
theorem t_l2Same {v w : V} {xs ys : List Int} (hv : LI v xs) (hw : LI w ys) (hl : xs.length ≤ 1048576) : VCall Try.prog n_spec_l2Same [v, w] M (fun r M' => M = M' ∧ r = .sc (.bool (decide (xs = ys)))) := by
  refine VCall.pure fun R hR => v_spec_l2Same rfl ?_
  (repeat' (first | ((with_reducible first | refine cond_dec (fun h => ?_) (fun h => ?_) | refine guardK_dec (fun h => ?_) (fun h => ?_) | refine guardD3_dec (fun h => ?_) (fun h => ?_)) <;> first | (exfalso; omega) | (simp (maxSteps := 2000000) (disch := first | omega | assumption | exact idP rfl | exact idP (bL rfl)) only [go_sem, reduceIte, Nat.reduceEqDiff, wpV_kd, wpV_tH, h, hv.len, hw.len]) | skip) | ((with_reducible first | refine cond_split (fun h => ?_) (fun h => ?_) | refine guardK_split (fun h => ?_) (fun h => ?_) | refine guardD3_split (fun h => ?_) (fun h => ?_)) <;> ((try simp only [Bool.not_eq_true', Bool.not_eq_false'] at h); first | (simp (maxSteps := 2000000) (disch := first | omega | assumption | exact idP rfl | exact idP (bL rfl)) only [go_sem, reduceIte, Nat.reduceEqDiff, wpV_kd, wpV_tH, h, hv.len, hw.len]) | skip)) | (with_reducible intro bk hbk; try have hnk := (fresh_set hbk).1) | (simp (maxSteps := 2000000) (disch := first | omega | assumption | exact idP rfl | exact idP (bL rfl)) only [go_sem, reduceIte, Nat.reduceEqDiff, wpV_kd, wpV_tH, hv.len, hw.len])))
  · refine hR _ _ (sB) ?_
    have : ¬ xs = ys := fun e => by subst e; omega
    simp [this]
  · have hlen : xs.length = ys.length := by omega
    refine loop_k (fun e M' => M' = M ∧ ∃ i : Nat, i ≤ xs.length ∧ e 0 = v ∧ e 1 = w ∧ e 5 = .sc (.int .i64 i) ∧ xs.take i = ys.take i) (fun e _ => ctrV xs.length (e 5)) ?_ ?_
    · exact ⟨rfl, 0, by omega, sT0, sT0, by refine sS0 ?_; rfl, rfl⟩
    · rintro e _ ⟨rfl, i, hi, e0, e1, e5, ht⟩ K hK
      refine sS4 @e0 @e1 @e5 @hv.len ?_
      refine cond_dec (fun h => ?_) (fun h => ?_)
      · have hi1 : i < xs.length := by omega
        have hi2 : i < ys.length := by omega
        simp (maxSteps := 2000000) (disch := first | omega | assumption | exact idP rfl | exact idP (bL rfl)) only [go_sem, reduceIte, Nat.reduceEqDiff, wpV_kd, wpV_tH, e0, e1, e5, hv.iaddr, hw.iaddr, hv.at hi1, hw.at hi2]
        refine cond_dec (fun h2 => ?_) (fun h2 => ?_)
        · refine sS0 ?_
          refine hR _ _ (sB) ?_
          have : ¬ xs = ys := fun e => by subst e; exact h2 rfl
          simp [this]
        · refine sS3 @e0 @e1 @e5 ?_
          exact hK _ _ ⟨rfl, i + 1, by omega, sT0, sT0, by refine sS0 ?_; rfl, by rw [take_snoc hi1, take_snoc hi2, ht, Decidable.not_not.1 h2]⟩ (by refine sS2 @ctrV_int @e5 ?_; omega)
      · obtain rfl : i = xs.length := by omega
        refine sS0 ?_
        refine hR _ _ (sB) ?_
        rw [List.take_length, hlen, List.take_length] at ht
        simp [ht]
end Go.M2

namespace Go.M2
open Go.Proofs
variable {M : MH}
theorem t_do {op a b : Int} (h : DoOk op a b) : VCall Try.prog n_impl_do [.sc (.int .i64 op), .sc (.int .i64 a), .sc (.int .i64 b)] M (fun r M' => M = M' ∧ r = .sc (.int .i64 (do1 op a b))) := by
  refine VCall.pure fun R hR => v_impl_do rfl ?_
  obtain ⟨o2, o9, a1, a2, b1, b2, tr⟩ := h
  have hm := mul_bd a1 a2 b1 b2
  (repeat' (first | ((with_reducible first | refine cond_dec (fun h => ?_) (fun h => ?_) | refine guardK_dec (fun h => ?_) (fun h => ?_) | refine guardD3_dec (fun h => ?_) (fun h => ?_)) <;> first | (exfalso; omega) | (simp (maxSteps := 2000000) (disch := first | omega | assumption | exact idP rfl | exact idP (bL rfl)) only [go_sem, reduceIte, Nat.reduceEqDiff, wpV_kd, wpV_tH, h]) | skip) | ((with_reducible first | refine cond_split (fun h => ?_) (fun h => ?_) | refine guardK_split (fun h => ?_) (fun h => ?_) | refine guardD3_split (fun h => ?_) (fun h => ?_)) <;> ((try simp only [Bool.not_eq_true', Bool.not_eq_false'] at h); first | (simp (maxSteps := 2000000) (disch := first | omega | assumption | exact idP rfl | exact idP (bL rfl)) only [go_sem, reduceIte, Nat.reduceEqDiff, wpV_kd, wpV_tH, h]) | skip)) | ((with_reducible refine (t_held).mono ?_); rintro _ _ ⟨rfl, rfl⟩) | ((with_reducible refine (t_bit).mono ?_); rintro _ _ ⟨rfl, rfl⟩) | (with_reducible intro bk hbk; try have hnk := (fresh_set hbk).1) | (simp (maxSteps := 2000000) (disch := first | omega | assumption | exact idP rfl | exact idP (bL rfl)) only [go_sem, reduceIte, Nat.reduceEqDiff, wpV_kd, wpV_tH])))
  all_goals refine hR _ _ (sB) (eqI ?_)
  all_goals unfold do1
  all_goals try (simp (config := { decide := true }) only [*, if_true, if_false]; done)
  all_goals simp only [*, decide_eq_true_eq, if_false, if_true, if_pos, if_neg, not_false_eq_true]
  all_goals try (simp; done)
  all_goals rw [if_neg (by omega)]
theorem t_eval {v w : V} {ts : List TermS} {state ks : List Int} {vars : Int} (hv : LT v ts) (hw : LI w state) (hk : kindsF vars ts = .some ks) (hs : stOk state) (hvs : vars ≤ (state.length : Int)) :
    VCall Try.prog n_impl_eval [v, w] M (fun r M' => M = M' ∧ r = .sc (.int .i64 (evalF ts state))) := by
  obtain ⟨_, _, k1, k2, hk, _⟩ := kindsF_some hk
  refine VCall.pure fun R hR => v_impl_eval rfl ?_
  refine sS1 @hv.len ?_
  refine mks3 (by omega) (by simp [mostCells]; omega) (by simp [mostCells]; omega) ?_
  intro b5 hb5
  simp (maxSteps := 2000000) (disch := first | omega | assumption | exact idP rfl | exact idP (bL rfl)) only [go_sem, reduceIte, Nat.reduceEqDiff, wpV_kd, wpV_tH, hv.len, zeros_vi]
  refine loop_k (fun e M' => Sub M M' ∧ ∃ i : Nat, i ≤ ts.length ∧ e 1 = w ∧ e 5 = .sc (.sl (some (b5, 0)) ts.length ts.length true 1) ∧ e 11 = v ∧ e 12 = .sc (.int .i64 ts.length) ∧ e 13 = .sc (.int .i64 i) ∧
    M' b5 = .some ((valsF state (ts.take i) ++ List.replicate (ts.length - i) 0).map vi)) (fun e _ => ctrV ts.length (e 13)) ?_ ?_
  · exact ⟨(Sub.refl _).set hb5, 0, by omega, sT0, sT0, sT0, sT0, by refine sS0 ?_; rfl, by refine sS0 ?_; simp [valsF]⟩
  · rintro e M1 ⟨hsub, i, hi, e1, e5, e11, e12, e13, hm⟩ K hK
    have hvl : (valsF state (ts.take i)).length = i := by rw [valsF_len]; simp; omega
    have hll : (valsF state (ts.take i) ++ List.replicate (ts.length - i) 0).length = ts.length := by simp; omega
    refine sS2 @e12 @e13 ?_
    refine cond_dec (fun h => ?_) (fun h => ?_)
    · have hi' : i < ts.length := by omega
      have hso : i < ((valsF state (ts.take i) ++ List.replicate (ts.length - i) 0).map vi).length := by rw [len_vi]; omega
      have hset : ∀ x, x = val1 state ts[i] (valsF state (ts.take i)) → (valsF state (ts.take i) ++ List.replicate (ts.length - i) 0).set i x = valsF state (ts.take (i + 1)) ++ List.replicate (ts.length - (i + 1)) 0 := by
        rintro x rfl
        rw [valsF_take hi', show ts.length - i = (ts.length - (i + 1)) + 1 by omega, List.replicate_succ, List.set_append_right _ _ (by omega), hvl]
        simp
      have rd : ∀ {a : Int}, 0 ≤ a → a < (i : Int) → ((valsF state (ts.take i) ++ List.replicate (ts.length - i) 0).map vi)[a.toNat]? = .some (.sc (.int .i64 (ix (valsF state (ts.take i)) a))) := fun {a} q1 q2 => by
        rw [List.map_append, nth_ix_app q1 (by omega)]
      simp (maxSteps := 2000000) (disch := first | omega | assumption | exact idP rfl | exact idP (bL rfl)) only [go_sem, reduceIte, Nat.reduceEqDiff, wpV_kd, wpV_tH, e1, e5, e11, e12, e13, hv.iaddr, LT.at hv hi', encT_eq]
      intro b7 hb7
      have hne : b5 ≠ b7 := fun hh => by subst hh; rw [hm] at hb7; cases hb7
      have fin : ∀ x cl, x = val1 state ts[i] (valsF state (ts.take i)) → ∀ e' : EnvV, e' 1 = w → e' 5 = .sc (.sl (some (b5, 0)) ts.length ts.length true 1) → e' 11 = v → e' 12 = .sc (.int .i64 ts.length) → e' 13 = .sc (.int .i64 ((i : Int) + 1)) → K e' ((M1.set b7 cl).set b5 (((valsF state (ts.take i) ++ List.replicate (ts.length - i) 0).set i x).map vi)) := by
        intro x cl hx e' g1 g5 g11 g12 g13
        refine hK _ _ ⟨?_, i + 1, by omega, g1, g5, g11, g12, g13, by rw [set_same, hset x hx]⟩ (by rw [g13, e13]; refine sS0 ?_; omega)
        refine Sub.set (sB) (by cases hq : M b5 with | none => rfl | some l => rw [hq] at hb5; cases hb5)
      refine cond_dec (fun h0 => ?_) (fun h0 => ?_)
      · simp (maxSteps := 2000000) (disch := first | omega | assumption | exact idP rfl | exact idP (bL rfl)) only [go_sem, reduceIte, Nat.reduceEqDiff, wpV_kd, wpV_tH, e5, hm, set_vi]
        exact fin _ _ (by simp [val1, h0]) _ (sT0) (sT0) (sT0) (sT0) (sT0)
      · refine sS0 ?_
        refine cond_dec (fun h1 => ?_) (fun h1 => ?_)
        · have hn := varOk_of hk hi' h1
          simp (maxSteps := 2000000) (disch := first | omega | assumption | exact idP rfl | exact idP (bL rfl)) only [go_sem, reduceIte, Nat.reduceEqDiff, wpV_kd, wpV_tH, e1, e5, hm, hw.iaddr, hw.ix, set_vi]
          exact fin _ _ (by simp [val1, h0, h1]) _ (sT0) (sT0) (sT0) (sT0) (sT0)
        · obtain ⟨hd, ha, hb⟩ := DoOk.of hk hs hvs hi' h0 h1
          refine sS3 @e5 @hm @rd ?_
          refine (t_do hd).mono ?_
          rintro _ _ ⟨rfl, rfl⟩
          simp (maxSteps := 2000000) (disch := first | omega | assumption | exact idP rfl | exact idP (bL rfl)) only [go_sem, reduceIte, Nat.reduceEqDiff, wpV_kd, wpV_tH, e5, hm, set_vi]
          exact fin _ _ (by simp [val1, h0, h1]) _ (sT0) (sT0) (sT0) (sT0) (sT0)
    · obtain rfl : i = ts.length := by omega
      rw [List.take_length] at hm
      simp only [Nat.sub_self, List.replicate_zero, List.append_nil] at hm
      have e1 : ((ts.length : Int) - 1).toNat = ts.length - 1 := by omega
      have hn := nth_vi (xs := valsF state ts) (i := ts.length - 1) (by rw [valsF_len]; omega)
      refine sS4 @e5 @hm @e1 @hn ?_
      exact hR _ _ hsub (by rw [evalF_eq (by omega)])
theorem t_inRange {a b w : V} {vars : List VarS} {st : List Int} (ha : LVar a vars) (hw : LI w st) (hvl : vars.length ≤ 5) : VCall Try.prog n_impl_inRange [.agg [a, b], w] M (fun r M' => M = M' ∧ r = .sc (.bool (inB vars st))) := by
  refine VCall.pure fun R hR => v_impl_inRange rfl ?_
  (repeat' (first | ((with_reducible first | refine cond_dec (fun h => ?_) (fun h => ?_) | refine guardK_dec (fun h => ?_) (fun h => ?_) | refine guardD3_dec (fun h => ?_) (fun h => ?_)) <;> first | (exfalso; omega) | (simp (maxSteps := 2000000) (disch := first | omega | assumption | exact idP rfl | exact idP (bL rfl)) only [go_sem, reduceIte, Nat.reduceEqDiff, wpV_kd, wpV_tH, h, ha.len, hw.len]) | skip) | ((with_reducible first | refine cond_split (fun h => ?_) (fun h => ?_) | refine guardK_split (fun h => ?_) (fun h => ?_) | refine guardD3_split (fun h => ?_) (fun h => ?_)) <;> ((try simp only [Bool.not_eq_true', Bool.not_eq_false'] at h); first | (simp (maxSteps := 2000000) (disch := first | omega | assumption | exact idP rfl | exact idP (bL rfl)) only [go_sem, reduceIte, Nat.reduceEqDiff, wpV_kd, wpV_tH, h, ha.len, hw.len]) | skip)) | (with_reducible intro bk hbk; try have hnk := (fresh_set hbk).1) | (simp (maxSteps := 2000000) (disch := first | omega | assumption | exact idP rfl | exact idP (bL rfl)) only [go_sem, reduceIte, Nat.reduceEqDiff, wpV_kd, wpV_tH, ha.len, hw.len])))
  · refine hR _ _ (sB) ?_
    rw [(inB_false _ _).2 (fun hh => by have := hh.1; omega)]
  · have hlen : st.length = vars.length := by omega
    refine loop_k (fun e M' => Sub M M' ∧ ∃ i : Nat, i ≤ st.length ∧ e 1 = w ∧ e 14 = a ∧ e 15 = .sc (.int .i64 vars.length) ∧ e 16 = .sc (.int .i64 i) ∧ ∀ j (hj : j < vars.length) (h2 : j < st.length), j < i → vars[j].low ≤ st[j] ∧ st[j] ≤ vars[j].high) (fun e _ => ctrV st.length (e 16)) ?_ ?_
    · exact ⟨sB, 0, by omega, sT0, sT0, sT0, by refine sS0 ?_; rfl, fun j _ _ h => by omega⟩
    · rintro e M1 ⟨hsub, i, hi, e1, e14, e15, e16, hj⟩ K hK
      refine sS2 @e15 @e16 ?_
      refine cond_dec (fun h => ?_) (fun h => ?_)
      · have hi' : i < vars.length := by omega
        have hi2 : i < st.length := by omega
        simp (maxSteps := 2000000) (disch := first | omega | assumption | exact idP rfl | exact idP (bL rfl)) only [go_sem, reduceIte, Nat.reduceEqDiff, wpV_kd, wpV_tH, e1, e14, e16, ha.iaddr, LVar.at ha hi']
        intro b6 hb6
        (repeat' (first | ((with_reducible first | refine cond_dec (fun h => ?_) (fun h => ?_) | refine guardK_dec (fun h => ?_) (fun h => ?_) | refine guardD3_dec (fun h => ?_) (fun h => ?_)) <;> first | (exfalso; omega) | (simp (maxSteps := 2000000) (disch := first | omega | assumption | exact idP rfl | exact idP (bL rfl)) only [go_sem, reduceIte, Nat.reduceEqDiff, wpV_kd, wpV_tH, h, e1, hw.iaddr, LI.at hw hi2]) | skip) | ((with_reducible first | refine cond_split (fun h => ?_) (fun h => ?_) | refine guardK_split (fun h => ?_) (fun h => ?_) | refine guardD3_split (fun h => ?_) (fun h => ?_)) <;> ((try simp only [Bool.not_eq_true', Bool.not_eq_false'] at h); first | (simp (maxSteps := 2000000) (disch := first | omega | assumption | exact idP rfl | exact idP (bL rfl)) only [go_sem, reduceIte, Nat.reduceEqDiff, wpV_kd, wpV_tH, h, e1, hw.iaddr, LI.at hw hi2]) | skip)) | ((with_reducible refine (t_in).mono ?_); rintro _ _ ⟨rfl, rfl⟩) | (with_reducible intro bk hbk; try have hnk := (fresh_set hbk).1) | (simp (maxSteps := 2000000) (disch := first | omega | assumption | exact idP rfl | exact idP (bL rfl)) only [go_sem, reduceIte, Nat.reduceEqDiff, wpV_kd, wpV_tH, e1, hw.iaddr, LI.at hw hi2])))
        · refine hR _ _ (sB) ?_
          rw [(inB_false _ _).2 (fun hh => by have := hh.2 i hi' hi2; omega)]
        · refine hK _ _ ⟨sB, i + 1, by omega, sT0, sT0, sT0, by refine sS0 ?_; rfl, fun j hj1 hj2 hj3 => ?_⟩ (by refine sS2 @ctrV_int @e16 ?_; omega)
          by_cases hji : j = i
          · subst hji; omega
          · exact hj j hj1 hj2 (by omega)
      · refine sS0 ?_
        refine hR _ _ hsub ?_
        rw [(inB_iff _ _).2 ⟨hlen, fun j h1 h2 => hj j h1 h2 (by omega)⟩]
theorem setAtG_all {α : Type} : ∀ (c z : List α) (o : Nat), o + c.length = z.length → setAtG z o c = z.take o ++ c
  | [], z, o, h => by
    simp only [setAtG, List.append_nil]
    rw [List.take_of_length_le (by simp at h; omega)]
  | x :: t, z, o, h => by
    simp only [setAtG]
    rw [setAtG_all t _ _ (by simp at h ⊢; omega)]
    simp at h
    rw [List.take_succ_eq_append_getElem (by simp; omega)]
    simp
    apply List.ext_getElem?
    intro i
    simp only [List.getElem?_take]
    split
    · rw [List.getElem?_set_ne (by omega)]
    · rfl
theorem t_cloneInt {v : V} {xs : List Int} (hv : LI v xs) (hl : xs.length ≤ 1048576) : VCall Try.prog n_impl_clone_int [v] M (fun r M' => Gr 1 M M' r (xs.map vi)) := by
  refine VCall.plain fun R hR => v_impl_clone_int rfl ?_
  refine sS1 @hv.len ?_
  refine cond_dec (fun h => ?_) (fun h => ?_)
  · refine sS0 ?_
    have : xs = [] := List.eq_nil_of_length_eq_zero (by omega)
    subst this
    exact hR _ _ (.nil (Sub.refl _))
  · refine sS1 @hv.len ?_
    refine mks3 (by omega) (by simp [mostCells]; omega) (by simp [mostCells]; omega) ?_
    intro b3 hb3
    have hcs := hv.cells (M := M.set b3 ((List.replicate xs.length (0 : Int)).map vi))
    rw [Nat.mul_one] at hcs
    simp (maxSteps := 2000000) (disch := first | omega | assumption | exact idP rfl | exact idP (bL rfl)) only [go_sem, reduceIte, Nat.reduceEqDiff, wpV_kd, wpV_tH, zeros_vi]
    simp only [copyV, hv.lenS, Nat.min_self, Nat.mul_one, hcs]
    rw [if_neg (by omega)]
    simp only [set_same, Nat.zero_add]
    refine ⟨by simp [vi, oneV, er, oneA], by simp, ?_⟩
    rw [setAtG_all _ _ _ (by simp)]
    refine sS0 ?_
    exact hR _ _ (Gr.new' (Sub.refl _) hb3 (by simp))
end Go.M2

namespace Go.M2
open Go.Proofs
variable {M : MH}
end Go.M2

namespace Go.M2
open Go.Proofs
variable {M : MH}
theorem copy_own {K : V → MH → Prop} {b o n c k bs os m cs ks t : Nat} {ex exs : Bool} {ld ls : List V} (hs : M bs = .some ls) (hd : M b = .some ld) (ht : min m n = t) (h0 : 0 < t) (h1 : os + t ≤ ls.length) (h2 : o + t ≤ ld.length)
    (ho : ((ls.drop os).take t).all oneV = true) (hk : K (.sc (.int .i64 (t : Int))) (M.set b (setAtG ld o ((ls.drop os).take t)))) : copyV 1 (.sc (.sl (some (b, o)) n c ex k)) (.sc (.sl (some (bs, os)) m cs exs ks)) M K := by
  subst ht
  simp only [copyV, lenS, cellsS, Nat.mul_one, if_neg (show ¬ min m n = 0 by omega), hs, cells?_some, if_pos h1, hd]
  exact ⟨ho, h2, hk⟩
theorem setAtG_mid {α : Type} : ∀ (c z : List α) (o : Nat), o + c.length ≤ z.length → setAtG z o c = z.take o ++ c ++ z.drop (o + c.length)
  | [], z, o, h => by simp [setAtG]
  | x :: t, z, o, h => by
    simp only [setAtG]
    simp at h
    rw [setAtG_mid t _ _ (by simp; omega)]
    rw [List.take_succ_eq_append_getElem (by simp; omega)]
    have e1 : (z.set o x).take o = z.take o := by
      apply List.ext_getElem?
      intro i
      simp only [List.getElem?_take]
      split
      · rw [List.getElem?_set_ne (by omega)]
      · rfl
    have e2 : (z.set o x).drop (o + 1 + t.length) = z.drop (o + (x :: t).length) := by
      apply List.ext_getElem?
      intro i
      simp only [List.getElem?_drop]
      rw [List.getElem?_set_ne (by omega)]
      simp; congr 1; omega
    rw [e1, e2]
    simp
end Go.M2

namespace Go.M2
open Go.Proofs
variable {M : MH}
def isL (xs : List Int) (u : V) : Prop := LI u xs
end Go.M2

namespace Go.M2
open Go.Proofs
variable {M : MH}
theorem sizeF_mono {vs : List VarS} (hv : ∀ v ∈ vs, VarOk v) (h5 : vs.length ≤ 5) {i : Nat} : 1 ≤ sizeF (vs.take i) ∧ sizeF (vs.take i) ≤ 3200000 := sizeF_take_bd h5 fun j hj _ => hv _ (List.getElem_mem hj)
end Go.M2

namespace Go.M2
open Go.Proofs
variable {M : MH}
theorem SysOk.sz {s : SysS} (hs : SysOk s) : 1 ≤ sizeF s.vars ∧ sizeF s.vars ≤ 400 := by
  have := sizeF_mono hs.vars hs.v5 (i := s.vars.length)
  rw [List.take_length] at this
  exact ⟨this.1, hs.size⟩
end Go.M2

namespace Go.M2
open Go.Proofs
variable {M : MH}
def uRes (r : V) : Option (List Int) → Prop
  | none => r = .tup [.sc (.sl none 0 0 true 0), .sc (.bool false)]
  | some xs => ∃ u, r = .tup [u, .sc (.bool true)] ∧ LI u xs
theorem t_use {v w : V} {s : SysS} {st : List Int} {k : Nat} (hv : isSys s v) (hs : SysOk s) (hw : LI w st) (hin : StIn s.vars st) (hk : k < s.rules.length) :
    VCall Try.prog n_impl_use [v, w, .sc (.int .i64 k)] M (fun r M' => M = M' ∧ uRes r (useR s.vars s.rules[k] st)) := by
  refine VCall.froz2 fun R hP hG => v_impl_use rfl ?_
  obtain ⟨a, b, rfl, ha, hb⟩ := hv
  obtain ⟨x, y, z, hat, hx, hy, hz⟩ := hb.elt hk
  have h1 := hs.v1
  have h5 := hs.v5
  have hl := hin.1
  have hok := hin.ok hs
  obtain ⟨hw2, hst, hsets⟩ := hs.rules _ (List.getElem_mem hk)
  obtain ⟨kw, hkw⟩ := kind_some hw2
  have hx1 := hx.one.1
  have hy1 := hy.one.1
  have hz1 := hz.one.1
  (repeat' (first | ((with_reducible first | refine cond_dec (fun h => ?_) (fun h => ?_) | refine guardK_dec (fun h => ?_) (fun h => ?_) | refine guardD3_dec (fun h => ?_) (fun h => ?_)) <;> first | (exfalso; omega) | (simp (maxSteps := 2000000) (disch := first | omega | assumption | exact idP rfl | exact idP (bL rfl)) only [go_sem, reduceIte, Nat.reduceEqDiff, wpV_kd, wpV_tH, h, hb.len, hb.iaddr, hat]) | skip) | ((with_reducible first | refine cond_split (fun h => ?_) (fun h => ?_) | refine guardK_split (fun h => ?_) (fun h => ?_) | refine guardD3_split (fun h => ?_) (fun h => ?_)) <;> ((try simp only [Bool.not_eq_true', Bool.not_eq_false'] at h); first | (simp (maxSteps := 2000000) (disch := first | omega | assumption | exact idP rfl | exact idP (bL rfl)) only [go_sem, reduceIte, Nat.reduceEqDiff, wpV_kd, wpV_tH, h, hb.len, hb.iaddr, hat]) | skip)) | ((with_reducible refine (t_eval hx hw hkw hok (by omega)).mono ?_); rintro _ _ ⟨rfl, rfl⟩) | (with_reducible intro bk hbk; try have hnk := (fresh_set hbk).1) | (simp (maxSteps := 2000000) (disch := first | omega | assumption | exact idP rfl | exact idP (bL rfl)) only [go_sem, reduceIte, Nat.reduceEqDiff, wpV_kd, wpV_tH, hb.len, hb.iaddr, hat])))
  · refine hP _ _ (sB) ?_
    rename_i h
    simp only [useR, h, if_true, uRes]
  · rename_i b3 hb3
    have hev := h
    refine (t_cloneInt hw (by omega)).mono ?_
    rintro r M1 hg
    have hm8 : M1 bk = .some [x, y, z] := hg.sub _ _ (sT0)
    refine sS2 @hm8 @hy.len ?_
    refine loop_k (fun e M' => ∃ i : Nat, i ≤ s.rules[k].sets.length ∧ e 1 = w ∧ e 3 = .sc (.ptr (some (b3, 0))) ∧ e 8 = .sc (.ptr (some (bk, 0))) ∧ e 25 = y ∧ e 26 = .sc (.int .i64 s.rules[k].sets.length) ∧ e 27 = .sc (.int .i64 i) ∧ Gr 1 ((M.set b3 [a, b]).set bk [x, y, z]) M' (e 9) ((setsF st s.rules[k].terms s.rules[k].sets i).map vi)) (fun e _ => ctrV s.rules[k].sets.length (e 27)) ?_ ?_
    · exact ⟨0, by omega, sT0, sT0, sT0, sT0, sT0, by refine sS0 ?_; rfl, by refine sS0 ?_; exact hg⟩
    · rintro e M2 ⟨i, hi, e1, e3, e8, e25, e26, e27, hg⟩ K2 hK2
      have hm3 : M2 b3 = .some [a, b] := hg.sub _ _ (sT0)
      have hm8 : M2 bk = .some [x, y, z] := hg.sub _ _ (sT0)
      have hsl := setsF_len st s.rules[k].terms s.rules[k].sets i
      have hle := sets_le hsets (by omega)
      refine sS2 @e26 @e27 ?_
      refine cond_dec (fun h => ?_) (fun h => ?_)
      · have hi' : i < s.rules[k].sets.length := by omega
        have hi2 : i < s.rules[k].terms.length := by omega
        obtain ⟨ki, hki⟩ := kind_some (hsets.kind hi' hi2)
        have hset := (hsets i hi').1
        have hat8 := hg.at (by rw [len_vi]; omega)
        have hia : ∀ {k : IntKind} {a : Int}, 0 ≤ a → a < (st.length : Int) → iaddrV 1 (e 9) (.int k a) = .some (.sc (.ptr (some (oB (e 9), a.toNat)))) := fun q1 q2 => hg.own.iaddr q1 (by rw [len_vi, hsl]; exact q2)
        have hso : s.rules[k].sets[i].toNat < ((setsF st s.rules[k].terms s.rules[k].sets i).map vi).length := by rw [len_vi]; omega
        simp (maxSteps := 2000000) (disch := first | omega | assumption | exact idP rfl | exact idP (bL rfl)) only [go_sem, reduceIte, Nat.reduceEqDiff, wpV_kd, wpV_tH, e1, e3, e8, e25, e27, hm8, hy.iaddr, hy.at hi', hz.iaddr]
        refine (t_eval (hz.elt hi2) hw hki hok (by omega)).mono ?_
        rintro _ _ ⟨rfl, rfl⟩
        refine sS9 @e1 @e3 @e8 @e25 @e26 @e27 @hm8 @hia @hat8 ?_
        refine hK2 _ _ ⟨i + 1, by omega, sT0, sT0, sT0, sT0, sT0, by refine sS0 ?_; rfl, ?_⟩ (by refine sS2 @ctrV_int @e27 ?_; omega)
        refine sS0 ?_
        have := hg.setO (l' := (setsF st s.rules[k].terms s.rules[k].sets (i + 1)).map vi) (by rw [len_vi]; omega) (by simp [setsF_len])
        simp only [setsF, getD_eq hi', getD_eq hi2] at this ⊢
        rw [← set_vi] at this ⊢
        exact this
      · obtain rfl : i = s.rules[k].sets.length := by omega
        refine sS2 @hm3 @e3 ?_
        refine (VCall.lend1 hg.own flat_eq fun u M' hu => t_inRange ha hu.li (by omega)).mono ?_
        rintro _ _ ⟨rfl, rfl⟩
        have hsub : Sub M ((M.set b3 [a, b]).set bk [x, y, z]) := sB
        cases hib : inB s.vars (setsF st s.rules[k].terms s.rules[k].sets s.rules[k].sets.length) with
        | false =>
          refine sS0 ?_
          refine hP _ _ (hsub.trans hg.sub) ?_
          simp [useR, hev, hib, uRes]
        | true =>
          refine sS0 ?_
          refine hG _ _ _ 1 _ ⟨hsub.trans hg.sub, fun b' h' => hsub.none (hg.new b' h'), hg.own⟩ fun u hu => ?_
          have : useR s.vars s.rules[k] st = .some (setsF st s.rules[k].terms s.rules[k].sets s.rules[k].sets.length) := by simp [useR, hev, hib]
          rw [this]
          exact ⟨_, rfl, hu.li⟩
theorem Cs.one {us : List V} {l : List (List Int)} (h : Cs isL us l) : us.all oneV = true := by
  refine List.all_eq_true.2 fun x hx => ?_
  obtain ⟨i, hi, rfl⟩ := List.getElem_of_mem hx
  obtain ⟨u, hu, he⟩ := h.2 i (by rw [← h.1]; exact hi)
  rw [List.getElem?_eq_getElem hi] at hu
  cases hu
  exact he.one.1
theorem Cs.take {us : List V} {l : List (List Int)} (h : Cs isL us l) (i : Nat) : Cs isL (us.take i) (l.take i) := by
  refine ⟨by simp [h.1], fun j hj => ?_⟩
  simp at hj
  obtain ⟨u, hu, he⟩ := h.2 j (by omega)
  exact ⟨u, by rw [List.getElem?_take, if_pos (by omega)]; exact hu, by rw [List.getElem_take]; exact he⟩
end Go.M2

namespace Go.M2
open Go.Proofs
variable {M : MH}
theorem Fz.pre {M M' : MH} {l l' : List V} (h : Fz M l M' l') : ∀ us : List V, Fz M (us ++ l) M' (us ++ l')
  | [] => h
  | x :: t => .keep x (Fz.pre h t)
theorem FzE.row {M0 M : MH} {b3 sz : Nat} {rv : V} {us post row : List V} (hb : M b3 = .some (us ++ rv :: post)) (hr : Gr sz M0 M rv row) (hne : blkV rv ≠ some b3) :
    ∃ M' u, (∀ e, FzE e M e M') ∧ Fr sz u row ∧ M' b3 = .some (us ++ u :: post) ∧ (M0 b3 = none → Sub M0 M') := by
  rcases hr.own with ⟨rfl, k, rfl⟩ | ⟨b, n, ex, rfl, h1, h2⟩
  · exact ⟨M, _, fun e => .refl _ _, .inl ⟨rfl, k, rfl⟩, hb, fun _ => hr.sub⟩
  · have hne' : b3 ≠ b := fun e => hne (by rw [e]; rfl)
    have h0 := hr.new b rfl
    have hd : M.del b b3 = .some (us ++ V.sc (.sl (some (b, 0)) n n ex sz) :: post) := by simp only [MH.del]; rw [if_neg hne']; exact hb
    have hz : Fz M (us ++ V.sc (.sl (some (b, 0)) n n ex sz) :: post) (M.del b) (us ++ V.fs (some (b, 0)) n n ex sz (row.drop 0) :: post) := Fz.pre (.sl h1 (Fz.refl _ _) (Fz.refl _ _)) us
    refine ⟨_, _, fun e => FzE.cells hb hz hd, .inr ⟨_, _, _, _, _, rfl, by simpa using h2⟩, set_same, fun h3 => Sub.set (fun i l hi => ?_) h3⟩
    simp only [MH.del]
    rw [if_neg (fun e => by subst e; rw [h0] at hi; cases hi)]
    exact hr.sub i l hi
end Go.M2

namespace Go.M2
open Go.Proofs
variable {M : MH}
def nil1 : V := .sc (.sl none 0 0 true 0)
theorem zeros_nil (n : Nat) : (zeros [AV.sl none 0 0 true 0] n).map V.sc = List.replicate n nil1 := by
  induction n with
  | zero => rfl
  | succ n ih => simp only [zeros, List.replicate_succ, List.flatten_cons, List.map_append] at ih ⊢; rw [ih]; rfl
theorem set_mid {α : Type} {us post : List α} {x y : α} {n : Nat} (h : us.length = n) : (us ++ x :: post).set n y = us ++ y :: post := by
  subst h
  rw [List.set_append_right _ _ (Nat.le_refl _), Nat.sub_self]; rfl
end Go.M2

namespace Go.M2
open Go.Proofs
variable {M : MH}
def AscTo (n : Int) (xs : List Int) (k : Nat) : Prop := ∀ i (h : i < xs.length), i < k → (0 ≤ xs[i] ∧ xs[i] ≤ n - 1) ∧ (0 < i → xs[i - 1] < xs[i])
def SetOk (n : Int) (xs : List Int) : Prop := AscTo n xs xs.length
noncomputable def setB (n : Int) (xs : List Int) : Bool := @decide (SetOk n xs) (Classical.propDecidable _)
theorem AscTo.next {n : Int} {xs : List Int} {k : Nat} (h : AscTo n xs k) (hk : k < xs.length) (h1 : 0 ≤ xs[k] ∧ xs[k] ≤ n - 1) (h2 : 0 < k → xs[k - 1] < xs[k]) : AscTo n xs (k + 1) := fun i hi hik => by
  by_cases e : i = k
  · subst e; exact ⟨h1, h2⟩
  · exact h i hi (by omega)
end Go.M2

namespace Go.M2
open Go.Proofs
variable {M : MH}
end Go.M2

namespace Go.M2
open Go.Proofs
variable {M : MH}
end Go.M2

namespace Go.M2
open Go.Proofs
variable {M : MH}
theorem SetOk.in {n : Int} {xs : List Int} (h : SetOk n xs) : ∀ x ∈ xs, 0 ≤ x ∧ x < n := by
  intro x hx
  obtain ⟨i, hi, rfl⟩ := List.getElem_of_mem hx
  have := (h i hi hi).1
  omega
end Go.M2

namespace Go.M2
open Go.Proofs
variable {M : MH}
theorem t_first {v : V} {s : SysS} (hv : isSys s v) (hs : SysOk s) : VCall Try.prog n_impl_first [v] M (fun r M' => M = M' ∧ LI r (firstF s)) := by
  refine VCall.froz fun R hP hG => v_impl_first rfl ?_
  obtain ⟨a, b, rfl, ha, hb⟩ := hv
  have h5 := hs.v5
  have hfl : (firstF s).length = s.vars.length := by simp [firstF]
  (repeat' (first | ((with_reducible first | refine cond_dec (fun h => ?_) (fun h => ?_) | refine guardK_dec (fun h => ?_) (fun h => ?_) | refine guardD3_dec (fun h => ?_) (fun h => ?_)) <;> first | (exfalso; omega) | (simp (maxSteps := 2000000) (disch := first | omega | assumption | exact idP rfl | exact idP (bL rfl)) only [go_sem, reduceIte, Nat.reduceEqDiff, wpV_kd, wpV_tH, h, ha.len]) | skip) | ((with_reducible first | refine cond_split (fun h => ?_) (fun h => ?_) | refine guardK_split (fun h => ?_) (fun h => ?_) | refine guardD3_split (fun h => ?_) (fun h => ?_)) <;> ((try simp only [Bool.not_eq_true', Bool.not_eq_false'] at h); first | (simp (maxSteps := 2000000) (disch := first | omega | assumption | exact idP rfl | exact idP (bL rfl)) only [go_sem, reduceIte, Nat.reduceEqDiff, wpV_kd, wpV_tH, h, ha.len]) | skip)) | (with_reducible intro bk hbk; try have hnk := (fresh_set hbk).1) | (simp (maxSteps := 2000000) (disch := first | omega | assumption | exact idP rfl | exact idP (bL rfl)) only [go_sem, reduceIte, Nat.reduceEqDiff, wpV_kd, wpV_tH, ha.len])))
  refine loop_k (fun e M' => ∃ i : Nat, i ≤ s.vars.length ∧ e 7 = a ∧ e 8 = .sc (.int .i64 s.vars.length) ∧ e 9 = .sc (.int .i64 i) ∧ Gr 1 M M' (e 3) (((firstF s).take i).map vi)) (fun e _ => ctrV s.vars.length (e 9)) ?_ ?_
  · exact ⟨0, by omega, sT0, sT0, by refine sS0 ?_; rfl, by refine sS0 ?_; exact .nil (sB)⟩
  · rintro e M1 ⟨i, hi, e7, e8, e9, hg⟩ K hK
    refine sS3 @e7 @e8 @e9 ?_
    refine cond_dec (fun h => ?_) (fun h => ?_)
    · have hi' : i < s.vars.length := by omega
      have hi2 : i < (firstF s).length := by omega
      simp (maxSteps := 2000000) (disch := first | omega | assumption | exact idP rfl | exact idP (bL rfl)) only [go_sem, reduceIte, Nat.reduceEqDiff, wpV_kd, wpV_tH, e7, e8, e9, ha.iaddr, LVar.at ha hi']
      intro b5 hb5
      try simp (maxSteps := 2000000) (disch := first | omega | assumption | exact idP rfl | exact idP (bL rfl)) only [go_sem, reduceIte, Nat.reduceEqDiff, wpV_kd, wpV_tH, e7, e8, e9]
      intro bt hbt
      refine app_int (hg.more ((Sub.refl _).set' hb5)) hbt (by simp; omega) (by omega) ?_
      intro s' M' hg' _
      refine sS3 @e7 @e8 @e9 ?_
      refine hK _ _ ⟨i + 1, by omega, sT0, sT0, by refine sS0 ?_; rfl, ?_⟩ (by refine sS2 @ctrV_int @e9 ?_; omega)
      refine sS0 ?_
      rw [take_snoc hi2]
      have e1 : (firstF s)[i] = s.vars[i].first := by simp [firstF]
      rw [e1]; exact hg'
    · obtain rfl : i = s.vars.length := by omega
      rw [List.take_of_length_le (by omega)] at hg
      refine sS0 ?_
      refine (VCall.give0 hg fun u M2 hu hs2 => (t_cloneInt hu.li (by omega)).mono fun r M' hr => hr.base hs2).mono ?_
      rintro r M2 hg2
      refine sS0 ?_
      exact hG _ _ _ _ hg2 fun u hu => hu.li
end Go.M2

namespace Go.M2
theorem SetOk.mono {n m : Int} {xs : List Int} (h : SetOk n xs) (hnm : n ≤ m) : SetOk m xs := fun i hi hik => ⟨by have := (h i hi hik).1; omega, (h i hi hik).2⟩
theorem SetOk.snoc {n x : Int} {xs : List Int} (h : SetOk n xs) (h0 : 0 ≤ n) (hx : n ≤ x) : SetOk (x + 1) (xs ++ [x]) := by
  intro i hi _
  by_cases e : i < xs.length
  · have h1 := h i e e
    have e1 : (xs ++ [x])[i] = xs[i] := List.getElem_append_left e
    rw [e1]
    refine ⟨by omega, fun h2 => ?_⟩
    have e2 : (xs ++ [x])[i - 1] = xs[i - 1] := List.getElem_append_left (by omega)
    rw [e2]; exact h1.2 h2
  · have e3 : i = xs.length := by simp at hi; omega
    subst e3
    have e1 : (xs ++ [x])[xs.length] = x := by simp
    rw [e1]
    refine ⟨by omega, fun h2 => ?_⟩
    have hl : xs.length - 1 < xs.length := by omega
    have e2 : (xs ++ [x])[xs.length - 1] = xs[xs.length - 1] := List.getElem_append_left hl
    rw [e2]
    have := (h _ hl hl).1
    omega
end Go.M2

namespace Go.M2
open Go.Proofs
variable {M : MH}
def In {α : Type} (L : V → List α → Prop) (v : V) (ys : List α) : Prop := L v ys ∨ (v = .sc .emp ∧ ys = [])
theorem In.get {α : Type} {L : V → List α → Prop} {v : V} {ys : List α} (h : In L v ys) (h0 : 0 < ys.length) : L v ys := by
  rcases h with h | ⟨_, rfl⟩
  · exact h
  · simp at h0
theorem In.len {α : Type} {L : V → List α → Prop} {v : V} {ys : List α} (h : In L v ys) (hl : ∀ v ys, L v ys → lenF (er v) = .some (.int .i64 (ys.length : Int))) : lenF (er v) = .some (.int .i64 (ys.length : Int)) := by
  rcases h with h | ⟨rfl, rfl⟩
  · exact hl _ _ h
  · rfl
abbrev XI : V → List Int → Prop := In LI
abbrev XT : V → List TermS → Prop := In LT
abbrev XVar : V → List VarS → Prop := In LVar
abbrev XTT : V → List (List TermS) → Prop := In (Ls (fun ts u => XT u ts))
def isRuleX (r : RuleS) (cs : List V) : Prop := ∃ a b c, cs = [a, b, c] ∧ XT a r.when_ ∧ XI b r.sets ∧ XTT c r.terms
abbrev XR : V → List RuleS → Prop := In (Lc 3 isRuleX)
def isSysX (s : SysS) (v : V) : Prop := ∃ a b, v = .agg [a, b] ∧ XVar a s.vars ∧ XR b s.rules
def mx : Nat := 9223372036854775807
theorem x_szIntS {v : V} {xs : List Int} {t : Int} (hv : XI v xs) (h0 : xs.length ≤ 9223372036854775807) (h1 : 0 ≤ t) (h2 : t ≤ 1048576) :
    VCall Try.prog n_laws_szIntS [v, .sc (.int .i64 t)] M (fun r M' => M = M' ∧ ∃ k : Int, r = .sc (.int .i64 k) ∧ k ≤ t ∧ (0 ≤ k → xs.length ≤ 1048576)) := by
  refine VCall.pure fun R hR => v_laws_szIntS rfl ?_
  have hl := hv.len fun _ _ h => h.len
  (repeat' (first | ((with_reducible first | refine cond_dec (fun h => ?_) (fun h => ?_) | refine guardK_dec (fun h => ?_) (fun h => ?_) | refine guardD3_dec (fun h => ?_) (fun h => ?_)) <;> first | (exfalso; omega) | (simp (maxSteps := 2000000) (disch := first | omega | assumption | exact idP rfl | exact idP (bL rfl)) only [go_sem, reduceIte, Nat.reduceEqDiff, wpV_kd, wpV_tH, h, hl]) | skip) | ((with_reducible first | refine cond_split (fun h => ?_) (fun h => ?_) | refine guardK_split (fun h => ?_) (fun h => ?_) | refine guardD3_split (fun h => ?_) (fun h => ?_)) <;> ((try simp only [Bool.not_eq_true', Bool.not_eq_false'] at h); first | (simp (maxSteps := 2000000) (disch := first | omega | assumption | exact idP rfl | exact idP (bL rfl)) only [go_sem, reduceIte, Nat.reduceEqDiff, wpV_kd, wpV_tH, h, hl]) | skip)) | (with_reducible intro bk hbk; try have hnk := (fresh_set hbk).1) | (simp (maxSteps := 2000000) (disch := first | omega | assumption | exact idP rfl | exact idP (bL rfl)) only [go_sem, reduceIte, Nat.reduceEqDiff, wpV_kd, wpV_tH, hl])))
  all_goals exact hR _ _ (sB) ⟨_, rfl, by omega, by omega⟩
theorem x_szTermS {v : V} {xs : List TermS} {t : Int} (hv : XT v xs) (h0 : xs.length ≤ 9223372036854775807) (h1 : 0 ≤ t) (h2 : t ≤ 1048576) :
    VCall Try.prog n_laws_szTermS [v, .sc (.int .i64 t)] M (fun r M' => M = M' ∧ ∃ k : Int, r = .sc (.int .i64 k) ∧ k ≤ t ∧ (0 ≤ k → xs.length ≤ 1048576)) := by
  refine VCall.pure fun R hR => v_laws_szTermS rfl ?_
  have hl := hv.len fun _ _ h => h.len
  (repeat' (first | ((with_reducible first | refine cond_dec (fun h => ?_) (fun h => ?_) | refine guardK_dec (fun h => ?_) (fun h => ?_) | refine guardD3_dec (fun h => ?_) (fun h => ?_)) <;> first | (exfalso; omega) | (simp (maxSteps := 2000000) (disch := first | omega | assumption | exact idP rfl | exact idP (bL rfl)) only [go_sem, reduceIte, Nat.reduceEqDiff, wpV_kd, wpV_tH, h, hl]) | skip) | ((with_reducible first | refine cond_split (fun h => ?_) (fun h => ?_) | refine guardK_split (fun h => ?_) (fun h => ?_) | refine guardD3_split (fun h => ?_) (fun h => ?_)) <;> ((try simp only [Bool.not_eq_true', Bool.not_eq_false'] at h); first | (simp (maxSteps := 2000000) (disch := first | omega | assumption | exact idP rfl | exact idP (bL rfl)) only [go_sem, reduceIte, Nat.reduceEqDiff, wpV_kd, wpV_tH, h, hl]) | skip)) | (with_reducible intro bk hbk; try have hnk := (fresh_set hbk).1) | (simp (maxSteps := 2000000) (disch := first | omega | assumption | exact idP rfl | exact idP (bL rfl)) only [go_sem, reduceIte, Nat.reduceEqDiff, wpV_kd, wpV_tH, hl])))
  all_goals exact hR _ _ (sB) ⟨_, rfl, by omega, by omega⟩
theorem x_szVarS {v : V} {xs : List VarS} {t : Int} (hv : XVar v xs) (h0 : xs.length ≤ 9223372036854775807) (h1 : 0 ≤ t) (h2 : t ≤ 1048576) :
    VCall Try.prog n_laws_szVarS [v, .sc (.int .i64 t)] M (fun r M' => M = M' ∧ ∃ k : Int, r = .sc (.int .i64 k) ∧ k ≤ t ∧ (0 ≤ k → xs.length ≤ 1048576)) := by
  refine VCall.pure fun R hR => v_laws_szVarS rfl ?_
  have hl := hv.len fun _ _ h => h.len
  (repeat' (first | ((with_reducible first | refine cond_dec (fun h => ?_) (fun h => ?_) | refine guardK_dec (fun h => ?_) (fun h => ?_) | refine guardD3_dec (fun h => ?_) (fun h => ?_)) <;> first | (exfalso; omega) | (simp (maxSteps := 2000000) (disch := first | omega | assumption | exact idP rfl | exact idP (bL rfl)) only [go_sem, reduceIte, Nat.reduceEqDiff, wpV_kd, wpV_tH, h, hl]) | skip) | ((with_reducible first | refine cond_split (fun h => ?_) (fun h => ?_) | refine guardK_split (fun h => ?_) (fun h => ?_) | refine guardD3_split (fun h => ?_) (fun h => ?_)) <;> ((try simp only [Bool.not_eq_true', Bool.not_eq_false'] at h); first | (simp (maxSteps := 2000000) (disch := first | omega | assumption | exact idP rfl | exact idP (bL rfl)) only [go_sem, reduceIte, Nat.reduceEqDiff, wpV_kd, wpV_tH, h, hl]) | skip)) | (with_reducible intro bk hbk; try have hnk := (fresh_set hbk).1) | (simp (maxSteps := 2000000) (disch := first | omega | assumption | exact idP rfl | exact idP (bL rfl)) only [go_sem, reduceIte, Nat.reduceEqDiff, wpV_kd, wpV_tH, hl])))
  all_goals exact hR _ _ (sB) ⟨_, rfl, by omega, by omega⟩
def LenOk {α : Type} (xs : List α) : Prop := xs.length ≤ 9223372036854775807
def RuleLen (r : RuleS) : Prop := LenOk r.when_ ∧ LenOk r.sets ∧ LenOk r.terms ∧ ∀ ts ∈ r.terms, LenOk ts
def RuleFit (r : RuleS) : Prop := r.when_.length ≤ 1048576 ∧ r.sets.length ≤ 1048576 ∧ r.terms.length ≤ 1048576 ∧ ∀ ts ∈ r.terms, ts.length ≤ 1048576
def SysLen (s : SysS) : Prop := LenOk s.vars ∧ LenOk s.rules ∧ ∀ r ∈ s.rules, RuleLen r
def SysFit (s : SysS) : Prop := s.vars.length ≤ 1048576 ∧ s.rules.length ≤ 1048576 ∧ ∀ r ∈ s.rules, RuleFit r
theorem x_szTermSS {v : V} {xs : List (List TermS)} {t : Int} (hv : XTT v xs) (h0 : LenOk xs) (hx : ∀ ts ∈ xs, LenOk ts) (h1 : 0 ≤ t) (h2 : t ≤ 1048576) :
    VCall Try.prog n_laws_szTermSS [v, .sc (.int .i64 t)] M (fun r M' => M = M' ∧ ∃ k : Int, r = .sc (.int .i64 k) ∧ k ≤ t ∧ (0 ≤ k → xs.length ≤ 1048576 ∧ ∀ ts ∈ xs, ts.length ≤ 1048576)) := by
  refine VCall.pure fun R hR => v_laws_szTermSS rfl ?_
  unfold LenOk at h0 hx
  have hl := hv.len fun _ _ h => h.len
  (repeat' (first | ((with_reducible first | refine cond_dec (fun h => ?_) (fun h => ?_) | refine guardK_dec (fun h => ?_) (fun h => ?_) | refine guardD3_dec (fun h => ?_) (fun h => ?_)) <;> first | (exfalso; omega) | (simp (maxSteps := 2000000) (disch := first | omega | assumption | exact idP rfl | exact idP (bL rfl)) only [go_sem, reduceIte, Nat.reduceEqDiff, wpV_kd, wpV_tH, h, hl]) | skip) | ((with_reducible first | refine cond_split (fun h => ?_) (fun h => ?_) | refine guardK_split (fun h => ?_) (fun h => ?_) | refine guardD3_split (fun h => ?_) (fun h => ?_)) <;> ((try simp only [Bool.not_eq_true', Bool.not_eq_false'] at h); first | (simp (maxSteps := 2000000) (disch := first | omega | assumption | exact idP rfl | exact idP (bL rfl)) only [go_sem, reduceIte, Nat.reduceEqDiff, wpV_kd, wpV_tH, h, hl]) | skip)) | (with_reducible intro bk hbk; try have hnk := (fresh_set hbk).1) | (simp (maxSteps := 2000000) (disch := first | omega | assumption | exact idP rfl | exact idP (bL rfl)) only [go_sem, reduceIte, Nat.reduceEqDiff, wpV_kd, wpV_tH, hl])))
  · exact hR _ _ (sB) ⟨_, rfl, by omega, by omega⟩
  · refine loop_k (fun e M' => M' = M ∧ ∃ (i : Nat) (k : Int), i ≤ xs.length ∧ e 0 = v ∧ e 1 = .sc (.int .i64 k) ∧ e 5 = .sc (.int .i64 i) ∧ 0 ≤ k ∧ k ≤ t ∧ ∀ j (hj : j < xs.length), j < i → xs[j].length ≤ 1048576) (fun e _ => ctrV xs.length (e 5)) ?_ ?_
    · exact ⟨rfl, 0, t - xs.length, by omega, sT0, sT0, by refine sS0 ?_; rfl, by omega, by omega, fun j _ h => by omega⟩
    · rintro e _ ⟨rfl, i, k, hi, e0, e1, e5, k0, k1, hj⟩ K hK
      refine sS4 @e0 @e1 @e5 @hl ?_
      refine cond_dec (fun h => ?_) (fun h => ?_)
      · have hi' : i < xs.length := by omega
        have hv' := hv.get (by omega)
        refine sS4 @e0 @e1 @e5 @hv'.iaddr ?_
        refine (x_szTermS (hv'.elt hi') (hx _ (List.getElem_mem hi')) k0 (by omega)).mono ?_
        rintro _ _ ⟨rfl, k2, rfl, q1, q2⟩
        (repeat' (first | ((with_reducible first | refine cond_dec (fun h => ?_) (fun h => ?_) | refine guardK_dec (fun h => ?_) (fun h => ?_) | refine guardD3_dec (fun h => ?_) (fun h => ?_)) <;> first | (exfalso; omega) | (simp (maxSteps := 2000000) (disch := first | omega | assumption | exact idP rfl | exact idP (bL rfl)) only [go_sem, reduceIte, Nat.reduceEqDiff, wpV_kd, wpV_tH, h]) | skip) | ((with_reducible first | refine cond_split (fun h => ?_) (fun h => ?_) | refine guardK_split (fun h => ?_) (fun h => ?_) | refine guardD3_split (fun h => ?_) (fun h => ?_)) <;> ((try simp only [Bool.not_eq_true', Bool.not_eq_false'] at h); first | (simp (maxSteps := 2000000) (disch := first | omega | assumption | exact idP rfl | exact idP (bL rfl)) only [go_sem, reduceIte, Nat.reduceEqDiff, wpV_kd, wpV_tH, h]) | skip)) | (with_reducible intro bk hbk; try have hnk := (fresh_set hbk).1) | (simp (maxSteps := 2000000) (disch := first | omega | assumption | exact idP rfl | exact idP (bL rfl)) only [go_sem, reduceIte, Nat.reduceEqDiff, wpV_kd, wpV_tH])))
        · exact hR _ _ (sB) ⟨_, rfl, by omega, by omega⟩
        · refine hK _ _ ⟨rfl, i + 1, k2, by omega, sT1 @e0, sT0, by refine sS1 @e5 ?_; rfl, by omega, by omega, fun j hj1 hj2 => ?_⟩ (by refine sS2 @ctrV_int @e5 ?_; omega)
          by_cases hji : j = i
          · subst hji; exact q2 (by omega)
          · exact hj j hj1 (by omega)
      · obtain rfl : i = xs.length := by omega
        refine sS1 @e1 ?_
        refine hR _ _ (sB) ⟨_, rfl, by omega, fun _ => ⟨by omega, fun ts hts => ?_⟩⟩
        obtain ⟨j, hj1, rfl⟩ := List.getElem_of_mem hts
        exact hj j hj1 (by omega)
theorem x_szRule {cs : List V} {r : RuleS} {t : Int} (hv : isRuleX r cs) (h0 : RuleLen r) (h1 : 0 ≤ t) (h2 : t ≤ 1048576) :
    VCall Try.prog n_laws_szRule [.agg cs, .sc (.int .i64 t)] M (fun r' M' => M = M' ∧ ∃ k : Int, r' = .sc (.int .i64 k) ∧ k ≤ t ∧ (0 ≤ k → RuleFit r)) := by
  refine VCall.pure fun R hR => v_laws_szRule rfl ?_
  obtain ⟨a, b, c, rfl, ha, hb, hc⟩ := hv
  obtain ⟨l1, l2, l3, l4⟩ := h0
  (repeat' (first | ((with_reducible first | refine cond_dec (fun h => ?_) (fun h => ?_) | refine guardK_dec (fun h => ?_) (fun h => ?_) | refine guardD3_dec (fun h => ?_) (fun h => ?_)) <;> first | (exfalso; omega) | (simp (maxSteps := 2000000) (disch := first | omega | assumption | exact idP rfl | exact idP (bL rfl)) only [go_sem, reduceIte, Nat.reduceEqDiff, wpV_kd, wpV_tH, h]) | skip) | ((with_reducible first | refine cond_split (fun h => ?_) (fun h => ?_) | refine guardK_split (fun h => ?_) (fun h => ?_) | refine guardD3_split (fun h => ?_) (fun h => ?_)) <;> ((try simp only [Bool.not_eq_true', Bool.not_eq_false'] at h); first | (simp (maxSteps := 2000000) (disch := first | omega | assumption | exact idP rfl | exact idP (bL rfl)) only [go_sem, reduceIte, Nat.reduceEqDiff, wpV_kd, wpV_tH, h]) | skip)) | (with_reducible intro bk hbk; try have hnk := (fresh_set hbk).1) | (simp (maxSteps := 2000000) (disch := first | omega | assumption | exact idP rfl | exact idP (bL rfl)) only [go_sem, reduceIte, Nat.reduceEqDiff, wpV_kd, wpV_tH])))
  refine (x_szTermS ha l1 h1 h2).mono ?_
  rintro _ _ ⟨rfl, k1, rfl, p1, p2⟩
  (repeat' (first | ((with_reducible first | refine cond_dec (fun h => ?_) (fun h => ?_) | refine guardK_dec (fun h => ?_) (fun h => ?_) | refine guardD3_dec (fun h => ?_) (fun h => ?_)) <;> first | (exfalso; omega) | (simp (maxSteps := 2000000) (disch := first | omega | assumption | exact idP rfl | exact idP (bL rfl)) only [go_sem, reduceIte, Nat.reduceEqDiff, wpV_kd, wpV_tH, h]) | skip) | ((with_reducible first | refine cond_split (fun h => ?_) (fun h => ?_) | refine guardK_split (fun h => ?_) (fun h => ?_) | refine guardD3_split (fun h => ?_) (fun h => ?_)) <;> ((try simp only [Bool.not_eq_true', Bool.not_eq_false'] at h); first | (simp (maxSteps := 2000000) (disch := first | omega | assumption | exact idP rfl | exact idP (bL rfl)) only [go_sem, reduceIte, Nat.reduceEqDiff, wpV_kd, wpV_tH, h]) | skip)) | (with_reducible intro bk hbk; try have hnk := (fresh_set hbk).1) | (simp (maxSteps := 2000000) (disch := first | omega | assumption | exact idP rfl | exact idP (bL rfl)) only [go_sem, reduceIte, Nat.reduceEqDiff, wpV_kd, wpV_tH])))
  · exact hR _ _ (sB) ⟨_, rfl, by omega, by omega⟩
  · refine (x_szIntS hb l2 (by omega) (by omega)).mono ?_
    rintro _ _ ⟨rfl, k2, rfl, q1, q2⟩
    (repeat' (first | ((with_reducible first | refine cond_dec (fun h => ?_) (fun h => ?_) | refine guardK_dec (fun h => ?_) (fun h => ?_) | refine guardD3_dec (fun h => ?_) (fun h => ?_)) <;> first | (exfalso; omega) | (simp (maxSteps := 2000000) (disch := first | omega | assumption | exact idP rfl | exact idP (bL rfl)) only [go_sem, reduceIte, Nat.reduceEqDiff, wpV_kd, wpV_tH, h]) | skip) | ((with_reducible first | refine cond_split (fun h => ?_) (fun h => ?_) | refine guardK_split (fun h => ?_) (fun h => ?_) | refine guardD3_split (fun h => ?_) (fun h => ?_)) <;> ((try simp only [Bool.not_eq_true', Bool.not_eq_false'] at h); first | (simp (maxSteps := 2000000) (disch := first | omega | assumption | exact idP rfl | exact idP (bL rfl)) only [go_sem, reduceIte, Nat.reduceEqDiff, wpV_kd, wpV_tH, h]) | skip)) | (with_reducible intro bk hbk; try have hnk := (fresh_set hbk).1) | (simp (maxSteps := 2000000) (disch := first | omega | assumption | exact idP rfl | exact idP (bL rfl)) only [go_sem, reduceIte, Nat.reduceEqDiff, wpV_kd, wpV_tH])))
    · exact hR _ _ (sB) ⟨_, rfl, by omega, by omega⟩
    · refine (x_szTermSS hc l3 l4 (by omega) (by omega)).mono ?_
      rintro _ _ ⟨rfl, k3, rfl, w1, w2⟩
      (repeat' (first | ((with_reducible first | refine cond_dec (fun h => ?_) (fun h => ?_) | refine guardK_dec (fun h => ?_) (fun h => ?_) | refine guardD3_dec (fun h => ?_) (fun h => ?_)) <;> first | (exfalso; omega) | (simp (maxSteps := 2000000) (disch := first | omega | assumption | exact idP rfl | exact idP (bL rfl)) only [go_sem, reduceIte, Nat.reduceEqDiff, wpV_kd, wpV_tH, h]) | skip) | ((with_reducible first | refine cond_split (fun h => ?_) (fun h => ?_) | refine guardK_split (fun h => ?_) (fun h => ?_) | refine guardD3_split (fun h => ?_) (fun h => ?_)) <;> ((try simp only [Bool.not_eq_true', Bool.not_eq_false'] at h); first | (simp (maxSteps := 2000000) (disch := first | omega | assumption | exact idP rfl | exact idP (bL rfl)) only [go_sem, reduceIte, Nat.reduceEqDiff, wpV_kd, wpV_tH, h]) | skip)) | (with_reducible intro bk hbk; try have hnk := (fresh_set hbk).1) | (simp (maxSteps := 2000000) (disch := first | omega | assumption | exact idP rfl | exact idP (bL rfl)) only [go_sem, reduceIte, Nat.reduceEqDiff, wpV_kd, wpV_tH])))
      · exact hR _ _ (sB) ⟨_, rfl, by omega, by omega⟩
      · exact hR _ _ (sB) ⟨_, rfl, by omega, fun h => ⟨p2 (by omega), q2 (by omega), (w2 h).1, (w2 h).2⟩⟩
theorem x_szRuleS {v : V} {xs : List RuleS} {t : Int} (hv : XR v xs) (h0 : LenOk xs) (hx : ∀ r ∈ xs, RuleLen r) (h1 : 0 ≤ t) (h2 : t ≤ 1048576) :
    VCall Try.prog n_laws_szRuleS [v, .sc (.int .i64 t)] M (fun r M' => M = M' ∧ ∃ k : Int, r = .sc (.int .i64 k) ∧ k ≤ t ∧ (0 ≤ k → xs.length ≤ 1048576 ∧ ∀ r ∈ xs, RuleFit r)) := by
  refine VCall.pure fun R hR => v_laws_szRuleS rfl ?_
  unfold LenOk at h0
  have hl := hv.len fun _ _ h => h.len
  (repeat' (first | ((with_reducible first | refine cond_dec (fun h => ?_) (fun h => ?_) | refine guardK_dec (fun h => ?_) (fun h => ?_) | refine guardD3_dec (fun h => ?_) (fun h => ?_)) <;> first | (exfalso; omega) | (simp (maxSteps := 2000000) (disch := first | omega | assumption | exact idP rfl | exact idP (bL rfl)) only [go_sem, reduceIte, Nat.reduceEqDiff, wpV_kd, wpV_tH, h, hl]) | skip) | ((with_reducible first | refine cond_split (fun h => ?_) (fun h => ?_) | refine guardK_split (fun h => ?_) (fun h => ?_) | refine guardD3_split (fun h => ?_) (fun h => ?_)) <;> ((try simp only [Bool.not_eq_true', Bool.not_eq_false'] at h); first | (simp (maxSteps := 2000000) (disch := first | omega | assumption | exact idP rfl | exact idP (bL rfl)) only [go_sem, reduceIte, Nat.reduceEqDiff, wpV_kd, wpV_tH, h, hl]) | skip)) | (with_reducible intro bk hbk; try have hnk := (fresh_set hbk).1) | (simp (maxSteps := 2000000) (disch := first | omega | assumption | exact idP rfl | exact idP (bL rfl)) only [go_sem, reduceIte, Nat.reduceEqDiff, wpV_kd, wpV_tH, hl])))
  · exact hR _ _ (sB) ⟨_, rfl, by omega, by omega⟩
  · refine loop_k (fun e M' => M' = M ∧ ∃ (i : Nat) (k : Int), i ≤ xs.length ∧ e 0 = v ∧ e 1 = .sc (.int .i64 k) ∧ e 5 = .sc (.int .i64 i) ∧ 0 ≤ k ∧ k ≤ t ∧ ∀ j (hj : j < xs.length), j < i → RuleFit xs[j]) (fun e _ => ctrV xs.length (e 5)) ?_ ?_
    · exact ⟨rfl, 0, t - xs.length, by omega, sT0, sT0, by refine sS0 ?_; rfl, by omega, by omega, fun j _ h => by omega⟩
    · rintro e _ ⟨rfl, i, k, hi, e0, e1, e5, k0, k1, hj⟩ K hK
      refine sS4 @e0 @e1 @e5 @hl ?_
      refine cond_dec (fun h => ?_) (fun h => ?_)
      · have hi' : i < xs.length := by omega
        have hv' := hv.get (by omega)
        have hcs := hv'.elt hi'
        have hrule := hcs
        obtain ⟨c1, c2, c3, hat, _, _, _⟩ := hcs
        rw [hat] at hrule
        refine sS5 @e0 @e1 @e5 @hv'.iaddr @hat ?_
        refine (x_szRule hrule (hx _ (List.getElem_mem hi')) k0 (by omega)).mono ?_
        rintro _ _ ⟨rfl, k2, rfl, q1, q2⟩
        (repeat' (first | ((with_reducible first | refine cond_dec (fun h => ?_) (fun h => ?_) | refine guardK_dec (fun h => ?_) (fun h => ?_) | refine guardD3_dec (fun h => ?_) (fun h => ?_)) <;> first | (exfalso; omega) | (simp (maxSteps := 2000000) (disch := first | omega | assumption | exact idP rfl | exact idP (bL rfl)) only [go_sem, reduceIte, Nat.reduceEqDiff, wpV_kd, wpV_tH, h]) | skip) | ((with_reducible first | refine cond_split (fun h => ?_) (fun h => ?_) | refine guardK_split (fun h => ?_) (fun h => ?_) | refine guardD3_split (fun h => ?_) (fun h => ?_)) <;> ((try simp only [Bool.not_eq_true', Bool.not_eq_false'] at h); first | (simp (maxSteps := 2000000) (disch := first | omega | assumption | exact idP rfl | exact idP (bL rfl)) only [go_sem, reduceIte, Nat.reduceEqDiff, wpV_kd, wpV_tH, h]) | skip)) | (with_reducible intro bk hbk; try have hnk := (fresh_set hbk).1) | (simp (maxSteps := 2000000) (disch := first | omega | assumption | exact idP rfl | exact idP (bL rfl)) only [go_sem, reduceIte, Nat.reduceEqDiff, wpV_kd, wpV_tH])))
        · exact hR _ _ (sB) ⟨_, rfl, by omega, by omega⟩
        · refine hK _ _ ⟨rfl, i + 1, k2, by omega, sT1 @e0, sT0, by refine sS1 @e5 ?_; rfl, by omega, by omega, fun j hj1 hj2 => ?_⟩ (by refine sS2 @ctrV_int @e5 ?_; omega)
          by_cases hji : j = i
          · subst hji; exact q2 (by omega)
          · exact hj j hj1 (by omega)
      · obtain rfl : i = xs.length := by omega
        refine sS1 @e1 ?_
        refine hR _ _ (sB) ⟨_, rfl, by omega, fun _ => ⟨by omega, fun ts hts => ?_⟩⟩
        obtain ⟨j, hj1, rfl⟩ := List.getElem_of_mem hts
        exact hj j hj1 (by omega)
theorem x_szSystem {v : V} {s : SysS} {t : Int} (hv : isSysX s v) (h0 : SysLen s) (h1 : 0 ≤ t) (h2 : t ≤ 1048576) :
    VCall Try.prog n_laws_szSystem [v, .sc (.int .i64 t)] M (fun r M' => M = M' ∧ ∃ k : Int, r = .sc (.int .i64 k) ∧ k ≤ t ∧ (0 ≤ k → SysFit s)) := by
  refine VCall.pure fun R hR => v_laws_szSystem rfl ?_
  obtain ⟨a, b, rfl, ha, hb⟩ := hv
  obtain ⟨l1, l2, l3⟩ := h0
  (repeat' (first | ((with_reducible first | refine cond_dec (fun h => ?_) (fun h => ?_) | refine guardK_dec (fun h => ?_) (fun h => ?_) | refine guardD3_dec (fun h => ?_) (fun h => ?_)) <;> first | (exfalso; omega) | (simp (maxSteps := 2000000) (disch := first | omega | assumption | exact idP rfl | exact idP (bL rfl)) only [go_sem, reduceIte, Nat.reduceEqDiff, wpV_kd, wpV_tH, h]) | skip) | ((with_reducible first | refine cond_split (fun h => ?_) (fun h => ?_) | refine guardK_split (fun h => ?_) (fun h => ?_) | refine guardD3_split (fun h => ?_) (fun h => ?_)) <;> ((try simp only [Bool.not_eq_true', Bool.not_eq_false'] at h); first | (simp (maxSteps := 2000000) (disch := first | omega | assumption | exact idP rfl | exact idP (bL rfl)) only [go_sem, reduceIte, Nat.reduceEqDiff, wpV_kd, wpV_tH, h]) | skip)) | (with_reducible intro bk hbk; try have hnk := (fresh_set hbk).1) | (simp (maxSteps := 2000000) (disch := first | omega | assumption | exact idP rfl | exact idP (bL rfl)) only [go_sem, reduceIte, Nat.reduceEqDiff, wpV_kd, wpV_tH])))
  refine (x_szVarS ha l1 h1 h2).mono ?_
  rintro _ _ ⟨rfl, k1, rfl, p1, p2⟩
  (repeat' (first | ((with_reducible first | refine cond_dec (fun h => ?_) (fun h => ?_) | refine guardK_dec (fun h => ?_) (fun h => ?_) | refine guardD3_dec (fun h => ?_) (fun h => ?_)) <;> first | (exfalso; omega) | (simp (maxSteps := 2000000) (disch := first | omega | assumption | exact idP rfl | exact idP (bL rfl)) only [go_sem, reduceIte, Nat.reduceEqDiff, wpV_kd, wpV_tH, h]) | skip) | ((with_reducible first | refine cond_split (fun h => ?_) (fun h => ?_) | refine guardK_split (fun h => ?_) (fun h => ?_) | refine guardD3_split (fun h => ?_) (fun h => ?_)) <;> ((try simp only [Bool.not_eq_true', Bool.not_eq_false'] at h); first | (simp (maxSteps := 2000000) (disch := first | omega | assumption | exact idP rfl | exact idP (bL rfl)) only [go_sem, reduceIte, Nat.reduceEqDiff, wpV_kd, wpV_tH, h]) | skip)) | (with_reducible intro bk hbk; try have hnk := (fresh_set hbk).1) | (simp (maxSteps := 2000000) (disch := first | omega | assumption | exact idP rfl | exact idP (bL rfl)) only [go_sem, reduceIte, Nat.reduceEqDiff, wpV_kd, wpV_tH])))
  · exact hR _ _ (sB) ⟨_, rfl, by omega, by omega⟩
  · refine (x_szRuleS hb l2 l3 (by omega) (by omega)).mono ?_
    rintro _ _ ⟨rfl, k2, rfl, q1, q2⟩
    (repeat' (first | ((with_reducible first | refine cond_dec (fun h => ?_) (fun h => ?_) | refine guardK_dec (fun h => ?_) (fun h => ?_) | refine guardD3_dec (fun h => ?_) (fun h => ?_)) <;> first | (exfalso; omega) | (simp (maxSteps := 2000000) (disch := first | omega | assumption | exact idP rfl | exact idP (bL rfl)) only [go_sem, reduceIte, Nat.reduceEqDiff, wpV_kd, wpV_tH, h]) | skip) | ((with_reducible first | refine cond_split (fun h => ?_) (fun h => ?_) | refine guardK_split (fun h => ?_) (fun h => ?_) | refine guardD3_split (fun h => ?_) (fun h => ?_)) <;> ((try simp only [Bool.not_eq_true', Bool.not_eq_false'] at h); first | (simp (maxSteps := 2000000) (disch := first | omega | assumption | exact idP rfl | exact idP (bL rfl)) only [go_sem, reduceIte, Nat.reduceEqDiff, wpV_kd, wpV_tH, h]) | skip)) | (with_reducible intro bk hbk; try have hnk := (fresh_set hbk).1) | (simp (maxSteps := 2000000) (disch := first | omega | assumption | exact idP rfl | exact idP (bL rfl)) only [go_sem, reduceIte, Nat.reduceEqDiff, wpV_kd, wpV_tH])))
    · exact hR _ _ (sB) ⟨_, rfl, by omega, by omega⟩
    · exact hR _ _ (sB) ⟨_, rfl, by omega, fun h => ⟨p2 (by omega), (q2 h).1, (q2 h).2⟩⟩
end Go.M2

namespace Go.M2
open Go.Proofs
variable {M : MH}
theorem x_toIntS {v : V} {xs : List Int} (hv : XI v xs) (hl : xs.length ≤ 1048576) : VCall Try.prog n_laws_toIntS [v] M (fun r M' => Gr 1 M M' r (xs.map vi)) := by
  refine VCall.plain fun R hR => v_laws_toIntS rfl ?_
  have hlen := hv.len fun _ _ h => h.len
  refine sS1 @hlen ?_
  refine mks3 (by omega) (by simp [mostCells]; omega) (by simp [mostCells]; omega) ?_
  intro b3 hb3
  simp (maxSteps := 2000000) (disch := first | omega | assumption | exact idP rfl | exact idP (bL rfl)) only [go_sem, reduceIte, Nat.reduceEqDiff, wpV_kd, wpV_tH, zeros_vi]
  refine loop_k (fun e M' => ∃ i : Nat, i ≤ xs.length ∧ e 0 = v ∧ e 3 = .sc (.sl (some (b3, 0)) xs.length xs.length true 1) ∧ e 4 = .sc (.int .i64 i) ∧ Sub M M' ∧ M' b3 = .some ((xs.take i ++ List.replicate (xs.length - i) 0).map vi)) (fun e _ => ctrV xs.length (e 4)) ?_ ?_
  · exact ⟨0, by omega, sT0, sT0, by refine sS0 ?_; rfl, (Sub.refl _).set hb3, by refine sS0 ?_; simp⟩
  · rintro e M1 ⟨i, hi, e0, e3, e4, hsub, hm⟩ K hK
    refine sS4 @e0 @e3 @e4 @hlen ?_
    refine cond_dec (fun h => ?_) (fun h => ?_)
    · have hi' : i < xs.length := by omega
      have hv' := hv.get (by omega)
      have hso : i < ((xs.take i ++ List.replicate (xs.length - i) 0).map vi).length := by rw [len_vi]; simp; omega
      simp (maxSteps := 2000000) (disch := first | omega | assumption | exact idP rfl | exact idP (bL rfl)) only [go_sem, reduceIte, Nat.reduceEqDiff, wpV_kd, wpV_tH, e0, e3, e4, hv'.iaddr, hv'.at hi', hm]
      refine hK _ _ ⟨i + 1, by omega, sT0, sT0, by refine sS0 ?_; rfl, hsub.set hb3, ?_⟩ (by refine sS2 @ctrV_int @e4 ?_; omega)
      refine sS0 ?_
      rw [set_vi, show xs.length - i = (xs.length - (i + 1)) + 1 by omega, List.replicate_succ, take_snoc hi', List.set_append_right _ _ (by simp; omega)]
      have : i - (xs.take i).length = 0 := by simp; omega
      rw [this]
      simp only [List.set_cons_zero, List.append_assoc, List.singleton_append]
    · obtain rfl : i = xs.length := by omega
      simp only [List.take_length, Nat.sub_self, List.replicate_zero, List.append_nil] at hm
      refine sS1 @e3 ?_
      exact hR _ _ ⟨hsub, fun b' h' => by simp [blkV] at h'; subst h'; exact hb3, .inr ⟨b3, _, true, rfl, hm, by rw [len_vi]; omega⟩⟩
theorem f_toIntS {v : V} {xs : List Int} (hv : XI v xs) (hl : xs.length ≤ 1048576) : VCall Try.prog n_laws_toIntS [v] M (fun r M' => M = M' ∧ LI r xs) :=
  (VCall.fr1 (x_toIntS hv hl)).mono fun r M' ⟨h1, h2⟩ => ⟨h1, h2.li⟩
theorem x_toVar {x : VarS} : VCall Try.prog n_laws_toVar [.agg (encVar x)] M (fun r M' => M = M' ∧ r = .agg (encVar x)) := by
  refine VCall.pure fun R hR => v_laws_toVar rfl ?_
  simp (maxSteps := 2000000) (disch := first | omega | assumption | exact idP rfl | exact idP (bL rfl)) only [go_sem, reduceIte, Nat.reduceEqDiff, wpV_kd, wpV_tH, encVar]
  intro b1 hb1
  try simp (maxSteps := 2000000) (disch := first | omega | assumption | exact idP rfl | exact idP (bL rfl)) only [go_sem, reduceIte, Nat.reduceEqDiff, wpV_kd, wpV_tH]
  intro b2 hb2
  try simp (maxSteps := 2000000) (disch := first | omega | assumption | exact idP rfl | exact idP (bL rfl)) only [go_sem, reduceIte, Nat.reduceEqDiff, wpV_kd, wpV_tH]
  intro b3 hb3
  have n21 := (fresh_set hb2).1
  have n32 := (fresh_set hb3).1
  have n31 := (fresh_set (fresh_set hb3).2).1
  refine sS0 ?_
  exact hR _ _ (Sub.set (sB) (fresh_set hb2).2) rfl
theorem x_toTerm {x : TermS} : VCall Try.prog n_laws_toTerm [.agg (encT x)] M (fun r M' => M = M' ∧ r = .agg (encT x)) := by
  refine VCall.pure fun R hR => v_laws_toTerm rfl ?_
  simp (maxSteps := 2000000) (disch := first | omega | assumption | exact idP rfl | exact idP (bL rfl)) only [go_sem, reduceIte, Nat.reduceEqDiff, wpV_kd, wpV_tH, encT]
  intro b1 hb1
  try simp (maxSteps := 2000000) (disch := first | omega | assumption | exact idP rfl | exact idP (bL rfl)) only [go_sem, reduceIte, Nat.reduceEqDiff, wpV_kd, wpV_tH]
  intro b2 hb2
  try simp (maxSteps := 2000000) (disch := first | omega | assumption | exact idP rfl | exact idP (bL rfl)) only [go_sem, reduceIte, Nat.reduceEqDiff, wpV_kd, wpV_tH]
  intro b3 hb3
  have n21 := (fresh_set hb2).1
  have n32 := (fresh_set hb3).1
  have n31 := (fresh_set (fresh_set hb3).2).1
  refine sS0 ?_
  exact hR _ _ (Sub.set (sB) (fresh_set hb2).2) rfl
theorem x_eqIntS {v w : V} {xs ys : List Int} (hv : LI v xs) (hw : LI w ys) (hl : xs.length ≤ 1048576) : VCall Try.prog n_laws_eqIntS [v, w] M (fun r M' => M = M' ∧ r = .sc (.bool (decide (xs = ys)))) := by
  refine VCall.pure fun R hR => v_laws_eqIntS rfl ?_
  (repeat' (first | ((with_reducible first | refine cond_dec (fun h => ?_) (fun h => ?_) | refine guardK_dec (fun h => ?_) (fun h => ?_) | refine guardD3_dec (fun h => ?_) (fun h => ?_)) <;> first | (exfalso; omega) | (simp (maxSteps := 2000000) (disch := first | omega | assumption | exact idP rfl | exact idP (bL rfl)) only [go_sem, reduceIte, Nat.reduceEqDiff, wpV_kd, wpV_tH, h, hv.len, hw.len]) | skip) | ((with_reducible first | refine cond_split (fun h => ?_) (fun h => ?_) | refine guardK_split (fun h => ?_) (fun h => ?_) | refine guardD3_split (fun h => ?_) (fun h => ?_)) <;> ((try simp only [Bool.not_eq_true', Bool.not_eq_false'] at h); first | (simp (maxSteps := 2000000) (disch := first | omega | assumption | exact idP rfl | exact idP (bL rfl)) only [go_sem, reduceIte, Nat.reduceEqDiff, wpV_kd, wpV_tH, h, hv.len, hw.len]) | skip)) | (with_reducible intro bk hbk; try have hnk := (fresh_set hbk).1) | (simp (maxSteps := 2000000) (disch := first | omega | assumption | exact idP rfl | exact idP (bL rfl)) only [go_sem, reduceIte, Nat.reduceEqDiff, wpV_kd, wpV_tH, hv.len, hw.len])))
  · refine hR _ _ (sB) ?_
    have : ¬ xs = ys := fun e => by subst e; omega
    simp [this]
  · have hlen : xs.length = ys.length := by omega
    refine loop_k (fun e M' => M' = M ∧ ∃ i : Nat, i ≤ xs.length ∧ e 0 = v ∧ e 1 = w ∧ e 5 = .sc (.int .i64 i) ∧ xs.take i = ys.take i) (fun e _ => ctrV xs.length (e 5)) ?_ ?_
    · exact ⟨rfl, 0, by omega, sT0, sT0, by refine sS0 ?_; rfl, rfl⟩
    · rintro e _ ⟨rfl, i, hi, e0, e1, e5, ht⟩ K hK
      refine sS4 @e0 @e1 @e5 @hv.len ?_
      refine cond_dec (fun h => ?_) (fun h => ?_)
      · have hi1 : i < xs.length := by omega
        have hi2 : i < ys.length := by omega
        simp (maxSteps := 2000000) (disch := first | omega | assumption | exact idP rfl | exact idP (bL rfl)) only [go_sem, reduceIte, Nat.reduceEqDiff, wpV_kd, wpV_tH, e0, e1, e5, hv.iaddr, hw.iaddr, hv.at hi1, hw.at hi2]
        refine cond_dec (fun h2 => ?_) (fun h2 => ?_)
        · refine sS0 ?_
          refine hR _ _ (sB) ?_
          have : ¬ xs = ys := fun e => by subst e; exact h2 rfl
          simp [this]
        · refine sS3 @e0 @e1 @e5 ?_
          exact hK _ _ ⟨rfl, i + 1, by omega, sT0, sT0, by refine sS0 ?_; rfl, by rw [take_snoc hi1, take_snoc hi2, ht, Decidable.not_not.1 h2]⟩ (by refine sS2 @ctrV_int @e5 ?_; omega)
      · obtain rfl : i = xs.length := by omega
        refine sS0 ?_
        refine hR _ _ (sB) ?_
        rw [List.take_length, hlen, List.take_length] at ht
        simp [ht]
end Go.M2

namespace Go.M2
open Go.Proofs
variable {M : MH}
theorem x_eqVar {x : VarS} : VCall Try.prog n_laws_eqVar [.agg (encVar x), .agg (encVar x)] M (fun r M' => M = M' ∧ r = .sc (.bool true)) := by
  refine VCall.pure fun R hR => v_laws_eqVar rfl ?_
  (repeat' (first | ((with_reducible first | refine cond_dec (fun h => ?_) (fun h => ?_) | refine guardK_dec (fun h => ?_) (fun h => ?_) | refine guardD3_dec (fun h => ?_) (fun h => ?_)) <;> first | (exfalso; omega) | (simp (maxSteps := 2000000) (disch := first | omega | assumption | exact idP rfl | exact idP (bL rfl)) only [go_sem, reduceIte, Nat.reduceEqDiff, wpV_kd, wpV_tH, h, encVar]) | skip) | ((with_reducible first | refine cond_split (fun h => ?_) (fun h => ?_) | refine guardK_split (fun h => ?_) (fun h => ?_) | refine guardD3_split (fun h => ?_) (fun h => ?_)) <;> ((try simp only [Bool.not_eq_true', Bool.not_eq_false'] at h); first | (simp (maxSteps := 2000000) (disch := first | omega | assumption | exact idP rfl | exact idP (bL rfl)) only [go_sem, reduceIte, Nat.reduceEqDiff, wpV_kd, wpV_tH, h, encVar]) | skip)) | (with_reducible intro bk hbk; try have hnk := (fresh_set hbk).1) | (simp (maxSteps := 2000000) (disch := first | omega | assumption | exact idP rfl | exact idP (bL rfl)) only [go_sem, reduceIte, Nat.reduceEqDiff, wpV_kd, wpV_tH, encVar])))
  all_goals exact hR _ _ (sB) rfl
theorem x_eqTerm {x : TermS} : VCall Try.prog n_laws_eqTerm [.agg (encT x), .agg (encT x)] M (fun r M' => M = M' ∧ r = .sc (.bool true)) := by
  refine VCall.pure fun R hR => v_laws_eqTerm rfl ?_
  (repeat' (first | ((with_reducible first | refine cond_dec (fun h => ?_) (fun h => ?_) | refine guardK_dec (fun h => ?_) (fun h => ?_) | refine guardD3_dec (fun h => ?_) (fun h => ?_)) <;> first | (exfalso; omega) | (simp (maxSteps := 2000000) (disch := first | omega | assumption | exact idP rfl | exact idP (bL rfl)) only [go_sem, reduceIte, Nat.reduceEqDiff, wpV_kd, wpV_tH, h, encT]) | skip) | ((with_reducible first | refine cond_split (fun h => ?_) (fun h => ?_) | refine guardK_split (fun h => ?_) (fun h => ?_) | refine guardD3_split (fun h => ?_) (fun h => ?_)) <;> ((try simp only [Bool.not_eq_true', Bool.not_eq_false'] at h); first | (simp (maxSteps := 2000000) (disch := first | omega | assumption | exact idP rfl | exact idP (bL rfl)) only [go_sem, reduceIte, Nat.reduceEqDiff, wpV_kd, wpV_tH, h, encT]) | skip)) | (with_reducible intro bk hbk; try have hnk := (fresh_set hbk).1) | (simp (maxSteps := 2000000) (disch := first | omega | assumption | exact idP rfl | exact idP (bL rfl)) only [go_sem, reduceIte, Nat.reduceEqDiff, wpV_kd, wpV_tH, encT])))
  all_goals exact hR _ _ (sB) rfl
theorem x_eqVarS {v w : V} {xs : List VarS} (hv : LVar v xs) (hw : LVar w xs) (hl : xs.length ≤ 1048576) : VCall Try.prog n_laws_eqVarS [v, w] M (fun r M' => M = M' ∧ r = .sc (.bool true)) := by
  refine VCall.pure fun R hR => v_laws_eqVarS rfl ?_
  (repeat' (first | ((with_reducible first | refine cond_dec (fun h => ?_) (fun h => ?_) | refine guardK_dec (fun h => ?_) (fun h => ?_) | refine guardD3_dec (fun h => ?_) (fun h => ?_)) <;> first | (exfalso; omega) | (simp (maxSteps := 2000000) (disch := first | omega | assumption | exact idP rfl | exact idP (bL rfl)) only [go_sem, reduceIte, Nat.reduceEqDiff, wpV_kd, wpV_tH, h, hv.len, hw.len]) | skip) | ((with_reducible first | refine cond_split (fun h => ?_) (fun h => ?_) | refine guardK_split (fun h => ?_) (fun h => ?_) | refine guardD3_split (fun h => ?_) (fun h => ?_)) <;> ((try simp only [Bool.not_eq_true', Bool.not_eq_false'] at h); first | (simp (maxSteps := 2000000) (disch := first | omega | assumption | exact idP rfl | exact idP (bL rfl)) only [go_sem, reduceIte, Nat.reduceEqDiff, wpV_kd, wpV_tH, h, hv.len, hw.len]) | skip)) | (with_reducible intro bk hbk; try have hnk := (fresh_set hbk).1) | (simp (maxSteps := 2000000) (disch := first | omega | assumption | exact idP rfl | exact idP (bL rfl)) only [go_sem, reduceIte, Nat.reduceEqDiff, wpV_kd, wpV_tH, hv.len, hw.len])))
  refine loop_k (fun e M' => M' = M ∧ ∃ i : Nat, i ≤ xs.length ∧ e 0 = v ∧ e 1 = w ∧ e 5 = .sc (.int .i64 i)) (fun e _ => ctrV xs.length (e 5)) ?_ ?_
  · exact ⟨rfl, 0, by omega, sT0, sT0, by refine sS0 ?_; rfl⟩
  · rintro e _ ⟨rfl, i, hi, e0, e1, e5⟩ K hK
    refine sS4 @e0 @e1 @e5 @hv.len ?_
    refine cond_dec (fun h => ?_) (fun h => ?_)
    · have hi1 : i < xs.length := by omega
      have a1 : atN 3 v i = encVar xs[i] := hv.elt hi1
      have a2 : atN 3 w i = encVar xs[i] := hw.elt hi1
      refine sS7 @e0 @e1 @e5 @hv.iaddr @hw.iaddr @a1 @a2 ?_
      refine x_eqVar.mono ?_
      rintro _ _ ⟨rfl, rfl⟩
      refine sS3 @e0 @e1 @e5 ?_
      exact hK _ _ ⟨rfl, i + 1, by omega, sT0, sT0, by refine sS0 ?_; rfl⟩ (by refine sS2 @ctrV_int @e5 ?_; omega)
    · refine sS0 ?_
      exact hR _ _ (sB) rfl
theorem x_eqTermS {v w : V} {xs : List TermS} (hv : LT v xs) (hw : LT w xs) (hl : xs.length ≤ 1048576) : VCall Try.prog n_laws_eqTermS [v, w] M (fun r M' => M = M' ∧ r = .sc (.bool true)) := by
  refine VCall.pure fun R hR => v_laws_eqTermS rfl ?_
  (repeat' (first | ((with_reducible first | refine cond_dec (fun h => ?_) (fun h => ?_) | refine guardK_dec (fun h => ?_) (fun h => ?_) | refine guardD3_dec (fun h => ?_) (fun h => ?_)) <;> first | (exfalso; omega) | (simp (maxSteps := 2000000) (disch := first | omega | assumption | exact idP rfl | exact idP (bL rfl)) only [go_sem, reduceIte, Nat.reduceEqDiff, wpV_kd, wpV_tH, h, hv.len, hw.len]) | skip) | ((with_reducible first | refine cond_split (fun h => ?_) (fun h => ?_) | refine guardK_split (fun h => ?_) (fun h => ?_) | refine guardD3_split (fun h => ?_) (fun h => ?_)) <;> ((try simp only [Bool.not_eq_true', Bool.not_eq_false'] at h); first | (simp (maxSteps := 2000000) (disch := first | omega | assumption | exact idP rfl | exact idP (bL rfl)) only [go_sem, reduceIte, Nat.reduceEqDiff, wpV_kd, wpV_tH, h, hv.len, hw.len]) | skip)) | (with_reducible intro bk hbk; try have hnk := (fresh_set hbk).1) | (simp (maxSteps := 2000000) (disch := first | omega | assumption | exact idP rfl | exact idP (bL rfl)) only [go_sem, reduceIte, Nat.reduceEqDiff, wpV_kd, wpV_tH, hv.len, hw.len])))
  refine loop_k (fun e M' => M' = M ∧ ∃ i : Nat, i ≤ xs.length ∧ e 0 = v ∧ e 1 = w ∧ e 5 = .sc (.int .i64 i)) (fun e _ => ctrV xs.length (e 5)) ?_ ?_
  · exact ⟨rfl, 0, by omega, sT0, sT0, by refine sS0 ?_; rfl⟩
  · rintro e _ ⟨rfl, i, hi, e0, e1, e5⟩ K hK
    refine sS4 @e0 @e1 @e5 @hv.len ?_
    refine cond_dec (fun h => ?_) (fun h => ?_)
    · have hi1 : i < xs.length := by omega
      have a1 : atN 4 v i = encT xs[i] := hv.elt hi1
      have a2 : atN 4 w i = encT xs[i] := hw.elt hi1
      refine sS7 @e0 @e1 @e5 @hv.iaddr @hw.iaddr @a1 @a2 ?_
      refine x_eqTerm.mono ?_
      rintro _ _ ⟨rfl, rfl⟩
      refine sS3 @e0 @e1 @e5 ?_
      exact hK _ _ ⟨rfl, i + 1, by omega, sT0, sT0, by refine sS0 ?_; rfl⟩ (by refine sS2 @ctrV_int @e5 ?_; omega)
    · refine sS0 ?_
      exact hR _ _ (sB) rfl
theorem x_eqTermSS {v w : V} {xs : List (List TermS)} (hv : LTT v xs) (hw : LTT w xs) (hl : xs.length ≤ 1048576) (hl2 : ∀ ts ∈ xs, ts.length ≤ 1048576) : VCall Try.prog n_laws_eqTermSS [v, w] M (fun r M' => M = M' ∧ r = .sc (.bool true)) := by
  refine VCall.pure fun R hR => v_laws_eqTermSS rfl ?_
  (repeat' (first | ((with_reducible first | refine cond_dec (fun h => ?_) (fun h => ?_) | refine guardK_dec (fun h => ?_) (fun h => ?_) | refine guardD3_dec (fun h => ?_) (fun h => ?_)) <;> first | (exfalso; omega) | (simp (maxSteps := 2000000) (disch := first | omega | assumption | exact idP rfl | exact idP (bL rfl)) only [go_sem, reduceIte, Nat.reduceEqDiff, wpV_kd, wpV_tH, h, hv.len, hw.len]) | skip) | ((with_reducible first | refine cond_split (fun h => ?_) (fun h => ?_) | refine guardK_split (fun h => ?_) (fun h => ?_) | refine guardD3_split (fun h => ?_) (fun h => ?_)) <;> ((try simp only [Bool.not_eq_true', Bool.not_eq_false'] at h); first | (simp (maxSteps := 2000000) (disch := first | omega | assumption | exact idP rfl | exact idP (bL rfl)) only [go_sem, reduceIte, Nat.reduceEqDiff, wpV_kd, wpV_tH, h, hv.len, hw.len]) | skip)) | (with_reducible intro bk hbk; try have hnk := (fresh_set hbk).1) | (simp (maxSteps := 2000000) (disch := first | omega | assumption | exact idP rfl | exact idP (bL rfl)) only [go_sem, reduceIte, Nat.reduceEqDiff, wpV_kd, wpV_tH, hv.len, hw.len])))
  refine loop_k (fun e M' => M' = M ∧ ∃ i : Nat, i ≤ xs.length ∧ e 0 = v ∧ e 1 = w ∧ e 5 = .sc (.int .i64 i)) (fun e _ => ctrV xs.length (e 5)) ?_ ?_
  · exact ⟨rfl, 0, by omega, sT0, sT0, by refine sS0 ?_; rfl⟩
  · rintro e _ ⟨rfl, i, hi, e0, e1, e5⟩ K hK
    refine sS4 @e0 @e1 @e5 @hv.len ?_
    refine cond_dec (fun h => ?_) (fun h => ?_)
    · have hi1 : i < xs.length := by omega
      refine sS5 @e0 @e1 @e5 @hv.iaddr @hw.iaddr ?_
      refine (x_eqTermS (hv.elt hi1) (hw.elt hi1) (hl2 _ (List.getElem_mem hi1))).mono ?_
      rintro _ _ ⟨rfl, rfl⟩
      refine sS3 @e0 @e1 @e5 ?_
      exact hK _ _ ⟨rfl, i + 1, by omega, sT0, sT0, by refine sS0 ?_; rfl⟩ (by refine sS2 @ctrV_int @e5 ?_; omega)
    · refine sS0 ?_
      exact hR _ _ (sB) rfl
theorem x_eqRule {cs ds : List V} {r : RuleS} (hv : isRule r cs) (hw : isRule r ds) (hf : RuleFit r) : VCall Try.prog n_laws_eqRule [.agg cs, .agg ds] M (fun r' M' => M = M' ∧ r' = .sc (.bool true)) := by
  refine VCall.pure fun R hR => v_laws_eqRule rfl ?_
  obtain ⟨a, b, c, rfl, ha, hb, hc⟩ := hv
  obtain ⟨a', b', c', rfl, ha', hb', hc'⟩ := hw
  obtain ⟨f1, f2, f3, f4⟩ := hf
  have ei : decide (r.sets = r.sets) = true := by simp
  (repeat' (first | ((with_reducible first | refine cond_dec (fun h => ?_) (fun h => ?_) | refine guardK_dec (fun h => ?_) (fun h => ?_) | refine guardD3_dec (fun h => ?_) (fun h => ?_)) <;> first | (exfalso; omega) | (simp (maxSteps := 2000000) (disch := first | omega | assumption | exact idP rfl | exact idP (bL rfl)) only [go_sem, reduceIte, Nat.reduceEqDiff, wpV_kd, wpV_tH, h, ei]) | skip) | ((with_reducible first | refine cond_split (fun h => ?_) (fun h => ?_) | refine guardK_split (fun h => ?_) (fun h => ?_) | refine guardD3_split (fun h => ?_) (fun h => ?_)) <;> ((try simp only [Bool.not_eq_true', Bool.not_eq_false'] at h); first | (simp (maxSteps := 2000000) (disch := first | omega | assumption | exact idP rfl | exact idP (bL rfl)) only [go_sem, reduceIte, Nat.reduceEqDiff, wpV_kd, wpV_tH, h, ei]) | skip)) | ((with_reducible refine (x_eqTermS ha ha' f1).mono ?_); rintro _ _ ⟨rfl, rfl⟩) | ((with_reducible refine (x_eqIntS hb hb' f2).mono ?_); rintro _ _ ⟨rfl, rfl⟩) | ((with_reducible refine (x_eqTermSS hc hc' f3 f4).mono ?_); rintro _ _ ⟨rfl, rfl⟩) | (with_reducible intro bk hbk; try have hnk := (fresh_set hbk).1) | (simp (maxSteps := 2000000) (disch := first | omega | assumption | exact idP rfl | exact idP (bL rfl)) only [go_sem, reduceIte, Nat.reduceEqDiff, wpV_kd, wpV_tH, ei])))
  all_goals exact hR _ _ (sB) rfl
theorem x_eqRuleS {v w : V} {xs : List RuleS} (hv : LR v xs) (hw : LR w xs) (hl : xs.length ≤ 1048576) (hl2 : ∀ r ∈ xs, RuleFit r) : VCall Try.prog n_laws_eqRuleS [v, w] M (fun r M' => M = M' ∧ r = .sc (.bool true)) := by
  refine VCall.pure fun R hR => v_laws_eqRuleS rfl ?_
  (repeat' (first | ((with_reducible first | refine cond_dec (fun h => ?_) (fun h => ?_) | refine guardK_dec (fun h => ?_) (fun h => ?_) | refine guardD3_dec (fun h => ?_) (fun h => ?_)) <;> first | (exfalso; omega) | (simp (maxSteps := 2000000) (disch := first | omega | assumption | exact idP rfl | exact idP (bL rfl)) only [go_sem, reduceIte, Nat.reduceEqDiff, wpV_kd, wpV_tH, h, hv.len, hw.len]) | skip) | ((with_reducible first | refine cond_split (fun h => ?_) (fun h => ?_) | refine guardK_split (fun h => ?_) (fun h => ?_) | refine guardD3_split (fun h => ?_) (fun h => ?_)) <;> ((try simp only [Bool.not_eq_true', Bool.not_eq_false'] at h); first | (simp (maxSteps := 2000000) (disch := first | omega | assumption | exact idP rfl | exact idP (bL rfl)) only [go_sem, reduceIte, Nat.reduceEqDiff, wpV_kd, wpV_tH, h, hv.len, hw.len]) | skip)) | (with_reducible intro bk hbk; try have hnk := (fresh_set hbk).1) | (simp (maxSteps := 2000000) (disch := first | omega | assumption | exact idP rfl | exact idP (bL rfl)) only [go_sem, reduceIte, Nat.reduceEqDiff, wpV_kd, wpV_tH, hv.len, hw.len])))
  refine loop_k (fun e M' => M' = M ∧ ∃ i : Nat, i ≤ xs.length ∧ e 0 = v ∧ e 1 = w ∧ e 5 = .sc (.int .i64 i)) (fun e _ => ctrV xs.length (e 5)) ?_ ?_
  · exact ⟨rfl, 0, by omega, sT0, sT0, by refine sS0 ?_; rfl⟩
  · rintro e _ ⟨rfl, i, hi, e0, e1, e5⟩ K hK
    refine sS4 @e0 @e1 @e5 @hv.len ?_
    refine cond_dec (fun h => ?_) (fun h => ?_)
    · have hi1 : i < xs.length := by omega
      have r1 := hv.elt hi1
      have r2 := hw.elt hi1
      have s1 := r1
      have s2 := r2
      obtain ⟨c1, c2, c3, hat, _, _, _⟩ := r1
      obtain ⟨d1, d2, d3, hat2, _, _, _⟩ := r2
      rw [hat] at s1
      rw [hat2] at s2
      refine sS7 @e0 @e1 @e5 @hv.iaddr @hw.iaddr @hat @hat2 ?_
      refine (x_eqRule s1 s2 (hl2 _ (List.getElem_mem hi1))).mono ?_
      rintro _ _ ⟨rfl, rfl⟩
      refine sS3 @e0 @e1 @e5 ?_
      exact hK _ _ ⟨rfl, i + 1, by omega, sT0, sT0, by refine sS0 ?_; rfl⟩ (by refine sS2 @ctrV_int @e5 ?_; omega)
    · refine sS0 ?_
      exact hR _ _ (sB) rfl
theorem x_eqSystem {v w : V} {s : SysS} (hv : isSys s v) (hw : isSys s w) (hf : SysFit s) : VCall Try.prog n_laws_eqSystem [v, w] M (fun r M' => M = M' ∧ r = .sc (.bool true)) := by
  refine VCall.pure fun R hR => v_laws_eqSystem rfl ?_
  obtain ⟨a, b, rfl, ha, hb⟩ := hv
  obtain ⟨a', b', rfl, ha', hb'⟩ := hw
  obtain ⟨f1, f2, f3⟩ := hf
  (repeat' (first | ((with_reducible first | refine cond_dec (fun h => ?_) (fun h => ?_) | refine guardK_dec (fun h => ?_) (fun h => ?_) | refine guardD3_dec (fun h => ?_) (fun h => ?_)) <;> first | (exfalso; omega) | (simp (maxSteps := 2000000) (disch := first | omega | assumption | exact idP rfl | exact idP (bL rfl)) only [go_sem, reduceIte, Nat.reduceEqDiff, wpV_kd, wpV_tH, h]) | skip) | ((with_reducible first | refine cond_split (fun h => ?_) (fun h => ?_) | refine guardK_split (fun h => ?_) (fun h => ?_) | refine guardD3_split (fun h => ?_) (fun h => ?_)) <;> ((try simp only [Bool.not_eq_true', Bool.not_eq_false'] at h); first | (simp (maxSteps := 2000000) (disch := first | omega | assumption | exact idP rfl | exact idP (bL rfl)) only [go_sem, reduceIte, Nat.reduceEqDiff, wpV_kd, wpV_tH, h]) | skip)) | ((with_reducible refine (x_eqVarS ha ha' f1).mono ?_); rintro _ _ ⟨rfl, rfl⟩) | ((with_reducible refine (x_eqRuleS hb hb' f2 f3).mono ?_); rintro _ _ ⟨rfl, rfl⟩) | (with_reducible intro bk hbk; try have hnk := (fresh_set hbk).1) | (simp (maxSteps := 2000000) (disch := first | omega | assumption | exact idP rfl | exact idP (bL rfl)) only [go_sem, reduceIte, Nat.reduceEqDiff, wpV_kd, wpV_tH])))
  all_goals exact hR _ _ (sB) rfl
end Go.M2

namespace Go.M2
open Go.Proofs
variable {M : MH}
def catV {α : Type} (enc : α → List V) (xs : List α) : List V := (xs.map enc).flatten
theorem catV_len {α : Type} {enc : α → List V} {sz : Nat} (he : ∀ x, (enc x).length = sz) : ∀ xs : List α, (catV enc xs).length = xs.length * sz
  | [] => by simp [catV]
  | x :: t => by
    have := catV_len he t
    simp only [catV, List.map_cons, List.flatten_cons, List.length_append, he, List.length_cons, Nat.succ_mul] at this ⊢
    omega
theorem catV_snoc {α : Type} {enc : α → List V} {xs : List α} {x : α} : catV enc (xs ++ [x]) = catV enc xs ++ enc x := by simp [catV]
theorem zeros_cat {α : Type} {enc : α → List V} {z : α} {zs : List AV} (h : enc z = zs.map V.sc) (n : Nat) : (zeros zs n).map V.sc = catV enc (List.replicate n z) := by
  induction n with
  | zero => rfl
  | succ n ih => simp only [zeros, catV, List.replicate_succ, List.flatten_cons, List.map_append, List.map_cons] at ih ⊢; rw [ih, h]
theorem cat_set {α : Type} {enc : α → List V} {z x : α} {xs : List α} {sz m o : Nat} (he : ∀ x, (enc x).length = sz) (ho : o = xs.length * sz) :
    setAtG (catV enc xs ++ catV enc (List.replicate (m + 1) z)) o (enc x) = catV enc (xs ++ [x]) ++ catV enc (List.replicate m z) := by
  have h1 := catV_len he xs
  have e1 : catV enc (List.replicate (m + 1) z) = enc z ++ catV enc (List.replicate m z) := by simp [catV, List.replicate_succ]
  rw [e1, setAtG_mid _ _ _ (by simp [he]; omega), catV_snoc, List.take_left' (by omega)]
  congr 1
  rw [← List.append_assoc, List.drop_left' (by simp [he]; omega)]
theorem x_toVarS {v : V} {xs : List VarS} (hv : XVar v xs) (hl : xs.length ≤ 1048576) : VCall Try.prog n_laws_toVarS [v] M (fun r M' => Gr 3 M M' r (catV encVar xs)) := by
  refine VCall.plain fun R hR => v_laws_toVarS rfl ?_
  have hlen := hv.len fun _ _ h => h.len
  refine sS1 @hlen ?_
  refine mks3 (by omega) (by simp [mostCells]; omega) (by simp [mostCells]; omega) ?_
  intro b3 hb3
  simp (maxSteps := 2000000) (disch := first | omega | assumption | exact idP rfl | exact idP (bL rfl)) only [go_sem, reduceIte, Nat.reduceEqDiff, wpV_kd, wpV_tH, zeros_cat (enc := encVar) (z := ⟨0, 0, 0⟩) (zs := [AV.int .i64 0, AV.int .i64 0, AV.int .i64 0]) rfl]
  have henc : ∀ x, (encVar x).length = 3 := fun x => rfl
  refine loop_k (fun e M' => ∃ i : Nat, i ≤ xs.length ∧ e 0 = v ∧ e 3 = .sc (.sl (some (b3, 0)) xs.length xs.length true 3) ∧ e 4 = .sc (.int .i64 i) ∧ Sub M M' ∧ M' b3 = .some (catV encVar (xs.take i) ++ catV encVar (List.replicate (xs.length - i) ⟨0, 0, 0⟩))) (fun e _ => ctrV xs.length (e 4)) ?_ ?_
  · exact ⟨0, by omega, sT0, sT0, by refine sS0 ?_; rfl, (Sub.refl _).set hb3, by refine sS0 ?_; simp [catV]⟩
  · rintro e M1 ⟨i, hi, e0, e3, e4, hsub, hm⟩ K hK
    refine sS4 @e0 @e3 @e4 @hlen ?_
    refine cond_dec (fun h => ?_) (fun h => ?_)
    · have hi' : i < xs.length := by omega
      have hv' := hv.get (by omega)
      have a1 : atN 3 v i = encVar xs[i] := hv'.elt hi'
      refine sS5 @e0 @e3 @e4 @hv'.iaddr @a1 ?_
      refine x_toVar.mono ?_
      rintro _ _ ⟨rfl, rfl⟩
      refine sS4 @e0 @e3 @e4 @hm ?_
      have hti : (xs.take i).length = i := by simp; omega
      refine ⟨henc _, by simp [encVar, oneV, er, oneA], ?_, ?_⟩
      · rw [List.length_append, catV_len henc, catV_len henc, hti, List.length_replicate]; omega
      rw [show xs.length - i = (xs.length - (i + 1)) + 1 by omega, cat_set henc (by rw [hti]), ← take_snoc hi']
      refine sS3 @e0 @e3 @e4 ?_
      exact hK _ _ ⟨i + 1, by omega, sT0, sT0, by refine sS0 ?_; rfl, hsub.set hb3, sT0⟩ (by refine sS2 @ctrV_int @e4 ?_; omega)
    · obtain rfl : i = xs.length := by omega
      simp only [List.take_length, Nat.sub_self, List.replicate_zero] at hm
      refine sS1 @e3 ?_
      exact hR _ _ ⟨hsub, fun b' h' => by simp [blkV] at h'; subst h'; exact hb3, .inr ⟨b3, _, true, rfl, by simpa [catV] using hm, catV_len henc xs⟩⟩
theorem x_toTermS {v : V} {xs : List TermS} (hv : XT v xs) (hl : xs.length ≤ 1048576) : VCall Try.prog n_laws_toTermS [v] M (fun r M' => Gr 4 M M' r (catV encT xs)) := by
  refine VCall.plain fun R hR => v_laws_toTermS rfl ?_
  have hlen := hv.len fun _ _ h => h.len
  refine sS1 @hlen ?_
  refine mks3 (by omega) (by simp [mostCells]; omega) (by simp [mostCells]; omega) ?_
  intro b3 hb3
  simp (maxSteps := 2000000) (disch := first | omega | assumption | exact idP rfl | exact idP (bL rfl)) only [go_sem, reduceIte, Nat.reduceEqDiff, wpV_kd, wpV_tH, zeros_cat (enc := encT) (z := ⟨0, 0, 0, 0⟩) (zs := [AV.int .i64 0, AV.int .i64 0, AV.int .i64 0, AV.int .i64 0]) rfl]
  have henc : ∀ x, (encT x).length = 4 := fun x => rfl
  refine loop_k (fun e M' => ∃ i : Nat, i ≤ xs.length ∧ e 0 = v ∧ e 3 = .sc (.sl (some (b3, 0)) xs.length xs.length true 4) ∧ e 4 = .sc (.int .i64 i) ∧ Sub M M' ∧ M' b3 = .some (catV encT (xs.take i) ++ catV encT (List.replicate (xs.length - i) ⟨0, 0, 0, 0⟩))) (fun e _ => ctrV xs.length (e 4)) ?_ ?_
  · exact ⟨0, by omega, sT0, sT0, by refine sS0 ?_; rfl, (Sub.refl _).set hb3, by refine sS0 ?_; simp [catV]⟩
  · rintro e M1 ⟨i, hi, e0, e3, e4, hsub, hm⟩ K hK
    refine sS4 @e0 @e3 @e4 @hlen ?_
    refine cond_dec (fun h => ?_) (fun h => ?_)
    · have hi' : i < xs.length := by omega
      have hv' := hv.get (by omega)
      have a1 : atN 4 v i = encT xs[i] := hv'.elt hi'
      refine sS5 @e0 @e3 @e4 @hv'.iaddr @a1 ?_
      refine x_toTerm.mono ?_
      rintro _ _ ⟨rfl, rfl⟩
      refine sS4 @e0 @e3 @e4 @hm ?_
      have hti : (xs.take i).length = i := by simp; omega
      refine ⟨henc _, by simp [encT, oneV, er, oneA], ?_, ?_⟩
      · rw [List.length_append, catV_len henc, catV_len henc, hti, List.length_replicate]; omega
      rw [show xs.length - i = (xs.length - (i + 1)) + 1 by omega, cat_set henc (by rw [hti]), ← take_snoc hi']
      refine sS3 @e0 @e3 @e4 ?_
      exact hK _ _ ⟨i + 1, by omega, sT0, sT0, by refine sS0 ?_; rfl, hsub.set hb3, sT0⟩ (by refine sS2 @ctrV_int @e4 ?_; omega)
    · obtain rfl : i = xs.length := by omega
      simp only [List.take_length, Nat.sub_self, List.replicate_zero] at hm
      refine sS1 @e3 ?_
      exact hR _ _ ⟨hsub, fun b' h' => by simp [blkV] at h'; subst h'; exact hb3, .inr ⟨b3, _, true, rfl, by simpa [catV] using hm, catV_len henc xs⟩⟩
theorem catV_at {α : Type} {enc : α → List V} {sz : Nat} (he : ∀ x, (enc x).length = sz) {xs : List α} {i : Nat} (hi : i < xs.length) : ((catV enc xs).drop (i * sz)).take sz = enc xs[i] := by
  have e1 : xs = xs.take i ++ xs[i] :: xs.drop (i + 1) := by rw [← List.drop_eq_getElem_cons hi, List.take_append_drop]
  have e2 : catV enc xs = catV enc (xs.take i) ++ (enc xs[i] ++ catV enc (xs.drop (i + 1))) := by
    have e3 : catV enc xs = catV enc (xs.take i ++ xs[i] :: xs.drop (i + 1)) := congrArg (catV enc) e1
    rw [e3]
    simp only [catV, List.map_append, List.map_cons, List.flatten_append, List.flatten_cons]
  have h3 := catV_len he (xs.take i)
  have h4 : (xs.take i).length = i := by simp; omega
  rw [e2, List.drop_left' (by rw [h3, h4]), List.take_left' (he _)]
theorem f_toVarS {v : V} {xs : List VarS} (hv : XVar v xs) (hl : xs.length ≤ 1048576) : VCall Try.prog n_laws_toVarS [v] M (fun r M' => M = M' ∧ LVar r xs) :=
  (VCall.fr1 (x_toVarS hv hl)).mono fun r M' ⟨h1, h2⟩ => ⟨h1, h2.lc (by omega) (catV_len (sz := 3) (enc := encVar) (fun _ => rfl) xs) fun i hi => catV_at (sz := 3) (enc := encVar) (fun _ => rfl) hi⟩
theorem f_toTermS {v : V} {xs : List TermS} (hv : XT v xs) (hl : xs.length ≤ 1048576) : VCall Try.prog n_laws_toTermS [v] M (fun r M' => M = M' ∧ LT r xs) :=
  (VCall.fr1 (x_toTermS hv hl)).mono fun r M' ⟨h1, h2⟩ => ⟨h1, h2.lc (by omega) (catV_len (sz := 4) (enc := encT) (fun _ => rfl) xs) fun i hi => catV_at (sz := 4) (enc := encT) (fun _ => rfl) hi⟩
end Go.M2

namespace Go.M2
open Go.Proofs
variable {M : MH}
theorem f_toTermSS {v : V} {xs : List (List TermS)} (hv : XTT v xs) (hl : xs.length ≤ 1048576) (hx : ∀ ts ∈ xs, ts.length ≤ 1048576) : VCall Try.prog n_laws_toTermSS [v] M (fun r M' => M = M' ∧ LTT r xs) := by
  refine VCall.froz fun R hP hG => v_laws_toTermSS rfl ?_
  have hlen := hv.len fun _ _ h => h.len
  refine sS1 @hlen ?_
  refine mks3 (by omega) (by simp [mostCells]; omega) (by simp [mostCells]; omega) ?_
  intro b3 hb3
  simp (maxSteps := 2000000) (disch := first | omega | assumption | exact idP rfl | exact idP (bL rfl)) only [go_sem, reduceIte, Nat.reduceEqDiff, wpV_kd, wpV_tH, zeros_nil]
  refine loop_k (fun e M' => ∃ (i : Nat) (us : List V), i ≤ xs.length ∧ e 0 = v ∧ e 3 = .sc (.sl (some (b3, 0)) xs.length xs.length true 1) ∧ e 4 = .sc (.int .i64 i) ∧ Sub M M' ∧ M' b3 = .some (us ++ List.replicate (xs.length - i) nil1) ∧ Cs (fun ts u => LT u ts) us (xs.take i)) (fun e _ => ctrV xs.length (e 4)) ?_ ?_
  · exact ⟨0, [], by omega, sT0, sT0, by refine sS0 ?_; rfl, (Sub.refl _).set hb3, by refine sS0 ?_; simp, .nil⟩
  · rintro e M1 ⟨i, us, hi, e0, e3, e4, hsub, hm, hc⟩ K hK
    have hul : us.length = i := by have := hc.1; simp at this; omega
    refine sS4 @e0 @e3 @e4 @hlen ?_
    refine cond_dec (fun h => ?_) (fun h => ?_)
    · have hi' : i < xs.length := by omega
      have hv' := hv.get (by omega)
      obtain ⟨q, hq⟩ : ∃ q, xs.length - i = q + 1 := ⟨xs.length - i - 1, by omega⟩
      rw [hq, List.replicate_succ] at hm
      refine sS4 @e0 @e3 @e4 @hv'.iaddr ?_
      refine (f_toTermS (hv'.elt hi') (hx _ (List.getElem_mem hi'))).mono ?_
      rintro r _ ⟨rfl, hr⟩
      have hr1 := hr.one.1
      have hr2 := hr.one.2
      have hsm : (us ++ nil1 :: List.replicate q nil1).set i r = us ++ r :: List.replicate q nil1 := set_mid hul
      have hnl3 : i < (us ++ nil1 :: List.replicate q nil1).length := by simp; omega
      refine sS6 @e0 @e3 @e4 @hm @hr2 @hsm ?_
      refine hK _ _ ⟨i + 1, us ++ [r], by omega, sT0, sT0, by refine sS0 ?_; rfl, hsub.set hb3, by refine sS0 ?_; simp [show xs.length - (i + 1) = q by omega], ?_⟩ (by refine sS2 @ctrV_int @e4 ?_; omega)
      rw [take_snoc hi']
      exact hc.snoc hr
    · obtain rfl : i = xs.length := by omega
      rw [List.take_length] at hc
      refine sS1 @e3 ?_
      exact hG _ _ 1 us ⟨hsub, fun b' h' => by simp [blkV] at h'; subst h'; exact hb3, .inr ⟨b3, _, true, rfl, by simpa using hm, by omega⟩⟩ fun u hu => hu.lsC hc
theorem f_toRule {cs : List V} {r : RuleS} (hv : isRuleX r cs) (hf : RuleFit r) : VCall Try.prog n_laws_toRule [.agg cs] M (fun r' M' => M = M' ∧ ∃ ds, r' = .agg ds ∧ isRule r ds) := by
  refine VCall.pure fun R hR => v_laws_toRule rfl ?_
  obtain ⟨a, b, c, rfl, ha, hb, hc⟩ := hv
  obtain ⟨f1, f2, f3, f4⟩ := hf
  refine sS0 ?_
  intro b1 hb1
  try simp (maxSteps := 2000000) (disch := first | omega | assumption | exact idP rfl | exact idP (bL rfl)) only [go_sem, reduceIte, Nat.reduceEqDiff, wpV_kd, wpV_tH]
  intro b2 hb2
  try simp (maxSteps := 2000000) (disch := first | omega | assumption | exact idP rfl | exact idP (bL rfl)) only [go_sem, reduceIte, Nat.reduceEqDiff, wpV_kd, wpV_tH]
  intro b3 hb3
  have n21 := (fresh_set hb2).1
  have n32 := (fresh_set hb3).1
  have n31 := (fresh_set (fresh_set hb3).2).1
  refine sS0 ?_
  refine (f_toTermS ha f1).mono ?_
  rintro x _ ⟨rfl, hx⟩
  have hx1 := hx.one.1
  have hx2 := hx.one.2
  refine sS1 @hx2 ?_
  refine (f_toIntS hb f2).mono ?_
  rintro y _ ⟨rfl, hy⟩
  have hy1 := hy.one.1
  have hy2 := hy.one.2
  refine sS1 @hy2 ?_
  refine (f_toTermSS hc f3 f4).mono ?_
  rintro z _ ⟨rfl, hz⟩
  have hz1 := hz.one.1
  have hz2 := hz.one.2
  refine sS1 @hz2 ?_
  refine hR _ _ ?_ ⟨_, rfl, x, y, z, rfl, hx, hy, hz⟩
  repeat (first | exact Sub.refl _ | assumption | (refine Sub.set ?_ (fresh_set hb2).2) | (refine Sub.set ?_ (fresh_set (fresh_set hb3).2).2) | (refine Sub.set' ?_ (by assumption)))
abbrev T3 := {l : List V // l.length = 3}
def z3 : T3 := ⟨[nil1, nil1, nil1], rfl⟩
theorem f_toRuleS {v : V} {xs : List RuleS} (hv : XR v xs) (hl : xs.length ≤ 1048576) (hx : ∀ r ∈ xs, RuleFit r) : VCall Try.prog n_laws_toRuleS [v] M (fun r M' => M = M' ∧ LR r xs) := by
  refine VCall.froz fun R hP hG => v_laws_toRuleS rfl ?_
  have hlen := hv.len fun _ _ h => h.len
  have henc : ∀ x : T3, x.val.length = 3 := fun x => x.property
  refine sS1 @hlen ?_
  refine mks3 (by omega) (by simp [mostCells]; omega) (by simp [mostCells]; omega) ?_
  intro b3 hb3
  simp (maxSteps := 2000000) (disch := first | omega | assumption | exact idP rfl | exact idP (bL rfl)) only [go_sem, reduceIte, Nat.reduceEqDiff, wpV_kd, wpV_tH, zeros_cat (enc := fun x : T3 => x.val) (z := z3) (zs := [AV.sl none 0 0 true 0, AV.sl none 0 0 true 0, AV.sl none 0 0 true 0]) rfl]
  refine loop_k (fun e M' => ∃ (i : Nat) (us : List T3), i ≤ xs.length ∧ us.length = i ∧ e 0 = v ∧ e 3 = .sc (.sl (some (b3, 0)) xs.length xs.length true 3) ∧ e 4 = .sc (.int .i64 i) ∧ Sub M M' ∧ M' b3 = .some (catV (fun x : T3 => x.val) us ++ catV (fun x : T3 => x.val) (List.replicate (xs.length - i) z3)) ∧ ∀ j (h1 : j < xs.length) (h2 : j < us.length), isRule xs[j] us[j].val) (fun e _ => ctrV xs.length (e 4)) ?_ ?_
  · exact ⟨0, [], by omega, rfl, sT0, sT0, by refine sS0 ?_; rfl, (Sub.refl _).set hb3, by refine sS0 ?_; simp [catV], fun j _ h => by simp at h⟩
  · rintro e M1 ⟨i, us, hi, hul, e0, e3, e4, hsub, hm, hc⟩ K hK
    refine sS4 @e0 @e3 @e4 @hlen ?_
    refine cond_dec (fun h => ?_) (fun h => ?_)
    · have hi' : i < xs.length := by omega
      have hv' := hv.get (by omega)
      have hcs := hv'.elt hi'
      have hrule := hcs
      obtain ⟨c1, c2, c3, hat, _, _, _⟩ := hcs
      rw [hat] at hrule
      refine sS5 @e0 @e3 @e4 @hv'.iaddr @hat ?_
      refine (f_toRule hrule (hx _ (List.getElem_mem hi'))).mono ?_
      rintro _ _ ⟨rfl, ds, rfl, hr⟩
      have hr0 := hr
      obtain ⟨x, y, z, rfl, hx1, hx2, hx3⟩ := hr
      refine sS4 @e0 @e3 @e4 @hm ?_
      refine ⟨rfl, by simp [hx1.one.1, hx2.one.1, hx3.one.1], ?_, ?_⟩
      · rw [List.length_append, catV_len henc, catV_len henc, hul, List.length_replicate]; omega
      rw [show xs.length - i = (xs.length - (i + 1)) + 1 by omega, cat_set (x := (⟨[x, y, z], rfl⟩ : T3)) henc (by rw [hul])]
      refine sS3 @e0 @e3 @e4 ?_
      refine hK _ _ ⟨i + 1, us ++ [⟨[x, y, z], rfl⟩], by omega, by simp [hul], sT0, sT0, by refine sS0 ?_; rfl, hsub.set hb3, sT0, fun j h1 h2 => ?_⟩ (by refine sS2 @ctrV_int @e4 ?_; omega)
      by_cases hj : j < us.length
      · rw [List.getElem_append_left hj]; exact hc j h1 hj
      · obtain rfl : j = us.length := by simp at h2; omega
        subst hul
        simpa using hr0
    · obtain rfl : i = xs.length := by omega
      refine sS1 @e3 ?_
      exact hG _ _ 3 (catV (fun x : T3 => x.val) us) ⟨hsub, fun b' h' => by simp [blkV] at h'; subst h'; exact hb3, .inr ⟨b3, _, true, rfl, by simpa [catV] using hm, by rw [catV_len henc, hul]⟩⟩ fun u hu => hu.lc (by omega) (by rw [catV_len henc, hul]) fun j hj => by rw [catV_at henc (by omega)]; exact hc j hj (by omega)
theorem f_toSystem {v : V} {s : SysS} (hv : isSysX s v) (hf : SysFit s) : VCall Try.prog n_laws_toSystem [v] M (fun r' M' => M = M' ∧ isSys s r') := by
  refine VCall.pure fun R hR => v_laws_toSystem rfl ?_
  obtain ⟨a, b, rfl, ha, hb⟩ := hv
  obtain ⟨f1, f2, f3⟩ := hf
  refine sS0 ?_
  intro b1 hb1
  try simp (maxSteps := 2000000) (disch := first | omega | assumption | exact idP rfl | exact idP (bL rfl)) only [go_sem, reduceIte, Nat.reduceEqDiff, wpV_kd, wpV_tH]
  intro b2 hb2
  try simp (maxSteps := 2000000) (disch := first | omega | assumption | exact idP rfl | exact idP (bL rfl)) only [go_sem, reduceIte, Nat.reduceEqDiff, wpV_kd, wpV_tH]
  intro b3 hb3
  have n21 := (fresh_set hb2).1
  have n32 := (fresh_set hb3).1
  have n31 := (fresh_set (fresh_set hb3).2).1
  refine sS0 ?_
  refine (f_toVarS ha f1).mono ?_
  rintro x _ ⟨rfl, hx⟩
  have hx1 := hx.one.1
  have hx2 := hx.one.2
  refine sS1 @hx2 ?_
  refine (f_toRuleS hb f2 f3).mono ?_
  rintro y _ ⟨rfl, hy⟩
  have hy1 := hy.one.1
  have hy2 := hy.one.2
  refine sS1 @hy2 ?_
  refine hR _ _ ?_ ⟨x, y, rfl, hx, hy⟩
  repeat (first | exact Sub.refl _ | assumption | (refine Sub.set ?_ (fresh_set hb2).2) | (refine Sub.set ?_ (fresh_set (fresh_set hb3).2).2) | (refine Sub.set' ?_ (by assumption)))
end Go.M2

namespace Go.M2
open Go.Proofs
variable {M : MH}
theorem SysFit.sz {s : SysS} (h : SysFit s) : SysSz s := ⟨h.1, h.2.1, fun r hr => (h.2.2 r hr).2.1⟩
end Go.M2

namespace Go.M2
open Go.Proofs
def EV {α : Type} (E : α → List V → Prop) : Heap → α → List AV → Prop := fun H x cs => ∃ vs : List V, erl vs = cs ∧ okL H vs ∧ E x vs
theorem erl_len : ∀ l : List V, (erl l).length = l.length
  | [] => rfl
  | v :: t => by simp only [erl, List.length_cons, erl_len t]
theorem erl_app : ∀ a b : List V, erl (a ++ b) = erl a ++ erl b
  | [], b => rfl
  | v :: t, b => by simp only [List.cons_append, erl, erl_app t b]
theorem okL_app {H : Heap} : ∀ {a b : List V}, okL H a → okL H b → okL H (a ++ b)
  | [], b, _, h => h
  | v :: t, b, h, k => by
    simp only [List.cons_append, okL] at h ⊢
    exact ⟨h.1, okL_app h.2 k⟩
theorem lift_cells {α : Type} {E : α → List V → Prop} {H : Heap} {b sz : Nat} : ∀ {xs : List α} {o : Nat}, (∀ i (h : i < xs.length), ∃ cs, cs.length = sz ∧ Rd H b (o + i * sz) cs ∧ EV E H xs[i] cs) →
    ∃ vs : List V, vs.length = xs.length * sz ∧ Rd H b o (erl vs) ∧ okL H vs ∧ ∀ i (h : i < xs.length), E xs[i] ((vs.drop (i * sz)).take sz)
  | [], o, _ => ⟨[], by simp, Rd.nil _ _ _, by simp [okL], fun i h => by simp at h⟩
  | x :: t, o, h => by
    obtain ⟨cs, h1, h2, us, h3, h4, h5⟩ := h 0 (by simp)
    obtain ⟨vs, k1, k2, k3, k4⟩ := lift_cells (xs := t) (o := o + sz) (E := E) (H := H) (b := b) (sz := sz) (fun i hi => by
      obtain ⟨cs, q1, q2, q3⟩ := h (i + 1) (by simp; omega)
      exact ⟨cs, q1, by rw [show o + sz + i * sz = o + (i + 1) * sz by rw [Nat.succ_mul]; omega]; exact q2, by simpa using q3⟩)
    have hu : us.length = sz := by rw [← erl_len, h3]; exact h1
    refine ⟨us ++ vs, by simp [hu, k1, Nat.succ_mul]; omega, ?_, okL_app h4 k3, fun i hi => ?_⟩
    · intro i y hy
      rw [erl_app] at hy
      by_cases hlt : i < (erl us).length
      · rw [List.getElem?_append_left hlt, h3] at hy
        have := h2 i y hy
        simpa using this
      · rw [List.getElem?_append_right (by omega)] at hy
        have e1 : (erl us).length = sz := by rw [erl_len]; exact hu
        rw [e1] at hy hlt
        have := k2 (i - sz) y hy
        rwa [show o + sz + (i - sz) = o + i by omega] at this
    · cases i with
      | zero => simpa [List.take_left' hu] using h5
      | succ i =>
        have := k4 i (by simpa using hi)
        have e2 : (us ++ vs).drop ((i + 1) * sz) = vs.drop (i * sz) := by
          rw [show (i + 1) * sz = us.length + i * sz by rw [Nat.succ_mul, hu]; omega, List.drop_append]
          simp
        rw [e2]
        simpa using this
theorem lift_slice {α : Type} {E : α → List V → Prop} {H : Heap} {sz : Nat} {v : AV} {xs : List α} (h : InS sz (EV E) H v xs) : ∃ v', er v' = v ∧ okV H v' ∧ In (Lc sz E) v' xs := by
  rcases h with ⟨A, c, ex, k, rfl, h⟩ | ⟨rfl, rfl⟩
  · obtain ⟨vs, h1, h2, h3, h4⟩ := lift_cells h
    exact ⟨.fs A xs.length c ex k vs, rfl, by simp only [okV]; exact ⟨h2, h3⟩, .inl (.inr ⟨A, c, ex, k, vs, rfl, by omega, fun i hi => h4 i hi⟩)⟩
  · exact ⟨.sc .emp, rfl, by simp [okV], .inr ⟨rfl, rfl⟩⟩
def E1 {α : Type} (E : α → V → Prop) : α → List V → Prop := fun a cs => ∃ u, cs = [u] ∧ E a u
theorem lc1_ls {α : Type} {E : α → V → Prop} {v : V} {ys : List α} (h : Lc 1 (E1 E) v ys) : Ls E v ys := by
  rcases h with h | ⟨A, c, ex, k, xs, rfl, hl, h⟩
  · exact .inl h
  · refine .inr ⟨A, c, ex, k, xs, rfl, by omega, fun i hi => ?_⟩
    obtain ⟨u, h1, h2⟩ := h i hi
    have h3 : xs[i]? = .some u := by
      have := congrArg (fun l => l[0]?) h1
      simpa [atN, List.getElem?_take, List.getElem?_drop] using this
    have h4 : at1 (.fs A ys.length c ex k xs) i = u := by
      simp [at1, List.getD_eq_getElem?_getD, h3]
    rw [h4]; exact h2
section
open Go.ChangeShapes Go.WideShapes Go.ChangeAt Go.RowKit
variable {HH : Type} {enc : TypeId × Value → HH} {P : Program} {W : World} {t e : TypeId} {fuel : Nat} {cs : List Value} {x : DataW HH × List MemPlace}
def LiftE {α : Type} (W : World) (E : α → List V → Prop) (a : α) (cs : List Value) : Prop := ∃ vs, erl vs = cs.map (avC W.heap.size) ∧ okL (heap0 W) vs ∧ E a vs
theorem in_list {α : Type} {E : α → List V → Prop} {good : α → Prop} {sz : Nat} (ht : P.underlying t = .some (.slice e)) (hsz : P.cellsOf e = sz) (h0 : 0 < sz)
    (he : ∀ n cs x, DataW.trod enc P W 0 (fun _ => true) true n e cs = .some x → ∃ a, LiftE W E a cs ∧ good a)
    (h : DataW.trod enc P W 0 (fun _ => true) true fuel t cs = .some x) : ∃ xs : List α, LiftE W (E1 (fun (ys : List α) u => In (Lc sz E) u ys)) xs cs ∧ (xs.length ≤ 9223372036854775807 ∧ ∀ a ∈ xs, good a) := by
  obtain ⟨v, xs, rfl, h1, h2, h3⟩ := in_slice (E := EV E) (good := good) ht hsz h0 (fun n cs x hx => by
    obtain ⟨a, ⟨vs, h1, h2, h3⟩, h4⟩ := he n cs x hx
    exact ⟨a, ⟨vs, h1, h2, h3⟩, h4⟩) h
  obtain ⟨u, k1, k2, k3⟩ := lift_slice h1
  exact ⟨xs, ⟨[u], by simp [erl, k1], by simp only [okL]; exact ⟨k2, trivial⟩, u, rfl, k3⟩, h3, h2⟩
theorem in_list1 {α : Type} {E : α → V → Prop} {good : α → Prop} (ht : P.underlying t = .some (.slice e)) (hsz : P.cellsOf e = 1)
    (he : ∀ n cs x, DataW.trod enc P W 0 (fun _ => true) true n e cs = .some x → ∃ a, LiftE W (E1 E) a cs ∧ good a)
    (h : DataW.trod enc P W 0 (fun _ => true) true fuel t cs = .some x) : ∃ xs : List α, LiftE W (E1 (fun (ys : List α) u => In (Ls E) u ys)) xs cs ∧ (xs.length ≤ 9223372036854775807 ∧ ∀ a ∈ xs, good a) := by
  obtain ⟨xs, ⟨vs, h1, h2, u, rfl, h3⟩, h4⟩ := in_list ht hsz (by omega) he h
  exact ⟨xs, ⟨[u], h1, h2, u, rfl, h3.imp lc1_ls id⟩, h4⟩
theorem in_n (ht : P.underlying t = .some (.int .i64)) (h : DataW.trod enc P W 0 (fun _ => true) true fuel t cs = .some x) : ∃ n, LiftE W (E1 isI) n cs ∧ (-9223372036854775808 ≤ n ∧ n ≤ 9223372036854775807) := by
  obtain ⟨n, rfl, h1⟩ := in_int ht h
  exact ⟨n, ⟨[.sc (.int .i64 n)], rfl, by simp [okL, okV], _, rfl, rfl⟩, h1⟩
theorem LiftE.one {α : Type} {E : α → V → Prop} {a : α} {c : Value} (h : LiftE W (E1 E) a [c]) : ∃ u, er u = avC W.heap.size c ∧ okV (heap0 W) u ∧ E a u := by
  obtain ⟨vs, h1, h2, u, rfl, h3⟩ := h
  simp only [erl, List.map_cons, List.map_nil, List.cons.injEq, and_true] at h1
  simp only [okL] at h2
  exact ⟨u, h1, h2.1, h3⟩
end
theorem calls_of_vcall {P : Program} {f : FuncId} {vs : List Value} {vv : List V} {W : World} (h : VCall P f vv (fun _ => none) (fun r M' => (fun _ => none) = M' ∧ r = .sc (.bool true)))
    (he : vv.map er = vs.map (avT W.heap.size)) (ho : okL (heap0 W) vv) (hT : TabOk W := by exact trivial) : Calls P f vs.toArray W (fun e w' => e = .returned (.bool true) ∧ Go.RowKit.Below W.heap.size W w') := by
  refine calls_of_acall ?_ hT
  rw [← he]
  refine (h (heap0 W) (heap0 W) ⟨rfl, fun b _ => .inr rfl, fun b l hb => (by cases hb), fun b l hb => (by cases hb)⟩ ho).mono ?_
  rintro a H' ⟨r, M', F', rfl, _, _, _, _, rfl⟩
  rfl
end Go.M2

namespace Go.M2
open Go.Proofs
open Go.ChangeShapes Go.WideShapes Go.ChangeAt Go.RowKit
variable {HH : Type} {enc : TypeId × Value → HH} {W : World} {fuel : Nat} {cs : List Value} {x : DataW HH × List MemPlace}
theorem list4 {α : Type} {l : List α} (h : l.length = 4) : ∃ a b c d, l = [a, b, c, d] := by
  match l, h with
  | [a, b, c, d], _ => exact ⟨a, b, c, d, rfl⟩
theorem list3 {α : Type} {l : List α} (h : l.length = 3) : ∃ a b c, l = [a, b, c] := by
  match l, h with
  | [a, b, c], _ => exact ⟨a, b, c, rfl⟩
theorem in_i64 (h : DataW.trod enc Try.prog W 0 (fun _ => true) true fuel 3 cs = .some x) : ∃ n : Int, cs = [.int .i64 n] := by
  obtain ⟨n, h1, _⟩ := in_int Try.underlying3 h
  exact ⟨n, h1⟩
theorem in_term (h : DataW.trod enc Try.prog W 0 (fun _ => true) true fuel 103 cs = .some x) : ∃ t : TermS, LiftE W isT t cs ∧ True := by
  have c3 : Try.prog.cellsOf 3 = 1 := by kernel_rfl
  obtain ⟨xs, n, _, _, hl, hxl, hf⟩ := DataW.trod_struct Try.underlying103 h
  have hxl : xs.length = 4 := hxl
  have hl : cs.length = 4 := hl.trans (by kernel_rfl)
  obtain ⟨a, b, c, d, rfl⟩ := list4 hl
  have f0 := hf 0 ⟨ "Op", 3, 0, false, "", "", 0⟩ rfl
  have f1 := hf 1 ⟨ "N", 3, 1, false, "", "", 8⟩ rfl
  have f2 := hf 2 ⟨ "A", 3, 2, false, "", "", 16⟩ rfl
  have f3 := hf 3 ⟨ "B", 3, 3, false, "", "", 24⟩ rfl
  rw [List.getElem?_eq_getElem (by omega), c3] at f0 f1 f2 f3
  obtain ⟨n0, e0⟩ := in_i64 f0
  obtain ⟨n1, e1⟩ := in_i64 f1
  obtain ⟨n2, e2⟩ := in_i64 f2
  obtain ⟨n3, e3⟩ := in_i64 f3
  simp only [List.drop_zero, List.drop_succ_cons, List.take_succ_cons, List.take_zero, List.cons.injEq, and_true] at e0 e1 e2 e3
  subst e0 e1 e2 e3
  exact ⟨⟨n0, n1, n2, n3⟩, ⟨encT ⟨n0, n1, n2, n3⟩, rfl, by simp [encT, okL, okV], rfl⟩, trivial⟩
theorem in_var (h : DataW.trod enc Try.prog W 0 (fun _ => true) true fuel 72 cs = .some x) : ∃ t : VarS, LiftE W isVar t cs ∧ True := by
  have c3 : Try.prog.cellsOf 3 = 1 := by kernel_rfl
  obtain ⟨xs, n, _, _, hl, hxl, hf⟩ := DataW.trod_struct Try.underlying72 h
  have hxl : xs.length = 3 := hxl
  have hl : cs.length = 3 := hl.trans (by kernel_rfl)
  obtain ⟨a, b, c, rfl⟩ := list3 hl
  have f0 := hf 0 ⟨ "Low", 3, 0, false, "", "", 0⟩ rfl
  have f1 := hf 1 ⟨ "High", 3, 1, false, "", "", 8⟩ rfl
  have f2 := hf 2 ⟨ "First", 3, 2, false, "", "", 16⟩ rfl
  rw [List.getElem?_eq_getElem (by omega), c3] at f0 f1 f2
  obtain ⟨n0, e0⟩ := in_i64 f0
  obtain ⟨n1, e1⟩ := in_i64 f1
  obtain ⟨n2, e2⟩ := in_i64 f2
  simp only [List.drop_zero, List.drop_succ_cons, List.take_succ_cons, List.take_zero, List.cons.injEq, and_true] at e0 e1 e2
  subst e0 e1 e2
  exact ⟨⟨n0, n1, n2⟩, ⟨encVar ⟨n0, n1, n2⟩, rfl, by simp [encVar, okL, okV], rfl⟩, trivial⟩
theorem in_ints (h : DataW.trod enc Try.prog W 0 (fun _ => true) true fuel 27 cs = .some x) : ∃ ns : List Int, LiftE W (E1 (fun (ys : List Int) u => XI u ys)) ns cs ∧ LenOk ns := by
  obtain ⟨ns, h1, h2, _⟩ := in_list1 (E := isI) (good := fun n => -9223372036854775808 ≤ n ∧ n ≤ 9223372036854775807) Try.underlying27 (by kernel_rfl) (fun n cs x h => in_n Try.underlying3 h) h
  exact ⟨ns, h1, h2⟩
theorem in_terms (h : DataW.trod enc Try.prog W 0 (fun _ => true) true fuel 61 cs = .some x) : ∃ ts : List TermS, LiftE W (E1 (fun (ys : List TermS) u => XT u ys)) ts cs ∧ LenOk ts := by
  obtain ⟨ns, h1, h2, _⟩ := in_list (E := isT) (good := fun _ => True) (sz := 4) Try.underlying61 (by kernel_rfl) (by omega) (fun n cs x h => in_term h) h
  exact ⟨ns, h1, h2⟩
theorem in_vars (h : DataW.trod enc Try.prog W 0 (fun _ => true) true fuel 22 cs = .some x) : ∃ ts : List VarS, LiftE W (E1 (fun (ys : List VarS) u => XVar u ys)) ts cs ∧ LenOk ts := by
  obtain ⟨ns, h1, h2, _⟩ := in_list (E := isVar) (good := fun _ => True) (sz := 3) Try.underlying22 (by kernel_rfl) (by omega) (fun n cs x h => in_var h) h
  exact ⟨ns, h1, h2⟩
theorem in_termss (h : DataW.trod enc Try.prog W 0 (fun _ => true) true fuel 62 cs = .some x) : ∃ ts : List (List TermS), LiftE W (E1 (fun (ys : List (List TermS)) u => XTT u ys)) ts cs ∧ (LenOk ts ∧ ∀ t ∈ ts, LenOk t) :=
  in_list1 (E := fun (ts : List TermS) u => XT u ts) (good := fun ts => LenOk ts) Try.underlying62 (by kernel_rfl) (fun n cs x h => in_terms h) h
theorem in_rule (h : DataW.trod enc Try.prog W 0 (fun _ => true) true fuel 64 cs = .some x) : ∃ r : RuleS, LiftE W isRuleX r cs ∧ RuleLen r := by
  obtain ⟨xs, n, _, _, hl, hxl, hf⟩ := DataW.trod_struct Try.underlying64 h
  have hxl : xs.length = 3 := hxl
  have hl : cs.length = 3 := hl.trans (by kernel_rfl)
  have c1 : Try.prog.cellsOf 61 = 1 := by kernel_rfl
  have c2 : Try.prog.cellsOf 27 = 1 := by kernel_rfl
  have c3 : Try.prog.cellsOf 62 = 1 := by kernel_rfl
  obtain ⟨a, b, c, rfl⟩ := list3 hl
  have f0 := hf 0 ⟨ "When", 61, 0, false, "", "", 0⟩ rfl
  have f1 := hf 1 ⟨ "Sets", 27, 1, false, "", "", 24⟩ rfl
  have f2 := hf 2 ⟨ "Terms", 62, 2, false, "", "", 48⟩ rfl
  rw [List.getElem?_eq_getElem (by omega)] at f0 f1 f2
  simp only [c1, c2, c3, List.drop_zero, List.drop_succ_cons, List.take_succ_cons, List.take_zero] at f0 f1 f2
  obtain ⟨n0, e0, g0⟩ := in_terms f0
  obtain ⟨n1, e1, g1⟩ := in_ints f1
  obtain ⟨n2, e2, g2, g3⟩ := in_termss f2
  obtain ⟨u0, p0, q0, r0⟩ := e0.one
  obtain ⟨u1, p1, q1, r1⟩ := e1.one
  obtain ⟨u2, p2, q2, r2⟩ := e2.one
  exact ⟨⟨n0, n1, n2⟩, ⟨[u0, u1, u2], by simp [erl, p0, p1, p2], by simp only [okL]; exact ⟨q0, q1, q2, trivial⟩, u0, u1, u2, rfl, r0, r1, r2⟩, g0, g1, g2, g3⟩
theorem in_rules (h : DataW.trod enc Try.prog W 0 (fun _ => true) true fuel 23 cs = .some x) : ∃ rs : List RuleS, LiftE W (E1 (fun (ys : List RuleS) u => XR u ys)) rs cs ∧ (LenOk rs ∧ ∀ r ∈ rs, RuleLen r) :=
  in_list (E := isRuleX) (good := RuleLen) (sz := 3) Try.underlying23 (by kernel_rfl) (by omega) (fun n cs x h => in_rule h) h
def UpV {α : Type} (W : World) (E : α → V → Prop) (a : α) (v : Value) : Prop := ∃ u, er u = avT W.heap.size v ∧ okV (heap0 W) u ∧ E a u
theorem up_system {v : Value} (hv : ∃ a, v = .agg a) (h : DataW.trod enc Try.prog W 0 (fun _ => true) true fuel 25 v.cells.toList = .some x) : ∃ s : SysS, UpV W (fun (s : SysS) u => isSysX s u) s v ∧ SysLen s := by
  obtain ⟨cs, rfl⟩ := hv
  have c1 : Try.prog.cellsOf 22 = 1 := by kernel_rfl
  have c2 : Try.prog.cellsOf 23 = 1 := by kernel_rfl
  obtain ⟨xs, n, _, _, hl, hxl, hf⟩ := DataW.trod_struct Try.underlying25 h
  have hxl : xs.length = 2 := hxl
  have hl : cs.toList.length = 2 := hl.trans (by kernel_rfl)
  obtain ⟨a, b, hab⟩ : ∃ a b, cs.toList = [a, b] := by
    match hcs : cs.toList, hl with
    | [a, b], _ => exact ⟨a, b, rfl⟩
  have f0 := hf 0 ⟨ "Vars", 22, 0, false, "", "", 0⟩ rfl
  have f1 := hf 1 ⟨ "Rules", 23, 1, false, "", "", 24⟩ rfl
  rw [List.getElem?_eq_getElem (by omega)] at f0 f1
  simp only [Value.cells, hab, c1, c2, List.drop_zero, List.drop_succ_cons, List.take_succ_cons, List.take_zero] at f0 f1
  obtain ⟨n0, e0, g0⟩ := in_vars f0
  obtain ⟨n1, e1, g1, g2⟩ := in_rules f1
  obtain ⟨u0, p0, q0, r0⟩ := e0.one
  obtain ⟨u1, p1, q1, r1⟩ := e1.one
  refine ⟨⟨n0, n1⟩, ⟨.agg [u0, u1], ?_, by simp only [okV, okL]; exact ⟨q0, q1, trivial⟩, u0, u1, rfl, r0, r1⟩, g0, g1, g2⟩
  simp [er, erl, avT, hab, p0, p1]
end Go.M2

namespace Go.M2
open Go.Proofs
open Go.ChangeShapes Go.WideShapes Go.ChangeAt Go.RowKit
variable {M : MH}
abbrev XII : V → List (List Int) → Prop := In (Ls (fun ys u => XI u ys))
theorem x_szIntSS {v : V} {xs : List (List Int)} {t : Int} (hv : XII v xs) (h0 : LenOk xs) (hx : ∀ ts ∈ xs, LenOk ts) (h1 : 0 ≤ t) (h2 : t ≤ 1048576) :
    VCall Try.prog n_laws_szIntSS [v, .sc (.int .i64 t)] M (fun r M' => M = M' ∧ ∃ k : Int, r = .sc (.int .i64 k) ∧ k ≤ t ∧ (0 ≤ k → xs.length ≤ 1048576 ∧ ∀ ts ∈ xs, ts.length ≤ 1048576)) := by
  refine VCall.pure fun R hR => v_laws_szIntSS rfl ?_
  unfold LenOk at h0 hx
  have hl := hv.len fun _ _ h => h.len
  (repeat' (first | ((with_reducible first | refine cond_dec (fun h => ?_) (fun h => ?_) | refine guardK_dec (fun h => ?_) (fun h => ?_) | refine guardD3_dec (fun h => ?_) (fun h => ?_)) <;> first | (exfalso; omega) | (simp (maxSteps := 2000000) (disch := first | omega | assumption | exact idP rfl | exact idP (bL rfl)) only [go_sem, reduceIte, Nat.reduceEqDiff, wpV_kd, wpV_tH, h, hl]) | skip) | ((with_reducible first | refine cond_split (fun h => ?_) (fun h => ?_) | refine guardK_split (fun h => ?_) (fun h => ?_) | refine guardD3_split (fun h => ?_) (fun h => ?_)) <;> ((try simp only [Bool.not_eq_true', Bool.not_eq_false'] at h); first | (simp (maxSteps := 2000000) (disch := first | omega | assumption | exact idP rfl | exact idP (bL rfl)) only [go_sem, reduceIte, Nat.reduceEqDiff, wpV_kd, wpV_tH, h, hl]) | skip)) | (with_reducible intro bk hbk; try have hnk := (fresh_set hbk).1) | (simp (maxSteps := 2000000) (disch := first | omega | assumption | exact idP rfl | exact idP (bL rfl)) only [go_sem, reduceIte, Nat.reduceEqDiff, wpV_kd, wpV_tH, hl])))
  · exact hR _ _ (sB) ⟨_, rfl, by omega, by omega⟩
  · refine loop_k (fun e M' => M' = M ∧ ∃ (i : Nat) (k : Int), i ≤ xs.length ∧ e 0 = v ∧ e 1 = .sc (.int .i64 k) ∧ e 5 = .sc (.int .i64 i) ∧ 0 ≤ k ∧ k ≤ t ∧ ∀ j (hj : j < xs.length), j < i → xs[j].length ≤ 1048576) (fun e _ => ctrV xs.length (e 5)) ?_ ?_
    · exact ⟨rfl, 0, t - xs.length, by omega, sT0, sT0, by refine sS0 ?_; rfl, by omega, by omega, fun j _ h => by omega⟩
    · rintro e _ ⟨rfl, i, k, hi, e0, e1, e5, k0, k1, hj⟩ K hK
      refine sS4 @e0 @e1 @e5 @hl ?_
      refine cond_dec (fun h => ?_) (fun h => ?_)
      · have hi' : i < xs.length := by omega
        have hv' := hv.get (by omega)
        refine sS4 @e0 @e1 @e5 @hv'.iaddr ?_
        refine (x_szIntS (hv'.elt hi') (hx _ (List.getElem_mem hi')) k0 (by omega)).mono ?_
        rintro _ _ ⟨rfl, k2, rfl, q1, q2⟩
        (repeat' (first | ((with_reducible first | refine cond_dec (fun h => ?_) (fun h => ?_) | refine guardK_dec (fun h => ?_) (fun h => ?_) | refine guardD3_dec (fun h => ?_) (fun h => ?_)) <;> first | (exfalso; omega) | (simp (maxSteps := 2000000) (disch := first | omega | assumption | exact idP rfl | exact idP (bL rfl)) only [go_sem, reduceIte, Nat.reduceEqDiff, wpV_kd, wpV_tH, h]) | skip) | ((with_reducible first | refine cond_split (fun h => ?_) (fun h => ?_) | refine guardK_split (fun h => ?_) (fun h => ?_) | refine guardD3_split (fun h => ?_) (fun h => ?_)) <;> ((try simp only [Bool.not_eq_true', Bool.not_eq_false'] at h); first | (simp (maxSteps := 2000000) (disch := first | omega | assumption | exact idP rfl | exact idP (bL rfl)) only [go_sem, reduceIte, Nat.reduceEqDiff, wpV_kd, wpV_tH, h]) | skip)) | (with_reducible intro bk hbk; try have hnk := (fresh_set hbk).1) | (simp (maxSteps := 2000000) (disch := first | omega | assumption | exact idP rfl | exact idP (bL rfl)) only [go_sem, reduceIte, Nat.reduceEqDiff, wpV_kd, wpV_tH])))
        · exact hR _ _ (sB) ⟨_, rfl, by omega, by omega⟩
        · refine hK _ _ ⟨rfl, i + 1, k2, by omega, sT1 @e0, sT0, by refine sS1 @e5 ?_; rfl, by omega, by omega, fun j hj1 hj2 => ?_⟩ (by refine sS2 @ctrV_int @e5 ?_; omega)
          by_cases hji : j = i
          · subst hji; exact q2 (by omega)
          · exact hj j hj1 (by omega)
      · obtain rfl : i = xs.length := by omega
        refine sS1 @e1 ?_
        refine hR _ _ (sB) ⟨_, rfl, by omega, fun _ => ⟨by omega, fun ts hts => ?_⟩⟩
        obtain ⟨j, hj1, rfl⟩ := List.getElem_of_mem hts
        exact hj j hj1 (by omega)
theorem x_eqIntSS {v w : V} {xs : List (List Int)} (hv : LII v xs) (hw : LII w xs) (hl : xs.length ≤ 1048576) (hl2 : ∀ ts ∈ xs, ts.length ≤ 1048576) : VCall Try.prog n_laws_eqIntSS [v, w] M (fun r M' => M = M' ∧ r = .sc (.bool true)) := by
  refine VCall.pure fun R hR => v_laws_eqIntSS rfl ?_
  (repeat' (first | ((with_reducible first | refine cond_dec (fun h => ?_) (fun h => ?_) | refine guardK_dec (fun h => ?_) (fun h => ?_) | refine guardD3_dec (fun h => ?_) (fun h => ?_)) <;> first | (exfalso; omega) | (simp (maxSteps := 2000000) (disch := first | omega | assumption | exact idP rfl | exact idP (bL rfl)) only [go_sem, reduceIte, Nat.reduceEqDiff, wpV_kd, wpV_tH, h, hv.len, hw.len]) | skip) | ((with_reducible first | refine cond_split (fun h => ?_) (fun h => ?_) | refine guardK_split (fun h => ?_) (fun h => ?_) | refine guardD3_split (fun h => ?_) (fun h => ?_)) <;> ((try simp only [Bool.not_eq_true', Bool.not_eq_false'] at h); first | (simp (maxSteps := 2000000) (disch := first | omega | assumption | exact idP rfl | exact idP (bL rfl)) only [go_sem, reduceIte, Nat.reduceEqDiff, wpV_kd, wpV_tH, h, hv.len, hw.len]) | skip)) | (with_reducible intro bk hbk; try have hnk := (fresh_set hbk).1) | (simp (maxSteps := 2000000) (disch := first | omega | assumption | exact idP rfl | exact idP (bL rfl)) only [go_sem, reduceIte, Nat.reduceEqDiff, wpV_kd, wpV_tH, hv.len, hw.len])))
  refine loop_k (fun e M' => M' = M ∧ ∃ i : Nat, i ≤ xs.length ∧ e 0 = v ∧ e 1 = w ∧ e 5 = .sc (.int .i64 i)) (fun e _ => ctrV xs.length (e 5)) ?_ ?_
  · exact ⟨rfl, 0, by omega, sT0, sT0, by refine sS0 ?_; rfl⟩
  · rintro e _ ⟨rfl, i, hi, e0, e1, e5⟩ K hK
    refine sS4 @e0 @e1 @e5 @hv.len ?_
    refine cond_dec (fun h => ?_) (fun h => ?_)
    · have hi' : i < xs.length := by omega
      refine sS5 @e0 @e1 @e5 @hv.iaddr @hw.iaddr ?_
      refine (x_eqIntS (hv.elt hi') (hw.elt hi') (hl2 _ (List.getElem_mem hi'))).mono ?_
      rintro _ _ ⟨rfl, rfl⟩
      have ei : decide (xs[i] = xs[i]) = true := by simp
      refine sS4 @ei @e0 @e1 @e5 ?_
      exact hK _ _ ⟨rfl, i + 1, by omega, sT1 @e0, sT1 @e1, by refine sS1 @e5 ?_; rfl⟩ (by refine sS2 @ctrV_int @e5 ?_; omega)
    · obtain rfl : i = xs.length := by omega
      refine sS0 ?_
      exact hR _ _ (sB) rfl
variable {HH : Type} {enc : TypeId × Value → HH} {W : World} {fuel : Nat} {cs : List Value} {x : DataW HH × List MemPlace}
theorem in_intss (h : DataW.trod enc Try.prog W 0 (fun _ => true) true fuel 26 cs = .some x) : ∃ ts : List (List Int), LiftE W (E1 (fun (ys : List (List Int)) u => XII u ys)) ts cs ∧ (LenOk ts ∧ ∀ t ∈ ts, LenOk t) :=
  in_list1 (E := fun (ts : List Int) u => XI u ts) (good := fun ts => LenOk ts) Try.underlying26 (by kernel_rfl) (fun n cs x h => in_ints h) h
end Go.M2

namespace Go.M2
open Go.Proofs
variable {M : MH}
theorem Mem.base {M0 M1 M : MH} {f : List (Nat × List V)} (h : Mem M1 M f) (hs : Sub M0 M1) : Mem M0 M f := ⟨hs.trans h.sub, fun p hp => hs.none (h.new p hp), h.nd, h.at_⟩
theorem Mem.tail {M0 M : MH} {p : Nat × List V} {f : List (Nat × List V)} (h : Mem M0 M (p :: f)) : Mem M0 M f := Mem.right (f := [p]) h
theorem Mem.hd {M0 M : MH} {b : Nat} {l : List V} {f : List (Nat × List V)} (h : Mem M0 M ((b, l) :: f)) : M b = .some l := h.at_ _ (List.mem_cons_self ..)
def DnL (M0 M : MH) (l : List V) (p : List V → Prop) : Prop := ∃ l' fp, Tr l l' fp ∧ Mem M0 M fp ∧ flatL l ∧ (∀ q ∈ fp, flatL q.2) ∧ p l'
def One (v : V) : Prop := oneV v = true ∧ cellsV v = .some [v]
theorem Ow.flat {sz : Nat} {M : MH} {v : V} {l : List V} (h : Ow sz M v l) : flat v := by
  rcases h with ⟨_, k, rfl⟩ | ⟨b, n, ex, rfl, _⟩ <;> simp [Go.M2.flat]
theorem catV_flat {α : Type} {enc : α → List V} (he : ∀ x, flatL (enc x)) : ∀ xs : List α, flatL (catV enc xs)
  | [] => by simp [catV, flatL]
  | x :: t => flatL_all.2 fun v hv => by
    have ih := catV_flat he t
    simp only [catV, List.map_cons, List.flatten_cons, List.mem_append] at hv
    rcases hv with h1 | h1
    · exact flatL_all.1 (he x) v h1
    · exact flatL_all.1 ih v h1
theorem encT_flat (x : TermS) : flatL (encT x) := by simp [encT, flatL, flat]
theorem encVar_flat (x : VarS) : flatL (encVar x) := by simp [encVar, flatL, flat]
theorem d_toTermS {v : V} {xs : List TermS} (hv : XT v xs) (hl : xs.length ≤ 1048576) : VCall Try.prog n_laws_toTermS [v] M (fun r M' => One r ∧ Dn M M' r (fun u => LT u xs)) :=
  (x_toTermS hv hl).mono fun r M' h => ⟨h.one, h.dn (catV_flat encT_flat xs) fun u hu => hu.lc (by omega) (catV_len (sz := 4) (enc := encT) (fun _ => rfl) xs) fun i hi => catV_at (sz := 4) (enc := encT) (fun _ => rfl) hi⟩
theorem d_toVarS {v : V} {xs : List VarS} (hv : XVar v xs) (hl : xs.length ≤ 1048576) : VCall Try.prog n_laws_toVarS [v] M (fun r M' => One r ∧ Dn M M' r (fun u => LVar u xs)) :=
  (x_toVarS hv hl).mono fun r M' h => ⟨h.one, h.dn (catV_flat encVar_flat xs) fun u hu => hu.lc (by omega) (catV_len (sz := 3) (enc := encVar) (fun _ => rfl) xs) fun i hi => catV_at (sz := 3) (enc := encVar) (fun _ => rfl) hi⟩
theorem d_toIntS {v : V} {xs : List Int} (hv : XI v xs) (hl : xs.length ≤ 1048576) : VCall Try.prog n_laws_toIntS [v] M (fun r M' => One r ∧ Dn M M' r (fun u => LI u xs)) :=
  (x_toIntS hv hl).mono fun r M' h => ⟨h.one, h.dn (flatL_vi xs) fun u hu => hu.li⟩
theorem d_toTermSS {v : V} {xs : List (List TermS)} (hv : XTT v xs) (hl : xs.length ≤ 1048576) (hx : ∀ ts ∈ xs, ts.length ≤ 1048576) : VCall Try.prog n_laws_toTermSS [v] M (fun r M' => One r ∧ Dn M M' r (fun u => LTT u xs)) := by
  refine VCall.plain fun R hR => v_laws_toTermSS rfl ?_
  have hlen := hv.len fun _ _ h => h.len
  refine sS1 @hlen ?_
  refine mks3 (by omega) (by simp [mostCells]; omega) (by simp [mostCells]; omega) ?_
  intro b3 hb3
  simp (maxSteps := 2000000) (disch := first | omega | assumption | exact idP rfl | exact idP (bL rfl)) only [go_sem, reduceIte, Nat.reduceEqDiff, wpV_kd, wpV_tH, zeros_nil]
  refine loop_k (fun e M' => ∃ (i : Nat) (us us' : List V) (fp : List (Nat × List V)), i ≤ xs.length ∧ e 0 = v ∧ e 3 = .sc (.sl (some (b3, 0)) xs.length xs.length true 1) ∧ e 4 = .sc (.int .i64 i) ∧ Tr us us' fp ∧ Mem M M' ((b3, us ++ List.replicate (xs.length - i) nil1) :: fp) ∧ flatL us ∧ (∀ q ∈ fp, flatL q.2) ∧ Cs (fun ts u => LT u ts) us' (xs.take i)) (fun e _ => ctrV xs.length (e 4)) ?_ ?_
  · exact ⟨0, [], [], [], by omega, sT0, sT0, by refine sS0 ?_; rfl, .nil, by simpa using (Mem.nil (Sub.refl M)).new1 hb3, by simp [flatL], fun q hq => (by cases hq), .nil⟩
  · rintro e M1 ⟨i, us, us', fp, hi, e0, e3, e4, htr, hmem, hfl, hff, hc⟩ K hK
    have hul : us.length = i := by have := hc.1; have h2 := htr.len; simp at this; omega
    have hm := hmem.hd
    refine sS4 @e0 @e3 @e4 @hlen ?_
    refine cond_dec (fun h => ?_) (fun h => ?_)
    · have hi' : i < xs.length := by omega
      have hv' := hv.get (by omega)
      obtain ⟨q, hq⟩ : ∃ q, xs.length - i = q + 1 := ⟨xs.length - i - 1, by omega⟩
      rw [hq, List.replicate_succ] at hm hmem
      refine sS4 @e0 @e3 @e4 @hv'.iaddr ?_
      refine (d_toTermS (hv'.elt hi') (hx _ (List.getElem_mem hi'))).mono ?_
      rintro r M2 ⟨⟨hr1, hr2⟩, r', g, t1, t2, t3, t4, hr⟩
      have hmem2 := hmem.add t2
      rw [List.cons_append] at hmem2
      have hm2 := hmem2.hd
      have hsm : (us ++ nil1 :: List.replicate q nil1).set i r = us ++ r :: List.replicate q nil1 := set_mid hul
      have hnl3 : i < (us ++ nil1 :: List.replicate q nil1).length := by simp; omega
      refine sS6 @e0 @e3 @e4 @hm2 @hr2 @hsm ?_
      refine hK _ _ ⟨i + 1, us ++ [r], us' ++ [r'], fp ++ g, by omega, sT0, sT0, by refine sS0 ?_; rfl, htr.append t1, ?_, ?_, ?_, ?_⟩ (by refine sS2 @ctrV_int @e4 ?_; omega)
      · have := hmem2.upd (l' := us ++ r :: List.replicate q nil1)
        simpa [show xs.length - (i + 1) = q by omega] using this
      · exact flatL_all.2 fun w hw => by
          rcases List.mem_append.1 hw with h1 | h1
          · exact flatL_all.1 hfl w h1
          · rw [List.mem_singleton] at h1; subst h1; exact t3
      · intro w hw
        rcases List.mem_append.1 hw with h1 | h1
        · exact hff w h1
        · exact t4 w h1
      · rw [take_snoc hi']
        exact hc.snoc hr
    · obtain rfl : i = xs.length := by omega
      rw [List.take_length] at hc
      refine sS1 @e3 ?_
      simp only [Nat.sub_self, List.replicate_zero, List.append_nil] at hmem
      have hul' : us'.length = xs.length := hc.1
      refine hR _ _ ⟨⟨rfl, rfl⟩, .fs (some (b3, 0)) xs.length xs.length true 1 (us'.drop 0), (b3, us) :: (fp ++ []), .sl htr .nil, by simpa using hmem, by simp [flat], fun q hq => ?_, ?_⟩
      · simp only [List.append_nil, List.mem_cons] at hq
        rcases hq with rfl | h1
        · exact hfl
        · exact hff q h1
      · exact Fr.lsC (us := us') (.inr ⟨_, _, _, _, _, by rw [List.drop_zero], by omega⟩) hc
theorem d_toRule {cs : List V} {r : RuleS} (hv : isRuleX r cs) (hf : RuleFit r) : VCall Try.prog n_laws_toRule [.agg cs] M (fun r' M' => ∃ ds, r' = .agg ds ∧ ds.length = 3 ∧ ds.all oneV = true ∧ DnL M M' ds (isRule r)) := by
  refine VCall.plain fun R hR => v_laws_toRule rfl ?_
  obtain ⟨a, b, c, rfl, ha, hb, hc⟩ := hv
  obtain ⟨f1, f2, f3, f4⟩ := hf
  refine sS0 ?_
  intro b1 hb1
  try simp (maxSteps := 2000000) (disch := first | omega | assumption | exact idP rfl | exact idP (bL rfl)) only [go_sem, reduceIte, Nat.reduceEqDiff, wpV_kd, wpV_tH]
  intro b2 hb2
  try simp (maxSteps := 2000000) (disch := first | omega | assumption | exact idP rfl | exact idP (bL rfl)) only [go_sem, reduceIte, Nat.reduceEqDiff, wpV_kd, wpV_tH]
  intro b3 hb3
  have n21 := (fresh_set hb2).1
  have n32 := (fresh_set hb3).1
  have n31 := (fresh_set (fresh_set hb3).2).1
  have m0 := (((Mem.nil (Sub.refl M)).new1 hb1).new1 hb2).new1 (l := [.sc (.sl none 0 0 true 0), .sc (.sl none 0 0 true 0), .sc (.sl none 0 0 true 0)]) hb3
  refine sS0 ?_
  refine (d_toTermS ha f1).mono ?_
  rintro x M2 ⟨⟨hx1, hx2⟩, x', gx, tx, mx, fx, ffx, hx⟩
  have m1 := m0.add mx
  simp only [List.cons_append, List.nil_append] at m1
  have q1 := m1.hd
  have q2 := m1.tail.hd
  have q3 := m1.tail.tail.hd
  refine sS4 @q1 @q2 @q3 @hx2 ?_
  have m2 := m1.upd (l' := [x, nil1, nil1])
  simp only [nil1] at m2
  refine (d_toIntS hb f2).mono ?_
  rintro y M3 ⟨⟨hy1, hy2⟩, y', gy, ty, my, fy, ffy, hy⟩
  have m3 := m2.add my
  simp only [List.cons_append, List.nil_append] at m3
  have q1 := m3.hd
  have q2 := m3.tail.hd
  have q3 := m3.tail.tail.hd
  refine sS4 @q1 @q2 @q3 @hy2 ?_
  have m4 := m3.upd (l' := [x, y, nil1])
  simp only [nil1] at m4
  refine (d_toTermSS hc f3 f4).mono ?_
  rintro z M4 ⟨⟨hz1, hz2⟩, z', gz, tz, mz, fz, ffz, hz⟩
  have m5 := m4.add mz
  simp only [List.cons_append, List.nil_append] at m5
  have q1 := m5.hd
  have q2 := m5.tail.hd
  have q3 := m5.tail.tail.hd
  refine sS4 @q1 @q2 @q3 @hz2 ?_
  have m6 := (m5.upd (l' := [x, y, z])).perm (List.Perm.swap ..)
  have m7 := m6.upd (l' := [x, y, z])
  refine hR _ _ ⟨[x, y, z], rfl, rfl, by simp [hx1, hy1, hz1], [x', y', z'], gx ++ gy ++ gz, (tx.append ty).append tz, m7.tail.tail.tail, ?_, fun q hq => ?_, x', y', z', rfl, hx, hy, hz⟩
  · simp only [flatL]; exact ⟨fx, fy, fz, trivial⟩
  · rcases List.mem_append.1 hq with h1 | h1
    · rcases List.mem_append.1 h1 with h2 | h2
      · exact ffx q h2
      · exact ffy q h2
    · exact ffz q h1
theorem d_toRuleS {v : V} {xs : List RuleS} (hv : XR v xs) (hl : xs.length ≤ 1048576) (hx : ∀ r ∈ xs, RuleFit r) : VCall Try.prog n_laws_toRuleS [v] M (fun r M' => One r ∧ Dn M M' r (fun u => LR u xs)) := by
  refine VCall.plain fun R hR => v_laws_toRuleS rfl ?_
  have hlen := hv.len fun _ _ h => h.len
  have henc : ∀ x : T3, x.val.length = 3 := fun x => x.property
  refine sS1 @hlen ?_
  refine mks3 (by omega) (by simp [mostCells]; omega) (by simp [mostCells]; omega) ?_
  intro b3 hb3
  simp (maxSteps := 2000000) (disch := first | omega | assumption | exact idP rfl | exact idP (bL rfl)) only [go_sem, reduceIte, Nat.reduceEqDiff, wpV_kd, wpV_tH, zeros_cat (enc := fun x : T3 => x.val) (z := z3) (zs := [AV.sl none 0 0 true 0, AV.sl none 0 0 true 0, AV.sl none 0 0 true 0]) rfl]
  refine loop_k (fun e M' => ∃ (i : Nat) (us us' : List T3) (fp : List (Nat × List V)), i ≤ xs.length ∧ us.length = i ∧ us'.length = i ∧ e 0 = v ∧ e 3 = .sc (.sl (some (b3, 0)) xs.length xs.length true 3) ∧ e 4 = .sc (.int .i64 i) ∧ Tr (catV (fun x : T3 => x.val) us) (catV (fun x : T3 => x.val) us') fp ∧ Mem M M' ((b3, catV (fun x : T3 => x.val) us ++ catV (fun x : T3 => x.val) (List.replicate (xs.length - i) z3)) :: fp) ∧ flatL (catV (fun x : T3 => x.val) us) ∧ (∀ q ∈ fp, flatL q.2) ∧ ∀ j (h1 : j < xs.length) (h2 : j < us'.length), isRule xs[j] us'[j].val) (fun e _ => ctrV xs.length (e 4)) ?_ ?_
  · exact ⟨0, [], [], [], by omega, rfl, rfl, sT0, sT0, by refine sS0 ?_; rfl, .nil, by simpa [catV] using (Mem.nil (Sub.refl M)).new1 hb3, by simp [catV, flatL], fun q hq => (by cases hq), fun j _ h => by simp at h⟩
  · rintro e M1 ⟨i, us, us', fp, hi, hul, hul', e0, e3, e4, htr, hmem, hfl, hff, hc⟩ K hK
    have hm := hmem.hd
    refine sS4 @e0 @e3 @e4 @hlen ?_
    refine cond_dec (fun h => ?_) (fun h => ?_)
    · have hi' : i < xs.length := by omega
      have hv' := hv.get (by omega)
      have hcs := hv'.elt hi'
      have hrule := hcs
      obtain ⟨c1, c2, c3, hat, _, _, _⟩ := hcs
      rw [hat] at hrule
      refine sS5 @e0 @e3 @e4 @hv'.iaddr @hat ?_
      refine (d_toRule hrule (hx _ (List.getElem_mem hi'))).mono ?_
      rintro _ M2 ⟨ds, rfl, hd3, hd1, ds', g, t1, t2, t3, t4, hr⟩
      have hmem2 := hmem.add t2
      rw [List.cons_append] at hmem2
      have hm2 := hmem2.hd
      have hd3' : ds'.length = 3 := by rw [t1.len, hd3]
      refine sS4 @e0 @e3 @e4 @hm2 ?_
      refine ⟨hd3, hd1, ?_, ?_⟩
      · rw [List.length_append, catV_len henc, catV_len henc, hul, List.length_replicate]; omega
      rw [show xs.length - i = (xs.length - (i + 1)) + 1 by omega, cat_set (x := (⟨ds, hd3⟩ : T3)) henc (by rw [hul])]
      refine sS3 @e0 @e3 @e4 ?_
      have hca : catV (fun x : T3 => x.val) (us ++ [⟨ds, hd3⟩]) = catV (fun x : T3 => x.val) us ++ ds := catV_snoc
      have hca' : catV (fun x : T3 => x.val) (us' ++ [⟨ds', hd3'⟩]) = catV (fun x : T3 => x.val) us' ++ ds' := catV_snoc
      refine hK _ _ ⟨i + 1, us ++ [⟨ds, hd3⟩], us' ++ [⟨ds', hd3'⟩], fp ++ g, by omega, by simp [hul], by simp [hul'], sT0, sT0, by refine sS0 ?_; rfl, ?_, ?_, ?_, ?_, fun j h1 h2 => ?_⟩ (by refine sS2 @ctrV_int @e4 ?_; omega)
      · rw [hca, hca']; exact htr.append t1
      · exact hmem2.upd
      · rw [hca]
        exact flatL_all.2 fun w hw => by
          rcases List.mem_append.1 hw with h1 | h1
          · exact flatL_all.1 hfl w h1
          · exact flatL_all.1 t3 w h1
      · intro w hw
        rcases List.mem_append.1 hw with h1 | h1
        · exact hff w h1
        · exact t4 w h1
      · by_cases hj : j < us'.length
        · rw [List.getElem_append_left hj]; exact hc j h1 hj
        · obtain rfl : j = us'.length := by simp at h2; omega
          have e9 : us'.length = i := hul'
          simp only [List.getElem_append_right (Nat.le_refl _), Nat.sub_self, List.getElem_cons_zero]
          simp only [e9]
          exact hr
    · obtain rfl : i = xs.length := by omega
      refine sS1 @e3 ?_
      have hcz : catV (fun x : T3 => x.val) (List.replicate (xs.length - xs.length) z3) = [] := by simp [catV]
      rw [hcz, List.append_nil] at hmem
      have hcl := catV_len henc us'
      refine hR _ _ ⟨⟨rfl, rfl⟩, .fs (some (b3, 0)) xs.length xs.length true 3 ((catV (fun x : T3 => x.val) us').drop 0), (b3, catV (fun x : T3 => x.val) us) :: (fp ++ []), .sl htr .nil, by simpa using hmem, by simp [flat], fun q hq => ?_, ?_⟩
      · simp only [List.append_nil, List.mem_cons] at hq
        rcases hq with rfl | h1
        · exact hfl
        · exact hff q h1
      · exact Fr.lc (l := catV (fun x : T3 => x.val) us') (.inr ⟨_, _, _, _, _, by rw [List.drop_zero], by rw [hcl, hul']⟩) (by omega) (by rw [hcl, hul']) fun j hj => by rw [catV_at henc (by omega)]; exact hc j hj (by omega)
theorem d_toSystem {v : V} {s : SysS} (hv : isSysX s v) (hf : SysFit s) : VCall Try.prog n_laws_toSystem [v] M (fun r' M' => ∃ x y, r' = .agg [x, y] ∧ One x ∧ One y ∧ DnL M M' [x, y] (fun l => ∃ x' y', l = [x', y'] ∧ LVar x' s.vars ∧ LR y' s.rules)) := by
  refine VCall.plain fun R hR => v_laws_toSystem rfl ?_
  obtain ⟨a, b, rfl, ha, hb⟩ := hv
  obtain ⟨f1, f2, f3⟩ := hf
  refine sS0 ?_
  intro b1 hb1
  try simp (maxSteps := 2000000) (disch := first | omega | assumption | exact idP rfl | exact idP (bL rfl)) only [go_sem, reduceIte, Nat.reduceEqDiff, wpV_kd, wpV_tH]
  intro b2 hb2
  try simp (maxSteps := 2000000) (disch := first | omega | assumption | exact idP rfl | exact idP (bL rfl)) only [go_sem, reduceIte, Nat.reduceEqDiff, wpV_kd, wpV_tH]
  intro b3 hb3
  have n21 := (fresh_set hb2).1
  have n32 := (fresh_set hb3).1
  have n31 := (fresh_set (fresh_set hb3).2).1
  have m0 := (((Mem.nil (Sub.refl M)).new1 hb1).new1 hb2).new1 (l := [.sc (.sl none 0 0 true 0), .sc (.sl none 0 0 true 0)]) hb3
  refine sS0 ?_
  refine (d_toVarS ha f1).mono ?_
  rintro x M2 ⟨⟨hx1, hx2⟩, x', gx, tx, mx, fx, ffx, hx⟩
  have m1 := m0.add mx
  simp only [List.cons_append, List.nil_append] at m1
  have q1 := m1.hd
  have q2 := m1.tail.hd
  have q3 := m1.tail.tail.hd
  refine sS4 @q1 @q2 @q3 @hx2 ?_
  have m2 := m1.upd (l' := [x, nil1])
  simp only [nil1] at m2
  refine (d_toRuleS hb f2 f3).mono ?_
  rintro y M3 ⟨⟨hy1, hy2⟩, y', gy, ty, my, fy, ffy, hy⟩
  have m3 := m2.add my
  simp only [List.cons_append, List.nil_append] at m3
  have q1 := m3.hd
  have q2 := m3.tail.hd
  have q3 := m3.tail.tail.hd
  refine sS4 @q1 @q2 @q3 @hy2 ?_
  have m6 := (m3.upd (l' := [x, y])).perm (List.Perm.swap ..)
  have m7 := m6.upd (l' := [x, y])
  refine hR _ _ ⟨x, y, rfl, ⟨hx1, hx2⟩, ⟨hy1, hy2⟩, [x', y'], gx ++ gy, tx.append ty, m7.tail.tail.tail, ?_, fun q hq => ?_, x', y', rfl, hx, hy⟩
  · simp only [flatL]; exact ⟨fx, fy, trivial⟩
  · rcases List.mem_append.1 hq with h2 | h2
    · exact ffx q h2
    · exact ffy q h2
end Go.M2

namespace Go.M2
open Go.Proofs
variable {M : MH}
def LfM (sz : Nat) (M : MH) (v : V) (ok : Nat → Prop) : Prop := (∃ q, v = .sc (.sl none 0 0 true q)) ∨ ∃ (b o n c : Nat) (ex : Bool) (kk : Nat) (l : List V), v = .sc (.sl (some (b, o)) n c ex kk) ∧ M b = .some l ∧ (0 < n → o + n * sz ≤ l.length) ∧ n ≤ 1048576 ∧ ok b
def mkPost (M : MH) (k d : Int) (ok : Nat → Prop) : V → MH → Prop := fun r M' => ∃ k' : Int, r = .sc (.int .i64 k') ∧ k ≤ k' ∧ k' ≤ k + d ∧ ∀ q, ¬ ok q → M' q = M q
theorem t_markIntS {v : V} {k : Int} {ok : Nat → Prop} (hv : LfM 1 M v ok) (hk : 0 ≤ k) (hk2 : k ≤ 9000000000000000000) : VCall Try.prog n_laws_markIntS [v, .sc (.int .i64 k)] M (mkPost M k 1048576 ok) := by
  refine VCall.plain fun R hR => v_laws_markIntS rfl ?_
  rcases hv with ⟨q, rfl⟩ | ⟨b, o, n, c, ex, kk, l, rfl, hm, hl, hn, hok⟩
  · refine sS0 ?_
    refine loop_k (fun e M' => M' = M ∧ e 0 = .sc (.sl none 0 0 true q) ∧ e 1 = .sc (.int .i64 k) ∧ e 5 = .sc (.int .i64 0)) (fun e _ => 0) ⟨rfl, sT0, sT0, sT0⟩ ?_
    rintro e _ ⟨rfl, e0, e1, e5⟩ K hK
    refine sS3 @e0 @e1 @e5 ?_
    exact hR _ _ ⟨k, rfl, by omega, by omega, fun q _ => rfl⟩
  · refine sS0 ?_
    refine loop_k (fun e M' => ∃ (i : Nat) (l' : List V), i ≤ n ∧ e 0 = .sc (.sl (some (b, o)) n c ex kk) ∧ e 1 = .sc (.int .i64 (k + i)) ∧ e 5 = .sc (.int .i64 i) ∧ (∀ q, q ≠ b → M' q = M q) ∧ M' b = .some l' ∧ l'.length = l.length) (fun e _ => ctrV n (e 5)) ?_ ?_
    · exact ⟨0, l, by omega, sT0, by refine sS0 ?_; simp, by refine sS0 ?_; rfl, fun _ _ => rfl, hm, rfl⟩
    · rintro e M1 ⟨i, l', hi, e0, e1, e5, hq, hm1, hl1⟩ K hK
      refine sS3 @e0 @e1 @e5 ?_
      refine cond_dec (fun h => ?_) (fun h => ?_)
      · have hl := hl (by omega)
        have hso : o + i * 1 < l'.length := by omega
        have hso2 : o + i < l'.length := by omega
        refine sS4 @e0 @e1 @e5 @hm1 ?_
        exact hK _ _ ⟨i + 1, _, by omega, sT1 @e0, by refine sS0 ?_; rw [Int.natCast_add, Int.add_assoc]; rfl, by refine sS0 ?_; rfl, fun q hqb => by rw [set_ne hqb]; exact hq q hqb, set_same, by simp [hl1]⟩ (by refine sS2 @ctrV_int @e5 ?_; omega)
      · obtain rfl : i = n := by omega
        refine sS1 @e1 ?_
        exact hR _ _ ⟨_, rfl, by omega, by omega, fun q hq1 => hq q fun e => hq1 (by rw [e]; exact hok)⟩
theorem t_markVarS {v : V} {k : Int} {ok : Nat → Prop} (hv : LfM 3 M v ok) (hk : 0 ≤ k) (hk2 : k ≤ 9000000000000000000) : VCall Try.prog n_laws_markVarS [v, .sc (.int .i64 k)] M (mkPost M k 3145728 ok) := by
  refine VCall.plain fun R hR => v_laws_markVarS rfl ?_
  rcases hv with ⟨q, rfl⟩ | ⟨b, o, n, c, ex, kk, l, rfl, hm, hl, hn, hok⟩
  · refine sS0 ?_
    refine loop_k (fun e M' => M' = M ∧ e 0 = .sc (.sl none 0 0 true q) ∧ e 1 = .sc (.int .i64 k) ∧ e 5 = .sc (.int .i64 0)) (fun e _ => 0) ⟨rfl, sT0, sT0, sT0⟩ ?_
    rintro e _ ⟨rfl, e0, e1, e5⟩ K hK
    refine sS3 @e0 @e1 @e5 ?_
    exact hR _ _ ⟨k, rfl, by omega, by omega, fun q _ => rfl⟩
  · refine sS0 ?_
    refine loop_k (fun e M' => ∃ (i : Nat) (l' : List V), i ≤ n ∧ e 0 = .sc (.sl (some (b, o)) n c ex kk) ∧ e 1 = .sc (.int .i64 (k + 3 * i)) ∧ e 5 = .sc (.int .i64 i) ∧ (∀ q, q ≠ b → M' q = M q) ∧ M' b = .some l' ∧ l'.length = l.length) (fun e _ => ctrV n (e 5)) ?_ ?_
    · exact ⟨0, l, by omega, sT0, by refine sS0 ?_; simp, by refine sS0 ?_; rfl, fun _ _ => rfl, hm, rfl⟩
    · rintro e M1 ⟨i, l', hi, e0, e1, e5, hq, hm1, hl1⟩ K hK
      refine sS3 @e0 @e1 @e5 ?_
      refine cond_dec (fun h => ?_) (fun h => ?_)
      · have hl := hl (by omega)
        have hso : o + i * 3 < l'.length := by omega
        have hso2 : ∀ x, o + i * 3 + 1 < (l'.set (o + i * 3) x).length := fun x => by rw [List.length_set]; omega
        have hso3 : ∀ x y, o + i * 3 + 2 < ((l'.set (o + i * 3) x).set (o + i * 3 + 1) y).length := fun x y => by rw [List.length_set, List.length_set]; omega
        have hs2 := hso2 (.sc (.int .i64 (k + 3 * (i : Int))))
        have hs3 := hso3 (.sc (.int .i64 (k + 3 * (i : Int)))) (.sc (.int .i64 (k + 3 * (i : Int) + 1)))
        refine sS4 @e0 @e1 @e5 @hm1 ?_
        exact hK _ _ ⟨i + 1, _, by omega, sT1 @e0, by refine sS0 ?_; congr 2; omega, by refine sS0 ?_; rfl, fun q hqb => by simp only [MH.set, if_neg hqb]; exact hq q hqb, set_same, by simp [hl1]⟩ (by refine sS2 @ctrV_int @e5 ?_; omega)
      · obtain rfl : i = n := by omega
        refine sS1 @e1 ?_
        exact hR _ _ ⟨_, rfl, by omega, by omega, fun q hq1 => hq q fun e => hq1 (by rw [e]; exact hok)⟩
theorem t_markTermS {v : V} {k : Int} {ok : Nat → Prop} (hv : LfM 4 M v ok) (hk : 0 ≤ k) (hk2 : k ≤ 9000000000000000000) : VCall Try.prog n_laws_markTermS [v, .sc (.int .i64 k)] M (mkPost M k 4194304 ok) := by
  refine VCall.plain fun R hR => v_laws_markTermS rfl ?_
  rcases hv with ⟨q, rfl⟩ | ⟨b, o, n, c, ex, kk, l, rfl, hm, hl, hn, hok⟩
  · refine sS0 ?_
    refine loop_k (fun e M' => M' = M ∧ e 0 = .sc (.sl none 0 0 true q) ∧ e 1 = .sc (.int .i64 k) ∧ e 5 = .sc (.int .i64 0)) (fun e _ => 0) ⟨rfl, sT0, sT0, sT0⟩ ?_
    rintro e _ ⟨rfl, e0, e1, e5⟩ K hK
    refine sS3 @e0 @e1 @e5 ?_
    exact hR _ _ ⟨k, rfl, by omega, by omega, fun q _ => rfl⟩
  · refine sS0 ?_
    refine loop_k (fun e M' => ∃ (i : Nat) (l' : List V), i ≤ n ∧ e 0 = .sc (.sl (some (b, o)) n c ex kk) ∧ e 1 = .sc (.int .i64 (k + 4 * i)) ∧ e 5 = .sc (.int .i64 i) ∧ (∀ q, q ≠ b → M' q = M q) ∧ M' b = .some l' ∧ l'.length = l.length) (fun e _ => ctrV n (e 5)) ?_ ?_
    · exact ⟨0, l, by omega, sT0, by refine sS0 ?_; simp, by refine sS0 ?_; rfl, fun _ _ => rfl, hm, rfl⟩
    · rintro e M1 ⟨i, l', hi, e0, e1, e5, hq, hm1, hl1⟩ K hK
      refine sS3 @e0 @e1 @e5 ?_
      refine cond_dec (fun h => ?_) (fun h => ?_)
      · have hl := hl (by omega)
        have hso : o + i * 4 < l'.length := by omega
        have hso2 : ∀ x, o + i * 4 + 1 < (l'.set (o + i * 4) x).length := fun x => by rw [List.length_set]; omega
        have hso3 : ∀ x y, o + i * 4 + 2 < ((l'.set (o + i * 4) x).set (o + i * 4 + 1) y).length := fun x y => by rw [List.length_set, List.length_set]; omega
        have hso4 : ∀ x y z, o + i * 4 + 3 < (((l'.set (o + i * 4) x).set (o + i * 4 + 1) y).set (o + i * 4 + 2) z).length := fun x y z => by rw [List.length_set, List.length_set, List.length_set]; omega
        have hs2 := hso2 (.sc (.int .i64 (k + 4 * (i : Int))))
        have hs3 := hso3 (.sc (.int .i64 (k + 4 * (i : Int)))) (.sc (.int .i64 (k + 4 * (i : Int) + 1)))
        have hs4 := hso4 (.sc (.int .i64 (k + 4 * (i : Int)))) (.sc (.int .i64 (k + 4 * (i : Int) + 1))) (.sc (.int .i64 (k + 4 * (i : Int) + 1 + 1)))
        refine sS4 @e0 @e1 @e5 @hm1 ?_
        exact hK _ _ ⟨i + 1, _, by omega, sT1 @e0, by refine sS0 ?_; congr 2; omega, by refine sS0 ?_; rfl, fun q hqb => by simp only [MH.set, if_neg hqb]; exact hq q hqb, set_same, by simp [hl1]⟩ (by refine sS2 @ctrV_int @e5 ?_; omega)
      · obtain rfl : i = n := by omega
        refine sS1 @e1 ?_
        exact hR _ _ ⟨_, rfl, by omega, by omega, fun q hq1 => hq q fun e => hq1 (by rw [e]; exact hok)⟩
end Go.M2

namespace Go.M2
open Go.Proofs
variable {M : MH}
theorem Tr.inv1 {x : V} {l' : List V} {fp : List (Nat × List V)} (h : Tr [x] l' fp) : (l' = [x] ∧ fp = []) ∨ (∃ b o n c ex k cs cs' g, x = .sc (.sl (some (b, o)) n c ex k) ∧ l' = [.fs (some (b, o)) n c ex k (cs'.drop o)] ∧ Tr cs cs' g ∧ fp = (b, cs) :: g) ∨ (∃ a a', l' = [V.agg a'] ∧ x = .agg a) ∨ (∃ a a', l' = [V.tup a'] ∧ x = .tup a) := by
  cases h with
  | keep v h1 => cases h1; exact .inl ⟨rfl, rfl⟩
  | sl h1 h2 => cases h2; exact .inr (.inl ⟨_, _, _, _, _, _, _, _, _, rfl, rfl, h1, by simp⟩)
  | agg h1 h2 => cases h2; exact .inr (.inr (.inl ⟨_, _, rfl, rfl⟩))
  | tup h1 h2 => cases h2; exact .inr (.inr (.inr ⟨_, _, rfl, rfl⟩))
theorem Tr.uncons {x : V} {t l' : List V} {fp : List (Nat × List V)} (h : Tr (x :: t) l' fp) : ∃ x' t' f1 f2, l' = x' :: t' ∧ fp = f1 ++ f2 ∧ Tr [x] [x'] f1 ∧ Tr t t' f2 := by
  obtain ⟨a', b', f1, f2, rfl, rfl, h1, h2⟩ := Tr.split (a := [x]) (b := t) (b' := []) (by simpa using h)
  have := h1.len
  match a', this with
  | [x'], _ => exact ⟨x', b', f1, f2, rfl, rfl, h1, h2⟩
theorem Tr.win {x x' : V} {fp : List (Nat × List V)} {sz : Nat} {α : Type} {E : α → List V → Prop} {ys : List α} (h : Tr [x] [x'] fp) (hf : flat x) (hx : Lc sz E x' ys) :
    (∃ q, x = .sc (.sl none 0 0 true q) ∧ ys = []) ∨ ∃ b o c ex k cs cs' g, x = .sc (.sl (some (b, o)) ys.length c ex k) ∧ Tr cs cs' g ∧ fp = (b, cs) :: g ∧ (0 < ys.length * sz → o + ys.length * sz ≤ cs.length) ∧ ∀ i (hi : i < ys.length), E ys[i] ((cs'.drop (o + i * sz)).take sz) := by
  rcases h.inv1 with ⟨h1, h2⟩ | ⟨b, o, n, c, ex, k, cs, cs', g, rfl, h1, h2, rfl⟩ | ⟨a, a', h1, rfl⟩ | ⟨a, a', h1, rfl⟩
  · rw [List.cons.injEq] at h1
    obtain ⟨rfl, _⟩ := h1
    rcases hx with ⟨rfl, q, rfl⟩ | ⟨A, c, ex, k, zs, rfl, _⟩
    · exact .inl ⟨q, rfl, rfl⟩
    · simp [flat] at hf
  · rw [List.cons.injEq] at h1
    obtain ⟨rfl, _⟩ := h1
    rcases hx with ⟨_, q, h3⟩ | ⟨A, c2, ex2, k2, zs, h3, h4, h5⟩
    · cases h3
    · injection h3 with e1 e2 e3 e4 e5 e6
      subst e2 e6
      refine .inr ⟨b, o, c, ex, k, cs, cs', g, rfl, h2, rfl, ?_, fun i hi => ?_⟩
      · have := h2.len
        rw [List.length_drop] at h4
        intro h0
        omega
      · have := h5 i hi
        simpa [atN, List.drop_drop, Nat.add_comm] using this
  · rw [List.cons.injEq] at h1
    obtain ⟨rfl, _⟩ := h1
    rcases hx with ⟨_, q, h3⟩ | ⟨A, c2, ex2, k2, zs, h3, _⟩ <;> cases h3
  · rw [List.cons.injEq] at h1
    obtain ⟨rfl, _⟩ := h1
    rcases hx with ⟨_, q, h3⟩ | ⟨A, c2, ex2, k2, zs, h3, _⟩ <;> cases h3
theorem ls_lc {α : Type} {E : α → V → Prop} {v : V} {ys : List α} (h : Ls E v ys) : Lc 1 (fun a cs => ∃ u, cs = [u] ∧ E a u) v ys := by
  rcases h with h | ⟨A, c, ex, k, xs, rfl, hl, h⟩
  · exact .inl h
  · refine .inr ⟨A, c, ex, k, xs, rfl, by omega, fun i hi => ?_⟩
    have h2 := h i hi
    have h3 : i < xs.length := by omega
    refine ⟨xs[i], ?_, by simpa [at1, List.getD, h3] using h2⟩
    simp only [atN, Nat.mul_one]
    rw [List.drop_eq_getElem_cons h3, List.take_succ_cons, List.take_zero]
theorem inF_mem {fp : List (Nat × List V)} {p : Nat × List V} (h : p ∈ fp) : inF fp p.1 = true := inF_iff.2 ⟨p.2, h⟩
theorem inF_append {f g : List (Nat × List V)} {q : Nat} : inF (f ++ g) q = (inF f q || inF g q) := by simp [inF]
theorem leaf_of {sz : Nat} {x x' : V} {fp : List (Nat × List V)} {α : Type} {E : α → List V → Prop} {ys : List α} {M : MH} (h : Tr [x] [x'] fp) (hf : flat x) (hx : Lc sz E x' ys) (hs : 0 < sz) (hl : ys.length ≤ 1048576) (hm : ∀ p ∈ fp, M p.1 = .some p.2) : LfM sz M x (fun q => inF fp q = true) := by
  rcases h.win hf hx with ⟨q, rfl, _⟩ | ⟨b, o, c, ex, k, cs, cs', g, rfl, h2, rfl, h3, _⟩
  · exact .inl ⟨q, rfl⟩
  · exact .inr ⟨b, o, ys.length, c, ex, k, cs, rfl, hm (b, cs) (List.mem_cons_self ..), fun h0 => h3 (Nat.mul_pos h0 hs), hl, inF_mem (p := (b, cs)) (List.mem_cons_self ..)⟩
theorem nd_hd {b : Nat} {cs : List V} {g : List (Nat × List V)} (h : Nd2 ((b, cs) :: g)) : inF g b = false ∧ Nd2 g := by
  have hn : (b :: g.map (·.1)).Nodup := h
  obtain ⟨n1, n2⟩ := List.nodup_cons.1 hn
  refine ⟨?_, n2⟩
  cases hb : inF g b with
  | false => rfl
  | true =>
    obtain ⟨l, hl⟩ := inF_iff.1 hb
    exact absurd (List.mem_map_of_mem hl) n1
theorem nd_sep {f g : List (Nat × List V)} (h : Nd2 (f ++ g)) {p : Nat × List V} (hp : p ∈ g) : inF f p.1 = false := by
  cases hb : inF f p.1 with
  | false => rfl
  | true =>
    obtain ⟨l, hl⟩ := inF_iff.1 hb
    have h1 := (Nd2.append h).2.2 _ hl
    simp only at h1
    rw [inF_mem hp] at h1; cases h1
theorem take_one {cs : List V} {j : Nat} (h : j < cs.length) : cs.take (j + 1) = cs.take j ++ [cs[j]] := List.take_succ_eq_append_getElem h
theorem t_markTermSS {v v' : V} {fp : List (Nat × List V)} {tss : List (List TermS)} {k : Int} (ht : Tr [v] [v'] fp) (hf : flat v) (hff : ∀ q ∈ fp, flatL q.2) (hv : LTT v' tss) (hn : Nd2 fp) (hm : ∀ p ∈ fp, M p.1 = .some p.2) (hl : tss.length ≤ 1048576) (hl2 : ∀ ts ∈ tss, ts.length ≤ 1048576) (hk : 0 ≤ k) (hk2 : k ≤ 8900000000000000000) :
    VCall Try.prog n_laws_markTermSS [v, .sc (.int .i64 k)] M (mkPost M k 4398046511104 (fun q => inF fp q = true)) := by
  refine VCall.plain fun R hR => v_laws_markTermSS rfl ?_
  rcases ht.win hf (ls_lc hv) with ⟨q, rfl, rfl⟩ | ⟨b, o, c, ex, kk, cs, cs', g, rfl, h2, rfl, h3, h4⟩
  · refine sS0 ?_
    refine loop_k (fun e M' => M' = M ∧ e 0 = .sc (.sl none 0 0 true q) ∧ e 1 = .sc (.int .i64 k) ∧ e 5 = .sc (.int .i64 0)) (fun e _ => 0) ⟨rfl, sT0, sT0, sT0⟩ ?_
    rintro e _ ⟨rfl, e0, e1, e5⟩ K hK
    refine sS3 @e0 @e1 @e5 ?_
    exact hR _ _ ⟨k, rfl, by omega, by omega, fun q _ => rfl⟩
  · obtain ⟨hbg, hng⟩ := nd_hd hn
    have hmb : M b = .some cs := hm (b, cs) (List.mem_cons_self ..)
    have hmg : ∀ p ∈ g, M p.1 = .some p.2 := fun p hp => hm p (List.mem_cons_of_mem _ hp)
    have hfc : flatL cs := hff (b, cs) (List.mem_cons_self ..)
    have hgo : ∀ q, inF g q = true → inF ((b, cs) :: g) q = true := fun q hq => by
      obtain ⟨l, hl⟩ := inF_iff.1 hq
      exact inF_iff.2 ⟨l, List.mem_cons_of_mem _ hl⟩
    refine sS0 ?_
    refine loop_k (fun e M' => ∃ (i : Nat) (k' : Int) (g1 g2 : List (Nat × List V)) (l1 l2 : List V), i ≤ tss.length ∧ e 0 = .sc (.sl (some (b, o)) tss.length c ex kk) ∧ e 1 = .sc (.int .i64 k') ∧ e 5 = .sc (.int .i64 i) ∧ k ≤ k' ∧ k' ≤ k + 4194304 * i ∧ Tr (cs.take (o + i)) l1 g1 ∧ Tr (cs.drop (o + i)) l2 g2 ∧ g = g1 ++ g2 ∧ cs' = l1 ++ l2 ∧ ∀ q, inF g1 q = false → M' q = M q) (fun e _ => ctrV tss.length (e 5)) ?_ ?_
    · obtain ⟨l1, l2, g1, g2, rfl, rfl, h5, h6⟩ := Tr.split (a := cs.take o) (b := cs.drop o) (b' := []) (by rw [List.take_append_drop]; exact h2)
      exact ⟨0, k, g1, g2, l1, l2, by omega, sT0, sT0, by refine sS0 ?_; rfl, by omega, by omega, h5, h6, rfl, rfl, fun _ _ => rfl⟩
    · rintro e M1 ⟨i, k', g1, g2, l1, l2, hi, e0, e1, e5, k1, k2, t1, t2, rfl, rfl, hq⟩ K hK
      refine sS3 @e0 @e1 @e5 ?_
      refine cond_dec (fun h => ?_) (fun h => ?_)
      · have hi' : i < tss.length := by omega
        have h3 := h3 (by omega)
        have hj : o + i < cs.length := by omega
        have hcx : cs[o + i]? = .some cs[o + i] := List.getElem?_eq_getElem hj
        have hcx2 : cs[o + i * 1]? = .some cs[o + i] := by rw [Nat.mul_one]; exact hcx
        rw [List.drop_eq_getElem_cons hj] at t2
        obtain ⟨x', r', gx, gr, rfl, rfl, t3, t4⟩ := t2.uncons
        have hl1 : l1.length = o + i := by rw [t1.len, List.length_take]; omega
        obtain ⟨u, h5, h6⟩ := h4 i hi'
        rw [Nat.mul_one, List.drop_left' hl1, List.take_succ_cons, List.take_zero, List.cons.injEq] at h5
        obtain ⟨rfl, _⟩ := h5
        have hb1 : M1 b = .some cs := by
          rw [hq b (by rw [inF_append] at hbg; simp only [Bool.or_eq_false_iff] at hbg; exact hbg.1)]; exact hmb
        refine sS6 @e0 @e1 @e5 @hb1 @hcx @hcx2 ?_
        refine (t_markTermS (leaf_of t3 (flatL_all.1 hfc _ (List.getElem_mem hj)) h6 (by omega) (hl2 _ (List.getElem_mem hi')) (fun p hp => ?_)) (by omega) (by omega)).mono ?_
        · rw [hq p.1 (nd_sep hng (List.mem_append_left _ hp))]
          exact hmg p (List.mem_append_right _ (List.mem_append_left _ hp))
        · rintro _ M2 ⟨k3, rfl, p1, p2, p3⟩
          refine sS3 @e0 @e1 @e5 ?_
          refine hK _ _ ⟨i + 1, k3, g1 ++ gx, gr, l1 ++ [x'], r', by omega, sT1 @e0, sT0, by refine sS0 ?_; rfl, by omega, by omega, ?_, t4, by simp, by simp, fun q hq2 => ?_⟩ (by refine sS2 @ctrV_int @e5 ?_; omega)
          · rw [← Nat.add_assoc, take_one hj]; exact t1.append t3
          · rw [inF_append, Bool.or_eq_false_iff] at hq2
            rw [p3 q (fun hc => by have hc : inF gx q = true := hc; rw [hq2.2] at hc; cases hc)]
            exact hq q hq2.1
      · obtain rfl : i = tss.length := by omega
        refine sS1 @e1 ?_
        refine hR _ _ ⟨k', rfl, k1, by omega, fun q hq1 => hq q ?_⟩
        cases hc : inF g1 q with
        | false => rfl
        | true => exact absurd (hgo q (by rw [inF_append, hc]; rfl)) hq1
theorem t_markRuleS {v v' : V} {fp : List (Nat × List V)} {rs : List RuleS} {k : Int} (ht : Tr [v] [v'] fp) (hf : flat v) (hff : ∀ q ∈ fp, flatL q.2) (hv : LR v' rs) (hn : Nd2 fp) (hm : ∀ p ∈ fp, M p.1 = .some p.2) (hl : rs.length ≤ 1048576) (hl2 : ∀ r ∈ rs, RuleFit r) (hk : 0 ≤ k) (hk2 : k ≤ 4000000000000000000) :
    VCall Try.prog n_laws_markRuleS [v, .sc (.int .i64 k)] M (mkPost M k 4700000000000000000 (fun q => inF fp q = true)) := by
  refine VCall.plain fun R hR => v_laws_markRuleS rfl ?_
  rcases ht.win hf hv with ⟨q, rfl, rfl⟩ | ⟨b, o, c, ex, kk, cs, cs', g, rfl, h2, rfl, h3, h4⟩
  · refine sS0 ?_
    refine loop_k (fun e M' => M' = M ∧ e 0 = .sc (.sl none 0 0 true q) ∧ e 1 = .sc (.int .i64 k) ∧ e 5 = .sc (.int .i64 0)) (fun e _ => 0) ⟨rfl, sT0, sT0, sT0⟩ ?_
    rintro e _ ⟨rfl, e0, e1, e5⟩ K hK
    refine sS3 @e0 @e1 @e5 ?_
    exact hR _ _ ⟨k, rfl, by omega, by omega, fun q _ => rfl⟩
  · obtain ⟨hbg, hng⟩ := nd_hd hn
    have hmb : M b = .some cs := hm (b, cs) (List.mem_cons_self ..)
    have hmg : ∀ p ∈ g, M p.1 = .some p.2 := fun p hp => hm p (List.mem_cons_of_mem _ hp)
    have hfc : flatL cs := hff (b, cs) (List.mem_cons_self ..)
    have hfg : ∀ q ∈ g, flatL q.2 := fun q hq => hff q (List.mem_cons_of_mem _ hq)
    have hgo : ∀ q, inF g q = true → inF ((b, cs) :: g) q = true := fun q hq => by
      obtain ⟨l, hl⟩ := inF_iff.1 hq
      exact inF_iff.2 ⟨l, List.mem_cons_of_mem _ hl⟩
    refine sS0 ?_
    refine loop_k (fun e M' => ∃ (i : Nat) (k' : Int) (g1 g2 : List (Nat × List V)) (l1 l2 : List V), i ≤ rs.length ∧ e 0 = .sc (.sl (some (b, o)) rs.length c ex kk) ∧ e 1 = .sc (.int .i64 k') ∧ e 5 = .sc (.int .i64 i) ∧ k ≤ k' ∧ k' ≤ k + 4398051753984 * i ∧ Tr (cs.take (o + i * 3)) l1 g1 ∧ Tr (cs.drop (o + i * 3)) l2 g2 ∧ g = g1 ++ g2 ∧ cs' = l1 ++ l2 ∧ ∀ q, inF g1 q = false → M' q = M q) (fun e _ => ctrV rs.length (e 5)) ?_ ?_
    · obtain ⟨l1, l2, g1, g2, rfl, rfl, h5, h6⟩ := Tr.split (a := cs.take o) (b := cs.drop o) (b' := []) (by rw [List.take_append_drop]; exact h2)
      exact ⟨0, k, g1, g2, l1, l2, by omega, sT0, sT0, by refine sS0 ?_; rfl, by omega, by omega, by simpa using h5, by simpa using h6, rfl, rfl, fun _ _ => rfl⟩
    · rintro e M1 ⟨i, k', g1, g2, l1, l2, hi, e0, e1, e5, k1, k2, t1, t2, rfl, rfl, hq⟩ K hK
      refine sS3 @e0 @e1 @e5 ?_
      refine cond_dec (fun h => ?_) (fun h => ?_)
      · have hi' : i < rs.length := by omega
        have h3 := h3 (by omega)
        have j0 : o + i * 3 < cs.length := by omega
        have j1 : o + i * 3 + 1 < cs.length := by omega
        have j2 : o + i * 3 + 2 < cs.length := by omega
        have c0 : cs[o + i * 3]? = .some cs[o + i * 3] := List.getElem?_eq_getElem j0
        have c00 : cs[o + i * 3 + 0]? = .some cs[o + i * 3] := c0
        have c1 : cs[o + i * 3 + 1]? = .some cs[o + i * 3 + 1] := List.getElem?_eq_getElem j1
        have c2 : cs[o + i * 3 + 2]? = .some cs[o + i * 3 + 2] := List.getElem?_eq_getElem j2
        have hfl := hl2 _ (List.getElem_mem hi')
        obtain ⟨f1, f2, f3, f4⟩ := hfl
        rw [List.drop_eq_getElem_cons j0, List.drop_eq_getElem_cons j1, List.drop_eq_getElem_cons j2] at t2
        obtain ⟨x', r1, gx, w1, rfl, rfl, tx, t3⟩ := t2.uncons
        obtain ⟨y', r2, gy, w2, rfl, rfl, ty, t4⟩ := t3.uncons
        obtain ⟨z', r3, gz, w3, rfl, rfl, tz, t5⟩ := t4.uncons
        have hl1 : l1.length = o + i * 3 := by rw [t1.len, List.length_take]; omega
        obtain ⟨u1, u2, u3, h5, hx, hy, hz⟩ := h4 i hi'
        rw [List.drop_left' hl1] at h5
        simp only [List.take_succ_cons, List.take_zero, List.cons.injEq, and_true] at h5
        obtain ⟨rfl, rfl, rfl⟩ := h5
        have sep : ∀ p, p ∈ gx ++ (gy ++ (gz ++ w3)) → inF g1 p.1 = false := fun p hp => nd_sep hng hp
        have hn2 := (Nd2.append hng).2.1
        have hb1 : ∀ M2 : MH, (∀ q, inF (g1 ++ (gx ++ (gy ++ (gz ++ w3)))) q = false → M2 q = M q) → M2 b = .some cs := fun M2 hM2 => by rw [hM2 b hbg]; exact hmb
        have i1 : ∀ q, inF (g1 ++ (gx ++ (gy ++ (gz ++ w3)))) q = false → M1 q = M q := fun q hq2 => hq q (by rw [inF_append, Bool.or_eq_false_iff] at hq2; exact hq2.1)
        have b1 := hb1 M1 i1
        refine sS8 @e0 @e1 @e5 @b1 @c0 @c00 @c1 @c2 ?_
        refine (t_markTermS (leaf_of tx (flatL_all.1 hfc _ (List.getElem_mem j0)) hx (by omega) f1 (fun p hp => ?_)) (by omega) (by omega)).mono ?_
        · rw [hq p.1 (sep p (List.mem_append_left _ hp))]
          exact hmg p (List.mem_append_right _ (List.mem_append_left _ hp))
        rintro _ M2 ⟨k3, rfl, p1, p2, p3⟩
        have m2 : ∀ q, inF gx q = false → M2 q = M1 q := fun q hq2 => p3 q (fun hc => by have hc : inF gx q = true := hc; rw [hq2] at hc; cases hc)
        have b2 := hb1 M2 fun q hq2 => by
          rw [m2 q (by simp only [inF_append, Bool.or_eq_false_iff] at hq2; exact hq2.2.1)]; exact i1 q hq2
        refine sS8 @e0 @e1 @e5 @b2 @c0 @c00 @c1 @c2 ?_
        refine (t_markIntS (leaf_of ty (flatL_all.1 hfc _ (List.getElem_mem j1)) (ls_lc hy) (by omega) f2 (fun p hp => ?_)) (by omega) (by omega)).mono ?_
        · rw [m2 p.1 (nd_sep hn2 (List.mem_append_left _ hp)), hq p.1 (sep p (List.mem_append_right _ (List.mem_append_left _ hp)))]
          exact hmg p (List.mem_append_right _ (List.mem_append_right _ (List.mem_append_left _ hp)))
        rintro _ M3 ⟨k4, rfl, p4, p5, p6⟩
        have m3 : ∀ q, inF gy q = false → M3 q = M2 q := fun q hq2 => p6 q (fun hc => by have hc : inF gy q = true := hc; rw [hq2] at hc; cases hc)
        have b3 := hb1 M3 fun q hq2 => by
          simp only [inF_append, Bool.or_eq_false_iff] at hq2
          rw [m3 q hq2.2.2.1, m2 q hq2.2.1]; exact hq q hq2.1
        refine sS8 @e0 @e1 @e5 @b3 @c0 @c00 @c1 @c2 ?_
        have hn3 := (Nd2.append hn2).2.1
        refine (t_markTermSS tz (flatL_all.1 hfc _ (List.getElem_mem j2)) (fun q hq2 => hfg q (List.mem_append_right _ (List.mem_append_right _ (List.mem_append_right _ (List.mem_append_left _ hq2))))) hz (Nd2.append (Nd2.append hn3).2.1).1 (fun p hp => ?_) f3 f4 (by omega) (by omega)).mono ?_
        · rw [m3 p.1 (nd_sep hn3 (List.mem_append_left _ hp)), m2 p.1 (nd_sep hn2 (List.mem_append_right _ (List.mem_append_left _ hp))), hq p.1 (sep p (List.mem_append_right _ (List.mem_append_right _ (List.mem_append_left _ hp))))]
          exact hmg p (List.mem_append_right _ (List.mem_append_right _ (List.mem_append_right _ (List.mem_append_left _ hp))))
        rintro _ M4 ⟨k5, rfl, p7, p8, p9⟩
        have m4 : ∀ q, inF gz q = false → M4 q = M3 q := fun q hq2 => p9 q (fun hc => by have hc : inF gz q = true := hc; rw [hq2] at hc; cases hc)
        refine sS3 @e0 @e1 @e5 ?_
        refine hK _ _ ⟨i + 1, k5, g1 ++ (gx ++ (gy ++ gz)), w3, l1 ++ [x', y', z'], r3, by omega, sT1 @e0, sT0, by refine sS0 ?_; rfl, by omega, by omega, ?_, ?_, by simp, by simp, fun q hq2 => ?_⟩ (by refine sS2 @ctrV_int @e5 ?_; omega)
        · rw [show o + (i + 1) * 3 = o + i * 3 + 1 + 1 + 1 by omega, take_one j2, take_one j1, take_one j0, List.append_assoc, List.append_assoc]
          exact t1.append (tx.append (ty.append tz))
        · rw [show o + (i + 1) * 3 = o + i * 3 + 1 + 1 + 1 by omega]; exact t5
        · simp only [inF_append, Bool.or_eq_false_iff] at hq2
          rw [m4 q hq2.2.2.2, m3 q hq2.2.2.1, m2 q hq2.2.1]
          exact hq q hq2.1
      · obtain rfl : i = rs.length := by omega
        refine sS1 @e1 ?_
        refine hR _ _ ⟨k', rfl, k1, by omega, fun q hq1 => hq q ?_⟩
        cases hc : inF g1 q with
        | false => rfl
        | true => exact absurd (hgo q (by rw [inF_append, hc]; rfl)) hq1
structure OwnS (M0 M : MH) (s : SysS) (x y : V) (x' y' : V) (fp : List (Nat × List V)) : Prop where
  tr : Tr [x, y] [x', y'] fp
  mem : Mem M0 M fp
  fl : flatL [x, y]
  ff : ∀ q ∈ fp, flatL q.2
  lx : LVar x' s.vars
  ly : LR y' s.rules
theorem OwnS.sys {M0 M : MH} {s : SysS} {x y x' y' : V} {fp : List (Nat × List V)} (h : OwnS M0 M s x y x' y' fp) : isSys s (.agg [x', y']) := ⟨x', y', rfl, h.lx, h.ly⟩
theorem o_toSystem {v : V} {s : SysS} (hv : isSysX s v) (hf : SysFit s) : VCall Try.prog n_laws_toSystem [v] M (fun r' M' => ∃ x y x' y' fp, r' = .agg [x, y] ∧ One x ∧ One y ∧ OwnS M M' s x y x' y' fp) :=
  (d_toSystem hv hf).mono fun r M' ⟨x, y, h1, h2, h3, l', fp, t1, t2, t3, t4, x', y', h4, h5, h6⟩ => ⟨x, y, x', y', fp, h1, h2, h3, by subst h4; exact ⟨t1, t2, t3, t4, h5, h6⟩⟩
theorem t_markSystem {M0 : MH} {s : SysS} {x y x' y' : V} {fp : List (Nat × List V)} {k : Int} (h : OwnS M0 M s x y x' y' fp) (hf : SysFit s) (hk : 0 ≤ k) (hk2 : k ≤ 3000000000000000000) :
    VCall Try.prog n_laws_markSystem [.agg [x, y], .sc (.int .i64 k)] M (fun r M' => ∃ k' : Int, r = .sc (.int .i64 k') ∧ k ≤ k' ∧ k' ≤ 7800000000000000000 ∧ Sub M0 M' ∧ ∀ q l, M q = .some l → inF fp q = false → M' q = .some l) := by
  refine VCall.plain fun R hR => v_laws_markSystem rfl ?_
  obtain ⟨f1, f2, f3⟩ := hf
  obtain ⟨u1, r1, gx, gr, e1, rfl, tx, t2⟩ := h.tr.uncons
  obtain ⟨u2, r2, gy, gr2, e2, rfl, ty, t3⟩ := t2.uncons
  rw [List.cons.injEq] at e1
  obtain ⟨rfl, rfl⟩ := e1
  rw [List.cons.injEq] at e2
  obtain ⟨rfl, rfl⟩ := e2
  cases t3
  have hfl := h.fl
  simp only [flatL] at hfl
  have hnd := h.mem.nd
  rw [List.append_nil] at hnd
  have hat := h.mem.at_
  have hff := h.ff
  simp only [List.append_nil] at hat hff
  refine sS0 ?_
  intro b2 hb2
  have hne : ∀ q l, M q = .some l → q ≠ b2 := fun q l hq e => by subst e; rw [hb2] at hq; cases hq
  refine (t_markVarS (leaf_of tx hfl.1 h.lx (by omega) f1 (fun p hp => ?_)) hk (by omega)).mono ?_
  · rw [set_ne (hne _ _ (hat p (List.mem_append_left _ hp)))]; exact hat p (List.mem_append_left _ hp)
  rintro _ M2 ⟨k3, rfl, p1, p2, p3⟩
  have m2 : ∀ q, inF gx q = false → M2 q = (M.set b2 [x, y]) q := fun q hq2 => p3 q (fun hc => by have hc : inF gx q = true := hc; rw [hq2] at hc; cases hc)
  have hb2x : inF gx b2 = false := by
    cases hc : inF gx b2 with
    | false => rfl
    | true =>
      obtain ⟨l, hl⟩ := inF_iff.1 hc
      have := hat _ (List.mem_append_left _ hl)
      rw [hb2] at this; cases this
  have q2 : M2 b2 = .some [x, y] := by rw [m2 b2 hb2x]; exact set_same
  refine sS1 @q2 ?_
  refine (t_markRuleS ty hfl.2.1 (fun q hq => hff q (List.mem_append_right _ hq)) h.ly (Nd2.append hnd).2.1 (fun p hp => ?_) f2 f3 (by omega) (by omega)).mono ?_
  · rw [m2 p.1 (nd_sep hnd hp), set_ne (hne _ _ (hat p (List.mem_append_right _ hp)))]; exact hat p (List.mem_append_right _ hp)
  rintro _ M3 ⟨k4, rfl, p4, p5, p6⟩
  have m3 : ∀ q, inF gy q = false → M3 q = M2 q := fun q hq2 => p6 q (fun hc => by have hc : inF gy q = true := hc; rw [hq2] at hc; cases hc)
  refine sS0 ?_
  have keep : ∀ q l, M q = .some l → inF (gx ++ gy) q = false → M3 q = .some l := fun q l hq hn => by
    rw [inF_append, Bool.or_eq_false_iff] at hn
    rw [m3 q hn.2, m2 q hn.1, set_ne (hne q l hq)]; exact hq
  refine hR _ _ ⟨k4, rfl, by omega, by omega, fun q l hq => keep q l (h.mem.sub q l hq) ?_, fun q l hq hn => keep q l hq (by simpa using hn)⟩
  cases hc : inF (gx ++ gy) q with
  | false => rfl
  | true =>
    obtain ⟨l2, hl⟩ := inF_iff.1 hc
    have := h.mem.new _ (by simpa using hl)
    simp only at this
    rw [this] at hq; cases hq
end Go.M2
