/- Contracts: small functions of numbers; terms. -/
import Derived.Test.YtcoknnjffbipfaaNx4
set_option linter.unusedVariables false
set_option linter.unusedSimpArgs false
set_option maxRecDepth 10000
set_option maxHeartbeats 4000000
namespace Go.M2
open Go.Proofs
variable {M : MH}
theorem eqB {a b : Bool} (h : a = true ↔ b = true) : V.sc (.bool a) = V.sc (.bool b) := by
  have : a = b := by cases a <;> cases b <;> simp_all
  rw [this]
theorem eqI {a b : Int} (h : a = b) : V.sc (.int .i64 a) = V.sc (.int .i64 b) := by rw [h]
theorem t_l1In {n lo hi : Int} : VCall Try.prog n_spec_l1In [.sc (.int .i64 n), .sc (.int .i64 lo), .sc (.int .i64 hi)] M (fun r M' => M = M' ∧ r = .sc (.bool (decide (lo ≤ n ∧ n ≤ hi)))) := by
  refine VCall.pure fun R hR => v_spec_l1In rfl ?_
  (repeat' (first | ((with_reducible first | refine cond_dec (fun h => ?_) (fun h => ?_) | refine guardK_dec (fun h => ?_) (fun h => ?_) | refine guardD3_dec (fun h => ?_) (fun h => ?_)) <;> first | (exfalso; omega) | (simp (maxSteps := 2000000) (disch := first | omega | assumption | exact idP rfl | exact idP (bL rfl)) only [go_sem, reduceIte, Nat.reduceEqDiff, wpV_kd, wpV_tH, h]) | skip) | ((with_reducible first | refine cond_split (fun h => ?_) (fun h => ?_) | refine guardK_split (fun h => ?_) (fun h => ?_) | refine guardD3_split (fun h => ?_) (fun h => ?_)) <;> ((try simp only [Bool.not_eq_true', Bool.not_eq_false'] at h); first | (simp (maxSteps := 2000000) (disch := first | omega | assumption | exact idP rfl | exact idP (bL rfl)) only [go_sem, reduceIte, Nat.reduceEqDiff, wpV_kd, wpV_tH, h]) | skip)) | (with_reducible intro bk hbk; try have hnk := (fresh_set hbk).1) | (simp (maxSteps := 2000000) (disch := first | omega | assumption | exact idP rfl | exact idP (bL rfl)) only [go_sem, reduceIte, Nat.reduceEqDiff, wpV_kd, wpV_tH])))
  all_goals exact hR _ _ (Sub.refl _) (by (refine eqB ?_; (try simp only [decide_eq_true_eq, Bool.false_eq_true, Bool.and_eq_true, Bool.or_eq_true, Bool.not_eq_true', decide_eq_false_iff_not, eq_self_iff_true, true_iff, false_iff, iff_true, iff_false, ne_eq]); (try omega)))
theorem t_in {n lo hi : Int} : VCall Try.prog n_impl_in [.sc (.int .i64 n), .sc (.int .i64 lo), .sc (.int .i64 hi)] M (fun r M' => M = M' ∧ r = .sc (.bool (decide (lo ≤ n ∧ n ≤ hi)))) := by
  refine VCall.pure fun R hR => v_impl_in rfl ?_
  (repeat' (first | ((with_reducible first | refine cond_dec (fun h => ?_) (fun h => ?_) | refine guardK_dec (fun h => ?_) (fun h => ?_) | refine guardD3_dec (fun h => ?_) (fun h => ?_)) <;> first | (exfalso; omega) | (simp (maxSteps := 2000000) (disch := first | omega | assumption | exact idP rfl | exact idP (bL rfl)) only [go_sem, reduceIte, Nat.reduceEqDiff, wpV_kd, wpV_tH, h]) | skip) | ((with_reducible first | refine cond_split (fun h => ?_) (fun h => ?_) | refine guardK_split (fun h => ?_) (fun h => ?_) | refine guardD3_split (fun h => ?_) (fun h => ?_)) <;> ((try simp only [Bool.not_eq_true', Bool.not_eq_false'] at h); first | (simp (maxSteps := 2000000) (disch := first | omega | assumption | exact idP rfl | exact idP (bL rfl)) only [go_sem, reduceIte, Nat.reduceEqDiff, wpV_kd, wpV_tH, h]) | skip)) | (with_reducible intro bk hbk; try have hnk := (fresh_set hbk).1) | (simp (maxSteps := 2000000) (disch := first | omega | assumption | exact idP rfl | exact idP (bL rfl)) only [go_sem, reduceIte, Nat.reduceEqDiff, wpV_kd, wpV_tH])))
  all_goals exact hR _ _ (Sub.refl _) (by (refine eqB ?_; (try simp only [decide_eq_true_eq, Bool.false_eq_true, Bool.and_eq_true, Bool.or_eq_true, Bool.not_eq_true', decide_eq_false_iff_not, eq_self_iff_true, true_iff, false_iff, iff_true, iff_false, ne_eq]); (try omega)))
theorem t_l1Held {n : Int} : VCall Try.prog n_spec_l1Held [.sc (.int .i64 n)] M (fun r M' => M = M' ∧ r = .sc (.int .i64 (heldF n))) := by
  refine VCall.pure fun R hR => v_spec_l1Held rfl ?_
  (repeat' (first | ((with_reducible first | refine cond_dec (fun h => ?_) (fun h => ?_) | refine guardK_dec (fun h => ?_) (fun h => ?_) | refine guardD3_dec (fun h => ?_) (fun h => ?_)) <;> first | (exfalso; omega) | (simp (maxSteps := 2000000) (disch := first | omega | assumption | exact idP rfl | exact idP (bL rfl)) only [go_sem, reduceIte, Nat.reduceEqDiff, wpV_kd, wpV_tH, h]) | skip) | ((with_reducible first | refine cond_split (fun h => ?_) (fun h => ?_) | refine guardK_split (fun h => ?_) (fun h => ?_) | refine guardD3_split (fun h => ?_) (fun h => ?_)) <;> ((try simp only [Bool.not_eq_true', Bool.not_eq_false'] at h); first | (simp (maxSteps := 2000000) (disch := first | omega | assumption | exact idP rfl | exact idP (bL rfl)) only [go_sem, reduceIte, Nat.reduceEqDiff, wpV_kd, wpV_tH, h]) | skip)) | (with_reducible intro bk hbk; try have hnk := (fresh_set hbk).1) | (simp (maxSteps := 2000000) (disch := first | omega | assumption | exact idP rfl | exact idP (bL rfl)) only [go_sem, reduceIte, Nat.reduceEqDiff, wpV_kd, wpV_tH])))
  all_goals exact hR _ _ (Sub.refl _) (eqI (by unfold heldF; split <;> (try split) <;> omega))
theorem t_held {n : Int} : VCall Try.prog n_impl_held [.sc (.int .i64 n)] M (fun r M' => M = M' ∧ r = .sc (.int .i64 (heldF n))) := by
  refine VCall.pure fun R hR => v_impl_held rfl ?_
  (repeat' (first | ((with_reducible first | refine cond_dec (fun h => ?_) (fun h => ?_) | refine guardK_dec (fun h => ?_) (fun h => ?_) | refine guardD3_dec (fun h => ?_) (fun h => ?_)) <;> first | (exfalso; omega) | (simp (maxSteps := 2000000) (disch := first | omega | assumption | exact idP rfl | exact idP (bL rfl)) only [go_sem, reduceIte, Nat.reduceEqDiff, wpV_kd, wpV_tH, h]) | skip) | ((with_reducible first | refine cond_split (fun h => ?_) (fun h => ?_) | refine guardK_split (fun h => ?_) (fun h => ?_) | refine guardD3_split (fun h => ?_) (fun h => ?_)) <;> ((try simp only [Bool.not_eq_true', Bool.not_eq_false'] at h); first | (simp (maxSteps := 2000000) (disch := first | omega | assumption | exact idP rfl | exact idP (bL rfl)) only [go_sem, reduceIte, Nat.reduceEqDiff, wpV_kd, wpV_tH, h]) | skip)) | (with_reducible intro bk hbk; try have hnk := (fresh_set hbk).1) | (simp (maxSteps := 2000000) (disch := first | omega | assumption | exact idP rfl | exact idP (bL rfl)) only [go_sem, reduceIte, Nat.reduceEqDiff, wpV_kd, wpV_tH])))
  all_goals exact hR _ _ (Sub.refl _) (eqI (by unfold heldF; split <;> (try split) <;> omega))
theorem t_l1One {n : Int} : VCall Try.prog n_spec_l1One [.sc (.int .i64 n)] M (fun r M' => M = M' ∧ r = .sc (.bool (decide (n = 7)))) := by
  refine VCall.pure fun R hR => v_spec_l1One rfl ?_
  (repeat' (first | ((with_reducible first | refine cond_dec (fun h => ?_) (fun h => ?_) | refine guardK_dec (fun h => ?_) (fun h => ?_) | refine guardD3_dec (fun h => ?_) (fun h => ?_)) <;> first | (exfalso; omega) | (simp (maxSteps := 2000000) (disch := first | omega | assumption | exact idP rfl | exact idP (bL rfl)) only [go_sem, reduceIte, Nat.reduceEqDiff, wpV_kd, wpV_tH, h]) | skip) | ((with_reducible first | refine cond_split (fun h => ?_) (fun h => ?_) | refine guardK_split (fun h => ?_) (fun h => ?_) | refine guardD3_split (fun h => ?_) (fun h => ?_)) <;> ((try simp only [Bool.not_eq_true', Bool.not_eq_false'] at h); first | (simp (maxSteps := 2000000) (disch := first | omega | assumption | exact idP rfl | exact idP (bL rfl)) only [go_sem, reduceIte, Nat.reduceEqDiff, wpV_kd, wpV_tH, h]) | skip)) | (with_reducible intro bk hbk; try have hnk := (fresh_set hbk).1) | (simp (maxSteps := 2000000) (disch := first | omega | assumption | exact idP rfl | exact idP (bL rfl)) only [go_sem, reduceIte, Nat.reduceEqDiff, wpV_kd, wpV_tH])))
  all_goals exact hR _ _ (Sub.refl _) rfl
theorem t_l1Truth {b : Bool} : VCall Try.prog n_spec_l1Truth [.sc (.bool b)] M (fun r M' => M = M' ∧ r = .sc (.int .i64 (if b = true then 1 else 0))) := by
  refine VCall.pure fun R hR => v_spec_l1Truth rfl ?_
  cases b <;> (repeat' (first | ((with_reducible first | refine cond_dec (fun h => ?_) (fun h => ?_) | refine guardK_dec (fun h => ?_) (fun h => ?_) | refine guardD3_dec (fun h => ?_) (fun h => ?_)) <;> first | (exfalso; omega) | (simp (maxSteps := 2000000) (disch := first | omega | assumption | exact idP rfl | exact idP (bL rfl)) only [go_sem, reduceIte, Nat.reduceEqDiff, wpV_kd, wpV_tH, h]) | skip) | ((with_reducible first | refine cond_split (fun h => ?_) (fun h => ?_) | refine guardK_split (fun h => ?_) (fun h => ?_) | refine guardD3_split (fun h => ?_) (fun h => ?_)) <;> ((try simp only [Bool.not_eq_true', Bool.not_eq_false'] at h); first | (simp (maxSteps := 2000000) (disch := first | omega | assumption | exact idP rfl | exact idP (bL rfl)) only [go_sem, reduceIte, Nat.reduceEqDiff, wpV_kd, wpV_tH, h]) | skip)) | (with_reducible intro bk hbk; try have hnk := (fresh_set hbk).1) | (simp (maxSteps := 2000000) (disch := first | omega | assumption | exact idP rfl | exact idP (bL rfl)) only [go_sem, reduceIte, Nat.reduceEqDiff, wpV_kd, wpV_tH])))
  all_goals exact hR _ _ (Sub.refl _) rfl
theorem t_bit {b : Bool} : VCall Try.prog n_impl_bit [.sc (.bool b)] M (fun r M' => M = M' ∧ r = .sc (.int .i64 (if b = true then 1 else 0))) := by
  refine VCall.pure fun R hR => v_impl_bit rfl ?_
  cases b <;> (repeat' (first | ((with_reducible first | refine cond_dec (fun h => ?_) (fun h => ?_) | refine guardK_dec (fun h => ?_) (fun h => ?_) | refine guardD3_dec (fun h => ?_) (fun h => ?_)) <;> first | (exfalso; omega) | (simp (maxSteps := 2000000) (disch := first | omega | assumption | exact idP rfl | exact idP (bL rfl)) only [go_sem, reduceIte, Nat.reduceEqDiff, wpV_kd, wpV_tH, h]) | skip) | ((with_reducible first | refine cond_split (fun h => ?_) (fun h => ?_) | refine guardK_split (fun h => ?_) (fun h => ?_) | refine guardD3_split (fun h => ?_) (fun h => ?_)) <;> ((try simp only [Bool.not_eq_true', Bool.not_eq_false'] at h); first | (simp (maxSteps := 2000000) (disch := first | omega | assumption | exact idP rfl | exact idP (bL rfl)) only [go_sem, reduceIte, Nat.reduceEqDiff, wpV_kd, wpV_tH, h]) | skip)) | (with_reducible intro bk hbk; try have hnk := (fresh_set hbk).1) | (simp (maxSteps := 2000000) (disch := first | omega | assumption | exact idP rfl | exact idP (bL rfl)) only [go_sem, reduceIte, Nat.reduceEqDiff, wpV_kd, wpV_tH])))
  all_goals exact hR _ _ (Sub.refl _) rfl
def encT (t : TermS) : List V := [.sc (.int .i64 t.op), .sc (.int .i64 t.n), .sc (.int .i64 t.a), .sc (.int .i64 t.b)]
def isT (t : TermS) (cs : List V) : Prop := cs = encT t
abbrev LT : V → List TermS → Prop := Lc 4 isT
theorem LI.ix {v : V} {ys : List Int} (h : LI v ys) {i : Int} (h0 : 0 ≤ i) (h1 : i < (ys.length : Int)) : at1 v i.toNat = .sc (.int .i64 (ix ys i)) := by
  obtain ⟨h2, e⟩ := ix_eq h0 h1
  rw [LI.at h h2, e]
theorem t_l1Kind {t : TermS} {v : V} {ks : List Int} {vars : Int} (hv : LI v ks) (hl : ks.length ≤ 40) (h0 : 0 ≤ vars) (h1 : vars ≤ 5) :
    VCall Try.prog n_spec_l1Kind [.agg (encT t), v, .sc (.int .i64 vars)] M (fun r M' => M = M' ∧ r = .sc (.int .i64 (kind1 vars t ks))) := by
  refine VCall.pure fun R hR => v_spec_l1Kind rfl ?_
  obtain ⟨op, n, a, b⟩ := t
  simp only [encT]
  (repeat' (first | ((with_reducible first | refine cond_dec (fun h => ?_) (fun h => ?_) | refine guardK_dec (fun h => ?_) (fun h => ?_) | refine guardD3_dec (fun h => ?_) (fun h => ?_)) <;> first | (exfalso; omega) | (simp (maxSteps := 2000000) (disch := first | omega | assumption | exact idP rfl | exact idP (bL rfl)) only [go_sem, reduceIte, Nat.reduceEqDiff, wpV_kd, wpV_tH, h, hv.len, hv.iaddr, hv.ix]) | skip) | ((with_reducible first | refine cond_split (fun h => ?_) (fun h => ?_) | refine guardK_split (fun h => ?_) (fun h => ?_) | refine guardD3_split (fun h => ?_) (fun h => ?_)) <;> ((try simp only [Bool.not_eq_true', Bool.not_eq_false'] at h); first | (simp (maxSteps := 2000000) (disch := first | omega | assumption | exact idP rfl | exact idP (bL rfl)) only [go_sem, reduceIte, Nat.reduceEqDiff, wpV_kd, wpV_tH, h, hv.len, hv.iaddr, hv.ix]) | skip)) | ((with_reducible refine (t_l1In).mono ?_); rintro _ _ ⟨rfl, rfl⟩) | ((with_reducible refine (t_l1One).mono ?_); rintro _ _ ⟨rfl, rfl⟩) | (with_reducible intro bk hbk; try have hnk := (fresh_set hbk).1) | (simp (maxSteps := 2000000) (disch := first | omega | assumption | exact idP rfl | exact idP (bL rfl)) only [go_sem, reduceIte, Nat.reduceEqDiff, wpV_kd, wpV_tH, hv.len, hv.iaddr, hv.ix])))
  all_goals refine hR _ _ (sB) (eqI ?_)
  all_goals simp only [kind1, wantK]
  all_goals repeat' split
  all_goals first | omega | trace_state
theorem nth_ix {ks : List Int} {a : Int} (h0 : 0 ≤ a) (h1 : a < (ks.length : Int)) : (ks.map vi)[a.toNat]? = some (.sc (.int .i64 (ix ks a))) := by
  obtain ⟨h, e⟩ := ix_eq h0 h1
  rw [nth_vi h, e]
end Go.M2

namespace Go.M2
open Go.Proofs
variable {M : MH}
theorem encT_eq (t : TermS) : encT t = [.sc (.int .i64 t.op), .sc (.int .i64 t.n), .sc (.int .i64 t.a), .sc (.int .i64 t.b)] := rfl
theorem encT_take (t : TermS) : (encT t).take 4 = encT t := rfl
theorem LT.at {v : V} {ts : List TermS} (h : LT v ts) {i : Nat} (hi : i < ts.length) : atN 4 v i = encT ts[i] := h.elt hi
def kRes (r : V) : Option (List Int) → Prop
  | none => r = .sc (.sl none 0 0 true 0)
  | some ks => LI r ks
theorem t_KindsOf {v : V} {ts : List TermS} {vars : Int} (hv : LT v ts) : VCall Try.prog n_spec_KindsOf [v, .sc (.int .i64 vars)] M (fun r M' => M = M' ∧ kRes r (kindsF vars ts)) := by
  refine VCall.froz fun R hP hG => v_spec_KindsOf rfl ?_
  (repeat' (first | ((with_reducible first | refine cond_dec (fun h => ?_) (fun h => ?_) | refine guardK_dec (fun h => ?_) (fun h => ?_) | refine guardD3_dec (fun h => ?_) (fun h => ?_)) <;> first | (exfalso; omega) | (simp (maxSteps := 2000000) (disch := first | omega | assumption | exact idP rfl | exact idP (bL rfl)) only [go_sem, reduceIte, Nat.reduceEqDiff, wpV_kd, wpV_tH, h, hv.len]) | skip) | ((with_reducible first | refine cond_split (fun h => ?_) (fun h => ?_) | refine guardK_split (fun h => ?_) (fun h => ?_) | refine guardD3_split (fun h => ?_) (fun h => ?_)) <;> ((try simp only [Bool.not_eq_true', Bool.not_eq_false'] at h); first | (simp (maxSteps := 2000000) (disch := first | omega | assumption | exact idP rfl | exact idP (bL rfl)) only [go_sem, reduceIte, Nat.reduceEqDiff, wpV_kd, wpV_tH, h, hv.len]) | skip)) | ((with_reducible refine (t_l1In).mono ?_); rintro _ _ ⟨rfl, rfl⟩) | (with_reducible intro bk hbk; try have hnk := (fresh_set hbk).1) | (simp (maxSteps := 2000000) (disch := first | omega | assumption | exact idP rfl | exact idP (bL rfl)) only [go_sem, reduceIte, Nat.reduceEqDiff, wpV_kd, wpV_tH, hv.len])))
  all_goals try (refine hP _ _ (sB) ?_; unfold kindsF; rw [if_neg (by omega)]; rfl)
  have hkf : kindsF vars ts = kindsGo vars ts [] := by unfold kindsF; rw [if_pos (by omega)]
  refine loop_k (fun e M' => ∃ (i : Nat) (ks : List Int), i ≤ ts.length ∧ e 0 = v ∧ e 1 = .sc (.int .i64 vars) ∧ e 6 = .sc (.int .i64 i) ∧ kindsGo vars (ts.take i) [] = some ks ∧ Gr 1 M M' (e 5) (ks.map vi)) (fun e _ => ctrV ts.length (e 6)) ?_ ?_
  · exact ⟨0, [], by omega, sT0, sT0, by refine sS0 ?_; rfl, rfl, by refine sS0 ?_; exact Gr.new' (Sub.refl _) (by assumption) rfl⟩
  · rintro e M1 ⟨i, ks, hi, e0, e1, e6, hk, hg⟩ K hK
    have hkl := (kindsGo_len hk).1
    simp at hkl
    refine sS4 @e0 @e1 @e6 @hv.len ?_
    refine cond_dec (fun h => ?_) (fun h => ?_)
    · have hi' : i < ts.length := by omega
      simp (maxSteps := 2000000) (disch := first | omega | assumption | exact idP rfl | exact idP (bL rfl)) only [go_sem, reduceIte, Nat.reduceEqDiff, wpV_kd, wpV_tH, e0, e1, e6, hv.iaddr, LT.at hv hi', encT_take]
      refine (VCall.lend1 hg.own flat_eq fun u M' hu => t_l1Kind hu.li (by omega) (by omega) (by omega)).mono ?_
      rintro _ _ ⟨rfl, rfl⟩
      have hs := kindsGo_take hi' hk
      refine sS0 ?_
      refine cond_dec (fun h0 => ?_) (fun h0 => ?_)
      · refine sS0 ?_
        refine hP _ _ hg.sub ?_
        rw [hkf, kindsGo_none (i := i + 1) (by rw [hs, if_pos h0])]; rfl
      · refine sS0 ?_
        intro bt hbt
        refine app_int hg hbt (by omega) (by omega) ?_
        intro s' M' hg' _
        refine sS0 ?_
        exact hK _ _ ⟨i + 1, _, by omega, sT0, sT0, by refine sS0 ?_; rfl, by rw [hs, if_neg h0], by refine sS0 ?_; exact hg'⟩ (by refine sS2 @ctrV_int @e6 ?_; omega)
    · obtain rfl : i = ts.length := by omega
      rw [List.take_length] at hk
      refine sS0 ?_
      exact hG _ _ _ _ hg fun u hu => by rw [hkf, hk]; exact hu.li
end Go.M2

namespace Go.M2
open Go.Proofs
variable {M : MH}
def encVar (v : VarS) : List V := [.sc (.int .i64 v.low), .sc (.int .i64 v.high), .sc (.int .i64 v.first)]
def isVar (v : VarS) (cs : List V) : Prop := cs = encVar v
abbrev LVar : V → List VarS → Prop := Lc 3 isVar
abbrev LTT : V → List (List TermS) → Prop := Ls (fun ts u => LT u ts)
def isRule (r : RuleS) (cs : List V) : Prop := ∃ a b c, cs = [a, b, c] ∧ LT a r.when_ ∧ LI b r.sets ∧ LTT c r.terms
abbrev LR : V → List RuleS → Prop := Lc 3 isRule
theorem LVar.at {v : V} {vs : List VarS} (h : LVar v vs) {i : Nat} (hi : i < vs.length) : atN 3 v i = [.sc (.int .i64 vs[i].low), .sc (.int .i64 vs[i].high), .sc (.int .i64 vs[i].first)] := h.elt hi
def isSys (s : SysS) (v : V) : Prop := ∃ a b, v = .agg [a, b] ∧ LVar a s.vars ∧ LR b s.rules
theorem t_l2Var {v : VarS} : VCall Try.prog n_spec_l2Var [.agg (encVar v)] M (fun r M' => M = M' ∧ r = .sc (.bool (decide (VarOk v)))) := by
  refine VCall.pure fun R hR => v_spec_l2Var rfl ?_
  obtain ⟨lo, hi, f⟩ := v
  simp only [encVar]
  (repeat' (first | ((with_reducible first | refine cond_dec (fun h => ?_) (fun h => ?_) | refine guardK_dec (fun h => ?_) (fun h => ?_) | refine guardD3_dec (fun h => ?_) (fun h => ?_)) <;> first | (exfalso; omega) | (simp (maxSteps := 2000000) (disch := first | omega | assumption | exact idP rfl | exact idP (bL rfl)) only [go_sem, reduceIte, Nat.reduceEqDiff, wpV_kd, wpV_tH, h]) | skip) | ((with_reducible first | refine cond_split (fun h => ?_) (fun h => ?_) | refine guardK_split (fun h => ?_) (fun h => ?_) | refine guardD3_split (fun h => ?_) (fun h => ?_)) <;> ((try simp only [Bool.not_eq_true', Bool.not_eq_false'] at h); first | (simp (maxSteps := 2000000) (disch := first | omega | assumption | exact idP rfl | exact idP (bL rfl)) only [go_sem, reduceIte, Nat.reduceEqDiff, wpV_kd, wpV_tH, h]) | skip)) | ((with_reducible refine (t_l1In).mono ?_); rintro _ _ ⟨rfl, rfl⟩) | (with_reducible intro bk hbk; try have hnk := (fresh_set hbk).1) | (simp (maxSteps := 2000000) (disch := first | omega | assumption | exact idP rfl | exact idP (bL rfl)) only [go_sem, reduceIte, Nat.reduceEqDiff, wpV_kd, wpV_tH])))
  all_goals exact hR _ _ (sB) (by (refine eqB ?_; (try simp only [decide_eq_true_eq, Bool.false_eq_true, Bool.and_eq_true, Bool.or_eq_true, Bool.not_eq_true', decide_eq_false_iff_not, eq_self_iff_true, true_iff, false_iff, iff_true, iff_false, ne_eq]); (try simp only [VarOk]); (try omega)))
theorem t_l2Is {v : V} {ts : List TermS} {vars kind : Int} (hv : LT v ts) : VCall Try.prog n_spec_l2Is [v, .sc (.int .i64 vars), .sc (.int .i64 kind)] M (fun r M' => M = M' ∧ r = .sc (.bool (kindIs vars kind ts))) := by
  refine VCall.pure fun R hR => v_spec_l2Is rfl ?_
  refine sS0 ?_
  refine (t_KindsOf hv).mono ?_
  rintro r _ ⟨rfl, hr⟩
  cases hk : kindsF vars ts with
  | none =>
    rw [hk] at hr
    simp only [kRes] at hr
    subst hr
    (repeat' (first | ((with_reducible first | refine cond_dec (fun h => ?_) (fun h => ?_) | refine guardK_dec (fun h => ?_) (fun h => ?_) | refine guardD3_dec (fun h => ?_) (fun h => ?_)) <;> first | (exfalso; omega) | (simp (maxSteps := 2000000) (disch := first | omega | assumption | exact idP rfl | exact idP (bL rfl)) only [go_sem, reduceIte, Nat.reduceEqDiff, wpV_kd, wpV_tH, h]) | skip) | ((with_reducible first | refine cond_split (fun h => ?_) (fun h => ?_) | refine guardK_split (fun h => ?_) (fun h => ?_) | refine guardD3_split (fun h => ?_) (fun h => ?_)) <;> ((try simp only [Bool.not_eq_true', Bool.not_eq_false'] at h); first | (simp (maxSteps := 2000000) (disch := first | omega | assumption | exact idP rfl | exact idP (bL rfl)) only [go_sem, reduceIte, Nat.reduceEqDiff, wpV_kd, wpV_tH, h]) | skip)) | (with_reducible intro bk hbk; try have hnk := (fresh_set hbk).1) | (simp (maxSteps := 2000000) (disch := first | omega | assumption | exact idP rfl | exact idP (bL rfl)) only [go_sem, reduceIte, Nat.reduceEqDiff, wpV_kd, wpV_tH])))
    all_goals exact hR _ _ (sB) (by simp [kindIs, hk])
  | some ks =>
    rw [hk] at hr
    have hr : LI r ks := hr
    obtain ⟨_, _, q1, q2, _, q3⟩ := kindsF_some hk
    have e1 : ((ks.length : Int) - 1).toNat = ks.length - 1 := by omega
    (repeat' (first | ((with_reducible first | refine cond_dec (fun h => ?_) (fun h => ?_) | refine guardK_dec (fun h => ?_) (fun h => ?_) | refine guardD3_dec (fun h => ?_) (fun h => ?_)) <;> first | (exfalso; omega) | (simp (maxSteps := 2000000) (disch := first | omega | assumption | exact idP rfl | exact idP (bL rfl)) only [go_sem, reduceIte, Nat.reduceEqDiff, wpV_kd, wpV_tH, h, hr.len, hr.iaddr, e1, hr.at]) | skip) | ((with_reducible first | refine cond_split (fun h => ?_) (fun h => ?_) | refine guardK_split (fun h => ?_) (fun h => ?_) | refine guardD3_split (fun h => ?_) (fun h => ?_)) <;> ((try simp only [Bool.not_eq_true', Bool.not_eq_false'] at h); first | (simp (maxSteps := 2000000) (disch := first | omega | assumption | exact idP rfl | exact idP (bL rfl)) only [go_sem, reduceIte, Nat.reduceEqDiff, wpV_kd, wpV_tH, h, hr.len, hr.iaddr, e1, hr.at]) | skip)) | (with_reducible intro bk hbk; try have hnk := (fresh_set hbk).1) | (simp (maxSteps := 2000000) (disch := first | omega | assumption | exact idP rfl | exact idP (bL rfl)) only [go_sem, reduceIte, Nat.reduceEqDiff, wpV_kd, wpV_tH, hr.len, hr.iaddr, e1, hr.at])))
    all_goals refine hR _ _ (sB) (by simp only [kindIs, hk, getLastD_eq (show 0 < ks.length by omega)]; refine eqB ?_; simp [*])
end Go.M2

namespace Go.M2
open Go.Proofs
variable {M : MH}
def pN (op : Int) : Int := if 2 ≤ op ∧ op ≤ 6 then 2 else if op = 7 then 1 else if op = 8 ∨ op = 9 then 2 else 0
def pOf (op : Int) : Int := if 2 ≤ op ∧ op ≤ 6 then 1 else if 7 ≤ op ∧ op ≤ 9 then 2 else 0
def pKind (op : Int) : Int := if 5 ≤ op ∧ op ≤ 9 then 2 else 1
theorem tup3 {a b c a' b' c' : Int} (h1 : a = a') (h2 : b = b') (h3 : c = c') : V.tup [.sc (.int .i64 a), .sc (.int .i64 b), .sc (.int .i64 c)] = V.tup [.sc (.int .i64 a'), .sc (.int .i64 b'), .sc (.int .i64 c')] := by rw [h1, h2, h3]
theorem t_parts {op : Int} : VCall Try.prog n_impl_parts [.sc (.int .i64 op)] M (fun r M' => M = M' ∧ r = .tup [.sc (.int .i64 (pN op)), .sc (.int .i64 (pOf op)), .sc (.int .i64 (pKind op))]) := by
  refine VCall.pure fun R hR => v_impl_parts rfl ?_
  (repeat' (first | ((with_reducible first | refine cond_dec (fun h => ?_) (fun h => ?_) | refine guardK_dec (fun h => ?_) (fun h => ?_) | refine guardD3_dec (fun h => ?_) (fun h => ?_)) <;> first | (exfalso; omega) | (simp (maxSteps := 2000000) (disch := first | omega | assumption | exact idP rfl | exact idP (bL rfl)) only [go_sem, reduceIte, Nat.reduceEqDiff, wpV_kd, wpV_tH, h]) | skip) | ((with_reducible first | refine cond_split (fun h => ?_) (fun h => ?_) | refine guardK_split (fun h => ?_) (fun h => ?_) | refine guardD3_split (fun h => ?_) (fun h => ?_)) <;> ((try simp only [Bool.not_eq_true', Bool.not_eq_false'] at h); first | (simp (maxSteps := 2000000) (disch := first | omega | assumption | exact idP rfl | exact idP (bL rfl)) only [go_sem, reduceIte, Nat.reduceEqDiff, wpV_kd, wpV_tH, h]) | skip)) | (with_reducible intro bk hbk; try have hnk := (fresh_set hbk).1) | (simp (maxSteps := 2000000) (disch := first | omega | assumption | exact idP rfl | exact idP (bL rfl)) only [go_sem, reduceIte, Nat.reduceEqDiff, wpV_kd, wpV_tH])))
  all_goals refine hR _ _ (sB) (tup3 ?_ ?_ ?_)
  all_goals first | (unfold pN; repeat' split) | (unfold pOf; repeat' split) | (unfold pKind; repeat' split)
  all_goals omega
theorem kind1_eq (vars : Int) (t : TermS) (ks : List Int) : kind1 vars t ks = (if t.op = 0 then (if -9999 ≤ t.n ∧ t.n ≤ 9999 ∧ t.a = 0 ∧ t.b = 0 then pKind t.op else 0)
  else if t.op = 1 then (if 0 ≤ t.n ∧ t.n < vars ∧ t.a = 0 ∧ t.b = 0 then pKind t.op else 0)
  else if 2 ≤ t.op ∧ t.op ≤ 9 ∧ t.n = 0 ∧ (0 ≤ t.a ∧ t.a < (ks.length : Int)) ∧ (0 ≤ t.b ∧ t.b < (ks.length : Int)) ∧ ix ks t.a = pOf t.op ∧ ix ks t.b = pOf t.op ∧ (pN t.op = 2 ∨ t.a = t.b) then pKind t.op else 0) := by
  unfold kind1 wantK pOf pN pKind
  repeat' split
  all_goals first | omega | skip
def kRes' (r : V) : Option (List Int) → Prop
  | none => r = .sc (.sl none 0 0 true 0)
  | some ks => LI r ks ∧ isNilF .sl (er r) = some false
theorem rep_snoc {ks : List Int} {x : Int} {n : Nat} (h : 0 < n) : (ks.map vi ++ List.replicate n (vi 0)).set ks.length (.sc (.int .i64 x)) = (ks ++ [x]).map vi ++ List.replicate (n - 1) (vi 0) := by
  obtain ⟨m, rfl⟩ : ∃ m, n = m + 1 := ⟨n - 1, by omega⟩
  rw [List.set_append_right _ _ (by simp)]
  simp [List.replicate_succ, vi]
theorem rep_snoc' {ks : List Int} {x : Int} {i L : Nat} (hk : ks.length = i) (h : i < L) : (ks.map vi ++ List.replicate (L - i) (vi 0)).set i (.sc (.int .i64 x)) = (ks ++ [x]).map vi ++ List.replicate (L - (i + 1)) (vi 0) := by
  subst hk
  rw [rep_snoc (by omega)]
  congr 2
theorem nth_ix_app {ks : List Int} {l : List V} {a : Int} (h0 : 0 ≤ a) (h1 : a < (ks.length : Int)) : (ks.map vi ++ l)[a.toNat]? = some (.sc (.int .i64 (ix ks a))) := by
  rw [List.getElem?_append_left (by simp; omega), nth_ix h0 h1]
theorem t_kindsOf {v : V} {ts : List TermS} {vars : Int} (hv : LT v ts) : VCall Try.prog n_impl_kindsOf [v, .sc (.int .i64 vars)] M (fun r M' => M = M' ∧ kRes' r (kindsF vars ts)) := by
  refine VCall.froz fun R hP hG => v_impl_kindsOf rfl ?_
  (repeat' (first | ((with_reducible first | refine cond_dec (fun h => ?_) (fun h => ?_) | refine guardK_dec (fun h => ?_) (fun h => ?_) | refine guardD3_dec (fun h => ?_) (fun h => ?_)) <;> first | (exfalso; omega) | (simp (maxSteps := 2000000) (disch := first | omega | assumption | exact idP rfl | exact idP (bL rfl)) only [go_sem, reduceIte, Nat.reduceEqDiff, wpV_kd, wpV_tH, h, hv.len]) | skip) | ((with_reducible first | refine cond_split (fun h => ?_) (fun h => ?_) | refine guardK_split (fun h => ?_) (fun h => ?_) | refine guardD3_split (fun h => ?_) (fun h => ?_)) <;> ((try simp only [Bool.not_eq_true', Bool.not_eq_false'] at h); first | (simp (maxSteps := 2000000) (disch := first | omega | assumption | exact idP rfl | exact idP (bL rfl)) only [go_sem, reduceIte, Nat.reduceEqDiff, wpV_kd, wpV_tH, h, hv.len]) | skip)) | ((with_reducible refine (t_in).mono ?_); rintro _ _ ⟨rfl, rfl⟩) | (with_reducible intro bk hbk; try have hnk := (fresh_set hbk).1) | (simp (maxSteps := 2000000) (disch := first | omega | assumption | exact idP rfl | exact idP (bL rfl)) only [go_sem, reduceIte, Nat.reduceEqDiff, wpV_kd, wpV_tH, hv.len])))
  all_goals try (refine hP _ _ (sB) ?_; unfold kindsF; rw [if_neg (by omega)]; rfl)
  have hkf : kindsF vars ts = kindsGo vars ts [] := by unfold kindsF; rw [if_pos (by omega)]
  refine ⟨by omega, by omega, by simp [mostCells]; omega, by simp [mostCells]; omega, ?_⟩
  intro b5 hb5
  have e0' : (0 : Int).toNat = 0 := rfl
  refine sS2 @hv.len @e0' ?_
  refine loop_k (fun e M' => ∃ (i : Nat) (ks : List Int), i ≤ ts.length ∧ e 1 = .sc (.int .i64 vars) ∧ e 5 = .sc (.sl (some (b5, 0)) i ts.length true 1) ∧ e 24 = v ∧ e 25 = .sc (.int .i64 ts.length) ∧ e 26 = .sc (.int .i64 i) ∧ kindsGo vars (ts.take i) [] = some ks ∧ Sub M M' ∧ M' b5 = some (ks.map vi ++ List.replicate (ts.length - i) (vi 0))) (fun e _ => ctrV ts.length (e 26)) ?_ ?_
  · exact ⟨0, [], by omega, sT0, sT0, sT0, sT0, by refine sS0 ?_; rfl, rfl, (Sub.refl _).set hb5, by
      refine sS0 ?_
      rw [zeros_vi]; simp⟩
  · rintro e M1 ⟨i, ks, hi, e1, e5, e24, e25, e26, hk, hsub, hm⟩ K hK
    have hkl := (kindsGo_len hk).1
    simp at hkl
    refine sS2 @e25 @e26 ?_
    refine cond_dec (fun h => ?_) (fun h => ?_)
    · have hi' : i < ts.length := by omega
      have hkl' : ks.length = i := by omega
      have hs := kindsGo_take hi' hk
      have hke := kind1_eq vars ts[i] ks
      rw [hkl'] at hke
      simp (maxSteps := 2000000) (disch := first | omega | assumption | exact idP rfl | exact idP (bL rfl)) only [go_sem, reduceIte, Nat.reduceEqDiff, wpV_kd, wpV_tH, e1, e5, e24, e25, e26, hv.iaddr, LT.at hv hi', encT_eq]
      intro b7 hb7
      have hne : b5 ≠ b7 := fun hh => by subst hh; rw [hm] at hb7; cases hb7
      refine t_parts.mono ?_
      rintro _ _ ⟨rfl, rfl⟩
      have hpk : pKind ts[i].op ≠ 0 := by unfold pKind; split <;> omega
      have bad : kind1 vars ts[i] ks = 0 → ∀ cl, R (.sc (.sl none 0 0 true 0)) (M1.set b7 cl) := fun h0 cl => by
        refine hP _ _ (sB) ?_
        rw [hkf, kindsGo_none (i := i + 1) (by rw [hs, if_pos h0])]; rfl
      have good : kind1 vars ts[i] ks = pKind ts[i].op → ∀ (cl : List V) (K' : V → MH → Prop), (∀ M', kindsGo vars (ts.take (i + 1)) [] = some (ks ++ [pKind ts[i].op]) → Sub M M' → M' b5 = some ((ks ++ [pKind ts[i].op]).map vi ++ List.replicate (ts.length - (i + 1)) (vi 0)) → K' (.sc (.sl (some (b5, 0)) (i + 1) ts.length true 1)) M') →
          ∀ bt, (M1.set b7 cl) bt = none → appV 1 8 (.sc (.sl (some (b5, 0)) i ts.length true 1)) (.sc (.sl (some (bt, 0)) 1 1 true 1)) ((M1.set b7 cl).set bt [.sc (.int .i64 (pKind ts[i].op))]) K' := by
        intro h0 cl K' hk' bt hbt
        refine app_room (by rw [set_ne hne]; exact hm) hbt (by simp [oneV, er, oneA]) (by omega) (by simp; omega) ?_
        refine hk' _ (by rw [hs, if_neg (by rw [h0]; exact hpk), h0]) ?_ ?_
        · refine Sub.set ?_ (by cases hq : M b5 with | none => rfl | some l => rw [hq] at hb5; cases hb5)
          (repeat (first | exact Sub.refl _ | assumption | (refine Sub.set' ?_ (by assumption))))
        · rw [set_same, Nat.zero_add, rep_snoc' hkl' hi']
      have fin : ∀ M', kindsGo vars (ts.take (i + 1)) [] = some (ks ++ [pKind ts[i].op]) → Sub M M' → M' b5 = some ((ks ++ [pKind ts[i].op]).map vi ++ List.replicate (ts.length - (i + 1)) (vi 0)) → ∀ e' : EnvV, e' 1 = .sc (.int .i64 vars) → e' 5 = .sc (.sl (some (b5, 0)) ((i + 1 : Nat)) ts.length true 1) → e' 24 = v → e' 25 = .sc (.int .i64 ts.length) → e' 26 = .sc (.int .i64 ((i : Int) + 1)) → K e' M' :=
        fun M' q1 q2 q3 e' g1 g5 g24 g25 g26 => hK _ _ ⟨i + 1, _, by omega, g1, g5, g24, g25, g26, q1, q2, q3⟩ (by rw [g26, e26]; refine sS0 ?_; omega)
      by_cases c0 : ts[i].op = 0
      · rw [if_pos c0] at hke
        have c0' : decide (ts[i].op = 0) = true := by simpa using c0
        (repeat' (first | ((with_reducible first | refine cond_dec (fun h => ?_) (fun h => ?_) | refine guardK_dec (fun h => ?_) (fun h => ?_) | refine guardD3_dec (fun h => ?_) (fun h => ?_)) <;> first | (exfalso; omega) | (simp (maxSteps := 2000000) (disch := first | omega | assumption | exact idP rfl | exact idP (bL rfl)) only [go_sem, reduceIte, Nat.reduceEqDiff, wpV_kd, wpV_tH, h, c0', e1, e5]) | skip) | ((with_reducible first | refine cond_split (fun h => ?_) (fun h => ?_) | refine guardK_split (fun h => ?_) (fun h => ?_) | refine guardD3_split (fun h => ?_) (fun h => ?_)) <;> ((try simp only [Bool.not_eq_true', Bool.not_eq_false'] at h); first | (simp (maxSteps := 2000000) (disch := first | omega | assumption | exact idP rfl | exact idP (bL rfl)) only [go_sem, reduceIte, Nat.reduceEqDiff, wpV_kd, wpV_tH, h, c0', e1, e5]) | skip)) | ((with_reducible refine (t_in).mono ?_); rintro _ _ ⟨rfl, rfl⟩) | (with_reducible intro bk hbk; try have hnk := (fresh_set hbk).1) | (simp (maxSteps := 2000000) (disch := first | omega | assumption | exact idP rfl | exact idP (bL rfl)) only [go_sem, reduceIte, Nat.reduceEqDiff, wpV_kd, wpV_tH, c0', e1, e5])))
        all_goals first
          | (refine bad ?_ _; rw [hke, if_neg (by omega)])
          | (refine good (by rw [hke, if_pos (by omega)]) _ _ ?_ _ (by assumption); intro M' q1 q2 q3; refine sS0 ?_; exact fin M' q1 q2 q3 _ (sT0) (sT0) (sT0) (sT0) (sT0))
      · rw [if_neg c0] at hke
        have c0' : decide (ts[i].op = 0) = false := by simpa using c0
        by_cases c1 : ts[i].op = 1
        · rw [if_pos c1] at hke
          have c1' : decide (ts[i].op = 1) = true := by simpa using c1
          (repeat' (first | ((with_reducible first | refine cond_dec (fun h => ?_) (fun h => ?_) | refine guardK_dec (fun h => ?_) (fun h => ?_) | refine guardD3_dec (fun h => ?_) (fun h => ?_)) <;> first | (exfalso; omega) | (simp (maxSteps := 2000000) (disch := first | omega | assumption | exact idP rfl | exact idP (bL rfl)) only [go_sem, reduceIte, Nat.reduceEqDiff, wpV_kd, wpV_tH, h, c0', c1', e1, e5]) | skip) | ((with_reducible first | refine cond_split (fun h => ?_) (fun h => ?_) | refine guardK_split (fun h => ?_) (fun h => ?_) | refine guardD3_split (fun h => ?_) (fun h => ?_)) <;> ((try simp only [Bool.not_eq_true', Bool.not_eq_false'] at h); first | (simp (maxSteps := 2000000) (disch := first | omega | assumption | exact idP rfl | exact idP (bL rfl)) only [go_sem, reduceIte, Nat.reduceEqDiff, wpV_kd, wpV_tH, h, c0', c1', e1, e5]) | skip)) | ((with_reducible refine (t_in).mono ?_); rintro _ _ ⟨rfl, rfl⟩) | (with_reducible intro bk hbk; try have hnk := (fresh_set hbk).1) | (simp (maxSteps := 2000000) (disch := first | omega | assumption | exact idP rfl | exact idP (bL rfl)) only [go_sem, reduceIte, Nat.reduceEqDiff, wpV_kd, wpV_tH, c0', c1', e1, e5])))
          all_goals first
            | (refine bad ?_ _; rw [hke, if_neg (by omega)])
            | (refine good (by rw [hke, if_pos (by omega)]) _ _ ?_ _ (by assumption); intro M' q1 q2 q3; refine sS0 ?_; exact fin M' q1 q2 q3 _ (sT0) (sT0) (sT0) (sT0) (sT0))
        · rw [if_neg c1] at hke
          have c1' : decide (ts[i].op = 1) = false := by simpa using c1
          have rd : ∀ {a : Int}, 0 ≤ a → a < (i : Int) → (ks.map vi ++ List.replicate (ts.length - i) (vi 0))[a.toNat]? = some (.sc (.int .i64 (ix ks a))) := fun q1 q2 => nth_ix_app q1 (by omega)
          (repeat' (first | ((with_reducible first | refine cond_dec (fun h => ?_) (fun h => ?_) | refine guardK_dec (fun h => ?_) (fun h => ?_) | refine guardD3_dec (fun h => ?_) (fun h => ?_)) <;> first | (exfalso; omega) | (simp (maxSteps := 2000000) (disch := first | omega | assumption | exact idP rfl | exact idP (bL rfl)) only [go_sem, reduceIte, Nat.reduceEqDiff, wpV_kd, wpV_tH, h, c0', c1', e1, e5, hm, rd]) | skip) | ((with_reducible first | refine cond_split (fun h => ?_) (fun h => ?_) | refine guardK_split (fun h => ?_) (fun h => ?_) | refine guardD3_split (fun h => ?_) (fun h => ?_)) <;> ((try simp only [Bool.not_eq_true', Bool.not_eq_false'] at h); first | (simp (maxSteps := 2000000) (disch := first | omega | assumption | exact idP rfl | exact idP (bL rfl)) only [go_sem, reduceIte, Nat.reduceEqDiff, wpV_kd, wpV_tH, h, c0', c1', e1, e5, hm, rd]) | skip)) | ((with_reducible refine (t_in).mono ?_); rintro _ _ ⟨rfl, rfl⟩) | (with_reducible intro bk hbk; try have hnk := (fresh_set hbk).1) | (simp (maxSteps := 2000000) (disch := first | omega | assumption | exact idP rfl | exact idP (bL rfl)) only [go_sem, reduceIte, Nat.reduceEqDiff, wpV_kd, wpV_tH, c0', c1', e1, e5, hm, rd])))
          all_goals first
            | (refine bad ?_ _; rw [hke, if_neg (by omega)])
            | (refine good (by rw [hke, if_pos (by omega)]) _ _ ?_ _ (by assumption); intro M' q1 q2 q3; refine sS0 ?_; exact fin M' q1 q2 q3 _ (sT0) (sT0) (sT0) (sT0) (sT0))
    · obtain rfl : i = ts.length := by omega
      rw [List.take_length] at hk
      have hkl2 : ks.length = ts.length := by omega
      refine sS1 @e5 ?_
      refine hG _ _ 1 (ks.map vi) (.mk' hsub (by cases hq : M b5 with | none => rfl | some l => rw [hq] at hb5; cases hb5) (by simp; omega) (by rw [hm]; simp)) fun u hu => ?_
      rw [hkf, hk]
      exact ⟨hu.li, hu.some (by simp; omega)⟩
theorem t_kindOf {v : V} {ts : List TermS} {vars : Int} (hv : LT v ts) : VCall Try.prog n_impl_kindOf [v, .sc (.int .i64 vars)] M (fun r M' => M = M' ∧ ∃ k : Int, r = .sc (.int .i64 k) ∧ ∀ want, 0 < want → ((k = want) ↔ kindIs vars want ts = true)) := by
  refine VCall.pure fun R hR => v_impl_kindOf rfl ?_
  refine sS0 ?_
  refine (t_kindsOf hv).mono ?_
  rintro r _ ⟨rfl, hr⟩
  cases hk : kindsF vars ts with
  | none =>
    rw [hk] at hr
    simp only [kRes'] at hr
    subst hr
    (repeat' (first | ((with_reducible first | refine cond_dec (fun h => ?_) (fun h => ?_) | refine guardK_dec (fun h => ?_) (fun h => ?_) | refine guardD3_dec (fun h => ?_) (fun h => ?_)) <;> first | (exfalso; omega) | (simp (maxSteps := 2000000) (disch := first | omega | assumption | exact idP rfl | exact idP (bL rfl)) only [go_sem, reduceIte, Nat.reduceEqDiff, wpV_kd, wpV_tH, h]) | skip) | ((with_reducible first | refine cond_split (fun h => ?_) (fun h => ?_) | refine guardK_split (fun h => ?_) (fun h => ?_) | refine guardD3_split (fun h => ?_) (fun h => ?_)) <;> ((try simp only [Bool.not_eq_true', Bool.not_eq_false'] at h); first | (simp (maxSteps := 2000000) (disch := first | omega | assumption | exact idP rfl | exact idP (bL rfl)) only [go_sem, reduceIte, Nat.reduceEqDiff, wpV_kd, wpV_tH, h]) | skip)) | (with_reducible intro bk hbk; try have hnk := (fresh_set hbk).1) | (simp (maxSteps := 2000000) (disch := first | omega | assumption | exact idP rfl | exact idP (bL rfl)) only [go_sem, reduceIte, Nat.reduceEqDiff, wpV_kd, wpV_tH])))
    all_goals exact hR _ _ (sB) ⟨0, rfl, fun want hw => by simp [kindIs, hk]; omega⟩
  | some ks =>
    rw [hk] at hr
    obtain ⟨hr, hn⟩ := hr
    obtain ⟨_, _, q1, q2, _, q3⟩ := kindsF_some hk
    have e1 : ((ks.length : Int) - 1).toNat = ks.length - 1 := by omega
    (repeat' (first | ((with_reducible first | refine cond_dec (fun h => ?_) (fun h => ?_) | refine guardK_dec (fun h => ?_) (fun h => ?_) | refine guardD3_dec (fun h => ?_) (fun h => ?_)) <;> first | (exfalso; omega) | (simp (maxSteps := 2000000) (disch := first | omega | assumption | exact idP rfl | exact idP (bL rfl)) only [go_sem, reduceIte, Nat.reduceEqDiff, wpV_kd, wpV_tH, h, hn, hr.len, hr.iaddr, e1, hr.at]) | skip) | ((with_reducible first | refine cond_split (fun h => ?_) (fun h => ?_) | refine guardK_split (fun h => ?_) (fun h => ?_) | refine guardD3_split (fun h => ?_) (fun h => ?_)) <;> ((try simp only [Bool.not_eq_true', Bool.not_eq_false'] at h); first | (simp (maxSteps := 2000000) (disch := first | omega | assumption | exact idP rfl | exact idP (bL rfl)) only [go_sem, reduceIte, Nat.reduceEqDiff, wpV_kd, wpV_tH, h, hn, hr.len, hr.iaddr, e1, hr.at]) | skip)) | (with_reducible intro bk hbk; try have hnk := (fresh_set hbk).1) | (simp (maxSteps := 2000000) (disch := first | omega | assumption | exact idP rfl | exact idP (bL rfl)) only [go_sem, reduceIte, Nat.reduceEqDiff, wpV_kd, wpV_tH, hn, hr.len, hr.iaddr, e1, hr.at])))
    all_goals exact hR _ _ (sB) ⟨_, rfl, fun want hw => by simp only [kindIs, hk, getLastD_eq (show 0 < ks.length by omega), beq_iff_eq]⟩
end Go.M2

namespace Go.M2
open Go.Proofs
variable {M : MH}
theorem sets_le {vars : Int} {r : RuleS} (h : SetsOk vars r) (h0 : 0 ≤ vars) : (r.sets.length : Int) ≤ vars := by
  have : ∀ i (hi : i < r.sets.length), (i : Int) ≤ r.sets[i] := by
    intro i
    induction i with
    | zero => intro hi; have := (h 0 hi).1.1; omega
    | succ i ih =>
      intro hi
      have h1 := ih (by omega)
      have h2 := (h (i + 1) hi).2.1 (by omega)
      simp at h2
      omega
  by_cases hl : r.sets.length = 0
  · omega
  · have h1 := this (r.sets.length - 1) (by omega)
    have h2 := (h (r.sets.length - 1) (by omega)).1.2
    omega
theorem SetsOk.kind {vars : Int} {r : RuleS} (h : SetsOk vars r) {i : Nat} (hi : i < r.sets.length) (h2 : i < r.terms.length) : kindIs vars 1 r.terms[i] = true := (h i hi).2.2 h2
theorem t_l2Rule {a b c : V} {r : RuleS} {vars : Int} (ha : LT a r.when_) (hb : LI b r.sets) (hc : LTT c r.terms) (h0 : 0 ≤ vars) (h5 : vars ≤ 5) :
    VCall Try.prog n_spec_l2Rule [.agg [a, b, c], .sc (.int .i64 vars)] M (fun r' M' => M = M' ∧ ∃ t : Bool, r' = .sc (.bool t) ∧ (t = true ↔ RuleOk vars r)) := by
  refine VCall.pure fun R hR => v_spec_l2Rule rfl ?_
  refine sS0 ?_
  intro bb hbb
  have fin : ∀ t : Bool, (t = true ↔ RuleOk vars r) → R (.sc (.bool t)) (M.set bb [a, b, c]) := fun t h => hR _ _ ((Sub.refl _).set hbb) ⟨t, rfl, h⟩
  refine (t_l2Is ha).mono ?_
  rintro _ _ ⟨rfl, rfl⟩
  cases hw : kindIs vars 2 r.when_ with
  | false =>
    refine sS1 @hw ?_
    exact fin _ (by simp [RuleOk, hw])
  | true =>
    (repeat' (first | ((with_reducible first | refine cond_dec (fun h => ?_) (fun h => ?_) | refine guardK_dec (fun h => ?_) (fun h => ?_) | refine guardD3_dec (fun h => ?_) (fun h => ?_)) <;> first | (exfalso; omega) | (simp (maxSteps := 2000000) (disch := first | omega | assumption | exact idP rfl | exact idP (bL rfl)) only [go_sem, reduceIte, Nat.reduceEqDiff, wpV_kd, wpV_tH, h, hw, hb.len, hc.len]) | skip) | ((with_reducible first | refine cond_split (fun h => ?_) (fun h => ?_) | refine guardK_split (fun h => ?_) (fun h => ?_) | refine guardD3_split (fun h => ?_) (fun h => ?_)) <;> ((try simp only [Bool.not_eq_true', Bool.not_eq_false'] at h); first | (simp (maxSteps := 2000000) (disch := first | omega | assumption | exact idP rfl | exact idP (bL rfl)) only [go_sem, reduceIte, Nat.reduceEqDiff, wpV_kd, wpV_tH, h, hw, hb.len, hc.len]) | skip)) | (with_reducible intro bk hbk; try have hnk := (fresh_set hbk).1) | (simp (maxSteps := 2000000) (disch := first | omega | assumption | exact idP rfl | exact idP (bL rfl)) only [go_sem, reduceIte, Nat.reduceEqDiff, wpV_kd, wpV_tH, hw, hb.len, hc.len])))
    all_goals try (refine fin _ ?_; simp only [Bool.false_eq_true, false_iff]; intro hr; have := hr.2.1; have := sets_le hr.2.2 h0; omega)
    refine loop_k (fun e M' => M' = M.set bb [a, b, c] ∧ ∃ i : Nat, i ≤ r.sets.length ∧ e 1 = .sc (.int .i64 vars) ∧ e 2 = .sc (.ptr (some (bb, 0))) ∧ e 5 = .sc (.int .i64 i) ∧
      ∀ j (hj : j < r.sets.length), j < i → (0 ≤ r.sets[j] ∧ r.sets[j] < vars) ∧ (∀ h0 : 0 < j, r.sets[j - 1]'(by omega) < r.sets[j]) ∧ (∀ h2 : j < r.terms.length, kindIs vars 1 r.terms[j] = true)) (fun e _ => ctrV r.sets.length (e 5)) ?_ ?_
    · exact ⟨rfl, 0, by omega, sT0, sT0, by refine sS0 ?_; rfl, fun j _ h => by omega⟩
    · rintro e _ ⟨rfl, i, hi, e1, e2, e5, hj⟩ K hK
      refine sS4 @e1 @e2 @e5 @hb.len ?_
      refine cond_dec (fun h => ?_) (fun h => ?_)
      · have hi' : i < r.sets.length := by omega
        have ht := hc.elt (i := i) (by omega)
        have e8 : ((i : Int) - 1).toNat = i - 1 := by omega
        (repeat' (first | ((with_reducible first | refine cond_dec (fun h => ?_) (fun h => ?_) | refine guardK_dec (fun h => ?_) (fun h => ?_) | refine guardD3_dec (fun h => ?_) (fun h => ?_)) <;> first | (exfalso; omega) | (simp (maxSteps := 2000000) (disch := first | omega | assumption | exact idP rfl | exact idP (bL rfl)) only [go_sem, reduceIte, Nat.reduceEqDiff, wpV_kd, wpV_tH, h, e1, e2, e5, hb.len, hb.iaddr, hb.at, hc.iaddr, e8]) | skip) | ((with_reducible first | refine cond_split (fun h => ?_) (fun h => ?_) | refine guardK_split (fun h => ?_) (fun h => ?_) | refine guardD3_split (fun h => ?_) (fun h => ?_)) <;> ((try simp only [Bool.not_eq_true', Bool.not_eq_false'] at h); first | (simp (maxSteps := 2000000) (disch := first | omega | assumption | exact idP rfl | exact idP (bL rfl)) only [go_sem, reduceIte, Nat.reduceEqDiff, wpV_kd, wpV_tH, h, e1, e2, e5, hb.len, hb.iaddr, hb.at, hc.iaddr, e8]) | skip)) | ((with_reducible refine (t_l1In).mono ?_); rintro _ _ ⟨rfl, rfl⟩) | ((with_reducible refine (t_l2Is ht).mono ?_); rintro _ _ ⟨rfl, rfl⟩) | (with_reducible intro bk hbk; try have hnk := (fresh_set hbk).1) | (simp (maxSteps := 2000000) (disch := first | omega | assumption | exact idP rfl | exact idP (bL rfl)) only [go_sem, reduceIte, Nat.reduceEqDiff, wpV_kd, wpV_tH, e1, e2, e5, hb.len, hb.iaddr, hb.at, hc.iaddr, e8])))
        all_goals first
          | (refine fin _ ?_; simp only [Bool.false_eq_true, false_iff]; intro hr; have h3 := (hr.2.2 i hi').1; have h4 := (hr.2.2 i hi').2.1; have h5 := (hr.2.2 i hi').2.2 (by omega); first | omega | (have := h4 (by omega); omega) | (simp_all; done))
          | (refine hK _ _ ⟨rfl, i + 1, by omega, sT0, sT0, by refine sS0 ?_; rfl, fun j hj1 hj2 => ?_⟩ (by refine sS2 @ctrV_int @e5 ?_; omega)
             by_cases hji : j = i
             · subst hji; exact ⟨by omega, fun h0 => by omega, fun _ => by assumption⟩
             · exact hj j hj1 (by omega))
      · refine sS0 ?_
        exact fin _ (by
          simp only [true_iff]
          exact ⟨hw, by omega, fun j hj1 => hj j hj1 (by omega)⟩)
theorem t_specSystemValid {v : V} {s : SysS} (hv : isSys s v) : VCall Try.prog n_spec_SystemValid [v] M (fun r' M' => M = M' ∧ ∃ t : Bool, r' = .sc (.bool t) ∧ (t = true ↔ SysOk s)) := by
  refine VCall.pure fun R hR => v_spec_SystemValid rfl ?_
  obtain ⟨a, b, rfl, ha, hb⟩ := hv
  refine sS0 ?_
  intro bb hbb
  have fin : ∀ t : Bool, (t = true ↔ SysOk s) → R (.sc (.bool t)) (M.set bb [a, b]) := fun t h => hR _ _ ((Sub.refl _).set hbb) ⟨t, rfl, h⟩
  (repeat' (first | ((with_reducible first | refine cond_dec (fun h => ?_) (fun h => ?_) | refine guardK_dec (fun h => ?_) (fun h => ?_) | refine guardD3_dec (fun h => ?_) (fun h => ?_)) <;> first | (exfalso; omega) | (simp (maxSteps := 2000000) (disch := first | omega | assumption | exact idP rfl | exact idP (bL rfl)) only [go_sem, reduceIte, Nat.reduceEqDiff, wpV_kd, wpV_tH, h, ha.len, hb.len]) | skip) | ((with_reducible first | refine cond_split (fun h => ?_) (fun h => ?_) | refine guardK_split (fun h => ?_) (fun h => ?_) | refine guardD3_split (fun h => ?_) (fun h => ?_)) <;> ((try simp only [Bool.not_eq_true', Bool.not_eq_false'] at h); first | (simp (maxSteps := 2000000) (disch := first | omega | assumption | exact idP rfl | exact idP (bL rfl)) only [go_sem, reduceIte, Nat.reduceEqDiff, wpV_kd, wpV_tH, h, ha.len, hb.len]) | skip)) | ((with_reducible refine (t_l1In).mono ?_); rintro _ _ ⟨rfl, rfl⟩) | (with_reducible intro bk hbk; try have hnk := (fresh_set hbk).1) | (simp (maxSteps := 2000000) (disch := first | omega | assumption | exact idP rfl | exact idP (bL rfl)) only [go_sem, reduceIte, Nat.reduceEqDiff, wpV_kd, wpV_tH, ha.len, hb.len])))
  all_goals try (refine fin _ ?_; simp only [Bool.false_eq_true, false_iff]; intro hr; have := hr.v1; have := hr.v5; have := hr.r8; omega)
  refine loop_k (fun e M' => M' = M.set bb [a, b] ∧ ∃ i : Nat, i ≤ s.vars.length ∧ e 1 = .sc (.ptr (some (bb, 0))) ∧ e 3 = .sc (.int .i64 (sizeF (s.vars.take i))) ∧ e 4 = .sc (.int .i64 i) ∧
    ∀ j (hj : j < s.vars.length), j < i → VarOk s.vars[j]) (fun e _ => ctrV s.vars.length (e 4)) ?_ ?_
  · exact ⟨rfl, 0, by omega, sT0, by refine sS0 ?_; simp [sizeF], by refine sS0 ?_; rfl, fun j _ h => by omega⟩
  · rintro e _ ⟨rfl, i, hi, e1, e3, e4, hj⟩ K hK
    have hbd := sizeF_take_bd (by omega) hj
    refine sS4 @e1 @e3 @e4 @ha.len ?_
    refine cond_dec (fun h => ?_) (fun h => ?_)
    · have hi' : i < s.vars.length := by omega
      have e5 : (encVar s.vars[i]).take 3 = encVar s.vars[i] := rfl
      have hat := ha.elt hi'
      simp only [isVar] at hat
      refine sS6 @e1 @e3 @e4 @ha.iaddr @hat @e5 ?_
      refine t_l2Var.mono ?_
      rintro _ _ ⟨rfl, rfl⟩
      refine sS0 ?_
      refine cond_dec (fun h2 => ?_) (fun h2 => ?_)
      · refine sS0 ?_
        exact fin _ (by simp only [Bool.false_eq_true, false_iff]; intro hr; exact h2 (hr.vars _ (List.getElem_mem hi')))
      · have h2 : VarOk s.vars[i] := Decidable.not_not.1 h2
        have hbd2 := sizeF_take_bd (i := i + 1) (vs := s.vars) (by omega) (fun j hj1 hj2 => by
          by_cases hji : j = i
          · subst hji; exact h2
          · exact hj j hj1 (by omega))
        have hsz := sizeF_take hi'
        rw [hsz] at hbd2
        obtain ⟨q1, q2, q3, q4⟩ := h2
        simp (maxSteps := 2000000) (disch := first | omega | assumption | exact idP rfl | exact idP (bL rfl)) only [go_sem, reduceIte, Nat.reduceEqDiff, wpV_kd, wpV_tH, e1, e3, e4, ha.iaddr, hat, encVar]
        refine hK _ _ ⟨rfl, i + 1, by omega, sT0, by refine sS0 ?_; rw [hsz], by refine sS0 ?_; rfl, fun j hj1 hj2 => ?_⟩ (by refine sS2 @ctrV_int @e4 ?_; omega)
        by_cases hji : j = i
        · subst hji; exact ⟨q1, q2, q3, q4⟩
        · exact hj j hj1 (by omega)
    · obtain rfl : i = s.vars.length := by omega
      rw [List.take_length] at e3 hbd
      refine sS1 @e3 ?_
      refine loop_k (fun e M' => M' = M.set bb [a, b] ∧ ∃ i : Nat, i ≤ s.rules.length ∧ e 1 = .sc (.ptr (some (bb, 0))) ∧ e 3 = .sc (.int .i64 (sizeF s.vars)) ∧ e 5 = .sc (.int .i64 i) ∧
        ∀ j (hj : j < s.rules.length), j < i → RuleOk (s.vars.length : Int) s.rules[j]) (fun e _ => ctrV s.rules.length (e 5)) ?_ ?_
      · exact ⟨rfl, 0, by omega, sT1 @e1, by simp (maxSteps := 2000000) (disch := first | omega | assumption | exact idP rfl | exact idP (bL rfl)) only [go_sem, reduceIte, Nat.reduceEqDiff, wpV_kd, wpV_tH, List.take_length], by refine sS0 ?_; rfl, fun j _ h => by omega⟩
      · rintro e _ ⟨rfl, i, hi2, e1, e3, e5, hj2⟩ K2 hK2
        refine sS4 @e1 @e3 @e5 @hb.len ?_
        refine cond_dec (fun h => ?_) (fun h => ?_)
        · have hi' : i < s.rules.length := by omega
          obtain ⟨x, y, z, hat, q1, q2, q3⟩ := hb.elt hi'
          refine sS6 @e1 @e3 @e5 @hb.iaddr @hat @ha.len ?_
          refine (t_l2Rule q1 q2 q3 (by omega) (by omega)).mono ?_
          rintro _ _ ⟨rfl, t, rfl, ht⟩
          cases t with
          | false =>
            refine sS0 ?_
            exact fin _ (by simp only [Bool.false_eq_true, false_iff]; intro hr; have := ht.2 (hr.rules _ (List.getElem_mem hi')); cases this)
          | true =>
            refine sS0 ?_
            refine hK2 _ _ ⟨rfl, i + 1, by omega, sT0, sT0, by refine sS0 ?_; rfl, fun j hj3 hj4 => ?_⟩ (by refine sS2 @ctrV_int @e5 ?_; omega)
            by_cases hji : j = i
            · subst hji; exact ht.1 rfl
            · exact hj2 j hj3 (by omega)
        · refine sS1 @e3 ?_
          refine fin _ ?_
          simp only [decide_eq_true_eq]
          refine ⟨fun h400 => ⟨by omega, by omega, by omega, fun v hv => ?_, fun r hr => ?_, h400⟩, fun h => h.size⟩
          · obtain ⟨j, hj1, rfl⟩ := List.getElem_of_mem hv
            exact hj j hj1 hj1
          · obtain ⟨j, hj1, rfl⟩ := List.getElem_of_mem hr
            exact hj2 j hj1 (by omega)
noncomputable def sysB (s : SysS) : Bool := @decide (SysOk s) (Classical.propDecidable _)
theorem sysB_iff (s : SysS) : sysB s = true ↔ SysOk s := by unfold sysB; exact @decide_eq_true_iff _ (Classical.propDecidable _)
theorem eq_of_iff {t u : Bool} (h : t = true ↔ u = true) : t = u := by cases t <;> cases u <;> simp_all
theorem t_SystemValidS {v : V} {s : SysS} (hv : isSys s v) : VCall Try.prog n_spec_SystemValid [v] M (fun r' M' => M = M' ∧ r' = .sc (.bool (sysB s))) :=
  (t_specSystemValid hv).mono fun r M' ⟨h, t, h1, h2⟩ => ⟨h, by rw [h1, eq_of_iff (h2.trans (sysB_iff s).symm)]⟩
end Go.M2

namespace Go.M2
open Go.Proofs
variable {M : MH}
theorem t_varOk {v : VarS} : VCall Try.prog n_impl_varOk [.agg (encVar v)] M (fun r M' => M = M' ∧ r = .sc (.bool (decide (VarOk v)))) := by
  refine VCall.pure fun R hR => v_impl_varOk rfl ?_
  obtain ⟨lo, hi, f⟩ := v
  simp only [encVar]
  (repeat' (first | ((with_reducible first | refine cond_dec (fun h => ?_) (fun h => ?_) | refine guardK_dec (fun h => ?_) (fun h => ?_) | refine guardD3_dec (fun h => ?_) (fun h => ?_)) <;> first | (exfalso; omega) | (simp (maxSteps := 2000000) (disch := first | omega | assumption | exact idP rfl | exact idP (bL rfl)) only [go_sem, reduceIte, Nat.reduceEqDiff, wpV_kd, wpV_tH, h]) | skip) | ((with_reducible first | refine cond_split (fun h => ?_) (fun h => ?_) | refine guardK_split (fun h => ?_) (fun h => ?_) | refine guardD3_split (fun h => ?_) (fun h => ?_)) <;> ((try simp only [Bool.not_eq_true', Bool.not_eq_false'] at h); first | (simp (maxSteps := 2000000) (disch := first | omega | assumption | exact idP rfl | exact idP (bL rfl)) only [go_sem, reduceIte, Nat.reduceEqDiff, wpV_kd, wpV_tH, h]) | skip)) | ((with_reducible refine (t_in).mono ?_); rintro _ _ ⟨rfl, rfl⟩) | (with_reducible intro bk hbk; try have hnk := (fresh_set hbk).1) | (simp (maxSteps := 2000000) (disch := first | omega | assumption | exact idP rfl | exact idP (bL rfl)) only [go_sem, reduceIte, Nat.reduceEqDiff, wpV_kd, wpV_tH])))
  all_goals exact hR _ _ (sB) (by (refine eqB ?_; (try simp only [decide_eq_true_eq, Bool.false_eq_true, Bool.and_eq_true, Bool.or_eq_true, Bool.not_eq_true', decide_eq_false_iff_not, eq_self_iff_true, true_iff, false_iff, iff_true, iff_false, ne_eq]); (try simp only [VarOk]); (try omega)))
theorem t_impSize {v : V} {vars : List VarS} (hv : LVar v vars) (hok : ∀ x ∈ vars, VarOk x) (h5 : vars.length ≤ 5) : VCall Try.prog n_impl_size [v] M (fun r M' => M = M' ∧ r = .sc (.int .i64 (sizeF vars))) := by
  refine VCall.pure fun R hR => v_impl_size rfl ?_
  refine sS1 @hv.len ?_
  refine loop_k (fun e M' => Sub M M' ∧ ∃ i : Nat, i ≤ vars.length ∧ e 3 = .sc (.int .i64 (sizeF (vars.take i))) ∧ e 6 = v ∧ e 7 = .sc (.int .i64 vars.length) ∧ e 8 = .sc (.int .i64 i)) (fun e _ => ctrV vars.length (e 8)) ?_ ?_
  · exact ⟨Sub.refl _, 0, by omega, by refine sS0 ?_; simp [sizeF], sT0, sT0, by refine sS0 ?_; rfl⟩
  · rintro e M1 ⟨hsub, i, hi, e3, e6, e7, e8⟩ K hK
    have hb1 := sizeF_take_bd (vs := vars) (i := i) h5 (fun j hj _ => hok _ (List.getElem_mem hj))
    refine sS2 @e7 @e8 ?_
    refine cond_dec (fun h => ?_) (fun h => ?_)
    · have hi' : i < vars.length := by omega
      have hb2 := sizeF_take_bd (vs := vars) (i := i + 1) h5 (fun j hj _ => hok _ (List.getElem_mem hj))
      have hsz := sizeF_take hi'
      rw [hsz] at hb2
      have ho := hok _ (List.getElem_mem hi')
      unfold VarOk at ho
      simp (maxSteps := 2000000) (disch := first | omega | assumption | exact idP rfl | exact idP (bL rfl)) only [go_sem, reduceIte, Nat.reduceEqDiff, wpV_kd, wpV_tH, e3, e6, e8, hv.iaddr, LVar.at hv hi']
      intro b5 hb5
      exact hK _ _ ⟨sB, i + 1, by omega, by refine sS0 ?_; rw [hsz], sT0, sT0, by refine sS0 ?_; rfl⟩ (by refine sS2 @ctrV_int @e8 ?_; omega)
    · obtain rfl : i = vars.length := by omega
      refine sS1 @e3 ?_
      exact hR _ _ (sB) (by rw [List.take_length])
theorem t_ruleOk {a b c : V} {r : RuleS} {vars : Int} (ha : LT a r.when_) (hb : LI b r.sets) (hc : LTT c r.terms) (h0 : 0 ≤ vars) (h5 : vars ≤ 5) (hl : r.sets.length ≤ 1048576) :
    VCall Try.prog n_impl_ruleOk [.agg [a, b, c], .sc (.int .i64 vars)] M (fun r' M' => M = M' ∧ ∃ t : Bool, r' = .sc (.bool t) ∧ (t = true ↔ RuleOk vars r)) := by
  refine VCall.pure fun R hR => v_impl_ruleOk rfl ?_
  refine sS0 ?_
  intro bb hbb
  refine (t_kindOf ha).mono ?_
  rintro _ _ ⟨rfl, kw, rfl, hw⟩
  have hw := hw 2 (by omega)
  (repeat' (first | ((with_reducible first | refine cond_dec (fun h => ?_) (fun h => ?_) | refine guardK_dec (fun h => ?_) (fun h => ?_) | refine guardD3_dec (fun h => ?_) (fun h => ?_)) <;> first | (exfalso; omega) | (simp (maxSteps := 2000000) (disch := first | omega | assumption | exact idP rfl | exact idP (bL rfl)) only [go_sem, reduceIte, Nat.reduceEqDiff, wpV_kd, wpV_tH, h, hb.len, hc.len]) | skip) | ((with_reducible first | refine cond_split (fun h => ?_) (fun h => ?_) | refine guardK_split (fun h => ?_) (fun h => ?_) | refine guardD3_split (fun h => ?_) (fun h => ?_)) <;> ((try simp only [Bool.not_eq_true', Bool.not_eq_false'] at h); first | (simp (maxSteps := 2000000) (disch := first | omega | assumption | exact idP rfl | exact idP (bL rfl)) only [go_sem, reduceIte, Nat.reduceEqDiff, wpV_kd, wpV_tH, h, hb.len, hc.len]) | skip)) | (with_reducible intro bk hbk; try have hnk := (fresh_set hbk).1) | (simp (maxSteps := 2000000) (disch := first | omega | assumption | exact idP rfl | exact idP (bL rfl)) only [go_sem, reduceIte, Nat.reduceEqDiff, wpV_kd, wpV_tH, hb.len, hc.len])))
  · refine hR _ _ (sB) ⟨false, rfl, ?_⟩
    simp only [Bool.false_eq_true, false_iff]
    intro hr; exact absurd (hw.2 hr.1) (by assumption)
  · refine hR _ _ (sB) ⟨false, rfl, ?_⟩
    simp only [Bool.false_eq_true, false_iff]
    intro hr; have := hr.2.1; omega
  · have hkw : kindIs vars 2 r.when_ = true := hw.1 (by omega)
    refine loop_k (fun e M' => M' = M.set bb [a, b, c] ∧ ∃ i : Nat, i ≤ r.sets.length ∧ e 1 = .sc (.int .i64 vars) ∧ e 2 = .sc (.ptr (some (bb, 0))) ∧ e 22 = b ∧ e 23 = .sc (.int .i64 r.sets.length) ∧ e 24 = .sc (.int .i64 i) ∧
      ∀ j (hj : j < r.sets.length), j < i → (0 ≤ r.sets[j] ∧ r.sets[j] < vars) ∧ (∀ h0 : 0 < j, r.sets[j - 1]'(by omega) < r.sets[j]) ∧ (∀ h2 : j < r.terms.length, kindIs vars 1 r.terms[j] = true)) (fun e _ => ctrV r.sets.length (e 24)) ?_ ?_
    · exact ⟨rfl, 0, by omega, sT0, sT0, sT0, sT0, by refine sS0 ?_; rfl, fun j _ h => by omega⟩
    · rintro e _ ⟨rfl, i, hi, e1, e2, e22, e23, e24, hj⟩ K hK
      refine sS2 @e23 @e24 ?_
      refine cond_dec (fun h => ?_) (fun h => ?_)
      · have hi' : i < r.sets.length := by omega
        have e8 : ((i : Int) - 1).toNat = i - 1 := by omega
        have bad : ¬ RuleOk vars r → R (.sc (.bool false)) (M.set bb [a, b, c]) := fun hn => hR _ _ (sB) ⟨false, rfl, by simp only [Bool.false_eq_true, false_iff]; exact hn⟩
        have hti := hc.elt (i := i) (by omega)
        (repeat' (first | ((with_reducible first | refine cond_dec (fun h => ?_) (fun h => ?_) | refine guardK_dec (fun h => ?_) (fun h => ?_) | refine guardD3_dec (fun h => ?_) (fun h => ?_)) <;> first | (exfalso; omega) | (simp (maxSteps := 2000000) (disch := first | omega | assumption | exact idP rfl | exact idP (bL rfl)) only [go_sem, reduceIte, Nat.reduceEqDiff, wpV_kd, wpV_tH, h, e1, e2, e22, e24, hb.iaddr, hb.at, hc.iaddr, e8]) | skip) | ((with_reducible first | refine cond_split (fun h => ?_) (fun h => ?_) | refine guardK_split (fun h => ?_) (fun h => ?_) | refine guardD3_split (fun h => ?_) (fun h => ?_)) <;> ((try simp only [Bool.not_eq_true', Bool.not_eq_false'] at h); first | (simp (maxSteps := 2000000) (disch := first | omega | assumption | exact idP rfl | exact idP (bL rfl)) only [go_sem, reduceIte, Nat.reduceEqDiff, wpV_kd, wpV_tH, h, e1, e2, e22, e24, hb.iaddr, hb.at, hc.iaddr, e8]) | skip)) | ((with_reducible refine (t_in).mono ?_); rintro _ _ ⟨rfl, rfl⟩) | (with_reducible intro bk hbk; try have hnk := (fresh_set hbk).1) | (simp (maxSteps := 2000000) (disch := first | omega | assumption | exact idP rfl | exact idP (bL rfl)) only [go_sem, reduceIte, Nat.reduceEqDiff, wpV_kd, wpV_tH, e1, e2, e22, e24, hb.iaddr, hb.at, hc.iaddr, e8])))
        all_goals first
          | (refine bad fun hr => ?_; have h3 := (hr.2.2 i hi').1; have h4 := (hr.2.2 i hi').2.1; first | omega | (have := h4 (by omega); omega))
          | skip
        all_goals (refine (t_kindOf hti).mono ?_; rintro _ _ ⟨rfl, ki, rfl, hki⟩; have hki := hki 1 (by omega))
        all_goals (repeat' (first | ((with_reducible first | refine cond_dec (fun h => ?_) (fun h => ?_) | refine guardK_dec (fun h => ?_) (fun h => ?_) | refine guardD3_dec (fun h => ?_) (fun h => ?_)) <;> first | (exfalso; omega) | (simp (maxSteps := 2000000) (disch := first | omega | assumption | exact idP rfl | exact idP (bL rfl)) only [go_sem, reduceIte, Nat.reduceEqDiff, wpV_kd, wpV_tH, h, e1, e2, e22, e24, hb.iaddr, hb.at, hc.iaddr, e8]) | skip) | ((with_reducible first | refine cond_split (fun h => ?_) (fun h => ?_) | refine guardK_split (fun h => ?_) (fun h => ?_) | refine guardD3_split (fun h => ?_) (fun h => ?_)) <;> ((try simp only [Bool.not_eq_true', Bool.not_eq_false'] at h); first | (simp (maxSteps := 2000000) (disch := first | omega | assumption | exact idP rfl | exact idP (bL rfl)) only [go_sem, reduceIte, Nat.reduceEqDiff, wpV_kd, wpV_tH, h, e1, e2, e22, e24, hb.iaddr, hb.at, hc.iaddr, e8]) | skip)) | (with_reducible intro bk hbk; try have hnk := (fresh_set hbk).1) | (simp (maxSteps := 2000000) (disch := first | omega | assumption | exact idP rfl | exact idP (bL rfl)) only [go_sem, reduceIte, Nat.reduceEqDiff, wpV_kd, wpV_tH, e1, e2, e22, e24, hb.iaddr, hb.at, hc.iaddr, e8])))
        all_goals first
          | (refine bad fun hr => ?_; have h5 := (hr.2.2 i hi').2.2 (by omega); exact absurd (hki.2 h5) (by assumption))
          | (refine hK _ _ ⟨rfl, i + 1, by omega, sT0, sT0, sT0, sT0, by refine sS0 ?_; rfl, fun j hj1 hj2 => ?_⟩ (by refine sS2 @ctrV_int @e24 ?_; omega)
             by_cases hji : j = i
             · subst hji; exact ⟨by omega, fun h0 => by omega, fun _ => hki.1 (by omega)⟩
             · exact hj j hj1 (by omega))
      · refine sS0 ?_
        exact hR _ _ (sB) ⟨true, rfl, by
          simp only [true_iff]
          exact ⟨hkw, by omega, fun j hj1 => hj j hj1 (by omega)⟩⟩
theorem t_IndexVar {v : V} {fn : Nat} {caps : List V} {xs : List VarS} {pred : VarS → Bool} (hv : LVar v xs) (hl : xs.length ≤ 1048576)
    (hf : ∀ x ∈ xs, VCall Try.prog fn (.agg (encVar x) :: caps) M (fun r M' => M = M' ∧ r = .sc (.bool (pred x)))) :
    VCall Try.prog n_slices_ContainsFunc_Simpl_Var_impl_Var [v, .fn fn caps] M (fun r M' => M = M' ∧ r = .sc (.bool (xs.any pred))) := by
  have key : VCall Try.prog n_slices_IndexFunc_Simpl_Var_impl_Var [v, .fn fn caps] M (fun r M' => M = M' ∧ ∃ k : Int, r = .sc (.int .i64 k) ∧ (0 ≤ k ↔ xs.any pred = true)) := by
    refine VCall.pure fun R hR => v_slices_IndexFunc_Simpl_Var_impl_Var rfl ?_
    refine sS1 @hv.len ?_
    refine loop_k (fun e M' => M' = M ∧ ∃ i : Nat, i ≤ xs.length ∧ e 0 = v ∧ e 1 = .fn fn caps ∧ e 7 = .sc (.int .i64 xs.length) ∧ e 8 = .sc (.int .i64 i) ∧ ∀ j (hj : j < xs.length), j < i → pred xs[j] = false) (fun e _ => ctrV xs.length (e 8)) ?_ ?_
    · exact ⟨rfl, 0, by omega, sT0, sT0, sT0, by refine sS0 ?_; rfl, fun j _ h => by omega⟩
    · rintro e M1 ⟨hM, i, hi, e0, e1, e7, e8, hj⟩ K hK
      subst hM
      refine sS2 @e7 @e8 ?_
      refine cond_dec (fun h => ?_) (fun h => ?_)
      · have hi' : i < xs.length := by omega
        simp (maxSteps := 2000000) (disch := first | omega | assumption | exact idP rfl | exact idP (bL rfl)) only [go_sem, reduceIte, Nat.reduceEqDiff, wpV_kd, wpV_tH, e0, e1, e8, hv.iaddr, LVar.at hv hi']
        refine (hf _ (List.getElem_mem hi')).mono ?_
        rintro _ _ ⟨rfl, rfl⟩
        cases hp : pred xs[i] with
        | true =>
          refine sS0 ?_
          exact hR _ _ (sB) ⟨_, rfl, by simp only [Int.natCast_nonneg, true_iff]; exact List.any_eq_true.2 ⟨_, List.getElem_mem hi', hp⟩⟩
        | false =>
          refine sS1 @e8 ?_
          refine hK _ _ ⟨rfl, i + 1, by omega, sT0, sT0, sT0, by refine sS0 ?_; rfl, fun j hj1 hj2 => ?_⟩ (by refine sS2 @ctrV_int @e8 ?_; omega)
          by_cases hji : j = i
          · subst hji; exact hp
          · exact hj j hj1 (by omega)
      · refine sS0 ?_
        refine hR _ _ (sB) ⟨-1, rfl, ⟨fun h => by omega, fun h => ?_⟩⟩
        obtain ⟨x, hx, hpx⟩ := List.any_eq_true.1 h
        obtain ⟨j, hj1, rfl⟩ := List.getElem_of_mem hx
        rw [hj j hj1 (by omega)] at hpx; cases hpx
  refine VCall.pure fun R hR => v_slices_ContainsFunc_Simpl_Var_impl_Var rfl ?_
  refine sS0 ?_
  refine key.mono ?_
  rintro _ _ ⟨rfl, k, rfl, hk⟩
  refine sS0 ?_
  exact hR _ _ (sB) (eqB (by simp only [decide_eq_true_eq]; exact hk))
end Go.M2

namespace Go.M2
open Go.Proofs
variable {M : MH}
theorem t_IndexRule {v : V} {fn : Nat} {caps : List V} {xs : List RuleS} {pred : RuleS → Bool} (hv : LR v xs) (hl : xs.length ≤ 1048576)
    (hf : ∀ x ∈ xs, ∀ cs, isRule x cs → VCall Try.prog fn (.agg cs :: caps) M (fun r M' => M = M' ∧ r = .sc (.bool (pred x)))) :
    VCall Try.prog n_slices_ContainsFunc_Simpl_Rule_impl_Rule [v, .fn fn caps] M (fun r M' => M = M' ∧ r = .sc (.bool (xs.any pred))) := by
  have key : VCall Try.prog n_slices_IndexFunc_Simpl_Rule_impl_Rule [v, .fn fn caps] M (fun r M' => M = M' ∧ ∃ k : Int, r = .sc (.int .i64 k) ∧ (0 ≤ k ↔ xs.any pred = true)) := by
    refine VCall.pure fun R hR => v_slices_IndexFunc_Simpl_Rule_impl_Rule rfl ?_
    refine sS1 @hv.len ?_
    refine loop_k (fun e M' => M' = M ∧ ∃ i : Nat, i ≤ xs.length ∧ e 0 = v ∧ e 1 = .fn fn caps ∧ e 7 = .sc (.int .i64 xs.length) ∧ e 8 = .sc (.int .i64 i) ∧ ∀ j (hj : j < xs.length), j < i → pred xs[j] = false) (fun e _ => ctrV xs.length (e 8)) ?_ ?_
    · exact ⟨rfl, 0, by omega, sT0, sT0, sT0, by refine sS0 ?_; rfl, fun j _ h => by omega⟩
    · rintro e M1 ⟨hM, i, hi, e0, e1, e7, e8, hj⟩ K hK
      subst hM
      refine sS2 @e7 @e8 ?_
      refine cond_dec (fun h => ?_) (fun h => ?_)
      · have hi' : i < xs.length := by omega
        have hcs := hv.elt hi'
        have hrule := hcs
        obtain ⟨c1, c2, c3, hat, _, _, _⟩ := hcs
        rw [hat] at hrule
        refine sS5 @e0 @e1 @e8 @hv.iaddr @hat ?_
        refine (hf _ (List.getElem_mem hi') _ hrule).mono ?_
        rintro _ _ ⟨rfl, rfl⟩
        cases hp : pred xs[i] with
        | true =>
          refine sS0 ?_
          exact hR _ _ (sB) ⟨_, rfl, by simp only [Int.natCast_nonneg, true_iff]; exact List.any_eq_true.2 ⟨_, List.getElem_mem hi', hp⟩⟩
        | false =>
          refine sS1 @e8 ?_
          refine hK _ _ ⟨rfl, i + 1, by omega, sT0, sT0, sT0, by refine sS0 ?_; rfl, fun j hj1 hj2 => ?_⟩ (by refine sS2 @ctrV_int @e8 ?_; omega)
          by_cases hji : j = i
          · subst hji; exact hp
          · exact hj j hj1 (by omega)
      · refine sS0 ?_
        refine hR _ _ (sB) ⟨-1, rfl, ⟨fun h => by omega, fun h => ?_⟩⟩
        obtain ⟨x, hx, hpx⟩ := List.any_eq_true.1 h
        obtain ⟨j, hj1, rfl⟩ := List.getElem_of_mem hx
        rw [hj j hj1 (by omega)] at hpx; cases hpx
  refine VCall.pure fun R hR => v_slices_ContainsFunc_Simpl_Rule_impl_Rule rfl ?_
  refine sS0 ?_
  refine key.mono ?_
  rintro _ _ ⟨rfl, k, rfl, hk⟩
  refine sS0 ?_
  exact hR _ _ (sB) (eqB (by simp only [decide_eq_true_eq]; exact hk))
noncomputable def ruleB (vars : Int) (r : RuleS) : Bool := @decide (RuleOk vars r) (Classical.propDecidable _)
theorem ruleB_iff (vars : Int) (r : RuleS) : ruleB vars r = true ↔ RuleOk vars r := by unfold ruleB; exact @decide_eq_true_iff _ (Classical.propDecidable _)
def SysSz (s : SysS) : Prop := s.vars.length ≤ 1048576 ∧ s.rules.length ≤ 1048576 ∧ ∀ r ∈ s.rules, r.sets.length ≤ 1048576
theorem t_impSystemValid {v : V} {s : SysS} (hv : isSys s v) (hsz : SysSz s) : VCall Try.prog n_impl_SystemValid [v] M (fun r' M' => M = M' ∧ r' = .sc (.bool (sysB s))) := by
  refine VCall.pure fun R hR => v_impl_SystemValid rfl ?_
  obtain ⟨a, b, rfl, ha, hb⟩ := hv
  have bad : ¬ SysOk s → sysB s = false := fun h => by
    cases hq : sysB s with
    | false => rfl
    | true => exact absurd ((sysB_iff s).1 hq) h
  have h1 : ∀ (M : MH), ∀ x ∈ s.vars, VCall Try.prog n_impl_SystemValid_1 (.agg (encVar x) :: []) M (fun r M' => M = M' ∧ r = .sc (.bool (!decide (VarOk x)))) := by
    intro M x _
    refine VCall.pure fun R hR => v_impl_SystemValid_1 rfl ?_
    simp (maxSteps := 2000000) (disch := first | omega | assumption | exact idP rfl | exact idP (bL rfl)) only [go_sem, reduceIte, Nat.reduceEqDiff, wpV_kd, wpV_tH, encVar]
    intro b1 hb1
    refine (t_varOk (v := x)).mono ?_
    rintro _ _ ⟨rfl, rfl⟩
    refine sS0 ?_
    exact hR _ _ (sB) (by rw [decide_not])
  (repeat' (first | ((with_reducible first | refine cond_dec (fun h => ?_) (fun h => ?_) | refine guardK_dec (fun h => ?_) (fun h => ?_) | refine guardD3_dec (fun h => ?_) (fun h => ?_)) <;> first | (exfalso; omega) | (simp (maxSteps := 2000000) (disch := first | omega | assumption | exact idP rfl | exact idP (bL rfl)) only [go_sem, reduceIte, Nat.reduceEqDiff, wpV_kd, wpV_tH, h, ha.len, hb.len]) | skip) | ((with_reducible first | refine cond_split (fun h => ?_) (fun h => ?_) | refine guardK_split (fun h => ?_) (fun h => ?_) | refine guardD3_split (fun h => ?_) (fun h => ?_)) <;> ((try simp only [Bool.not_eq_true', Bool.not_eq_false'] at h); first | (simp (maxSteps := 2000000) (disch := first | omega | assumption | exact idP rfl | exact idP (bL rfl)) only [go_sem, reduceIte, Nat.reduceEqDiff, wpV_kd, wpV_tH, h, ha.len, hb.len]) | skip)) | ((with_reducible refine (t_in).mono ?_); rintro _ _ ⟨rfl, rfl⟩) | (with_reducible intro bk hbk; try have hnk := (fresh_set hbk).1) | (simp (maxSteps := 2000000) (disch := first | omega | assumption | exact idP rfl | exact idP (bL rfl)) only [go_sem, reduceIte, Nat.reduceEqDiff, wpV_kd, wpV_tH, ha.len, hb.len])))
  all_goals try (exact hR _ _ (sB) (by rw [bad fun hs => by have := hs.v1; have := hs.v5; have := hs.r8; omega]))
  · refine (t_IndexVar ha hsz.1 (h1 _)).mono ?_
    rintro _ _ ⟨rfl, rfl⟩
    cases hany : s.vars.any (fun x => !decide (VarOk x)) with
    | true =>
      (repeat' (first | ((with_reducible first | refine cond_dec (fun h => ?_) (fun h => ?_) | refine guardK_dec (fun h => ?_) (fun h => ?_) | refine guardD3_dec (fun h => ?_) (fun h => ?_)) <;> first | (exfalso; omega) | (simp (maxSteps := 2000000) (disch := first | omega | assumption | exact idP rfl | exact idP (bL rfl)) only [go_sem, reduceIte, Nat.reduceEqDiff, wpV_kd, wpV_tH, h]) | skip) | ((with_reducible first | refine cond_split (fun h => ?_) (fun h => ?_) | refine guardK_split (fun h => ?_) (fun h => ?_) | refine guardD3_split (fun h => ?_) (fun h => ?_)) <;> ((try simp only [Bool.not_eq_true', Bool.not_eq_false'] at h); first | (simp (maxSteps := 2000000) (disch := first | omega | assumption | exact idP rfl | exact idP (bL rfl)) only [go_sem, reduceIte, Nat.reduceEqDiff, wpV_kd, wpV_tH, h]) | skip)) | (with_reducible intro bk hbk; try have hnk := (fresh_set hbk).1) | (simp (maxSteps := 2000000) (disch := first | omega | assumption | exact idP rfl | exact idP (bL rfl)) only [go_sem, reduceIte, Nat.reduceEqDiff, wpV_kd, wpV_tH])))
      all_goals refine hR _ _ (sB) ?_
      all_goals rw [bad fun hs => by
        obtain ⟨x, hx, hpx⟩ := List.any_eq_true.1 hany
        have := hs.vars x hx
        simp [this] at hpx]
    | false =>
      have hvars : ∀ x ∈ s.vars, VarOk x := fun x hx => by
        have := List.any_eq_false.1 hany x hx
        simpa using this
      (repeat' (first | ((with_reducible first | refine cond_dec (fun h => ?_) (fun h => ?_) | refine guardK_dec (fun h => ?_) (fun h => ?_) | refine guardD3_dec (fun h => ?_) (fun h => ?_)) <;> first | (exfalso; omega) | (simp (maxSteps := 2000000) (disch := first | omega | assumption | exact idP rfl | exact idP (bL rfl)) only [go_sem, reduceIte, Nat.reduceEqDiff, wpV_kd, wpV_tH, h]) | skip) | ((with_reducible first | refine cond_split (fun h => ?_) (fun h => ?_) | refine guardK_split (fun h => ?_) (fun h => ?_) | refine guardD3_split (fun h => ?_) (fun h => ?_)) <;> ((try simp only [Bool.not_eq_true', Bool.not_eq_false'] at h); first | (simp (maxSteps := 2000000) (disch := first | omega | assumption | exact idP rfl | exact idP (bL rfl)) only [go_sem, reduceIte, Nat.reduceEqDiff, wpV_kd, wpV_tH, h]) | skip)) | ((with_reducible refine (t_impSize ha hvars (by omega)).mono ?_); rintro _ _ ⟨rfl, rfl⟩) | (with_reducible intro bk hbk; try have hnk := (fresh_set hbk).1) | (simp (maxSteps := 2000000) (disch := first | omega | assumption | exact idP rfl | exact idP (bL rfl)) only [go_sem, reduceIte, Nat.reduceEqDiff, wpV_kd, wpV_tH])))
      · exact hR _ _ (sB) (by rw [bad fun hs => by have := hs.size; omega])
      · have h2 : ∀ x ∈ s.rules, ∀ cs, isRule x cs → VCall Try.prog n_impl_SystemValid_2 (.agg cs :: [.sc (.ptr (some (bk, 0)))]) (M.set bk [a, b]) (fun r M' => (M.set bk [a, b]) = M' ∧ r = .sc (.bool (!ruleB (s.vars.length : Int) x))) := by
          rintro x hx cs ⟨c1, c2, c3, rfl, q1, q2, q3⟩
          refine VCall.pure fun R hR => v_impl_SystemValid_2 rfl ?_
          refine sS0 ?_
          intro b2 hb2
          have hne := (fresh_set hb2).1
          refine sS1 @ha.len ?_
          refine (t_ruleOk q1 q2 q3 (by omega) (by omega) (hsz.2.2 x hx)).mono ?_
          rintro _ _ ⟨rfl, t, rfl, ht⟩
          refine sS0 ?_
          exact hR _ _ (sB) (by rw [eq_of_iff (ht.trans (ruleB_iff _ _).symm)])
        refine (t_IndexRule hb hsz.2.1 h2).mono ?_
        rintro _ _ ⟨rfl, rfl⟩
        refine sS0 ?_
        refine hR _ _ (sB) ?_
        congr 2
        refine eq_of_iff ?_
        rw [sysB_iff, Bool.not_eq_true', List.any_eq_false]
        constructor
        · intro h
          exact ⟨by omega, by omega, by omega, hvars, fun r hr => by have := h r hr; simpa [ruleB_iff] using this, by omega⟩
        · intro hs r hr
          simp [(ruleB_iff _ _).2 (hs.rules r hr)]
end Go.M2

namespace Go.M2
open Go.Proofs
variable {M : MH}
structure DoOk (op a b : Int) : Prop where
  o2 : 2 ≤ op
  o9 : op ≤ 9
  a1 : -9999 ≤ a
  a2 : a ≤ 9999
  b1 : -9999 ≤ b
  b2 : b ≤ 9999
  tr : 8 ≤ op → (a = 0 ∨ a = 1) ∧ (b = 0 ∨ b = 1)
theorem mul_bd {a b : Int} (a1 : -9999 ≤ a) (a2 : a ≤ 9999) (b1 : -9999 ≤ b) (b2 : b ≤ 9999) : -99980001 ≤ a * b ∧ a * b ≤ 99980001 := by
  have h1 : (a * b).natAbs = a.natAbs * b.natAbs := Int.natAbs_mul a b
  have h2 : a.natAbs * b.natAbs ≤ 9999 * 9999 := Nat.mul_le_mul (by omega) (by omega)
  omega
theorem t_l1Do {op a b : Int} (h : DoOk op a b) : VCall Try.prog n_spec_l1Do [.sc (.int .i64 op), .sc (.int .i64 a), .sc (.int .i64 b)] M (fun r M' => M = M' ∧ r = .sc (.int .i64 (do1 op a b))) := by
  refine VCall.pure fun R hR => v_spec_l1Do rfl ?_
  obtain ⟨o2, o9, a1, a2, b1, b2, tr⟩ := h
  have hm := mul_bd a1 a2 b1 b2
  (repeat' (first | ((with_reducible first | refine cond_dec (fun h => ?_) (fun h => ?_) | refine guardK_dec (fun h => ?_) (fun h => ?_) | refine guardD3_dec (fun h => ?_) (fun h => ?_)) <;> first | (exfalso; omega) | (simp (maxSteps := 2000000) (disch := first | omega | assumption | exact idP rfl | exact idP (bL rfl)) only [go_sem, reduceIte, Nat.reduceEqDiff, wpV_kd, wpV_tH, h]) | skip) | ((with_reducible first | refine cond_split (fun h => ?_) (fun h => ?_) | refine guardK_split (fun h => ?_) (fun h => ?_) | refine guardD3_split (fun h => ?_) (fun h => ?_)) <;> ((try simp only [Bool.not_eq_true', Bool.not_eq_false'] at h); first | (simp (maxSteps := 2000000) (disch := first | omega | assumption | exact idP rfl | exact idP (bL rfl)) only [go_sem, reduceIte, Nat.reduceEqDiff, wpV_kd, wpV_tH, h]) | skip)) | ((with_reducible refine (t_l1Held).mono ?_); rintro _ _ ⟨rfl, rfl⟩) | ((with_reducible refine (t_l1Truth).mono ?_); rintro _ _ ⟨rfl, rfl⟩) | (with_reducible intro bk hbk; try have hnk := (fresh_set hbk).1) | (simp (maxSteps := 2000000) (disch := first | omega | assumption | exact idP rfl | exact idP (bL rfl)) only [go_sem, reduceIte, Nat.reduceEqDiff, wpV_kd, wpV_tH])))
  all_goals refine hR _ _ (sB) (eqI ?_)
  all_goals unfold do1
  all_goals try (simp (config := { decide := true }) only [*, if_true, if_false]; done)
  all_goals simp only [*, decide_eq_true_eq, if_false, if_true, if_pos, if_neg, not_false_eq_true]
  all_goals try (simp; done)
  all_goals first
    | (obtain ⟨h1 | h1, h2 | h2⟩ := tr (by omega) <;> subst h1 h2 <;> first | decide | simp)
    | skip
theorem DoOk.of {vars : Int} {ts : List TermS} {ks state : List Int} {i : Nat} (hk : kindsGo vars ts [] = some ks) (hs : stOk state) (hv : vars ≤ (state.length : Int)) (hi : i < ts.length) (h0 : ¬ ts[i].op = 0) (h1 : ¬ ts[i].op = 1) :
    DoOk ts[i].op (ix (valsF state (ts.take i)) ts[i].a) (ix (valsF state (ts.take i)) ts[i].b) ∧ (0 ≤ ts[i].a ∧ ts[i].a < i) ∧ (0 ≤ ts[i].b ∧ ts[i].b < i) := by
  obtain ⟨hl, hat⟩ := kindsGo_at hk
  obtain ⟨q1, q2⟩ := hat i hi (by omega)
  have q3 : kind1 vars ts[i] (ks.take i) ≠ 0 := by rw [q1]; exact q2
  unfold kind1 at q3
  rw [if_neg h0, if_neg h1] at q3
  split at q3
  · rename_i hc
    obtain ⟨c1, c2, c3, c4, c5, c6, c7, c8⟩ := hc
    have hkl : (ks.take i).length = i := by simp; omega
    rw [hkl] at c4 c5
    have hkt : kindsGo vars (ts.take i) [] = some (ks.take i) := by
      have e := hk
      rw [← List.take_append_drop i ts, kindsGo_append] at e
      cases h2 : kindsGo vars (ts.take i) [] with
      | none => rw [h2] at e; cases e
      | some ks0 =>
        rw [h2] at e
        have h3 := (kindsGo_len (show kindsGo vars (ts.drop i) ks0 = some ks from e)).2
        have h4 := (kindsGo_len h2).1
        simp at h4
        rw [show ks0.length = i by omega] at h3
        rw [h3]
    have V := vals_ok hs hv _ (l := ts.take i) (ks := ks.take i) rfl hkt
    have hvl : (valsF state (ts.take i)).length = i := by rw [valsF_len]; simp; omega
    obtain ⟨ha, ea⟩ := ix_eq (l := valsF state (ts.take i)) (i := ts[i].a) c4.1 (by omega)
    obtain ⟨hb, eb⟩ := ix_eq (l := valsF state (ts.take i)) (i := ts[i].b) c5.1 (by omega)
    obtain ⟨ha', ea'⟩ := ix_eq (l := ks.take i) (i := ts[i].a) c4.1 (by omega)
    obtain ⟨hb', eb'⟩ := ix_eq (l := ks.take i) (i := ts[i].b) c5.1 (by omega)
    have A := V _ ha ha'
    have B := V _ hb hb'
    rw [← ea, ← ea', c6] at A
    rw [← eb, ← eb', c7] at B
    refine ⟨⟨c1, c2, A.1, A.2.1, B.1, B.2.1, fun h8 => ?_⟩, c4, c5⟩
    unfold wantK at A B
    rw [if_pos (by omega)] at A B
    have A2 := A.2.2 rfl
    have B2 := B.2.2 rfl
    omega
  · exact absurd rfl q3
theorem varOk_of {vars : Int} {ts : List TermS} {ks : List Int} {i : Nat} (hk : kindsGo vars ts [] = some ks) (hi : i < ts.length) (h1 : ts[i].op = 1) : 0 ≤ ts[i].n ∧ ts[i].n < vars := by
  obtain ⟨hl, hat⟩ := kindsGo_at hk
  obtain ⟨q1, q2⟩ := hat i hi (by omega)
  have q3 : kind1 vars ts[i] (ks.take i) ≠ 0 := by rw [q1]; exact q2
  unfold kind1 at q3
  rw [if_neg (by omega), if_pos h1] at q3
  split at q3
  · rename_i hc; exact ⟨hc.1, hc.2.1⟩
  · exact absurd rfl q3
theorem t_l1Values {v w : V} {ts : List TermS} {state ks : List Int} {vars : Int} (hv : LT v ts) (hw : LI w state) (hk : kindsF vars ts = some ks) (hs : stOk state) (hvs : vars ≤ (state.length : Int)) :
    VCall Try.prog n_spec_l1Values [v, w] M (fun r M' => Gr 1 M M' r ((valsF state ts).map vi)) := by
  obtain ⟨_, _, k1, k2, hk, _⟩ := kindsF_some hk
  refine VCall.plain fun R hR => v_spec_l1Values rfl ?_
  (repeat' (first | ((with_reducible first | refine cond_dec (fun h => ?_) (fun h => ?_) | refine guardK_dec (fun h => ?_) (fun h => ?_) | refine guardD3_dec (fun h => ?_) (fun h => ?_)) <;> first | (exfalso; omega) | (simp (maxSteps := 2000000) (disch := first | omega | assumption | exact idP rfl | exact idP (bL rfl)) only [go_sem, reduceIte, Nat.reduceEqDiff, wpV_kd, wpV_tH, h]) | skip) | ((with_reducible first | refine cond_split (fun h => ?_) (fun h => ?_) | refine guardK_split (fun h => ?_) (fun h => ?_) | refine guardD3_split (fun h => ?_) (fun h => ?_)) <;> ((try simp only [Bool.not_eq_true', Bool.not_eq_false'] at h); first | (simp (maxSteps := 2000000) (disch := first | omega | assumption | exact idP rfl | exact idP (bL rfl)) only [go_sem, reduceIte, Nat.reduceEqDiff, wpV_kd, wpV_tH, h]) | skip)) | (with_reducible intro bk hbk; try have hnk := (fresh_set hbk).1) | (simp (maxSteps := 2000000) (disch := first | omega | assumption | exact idP rfl | exact idP (bL rfl)) only [go_sem, reduceIte, Nat.reduceEqDiff, wpV_kd, wpV_tH])))
  refine loop_k (fun e M' => ∃ i : Nat, i ≤ ts.length ∧ e 0 = v ∧ e 1 = w ∧ e 6 = .sc (.int .i64 i) ∧ Gr 1 M M' (e 5) ((valsF state (ts.take i)).map vi)) (fun e _ => ctrV ts.length (e 6)) ?_ ?_
  · exact ⟨0, by omega, sT0, sT0, by refine sS0 ?_; rfl, by refine sS0 ?_; exact Gr.new' (Sub.refl _) (by assumption) rfl⟩
  · rintro e M1 ⟨i, hi, e0, e1, e6, hg⟩ K hK
    refine sS4 @e0 @e1 @e6 @hv.len ?_
    refine cond_dec (fun h => ?_) (fun h => ?_)
    · have hi' : i < ts.length := by omega
      have hvl : (valsF state (ts.take i)).length = i := by rw [valsF_len]; simp; omega
      have fin : ∀ s' M', Gr 1 M M' s' ((valsF state (ts.take i) ++ [val1 state ts[i] (valsF state (ts.take i))]).map vi) → Gr 1 M M' s' ((valsF state (ts.take (i + 1))).map vi) := fun s' M' h => by rw [valsF_take hi']; exact h
      simp (maxSteps := 2000000) (disch := first | omega | assumption | exact idP rfl | exact idP (bL rfl)) only [go_sem, reduceIte, Nat.reduceEqDiff, wpV_kd, wpV_tH, e0, e1, e6, hv.iaddr, LT.at hv hi', encT_eq]
      intro b7 hb7
      have hg1 := hg.more ((Sub.refl M1).set (l := [.sc (.int .i64 ts[i].op), .sc (.int .i64 ts[i].n), .sc (.int .i64 ts[i].a), .sc (.int .i64 ts[i].b)]) hb7)
      refine cond_dec (fun h0 => ?_) (fun h0 => ?_)
      · refine sS0 ?_
        intro bt hbt
        refine app_int hg1 hbt (by omega) (by omega) ?_
        intro s' M' hg' _
        refine sS0 ?_
        refine hK _ _ ⟨i + 1, by omega, sT0, sT0, by refine sS0 ?_; rfl, ?_⟩ (by refine sS2 @ctrV_int @e6 ?_; omega)
        refine sS0 ?_
        refine fin _ _ ?_
        rw [show val1 state ts[i] (valsF state (ts.take i)) = ts[i].n by simp [val1, h0]]
        exact hg'
      · refine sS0 ?_
        refine cond_dec (fun h1 => ?_) (fun h1 => ?_)
        · have hn := varOk_of hk hi' h1
          refine sS2 @hw.iaddr @hw.ix ?_
          intro bt hbt
          refine app_int hg1 hbt (by omega) (by omega) ?_
          intro s' M' hg' _
          refine sS0 ?_
          refine hK _ _ ⟨i + 1, by omega, sT0, sT0, by refine sS0 ?_; rfl, ?_⟩ (by refine sS2 @ctrV_int @e6 ?_; omega)
          refine sS0 ?_
          refine fin _ _ ?_
          rw [show val1 state ts[i] (valsF state (ts.take i)) = ix state ts[i].n by simp [val1, h0, h1]]
          exact hg'
        · obtain ⟨hd, ha, hb⟩ := DoOk.of hk hs hvs hi' h0 h1
          have hat := hg1.at (by rw [len_vi]; omega)
          have hne : oB (e 5) ≠ b7 := fun hh => by
            have := hg.at (by rw [len_vi]; omega)
            rw [hh, hb7] at this; cases this
          rw [set_ne hne] at hat
          have hia : ∀ {k : IntKind} {a : Int}, 0 ≤ a → a < (i : Int) → iaddrV 1 (e 5) (.int k a) = some (.sc (.ptr (some (oB (e 5), a.toNat)))) := fun q1 q2 => hg.own.iaddr q1 (by rw [len_vi, hvl]; exact q2)
          simp (maxSteps := 2000000) (disch := first | omega | assumption | exact idP rfl | exact idP (bL rfl)) only [go_sem, reduceIte, Nat.reduceEqDiff, wpV_kd, wpV_tH, hia, hat, nth_ix]
          refine (t_l1Do hd).mono ?_
          rintro _ _ ⟨rfl, rfl⟩
          simp (maxSteps := 2000000) (disch := first | omega | assumption | exact idP rfl | exact idP (bL rfl)) only [go_sem, reduceIte, Nat.reduceEqDiff, wpV_kd, wpV_tH, hia, hat, nth_ix]
          intro bt hbt
          refine app_int hg1 hbt (by omega) (by omega) ?_
          intro s' M' hg' _
          refine sS0 ?_
          refine hK _ _ ⟨i + 1, by omega, sT0, sT0, by refine sS0 ?_; rfl, ?_⟩ (by refine sS2 @ctrV_int @e6 ?_; omega)
          refine sS0 ?_
          refine fin _ _ ?_
          rw [show val1 state ts[i] (valsF state (ts.take i)) = do1 ts[i].op (ix (valsF state (ts.take i)) ts[i].a) (ix (valsF state (ts.take i)) ts[i].b) by simp [val1, h0, h1]]
          exact hg'
    · obtain rfl : i = ts.length := by omega
      rw [List.take_length] at hg
      refine sS0 ?_
      exact hR _ _ hg
theorem f_l1Values {v w : V} {ts : List TermS} {state ks : List Int} {vars : Int} (hv : LT v ts) (hw : LI w state) (hk : kindsF vars ts = some ks) (hs : stOk state) (hvs : vars ≤ (state.length : Int)) :
    VCall Try.prog n_spec_l1Values [v, w] M (fun r M' => M = M' ∧ LI r (valsF state ts)) := (VCall.fr1 (t_l1Values hv hw hk hs hvs)).mono fun r M' ⟨h1, h2⟩ => ⟨h1, h2.li⟩
theorem evalF_eq {ts : List TermS} {state : List Int} (h : 0 < ts.length) : evalF ts state = (valsF state ts)[ts.length - 1]'(by rw [valsF_len]; omega) := by
  unfold evalF
  rw [getLastD_eq (by rw [valsF_len]; exact h)]
  congr 1
  rw [valsF_len]
theorem t_l2Last {v w : V} {ts : List TermS} {state ks : List Int} {vars : Int} (hv : LT v ts) (hw : LI w state) (hk : kindsF vars ts = some ks) (hs : stOk state) (hvs : vars ≤ (state.length : Int)) :
    VCall Try.prog n_spec_l2Last [v, w] M (fun r M' => M = M' ∧ r = .sc (.int .i64 (evalF ts state))) := by
  obtain ⟨_, _, k1, k2, _, _⟩ := kindsF_some hk
  refine VCall.pure fun R hR => v_spec_l2Last rfl ?_
  refine sS0 ?_
  refine (f_l1Values hv hw hk hs hvs).mono ?_
  rintro r _ ⟨rfl, hr⟩
  have e1 : ((ts.length : Int) - 1).toNat = ts.length - 1 := by omega
  have hl := valsF_len state ts
  refine sS4 @hv.len @hr.iaddr @e1 @hr.at ?_
  exact hR _ _ (sB) (by rw [evalF_eq (by omega)])
end Go.M2

namespace Go.M2
open Go.Proofs
variable {M : MH}
theorem t_l2In {a b w : V} {vars : List VarS} {st : List Int} (ha : LVar a vars) (hw : LI w st) (hvl : vars.length ≤ 5) : VCall Try.prog n_spec_l2In [.agg [a, b], w] M (fun r M' => M = M' ∧ r = .sc (.bool (inB vars st))) := by
  refine VCall.pure fun R hR => v_spec_l2In rfl ?_
  (repeat' (first | ((with_reducible first | refine cond_dec (fun h => ?_) (fun h => ?_) | refine guardK_dec (fun h => ?_) (fun h => ?_) | refine guardD3_dec (fun h => ?_) (fun h => ?_)) <;> first | (exfalso; omega) | (simp (maxSteps := 2000000) (disch := first | omega | assumption | exact idP rfl | exact idP (bL rfl)) only [go_sem, reduceIte, Nat.reduceEqDiff, wpV_kd, wpV_tH, h, ha.len, hw.len]) | skip) | ((with_reducible first | refine cond_split (fun h => ?_) (fun h => ?_) | refine guardK_split (fun h => ?_) (fun h => ?_) | refine guardD3_split (fun h => ?_) (fun h => ?_)) <;> ((try simp only [Bool.not_eq_true', Bool.not_eq_false'] at h); first | (simp (maxSteps := 2000000) (disch := first | omega | assumption | exact idP rfl | exact idP (bL rfl)) only [go_sem, reduceIte, Nat.reduceEqDiff, wpV_kd, wpV_tH, h, ha.len, hw.len]) | skip)) | (with_reducible intro bk hbk; try have hnk := (fresh_set hbk).1) | (simp (maxSteps := 2000000) (disch := first | omega | assumption | exact idP rfl | exact idP (bL rfl)) only [go_sem, reduceIte, Nat.reduceEqDiff, wpV_kd, wpV_tH, ha.len, hw.len])))
  · refine hR _ _ (sB) ?_
    rw [(inB_false _ _).2 (fun hh => by have := hh.1; omega)]
  · have hlen : st.length = vars.length := by omega
    refine loop_k (fun e M' => M' = M.set bk [a, b] ∧ ∃ i : Nat, i ≤ st.length ∧ e 1 = w ∧ e 2 = .sc (.ptr (some (bk, 0))) ∧ e 5 = .sc (.int .i64 i) ∧ ∀ j (hj : j < vars.length) (h2 : j < st.length), j < i → vars[j].low ≤ st[j] ∧ st[j] ≤ vars[j].high) (fun e _ => ctrV st.length (e 5)) ?_ ?_
    · exact ⟨rfl, 0, by omega, sT0, sT0, by refine sS0 ?_; rfl, fun j _ _ h => by omega⟩
    · rintro e _ ⟨rfl, i, hi, e1, e2, e5, hj⟩ K hK
      refine sS4 @e1 @e2 @e5 @hw.len ?_
      refine cond_dec (fun h => ?_) (fun h => ?_)
      · have hi' : i < vars.length := by omega
        have hi2 : i < st.length := by omega
        (repeat' (first | ((with_reducible first | refine cond_dec (fun h => ?_) (fun h => ?_) | refine guardK_dec (fun h => ?_) (fun h => ?_) | refine guardD3_dec (fun h => ?_) (fun h => ?_)) <;> first | (exfalso; omega) | (simp (maxSteps := 2000000) (disch := first | omega | assumption | exact idP rfl | exact idP (bL rfl)) only [go_sem, reduceIte, Nat.reduceEqDiff, wpV_kd, wpV_tH, h, e1, e2, e5, ha.iaddr, LVar.at ha hi', hw.iaddr, LI.at hw hi2]) | skip) | ((with_reducible first | refine cond_split (fun h => ?_) (fun h => ?_) | refine guardK_split (fun h => ?_) (fun h => ?_) | refine guardD3_split (fun h => ?_) (fun h => ?_)) <;> ((try simp only [Bool.not_eq_true', Bool.not_eq_false'] at h); first | (simp (maxSteps := 2000000) (disch := first | omega | assumption | exact idP rfl | exact idP (bL rfl)) only [go_sem, reduceIte, Nat.reduceEqDiff, wpV_kd, wpV_tH, h, e1, e2, e5, ha.iaddr, LVar.at ha hi', hw.iaddr, LI.at hw hi2]) | skip)) | ((with_reducible refine (t_l1In).mono ?_); rintro _ _ ⟨rfl, rfl⟩) | (with_reducible intro bk hbk; try have hnk := (fresh_set hbk).1) | (simp (maxSteps := 2000000) (disch := first | omega | assumption | exact idP rfl | exact idP (bL rfl)) only [go_sem, reduceIte, Nat.reduceEqDiff, wpV_kd, wpV_tH, e1, e2, e5, ha.iaddr, LVar.at ha hi', hw.iaddr, LI.at hw hi2])))
        · refine hR _ _ (sB) ?_
          rw [(inB_false _ _).2 (fun hh => by have := hh.2 i hi' hi2; omega)]
        · refine hK _ _ ⟨rfl, i + 1, by omega, sT0, sT0, by refine sS0 ?_; rfl, fun j hj1 hj2 hj3 => ?_⟩ (by refine sS2 @ctrV_int @e5 ?_; omega)
          by_cases hji : j = i
          · subst hji; omega
          · exact hj j hj1 hj2 (by omega)
      · refine sS0 ?_
        refine hR _ _ (sB) ?_
        rw [(inB_iff _ _).2 ⟨hlen, fun j h1 h2 => hj j h1 h2 (by omega)⟩]
theorem t_SizeOf {v : V} {s : SysS} (hv : isSys s v) (hs : SysOk s) : VCall Try.prog n_spec_SizeOf [v] M (fun r M' => M = M' ∧ r = .sc (.int .i64 (sizeF s.vars))) := by
  refine VCall.pure fun R hR => v_spec_SizeOf rfl ?_
  have hv0 := hv
  obtain ⟨a, b, rfl, ha, hb⟩ := hv
  have h1 := hs.v1
  have h5 := hs.v5
  (repeat' (first | ((with_reducible first | refine cond_dec (fun h => ?_) (fun h => ?_) | refine guardK_dec (fun h => ?_) (fun h => ?_) | refine guardD3_dec (fun h => ?_) (fun h => ?_)) <;> first | (exfalso; omega) | (simp (maxSteps := 2000000) (disch := first | omega | assumption | exact idP rfl | exact idP (bL rfl)) only [go_sem, reduceIte, Nat.reduceEqDiff, wpV_kd, wpV_tH, h, (sysB_iff s).2 hs]) | skip) | ((with_reducible first | refine cond_split (fun h => ?_) (fun h => ?_) | refine guardK_split (fun h => ?_) (fun h => ?_) | refine guardD3_split (fun h => ?_) (fun h => ?_)) <;> ((try simp only [Bool.not_eq_true', Bool.not_eq_false'] at h); first | (simp (maxSteps := 2000000) (disch := first | omega | assumption | exact idP rfl | exact idP (bL rfl)) only [go_sem, reduceIte, Nat.reduceEqDiff, wpV_kd, wpV_tH, h, (sysB_iff s).2 hs]) | skip)) | ((with_reducible refine (t_SystemValidS hv0).mono ?_); rintro _ _ ⟨rfl, rfl⟩) | (with_reducible intro bk hbk; try have hnk := (fresh_set hbk).1) | (simp (maxSteps := 2000000) (disch := first | omega | assumption | exact idP rfl | exact idP (bL rfl)) only [go_sem, reduceIte, Nat.reduceEqDiff, wpV_kd, wpV_tH, (sysB_iff s).2 hs])))
  refine loop_k (fun e M' => M' = M.set bk [a, b] ∧ ∃ i : Nat, i ≤ s.vars.length ∧ e 1 = .sc (.ptr (some (bk, 0))) ∧ e 3 = .sc (.int .i64 (sizeF (s.vars.take i))) ∧ e 4 = .sc (.int .i64 i)) (fun e _ => ctrV s.vars.length (e 4)) ?_ ?_
  · exact ⟨rfl, 0, by omega, sT0, by refine sS0 ?_; simp [sizeF], by refine sS0 ?_; rfl⟩
  · rintro e _ ⟨rfl, i, hi, e1, e3, e4⟩ K hK
    have hbd := sizeF_take_bd (vs := s.vars) (i := i) (by omega) (fun j hj _ => hs.vars _ (List.getElem_mem hj))
    refine sS4 @e1 @e3 @e4 @ha.len ?_
    refine cond_dec (fun h => ?_) (fun h => ?_)
    · have hi' : i < s.vars.length := by omega
      have hbd2 := sizeF_take_bd (vs := s.vars) (i := i + 1) (by omega) (fun j hj _ => hs.vars _ (List.getElem_mem hj))
      have hsz := sizeF_take hi'
      rw [hsz] at hbd2
      have hok := hs.vars _ (List.getElem_mem hi')
      unfold VarOk at hok
      simp (maxSteps := 2000000) (disch := first | omega | assumption | exact idP rfl | exact idP (bL rfl)) only [go_sem, reduceIte, Nat.reduceEqDiff, wpV_kd, wpV_tH, e1, e3, e4, ha.iaddr, LVar.at ha hi']
      exact hK _ _ ⟨rfl, i + 1, by omega, sT0, by refine sS0 ?_; rw [hsz], by refine sS0 ?_; rfl⟩ (by refine sS2 @ctrV_int @e4 ?_; omega)
    · obtain rfl : i = s.vars.length := by omega
      refine sS1 @e3 ?_
      exact hR _ _ (sB) (by rw [List.take_length])
end Go.M2

namespace Go.M2
open Go.Proofs
variable {M : MH}
theorem getD_eq {α : Type} {l : List α} {i : Nat} {d : α} (h : i < l.length) : l.getD i d = l[i] := by simp [List.getD, h]
def lRes (r : V) : Option (List Int) → Prop
  | none => r = .sc (.sl none 0 0 true 0)
  | some xs => LI r xs
theorem kind_some {vars kind : Int} {ts : List TermS} (h : kindIs vars kind ts = true) : ∃ ks, kindsF vars ts = some ks := by
  unfold kindIs at h
  split at h
  · exact ⟨_, by assumption⟩
  · cases h
theorem t_l2Use {v w : V} {s : SysS} {st : List Int} {k : Nat} (hv : isSys s v) (hs : SysOk s) (hw : LI w st) (hin : StIn s.vars st) (hk : k < s.rules.length) :
    VCall Try.prog n_spec_l2Use [v, w, .sc (.int .i64 k)] M (fun r M' => M = M' ∧ lRes r (useR s.vars s.rules[k] st)) := by
  refine VCall.froz fun R hP hG => v_spec_l2Use rfl ?_
  obtain ⟨a, b, rfl, ha, hb⟩ := hv
  obtain ⟨x, y, z, hat, hx, hy, hz⟩ := hb.elt hk
  have h1 := hs.v1
  have h5 := hs.v5
  have hl := hin.1
  have hok := hin.ok hs
  obtain ⟨hw2, hst, hsets⟩ := hs.rules _ (List.getElem_mem hk)
  obtain ⟨kw, hkw⟩ := kind_some hw2
  have hx1 := hx.one.1
  have hy1 := hy.one.1
  have hz1 := hz.one.1
  (repeat' (first | ((with_reducible first | refine cond_dec (fun h => ?_) (fun h => ?_) | refine guardK_dec (fun h => ?_) (fun h => ?_) | refine guardD3_dec (fun h => ?_) (fun h => ?_)) <;> first | (exfalso; omega) | (simp (maxSteps := 2000000) (disch := first | omega | assumption | exact idP rfl | exact idP (bL rfl)) only [go_sem, reduceIte, Nat.reduceEqDiff, wpV_kd, wpV_tH, h, hb.len, hb.iaddr, hat]) | skip) | ((with_reducible first | refine cond_split (fun h => ?_) (fun h => ?_) | refine guardK_split (fun h => ?_) (fun h => ?_) | refine guardD3_split (fun h => ?_) (fun h => ?_)) <;> ((try simp only [Bool.not_eq_true', Bool.not_eq_false'] at h); first | (simp (maxSteps := 2000000) (disch := first | omega | assumption | exact idP rfl | exact idP (bL rfl)) only [go_sem, reduceIte, Nat.reduceEqDiff, wpV_kd, wpV_tH, h, hb.len, hb.iaddr, hat]) | skip)) | ((with_reducible refine (t_l2Last hx hw hkw hok (by omega)).mono ?_); rintro _ _ ⟨rfl, rfl⟩) | (with_reducible intro bk hbk; try have hnk := (fresh_set hbk).1) | (simp (maxSteps := 2000000) (disch := first | omega | assumption | exact idP rfl | exact idP (bL rfl)) only [go_sem, reduceIte, Nat.reduceEqDiff, wpV_kd, wpV_tH, hb.len, hb.iaddr, hat])))
  · refine hP _ _ (sB) ?_
    rename_i h
    simp only [useR, h, if_true, lRes]
  · rename_i b3 hb3 b7 hb7 hne7
    have hev := h
    refine loop_k (fun e M' => ∃ i : Nat, i ≤ st.length ∧ e 1 = w ∧ e 3 = .sc (.ptr (some (b3, 0))) ∧ e 7 = .sc (.ptr (some (b7, 0))) ∧ e 9 = .sc (.int .i64 i) ∧ Gr 1 ((M.set b3 [a, b]).set b7 [x, y, z]) M' (e 8) ((st.take i).map vi)) (fun e _ => ctrV st.length (e 9)) ?_ ?_
    · exact ⟨0, by omega, sT0, sT0, sT0, by refine sS0 ?_; rfl, by refine sS0 ?_; exact Gr.new' (Sub.refl _) hbk rfl⟩
    · rintro e M1 ⟨i, hi, e1, e3, e7, e9, hg⟩ K hK
      refine sS5 @e1 @e3 @e7 @e9 @hw.len ?_
      refine cond_dec (fun h => ?_) (fun h => ?_)
      · have hi' : i < st.length := by omega
        refine sS4 @e1 @e9 @hw.iaddr @hw.at ?_
        intro bt hbt
        refine app_int hg hbt (by simp; omega) (by omega) ?_
        intro s' M' hg' _
        refine sS0 ?_
        exact hK _ _ ⟨i + 1, by omega, sT0, sT0, sT0, by refine sS0 ?_; rfl, by refine sS0 ?_; rw [take_snoc hi']; exact hg'⟩ (by refine sS2 @ctrV_int @e9 ?_; omega)
      · obtain rfl : i = st.length := by omega
        rw [List.take_length] at hg
        refine sS0 ?_
        refine loop_k (fun e M' => ∃ i : Nat, i ≤ s.rules[k].sets.length ∧ e 1 = w ∧ e 3 = .sc (.ptr (some (b3, 0))) ∧ e 7 = .sc (.ptr (some (b7, 0))) ∧ e 10 = .sc (.int .i64 i) ∧ Gr 1 ((M.set b3 [a, b]).set b7 [x, y, z]) M' (e 8) ((setsF st s.rules[k].terms s.rules[k].sets i).map vi)) (fun e _ => ctrV s.rules[k].sets.length (e 10)) ?_ ?_
        · exact ⟨0, by omega, sT0, sT0, sT0, by refine sS0 ?_; rfl, by refine sS0 ?_; exact hg⟩
        · rintro e M2 ⟨i, hi, e1, e3, e7, e10, hg⟩ K2 hK2
          have hm3 : M2 b3 = some [a, b] := hg.sub _ _ (sT0)
          have hm7 : M2 b7 = some [x, y, z] := hg.sub _ _ (sT0)
          have hsl := setsF_len st s.rules[k].terms s.rules[k].sets i
          have hle := sets_le hsets (by omega)
          refine sS6 @e1 @e3 @e7 @e10 @hm7 @hy.len ?_
          refine cond_dec (fun h => ?_) (fun h => ?_)
          · have hi' : i < s.rules[k].sets.length := by omega
            have hi2 : i < s.rules[k].terms.length := by omega
            obtain ⟨ki, hki⟩ := kind_some (hsets.kind hi' hi2)
            have hset := (hsets i hi').1
            have hat8 := hg.at (by rw [len_vi]; omega)
            have hia : ∀ {k : IntKind} {a : Int}, 0 ≤ a → a < (st.length : Int) → iaddrV 1 (e 8) (.int k a) = some (.sc (.ptr (some (oB (e 8), a.toNat)))) := fun q1 q2 => hg.own.iaddr q1 (by rw [len_vi, hsl]; exact q2)
            have hso : s.rules[k].sets[i].toNat < ((setsF st s.rules[k].terms s.rules[k].sets i).map vi).length := by rw [len_vi]; omega
            simp (maxSteps := 2000000) (disch := first | omega | assumption | exact idP rfl | exact idP (bL rfl)) only [go_sem, reduceIte, Nat.reduceEqDiff, wpV_kd, wpV_tH, e1, e3, e7, e10, hm7, hy.iaddr, hy.at hi', hz.iaddr]
            refine (t_l2Last (hz.elt hi2) hw hki hok (by omega)).mono ?_
            rintro _ _ ⟨rfl, rfl⟩
            simp (maxSteps := 2000000) (disch := first | omega | assumption | exact idP rfl | exact idP (bL rfl)) only [go_sem, reduceIte, Nat.reduceEqDiff, wpV_kd, wpV_tH, e1, e3, e7, e10, hm7, hy.iaddr, hy.at hi', hz.iaddr, hia, hat8]
            refine hK2 _ _ ⟨i + 1, by omega, sT0, sT0, sT0, by refine sS0 ?_; rfl, ?_⟩ (by refine sS2 @ctrV_int @e10 ?_; omega)
            refine sS0 ?_
            have := hg.setO (l' := (setsF st s.rules[k].terms s.rules[k].sets (i + 1)).map vi) (by rw [len_vi]; omega) (by simp [setsF_len])
            simp only [setsF, getD_eq hi', getD_eq hi2] at this ⊢
            rw [← set_vi] at this ⊢
            exact this
          · obtain rfl : i = s.rules[k].sets.length := by omega
            refine sS1 @hm3 ?_
            refine (VCall.lend1 hg.own flat_eq fun u M' hu => t_l2In ha hu.li (by omega)).mono ?_
            rintro _ _ ⟨rfl, rfl⟩
            have hsub : Sub M ((M.set b3 [a, b]).set b7 [x, y, z]) := sB
            cases hib : inB s.vars (setsF st s.rules[k].terms s.rules[k].sets s.rules[k].sets.length) with
            | false =>
              refine sS0 ?_
              refine hP _ _ (hsub.trans hg.sub) ?_
              simp [useR, hev, hib, lRes]
            | true =>
              refine sS0 ?_
              refine hG _ _ 1 _ ⟨hsub.trans hg.sub, fun b' h' => hsub.none (hg.new b' h'), hg.own⟩ fun u hu => ?_
              have : useR s.vars s.rules[k] st = some (setsF st s.rules[k].terms s.rules[k].sets s.rules[k].sets.length) := by simp [useR, hev, hib]
              rw [this]
              exact hu.li
theorem lessF_take {a b : List Int} {i : Nat} (hi : i ≤ a.length) (hj : i ≤ b.length) (h : a.take i = b.take i) : lessF a b = lessF (a.drop i) (b.drop i) := by
  induction i generalizing a b with
  | zero => simp
  | succ i ih =>
    match a, b, hi, hj with
    | x :: s, y :: t, hi, hj =>
      simp only [List.take_succ_cons, List.cons.injEq] at h
      simp only [lessF, List.drop_succ_cons, if_pos h.1]
      exact ih (by simpa using hi) (by simpa using hj) h.2
theorem t_l2Same {v w : V} {xs ys : List Int} (hv : LI v xs) (hw : LI w ys) (hl : xs.length ≤ 1048576) : VCall Try.prog n_spec_l2Same [v, w] M (fun r M' => M = M' ∧ r = .sc (.bool (decide (xs = ys)))) := by
  refine VCall.pure fun R hR => v_spec_l2Same rfl ?_
  (repeat' (first | ((with_reducible first | refine cond_dec (fun h => ?_) (fun h => ?_) | refine guardK_dec (fun h => ?_) (fun h => ?_) | refine guardD3_dec (fun h => ?_) (fun h => ?_)) <;> first | (exfalso; omega) | (simp (maxSteps := 2000000) (disch := first | omega | assumption | exact idP rfl | exact idP (bL rfl)) only [go_sem, reduceIte, Nat.reduceEqDiff, wpV_kd, wpV_tH, h, hv.len, hw.len]) | skip) | ((with_reducible first | refine cond_split (fun h => ?_) (fun h => ?_) | refine guardK_split (fun h => ?_) (fun h => ?_) | refine guardD3_split (fun h => ?_) (fun h => ?_)) <;> ((try simp only [Bool.not_eq_true', Bool.not_eq_false'] at h); first | (simp (maxSteps := 2000000) (disch := first | omega | assumption | exact idP rfl | exact idP (bL rfl)) only [go_sem, reduceIte, Nat.reduceEqDiff, wpV_kd, wpV_tH, h, hv.len, hw.len]) | skip)) | (with_reducible intro bk hbk; try have hnk := (fresh_set hbk).1) | (simp (maxSteps := 2000000) (disch := first | omega | assumption | exact idP rfl | exact idP (bL rfl)) only [go_sem, reduceIte, Nat.reduceEqDiff, wpV_kd, wpV_tH, hv.len, hw.len])))
  · refine hR _ _ (sB) ?_
    have : ¬ xs = ys := fun e => by subst e; omega
    simp [this]
  · have hlen : xs.length = ys.length := by omega
    refine loop_k (fun e M' => M' = M ∧ ∃ i : Nat, i ≤ xs.length ∧ e 0 = v ∧ e 1 = w ∧ e 5 = .sc (.int .i64 i) ∧ xs.take i = ys.take i) (fun e _ => ctrV xs.length (e 5)) ?_ ?_
    · exact ⟨rfl, 0, by omega, sT0, sT0, by refine sS0 ?_; rfl, rfl⟩
    · rintro e _ ⟨rfl, i, hi, e0, e1, e5, ht⟩ K hK
      refine sS4 @e0 @e1 @e5 @hv.len ?_
      refine cond_dec (fun h => ?_) (fun h => ?_)
      · have hi1 : i < xs.length := by omega
        have hi2 : i < ys.length := by omega
        simp (maxSteps := 2000000) (disch := first | omega | assumption | exact idP rfl | exact idP (bL rfl)) only [go_sem, reduceIte, Nat.reduceEqDiff, wpV_kd, wpV_tH, e0, e1, e5, hv.iaddr, hw.iaddr, hv.at hi1, hw.at hi2]
        refine cond_dec (fun h2 => ?_) (fun h2 => ?_)
        · refine sS0 ?_
          refine hR _ _ (sB) ?_
          have : ¬ xs = ys := fun e => by subst e; exact h2 rfl
          simp [this]
        · refine sS3 @e0 @e1 @e5 ?_
          exact hK _ _ ⟨rfl, i + 1, by omega, sT0, sT0, by refine sS0 ?_; rfl, by rw [take_snoc hi1, take_snoc hi2, ht, Decidable.not_not.1 h2]⟩ (by refine sS2 @ctrV_int @e5 ?_; omega)
      · obtain rfl : i = xs.length := by omega
        refine sS0 ?_
        refine hR _ _ (sB) ?_
        rw [List.take_length, hlen, List.take_length] at ht
        simp [ht]
theorem t_l2Less {v w : V} {xs ys : List Int} (hv : LI v xs) (hw : LI w ys) (hl : xs.length ≤ 1048576) (hl2 : ys.length ≤ 1048576) : VCall Try.prog n_spec_l2Less [v, w] M (fun r M' => M = M' ∧ r = .sc (.bool (lessF xs ys))) := by
  refine VCall.pure fun R hR => v_spec_l2Less rfl ?_
  refine sS0 ?_
  refine loop_k (fun e M' => M' = M ∧ ∃ i : Nat, i ≤ xs.length ∧ i ≤ ys.length ∧ e 0 = v ∧ e 1 = w ∧ e 5 = .sc (.int .i64 i) ∧ xs.take i = ys.take i) (fun e _ => ctrV xs.length (e 5)) ?_ ?_
  · exact ⟨rfl, 0, by omega, by omega, sT0, sT0, by refine sS0 ?_; rfl, rfl⟩
  · rintro e _ ⟨rfl, i, hi, hj, e0, e1, e5, ht⟩ K hK
    have hlt := lessF_take hi hj ht
    (repeat' (first | ((with_reducible first | refine cond_dec (fun h => ?_) (fun h => ?_) | refine guardK_dec (fun h => ?_) (fun h => ?_) | refine guardD3_dec (fun h => ?_) (fun h => ?_)) <;> first | (exfalso; omega) | (simp (maxSteps := 2000000) (disch := first | omega | assumption | exact idP rfl | exact idP (bL rfl)) only [go_sem, reduceIte, Nat.reduceEqDiff, wpV_kd, wpV_tH, h, e0, e1, e5, hv.len, hw.len]) | skip) | ((with_reducible first | refine cond_split (fun h => ?_) (fun h => ?_) | refine guardK_split (fun h => ?_) (fun h => ?_) | refine guardD3_split (fun h => ?_) (fun h => ?_)) <;> ((try simp only [Bool.not_eq_true', Bool.not_eq_false'] at h); first | (simp (maxSteps := 2000000) (disch := first | omega | assumption | exact idP rfl | exact idP (bL rfl)) only [go_sem, reduceIte, Nat.reduceEqDiff, wpV_kd, wpV_tH, h, e0, e1, e5, hv.len, hw.len]) | skip)) | (with_reducible intro bk hbk; try have hnk := (fresh_set hbk).1) | (simp (maxSteps := 2000000) (disch := first | omega | assumption | exact idP rfl | exact idP (bL rfl)) only [go_sem, reduceIte, Nat.reduceEqDiff, wpV_kd, wpV_tH, e0, e1, e5, hv.len, hw.len])))
    · have hi1 : i < xs.length := by omega
      have hi2 : i < ys.length := by omega
      have hd : lessF (xs.drop i) (ys.drop i) = if xs[i] = ys[i] then lessF (xs.drop (i + 1)) (ys.drop (i + 1)) else decide (xs[i] < ys[i]) := by
        rw [List.drop_eq_getElem_cons hi1, List.drop_eq_getElem_cons hi2]; rfl
      simp (maxSteps := 2000000) (disch := first | omega | assumption | exact idP rfl | exact idP (bL rfl)) only [go_sem, reduceIte, Nat.reduceEqDiff, wpV_kd, wpV_tH, e0, e1, e5, hv.iaddr, hw.iaddr, hv.at hi1, hw.at hi2]
      refine cond_dec (fun h2 => ?_) (fun h2 => ?_)
      · simp (maxSteps := 2000000) (disch := first | omega | assumption | exact idP rfl | exact idP (bL rfl)) only [go_sem, reduceIte, Nat.reduceEqDiff, wpV_kd, wpV_tH, e0, e1, e5, hv.iaddr, hw.iaddr, hv.at hi1, hw.at hi2]
        refine hR _ _ (sB) ?_
        rw [hlt, hd, if_neg h2]
      · refine sS3 @e0 @e1 @e5 ?_
        exact hK _ _ ⟨rfl, i + 1, by omega, by omega, sT0, sT0, by refine sS0 ?_; rfl, by rw [take_snoc hi1, take_snoc hi2, ht, Decidable.not_not.1 h2]⟩ (by refine sS2 @ctrV_int @e5 ?_; omega)
    · refine hR _ _ (sB) ?_
      rw [hlt, show ys.drop i = [] by apply List.drop_eq_nil_of_le; omega]
      have : ¬ xs.length < ys.length := by omega
      cases xs.drop i <;> simp [lessF] <;> omega
    · refine hR _ _ (sB) ?_
      obtain rfl : i = xs.length := by omega
      rw [hlt, List.drop_length]
      by_cases h3 : xs.length < ys.length
      · rw [List.drop_eq_getElem_cons h3]
        simp [lessF]; omega
      · rw [show ys.drop xs.length = [] by apply List.drop_eq_nil_of_le; omega]
        simp [lessF]; omega
end Go.M2

namespace Go.M2
open Go.Proofs
variable {M : MH}
theorem t_do {op a b : Int} (h : DoOk op a b) : VCall Try.prog n_impl_do [.sc (.int .i64 op), .sc (.int .i64 a), .sc (.int .i64 b)] M (fun r M' => M = M' ∧ r = .sc (.int .i64 (do1 op a b))) := by
  refine VCall.pure fun R hR => v_impl_do rfl ?_
  obtain ⟨o2, o9, a1, a2, b1, b2, tr⟩ := h
  have hm := mul_bd a1 a2 b1 b2
  (repeat' (first | ((with_reducible first | refine cond_dec (fun h => ?_) (fun h => ?_) | refine guardK_dec (fun h => ?_) (fun h => ?_) | refine guardD3_dec (fun h => ?_) (fun h => ?_)) <;> first | (exfalso; omega) | (simp (maxSteps := 2000000) (disch := first | omega | assumption | exact idP rfl | exact idP (bL rfl)) only [go_sem, reduceIte, Nat.reduceEqDiff, wpV_kd, wpV_tH, h]) | skip) | ((with_reducible first | refine cond_split (fun h => ?_) (fun h => ?_) | refine guardK_split (fun h => ?_) (fun h => ?_) | refine guardD3_split (fun h => ?_) (fun h => ?_)) <;> ((try simp only [Bool.not_eq_true', Bool.not_eq_false'] at h); first | (simp (maxSteps := 2000000) (disch := first | omega | assumption | exact idP rfl | exact idP (bL rfl)) only [go_sem, reduceIte, Nat.reduceEqDiff, wpV_kd, wpV_tH, h]) | skip)) | ((with_reducible refine (t_held).mono ?_); rintro _ _ ⟨rfl, rfl⟩) | ((with_reducible refine (t_bit).mono ?_); rintro _ _ ⟨rfl, rfl⟩) | (with_reducible intro bk hbk; try have hnk := (fresh_set hbk).1) | (simp (maxSteps := 2000000) (disch := first | omega | assumption | exact idP rfl | exact idP (bL rfl)) only [go_sem, reduceIte, Nat.reduceEqDiff, wpV_kd, wpV_tH])))
  all_goals refine hR _ _ (sB) (eqI ?_)
  all_goals unfold do1
  all_goals try (simp (config := { decide := true }) only [*, if_true, if_false]; done)
  all_goals simp only [*, decide_eq_true_eq, if_false, if_true, if_pos, if_neg, not_false_eq_true]
  all_goals try (simp; done)
  all_goals rw [if_neg (by omega)]
theorem t_eval {v w : V} {ts : List TermS} {state ks : List Int} {vars : Int} (hv : LT v ts) (hw : LI w state) (hk : kindsF vars ts = some ks) (hs : stOk state) (hvs : vars ≤ (state.length : Int)) :
    VCall Try.prog n_impl_eval [v, w] M (fun r M' => M = M' ∧ r = .sc (.int .i64 (evalF ts state))) := by
  obtain ⟨_, _, k1, k2, hk, _⟩ := kindsF_some hk
  refine VCall.pure fun R hR => v_impl_eval rfl ?_
  refine sS1 @hv.len ?_
  refine mks3 (by omega) (by simp [mostCells]; omega) (by simp [mostCells]; omega) ?_
  intro b5 hb5
  simp (maxSteps := 2000000) (disch := first | omega | assumption | exact idP rfl | exact idP (bL rfl)) only [go_sem, reduceIte, Nat.reduceEqDiff, wpV_kd, wpV_tH, hv.len, zeros_vi]
  refine loop_k (fun e M' => Sub M M' ∧ ∃ i : Nat, i ≤ ts.length ∧ e 1 = w ∧ e 5 = .sc (.sl (some (b5, 0)) ts.length ts.length true 1) ∧ e 11 = v ∧ e 12 = .sc (.int .i64 ts.length) ∧ e 13 = .sc (.int .i64 i) ∧
    M' b5 = some ((valsF state (ts.take i) ++ List.replicate (ts.length - i) 0).map vi)) (fun e _ => ctrV ts.length (e 13)) ?_ ?_
  · exact ⟨(Sub.refl _).set hb5, 0, by omega, sT0, sT0, sT0, sT0, by refine sS0 ?_; rfl, by refine sS0 ?_; simp [valsF]⟩
  · rintro e M1 ⟨hsub, i, hi, e1, e5, e11, e12, e13, hm⟩ K hK
    have hvl : (valsF state (ts.take i)).length = i := by rw [valsF_len]; simp; omega
    have hll : (valsF state (ts.take i) ++ List.replicate (ts.length - i) 0).length = ts.length := by simp; omega
    refine sS2 @e12 @e13 ?_
    refine cond_dec (fun h => ?_) (fun h => ?_)
    · have hi' : i < ts.length := by omega
      have hso : i < ((valsF state (ts.take i) ++ List.replicate (ts.length - i) 0).map vi).length := by rw [len_vi]; omega
      have hset : ∀ x, x = val1 state ts[i] (valsF state (ts.take i)) → (valsF state (ts.take i) ++ List.replicate (ts.length - i) 0).set i x = valsF state (ts.take (i + 1)) ++ List.replicate (ts.length - (i + 1)) 0 := by
        rintro x rfl
        rw [valsF_take hi', show ts.length - i = (ts.length - (i + 1)) + 1 by omega, List.replicate_succ, List.set_append_right _ _ (by omega), hvl]
        simp
      have rd : ∀ {a : Int}, 0 ≤ a → a < (i : Int) → ((valsF state (ts.take i) ++ List.replicate (ts.length - i) 0).map vi)[a.toNat]? = some (.sc (.int .i64 (ix (valsF state (ts.take i)) a))) := fun {a} q1 q2 => by
        rw [List.map_append, nth_ix_app q1 (by omega)]
      simp (maxSteps := 2000000) (disch := first | omega | assumption | exact idP rfl | exact idP (bL rfl)) only [go_sem, reduceIte, Nat.reduceEqDiff, wpV_kd, wpV_tH, e1, e5, e11, e12, e13, hv.iaddr, LT.at hv hi', encT_eq]
      intro b7 hb7
      have hne : b5 ≠ b7 := fun hh => by subst hh; rw [hm] at hb7; cases hb7
      have fin : ∀ x cl, x = val1 state ts[i] (valsF state (ts.take i)) → ∀ e' : EnvV, e' 1 = w → e' 5 = .sc (.sl (some (b5, 0)) ts.length ts.length true 1) → e' 11 = v → e' 12 = .sc (.int .i64 ts.length) → e' 13 = .sc (.int .i64 ((i : Int) + 1)) → K e' ((M1.set b7 cl).set b5 (((valsF state (ts.take i) ++ List.replicate (ts.length - i) 0).set i x).map vi)) := by
        intro x cl hx e' g1 g5 g11 g12 g13
        refine hK _ _ ⟨?_, i + 1, by omega, g1, g5, g11, g12, g13, by rw [set_same, hset x hx]⟩ (by rw [g13, e13]; refine sS0 ?_; omega)
        refine Sub.set (sB) (by cases hq : M b5 with | none => rfl | some l => rw [hq] at hb5; cases hb5)
      refine cond_dec (fun h0 => ?_) (fun h0 => ?_)
      · simp (maxSteps := 2000000) (disch := first | omega | assumption | exact idP rfl | exact idP (bL rfl)) only [go_sem, reduceIte, Nat.reduceEqDiff, wpV_kd, wpV_tH, e5, hm, set_vi]
        exact fin _ _ (by simp [val1, h0]) _ (sT0) (sT0) (sT0) (sT0) (sT0)
      · refine sS0 ?_
        refine cond_dec (fun h1 => ?_) (fun h1 => ?_)
        · have hn := varOk_of hk hi' h1
          simp (maxSteps := 2000000) (disch := first | omega | assumption | exact idP rfl | exact idP (bL rfl)) only [go_sem, reduceIte, Nat.reduceEqDiff, wpV_kd, wpV_tH, e1, e5, hm, hw.iaddr, hw.ix, set_vi]
          exact fin _ _ (by simp [val1, h0, h1]) _ (sT0) (sT0) (sT0) (sT0) (sT0)
        · obtain ⟨hd, ha, hb⟩ := DoOk.of hk hs hvs hi' h0 h1
          refine sS3 @e5 @hm @rd ?_
          refine (t_do hd).mono ?_
          rintro _ _ ⟨rfl, rfl⟩
          simp (maxSteps := 2000000) (disch := first | omega | assumption | exact idP rfl | exact idP (bL rfl)) only [go_sem, reduceIte, Nat.reduceEqDiff, wpV_kd, wpV_tH, e5, hm, set_vi]
          exact fin _ _ (by simp [val1, h0, h1]) _ (sT0) (sT0) (sT0) (sT0) (sT0)
    · obtain rfl : i = ts.length := by omega
      rw [List.take_length] at hm
      simp only [Nat.sub_self, List.replicate_zero, List.append_nil] at hm
      have e1 : ((ts.length : Int) - 1).toNat = ts.length - 1 := by omega
      have hn := nth_vi (xs := valsF state ts) (i := ts.length - 1) (by rw [valsF_len]; omega)
      refine sS4 @e5 @hm @e1 @hn ?_
      exact hR _ _ hsub (by rw [evalF_eq (by omega)])
theorem t_inRange {a b w : V} {vars : List VarS} {st : List Int} (ha : LVar a vars) (hw : LI w st) (hvl : vars.length ≤ 5) : VCall Try.prog n_impl_inRange [.agg [a, b], w] M (fun r M' => M = M' ∧ r = .sc (.bool (inB vars st))) := by
  refine VCall.pure fun R hR => v_impl_inRange rfl ?_
  (repeat' (first | ((with_reducible first | refine cond_dec (fun h => ?_) (fun h => ?_) | refine guardK_dec (fun h => ?_) (fun h => ?_) | refine guardD3_dec (fun h => ?_) (fun h => ?_)) <;> first | (exfalso; omega) | (simp (maxSteps := 2000000) (disch := first | omega | assumption | exact idP rfl | exact idP (bL rfl)) only [go_sem, reduceIte, Nat.reduceEqDiff, wpV_kd, wpV_tH, h, ha.len, hw.len]) | skip) | ((with_reducible first | refine cond_split (fun h => ?_) (fun h => ?_) | refine guardK_split (fun h => ?_) (fun h => ?_) | refine guardD3_split (fun h => ?_) (fun h => ?_)) <;> ((try simp only [Bool.not_eq_true', Bool.not_eq_false'] at h); first | (simp (maxSteps := 2000000) (disch := first | omega | assumption | exact idP rfl | exact idP (bL rfl)) only [go_sem, reduceIte, Nat.reduceEqDiff, wpV_kd, wpV_tH, h, ha.len, hw.len]) | skip)) | (with_reducible intro bk hbk; try have hnk := (fresh_set hbk).1) | (simp (maxSteps := 2000000) (disch := first | omega | assumption | exact idP rfl | exact idP (bL rfl)) only [go_sem, reduceIte, Nat.reduceEqDiff, wpV_kd, wpV_tH, ha.len, hw.len])))
  · refine hR _ _ (sB) ?_
    rw [(inB_false _ _).2 (fun hh => by have := hh.1; omega)]
  · have hlen : st.length = vars.length := by omega
    refine loop_k (fun e M' => Sub M M' ∧ ∃ i : Nat, i ≤ st.length ∧ e 1 = w ∧ e 14 = a ∧ e 15 = .sc (.int .i64 vars.length) ∧ e 16 = .sc (.int .i64 i) ∧ ∀ j (hj : j < vars.length) (h2 : j < st.length), j < i → vars[j].low ≤ st[j] ∧ st[j] ≤ vars[j].high) (fun e _ => ctrV st.length (e 16)) ?_ ?_
    · exact ⟨sB, 0, by omega, sT0, sT0, sT0, by refine sS0 ?_; rfl, fun j _ _ h => by omega⟩
    · rintro e M1 ⟨hsub, i, hi, e1, e14, e15, e16, hj⟩ K hK
      refine sS2 @e15 @e16 ?_
      refine cond_dec (fun h => ?_) (fun h => ?_)
      · have hi' : i < vars.length := by omega
        have hi2 : i < st.length := by omega
        simp (maxSteps := 2000000) (disch := first | omega | assumption | exact idP rfl | exact idP (bL rfl)) only [go_sem, reduceIte, Nat.reduceEqDiff, wpV_kd, wpV_tH, e1, e14, e16, ha.iaddr, LVar.at ha hi']
        intro b6 hb6
        (repeat' (first | ((with_reducible first | refine cond_dec (fun h => ?_) (fun h => ?_) | refine guardK_dec (fun h => ?_) (fun h => ?_) | refine guardD3_dec (fun h => ?_) (fun h => ?_)) <;> first | (exfalso; omega) | (simp (maxSteps := 2000000) (disch := first | omega | assumption | exact idP rfl | exact idP (bL rfl)) only [go_sem, reduceIte, Nat.reduceEqDiff, wpV_kd, wpV_tH, h, e1, hw.iaddr, LI.at hw hi2]) | skip) | ((with_reducible first | refine cond_split (fun h => ?_) (fun h => ?_) | refine guardK_split (fun h => ?_) (fun h => ?_) | refine guardD3_split (fun h => ?_) (fun h => ?_)) <;> ((try simp only [Bool.not_eq_true', Bool.not_eq_false'] at h); first | (simp (maxSteps := 2000000) (disch := first | omega | assumption | exact idP rfl | exact idP (bL rfl)) only [go_sem, reduceIte, Nat.reduceEqDiff, wpV_kd, wpV_tH, h, e1, hw.iaddr, LI.at hw hi2]) | skip)) | ((with_reducible refine (t_in).mono ?_); rintro _ _ ⟨rfl, rfl⟩) | (with_reducible intro bk hbk; try have hnk := (fresh_set hbk).1) | (simp (maxSteps := 2000000) (disch := first | omega | assumption | exact idP rfl | exact idP (bL rfl)) only [go_sem, reduceIte, Nat.reduceEqDiff, wpV_kd, wpV_tH, e1, hw.iaddr, LI.at hw hi2])))
        · refine hR _ _ (sB) ?_
          rw [(inB_false _ _).2 (fun hh => by have := hh.2 i hi' hi2; omega)]
        · refine hK _ _ ⟨sB, i + 1, by omega, sT0, sT0, sT0, by refine sS0 ?_; rfl, fun j hj1 hj2 hj3 => ?_⟩ (by refine sS2 @ctrV_int @e16 ?_; omega)
          by_cases hji : j = i
          · subst hji; omega
          · exact hj j hj1 hj2 (by omega)
      · refine sS0 ?_
        refine hR _ _ hsub ?_
        rw [(inB_iff _ _).2 ⟨hlen, fun j h1 h2 => hj j h1 h2 (by omega)⟩]
theorem setAtG_all {α : Type} : ∀ (c z : List α) (o : Nat), o + c.length = z.length → setAtG z o c = z.take o ++ c
  | [], z, o, h => by
    simp only [setAtG, List.append_nil]
    rw [List.take_of_length_le (by simp at h; omega)]
  | x :: t, z, o, h => by
    simp only [setAtG]
    rw [setAtG_all t _ _ (by simp at h ⊢; omega)]
    simp at h
    rw [List.take_succ_eq_append_getElem (by simp; omega)]
    simp
    apply List.ext_getElem?
    intro i
    simp only [List.getElem?_take]
    split
    · rw [List.getElem?_set_ne (by omega)]
    · rfl
theorem t_cloneInt {v : V} {xs : List Int} (hv : LI v xs) (hl : xs.length ≤ 1048576) : VCall Try.prog n_impl_clone_int [v] M (fun r M' => Gr 1 M M' r (xs.map vi)) := by
  refine VCall.plain fun R hR => v_impl_clone_int rfl ?_
  refine sS1 @hv.len ?_
  refine cond_dec (fun h => ?_) (fun h => ?_)
  · refine sS0 ?_
    have : xs = [] := List.eq_nil_of_length_eq_zero (by omega)
    subst this
    exact hR _ _ (.nil (Sub.refl _))
  · refine sS1 @hv.len ?_
    refine mks3 (by omega) (by simp [mostCells]; omega) (by simp [mostCells]; omega) ?_
    intro b3 hb3
    have hcs := hv.cells (M := M.set b3 ((List.replicate xs.length (0 : Int)).map vi))
    rw [Nat.mul_one] at hcs
    simp (maxSteps := 2000000) (disch := first | omega | assumption | exact idP rfl | exact idP (bL rfl)) only [go_sem, reduceIte, Nat.reduceEqDiff, wpV_kd, wpV_tH, zeros_vi]
    simp only [copyV, hv.lenS, Nat.min_self, Nat.mul_one, hcs]
    rw [if_neg (by omega)]
    simp only [set_same, Nat.zero_add]
    refine ⟨by simp [vi, oneV, er, oneA], by simp, ?_⟩
    rw [setAtG_all _ _ _ (by simp)]
    refine sS0 ?_
    exact hR _ _ (Gr.new' (Sub.refl _) hb3 (by simp))
end Go.M2

namespace Go.M2
open Go.Proofs
variable {M : MH}
theorem t_isNaN {n : Int} : VCall Try.prog n_cmp_isNaN_int [.sc (.int .i64 n)] M (fun r M' => M = M' ∧ r = .sc (.bool false)) := by
  refine VCall.pure fun R hR => v_cmp_isNaN_int rfl ?_
  (repeat' (first | ((with_reducible first | refine cond_dec (fun h => ?_) (fun h => ?_) | refine guardK_dec (fun h => ?_) (fun h => ?_) | refine guardD3_dec (fun h => ?_) (fun h => ?_)) <;> first | (exfalso; omega) | (simp (maxSteps := 2000000) (disch := first | omega | assumption | exact idP rfl | exact idP (bL rfl)) only [go_sem, reduceIte, Nat.reduceEqDiff, wpV_kd, wpV_tH, h]) | skip) | ((with_reducible first | refine cond_split (fun h => ?_) (fun h => ?_) | refine guardK_split (fun h => ?_) (fun h => ?_) | refine guardD3_split (fun h => ?_) (fun h => ?_)) <;> ((try simp only [Bool.not_eq_true', Bool.not_eq_false'] at h); first | (simp (maxSteps := 2000000) (disch := first | omega | assumption | exact idP rfl | exact idP (bL rfl)) only [go_sem, reduceIte, Nat.reduceEqDiff, wpV_kd, wpV_tH, h]) | skip)) | (with_reducible intro bk hbk; try have hnk := (fresh_set hbk).1) | (simp (maxSteps := 2000000) (disch := first | omega | assumption | exact idP rfl | exact idP (bL rfl)) only [go_sem, reduceIte, Nat.reduceEqDiff, wpV_kd, wpV_tH])))
  all_goals exact hR _ _ (sB) (by (refine eqB ?_; (try simp only [decide_eq_true_eq, Bool.false_eq_true, Bool.and_eq_true, Bool.or_eq_true, Bool.not_eq_true', decide_eq_false_iff_not, eq_self_iff_true, true_iff, false_iff, iff_true, iff_false, ne_eq]); (try omega)))
def cmp1 (a b : Int) : Int := if a < b then -1 else if b < a then 1 else 0
theorem t_cmpInt {a b : Int} : VCall Try.prog n_cmp_Compare_int [.sc (.int .i64 a), .sc (.int .i64 b)] M (fun r M' => M = M' ∧ r = .sc (.int .i64 (cmp1 a b))) := by
  refine VCall.pure fun R hR => v_cmp_Compare_int rfl ?_
  (repeat' (first | ((with_reducible first | refine cond_dec (fun h => ?_) (fun h => ?_) | refine guardK_dec (fun h => ?_) (fun h => ?_) | refine guardD3_dec (fun h => ?_) (fun h => ?_)) <;> first | (exfalso; omega) | (simp (maxSteps := 2000000) (disch := first | omega | assumption | exact idP rfl | exact idP (bL rfl)) only [go_sem, reduceIte, Nat.reduceEqDiff, wpV_kd, wpV_tH, h]) | skip) | ((with_reducible first | refine cond_split (fun h => ?_) (fun h => ?_) | refine guardK_split (fun h => ?_) (fun h => ?_) | refine guardD3_split (fun h => ?_) (fun h => ?_)) <;> ((try simp only [Bool.not_eq_true', Bool.not_eq_false'] at h); first | (simp (maxSteps := 2000000) (disch := first | omega | assumption | exact idP rfl | exact idP (bL rfl)) only [go_sem, reduceIte, Nat.reduceEqDiff, wpV_kd, wpV_tH, h]) | skip)) | ((with_reducible refine (t_isNaN).mono ?_); rintro _ _ ⟨rfl, rfl⟩) | (with_reducible intro bk hbk; try have hnk := (fresh_set hbk).1) | (simp (maxSteps := 2000000) (disch := first | omega | assumption | exact idP rfl | exact idP (bL rfl)) only [go_sem, reduceIte, Nat.reduceEqDiff, wpV_kd, wpV_tH])))
  all_goals exact hR _ _ (sB) (eqI (by unfold cmp1; repeat' split; all_goals omega))
def cmpF (xs ys : List Int) : Int := if lessF xs ys = true then -1 else if xs = ys then 0 else 1
theorem t_slicesCompare {v w : V} {xs ys : List Int} (hv : LI v xs) (hw : LI w ys) (hl : xs.length ≤ 1048576) : VCall Try.prog n_slices_Compare_Sint_int [v, w] M (fun r M' => M = M' ∧ r = .sc (.int .i64 (cmpF xs ys))) := by
  refine VCall.pure fun R hR => v_slices_Compare_Sint_int rfl ?_
  refine sS1 @hv.len ?_
  refine loop_k (fun e M' => M' = M ∧ ∃ i : Nat, i ≤ xs.length ∧ i ≤ ys.length ∧ e 0 = v ∧ e 1 = w ∧ e 9 = v ∧ e 10 = .sc (.int .i64 xs.length) ∧ e 11 = .sc (.int .i64 i) ∧ xs.take i = ys.take i) (fun e _ => ctrV xs.length (e 11)) ?_ ?_
  · exact ⟨rfl, 0, by omega, by omega, sT0, sT0, sT0, sT0, by refine sS0 ?_; rfl, rfl⟩
  · rintro e M1 ⟨hM, i, hi, hj, e0, e1, e9, e10, e11, ht⟩ K hK
    subst hM
    have hlt := lessF_take hi hj ht
    refine sS2 @e10 @e11 ?_
    refine cond_dec (fun h => ?_) (fun h => ?_)
    · have hi1 : i < xs.length := by omega
      simp (maxSteps := 2000000) (disch := first | omega | assumption | exact idP rfl | exact idP (bL rfl)) only [go_sem, reduceIte, Nat.reduceEqDiff, wpV_kd, wpV_tH, e0, e1, e9, e11, hv.iaddr, hv.at hi1, hw.len]
      refine cond_dec (fun h2 => ?_) (fun h2 => ?_)
      · refine sS0 ?_
        refine hR _ _ (sB) (eqI ?_)
        have e2 : lessF xs ys = false := by
          rw [hlt, show ys.drop i = [] by apply List.drop_eq_nil_of_le; omega]
          cases xs.drop i <;> rfl
        have e3 : ¬ xs = ys := fun e => by subst e; omega
        simp [cmpF, e2, e3]
      · have hi2 : i < ys.length := by omega
        have hd : lessF (xs.drop i) (ys.drop i) = if xs[i] = ys[i] then lessF (xs.drop (i + 1)) (ys.drop (i + 1)) else decide (xs[i] < ys[i]) := by
          rw [List.drop_eq_getElem_cons hi1, List.drop_eq_getElem_cons hi2]; rfl
        simp (maxSteps := 2000000) (disch := first | omega | assumption | exact idP rfl | exact idP (bL rfl)) only [go_sem, reduceIte, Nat.reduceEqDiff, wpV_kd, wpV_tH, e1, hw.iaddr, hw.at hi2]
        refine t_cmpInt.mono ?_
        rintro _ _ ⟨rfl, rfl⟩
        refine sS0 ?_
        refine cond_dec (fun h3 => ?_) (fun h3 => ?_)
        · refine sS0 ?_
          refine hR _ _ (sB) (eqI ?_)
          unfold cmp1 at h3 ⊢
          have hne : ¬ xs[i] = ys[i] := fun e => by rw [e] at h3; simp at h3
          have e3 : ¬ xs = ys := fun e => by subst e; exact hne rfl
          unfold cmpF
          rw [hlt, hd, if_neg hne, if_neg e3]
          by_cases hl2 : xs[i] < ys[i]
          · simp [hl2]
          · simp [hl2]; omega
        · have heq : xs[i] = ys[i] := by
            have h3 := Decidable.not_not.1 h3
            unfold cmp1 at h3
            split at h3
            · omega
            · split at h3
              · omega
              · omega
          refine sS5 @e0 @e1 @e9 @e10 @e11 ?_
          exact hK _ _ ⟨rfl, i + 1, by omega, by omega, sT0, sT0, sT0, sT0, by refine sS0 ?_; rfl, by rw [take_snoc hi1, take_snoc hi2, ht, heq]⟩ (by refine sS2 @ctrV_int @e11 ?_; omega)
    · obtain rfl : i = xs.length := by omega
      rw [List.drop_length] at hlt
      refine sS4 @e0 @e1 @hv.len @hw.len ?_
      refine cond_dec (fun h2 => ?_) (fun h2 => ?_)
      · refine sS0 ?_
        refine hR _ _ (sB) (eqI ?_)
        have : lessF xs ys = true := by
          rw [hlt, List.drop_eq_getElem_cons (show xs.length < ys.length by omega)]; rfl
        simp [cmpF, this]
      · refine sS0 ?_
        refine hR _ _ (sB) (eqI ?_)
        have e2 : xs = ys := by
          rw [List.take_length, List.take_of_length_le (by omega)] at ht; exact ht
        subst e2
        simp [cmpF, lessF_irr]
theorem bin_half {a : Int} {k' : IntKind} (h0 : 0 ≤ a) (h1 : a ≤ 9223372036854775807) : binF .shr (.int .u64 (IntKind.u64.wrap a)) (.int k' 1) = some (.int .u64 (a / 2)) := by
  have hw : IntKind.u64.wrap a = a := by
    have e1 : IntKind.u64.wrap a = a % 18446744073709551616 := by
      simp only [IntKind.wrap]
      rfl
    rw [e1]; omega
  rw [hw]
  simp only [binF, isSh, shF, if_true]
  rw [if_neg (by decide)]
  simp only [Option.some.injEq, AV.int.injEq, true_and]
  have : (2 : Int) ^ (min (1 : Int).toNat (IntKind.u64.bits)) = 2 := by decide
  rw [this]
  exact Int.fdiv_eq_ediv_of_nonneg a (by decide)
theorem sorted_lt {l : List (List Int)} (h : SortedF l) {i j : Nat} (hj : j < l.length) (hij : i < j) : lessF (l[i]'(by omega)) l[j] = true := List.pairwise_iff_getElem.1 h i j (by omega) hj hij
theorem t_binarySearch {v w : V} {l : List (List Int)} {x : List Int} (hv : LII v l) (hw : LI w x) (hs : SortedF l) (hl : l.length ≤ 1048576) (hll : ∀ y ∈ l, y.length ≤ 1048576) :
    VCall Try.prog n_slices_BinarySearchFunc_SSint_Sint_Sint [v, w, .fn n_slices_Compare_Sint_int []] M (fun r M' => M = M' ∧ ∃ (i : Nat) (t : Bool), r = .tup [.sc (.int .i64 i), .sc (.bool t)] ∧ i ≤ l.length ∧ (∀ j (h : j < l.length), j < i → lessF l[j] x = true) ∧
      (t = true → ∃ h : i < l.length, l[i] = x) ∧ (t = false → ∀ h : i < l.length, lessF x l[i] = true)) := by
  refine VCall.pure fun R hR => v_slices_BinarySearchFunc_SSint_Sint_Sint rfl ?_
  refine sS1 @hv.len ?_
  refine loop_k (fun e M' => M' = M ∧ ∃ i j : Nat, i ≤ j ∧ j ≤ l.length ∧ e 0 = v ∧ e 1 = w ∧ e 2 = .fn n_slices_Compare_Sint_int [] ∧ e 8 = .sc (.int .i64 l.length) ∧ e 9 = .sc (.int .i64 i) ∧ e 10 = .sc (.int .i64 j) ∧
    (∀ k (h : k < l.length), k < i → lessF l[k] x = true) ∧ (∀ h : j < l.length, lessF l[j] x = false)) (fun e _ => match er (e 9), er (e 10) with | .int _ a, .int _ b => (b - a).toNat | _, _ => 0) ?_ ?_
  · exact ⟨rfl, 0, l.length, by omega, by omega, sT0, sT0, sT0, sT0, by refine sS0 ?_; rfl, sT0, fun k _ h => by omega, fun h => by omega⟩
  · rintro e M1 ⟨hM, i, j, hij, hj, e0, e1, e2, e8, e9, e10, hlo, hhi⟩ K hK
    subst hM
    refine sS2 @e9 @e10 ?_
    refine cond_dec (fun h => ?_) (fun h => ?_)
    · have hh : ((i : Int) + (j : Int)) / 2 = (((i + j) / 2 : Nat) : Int) := by omega
      have hm1 : (i + j) / 2 < j := by omega
      have hm2 : i ≤ (i + j) / 2 := by omega
      have hml : (i + j) / 2 < l.length := by omega
      simp (maxSteps := 2000000) (disch := first | omega | assumption | exact idP rfl | exact idP (bL rfl)) only [go_sem, reduceIte, Nat.reduceEqDiff, wpV_kd, wpV_tH, e0, e1, e2, e9, e10, bin_half, hh, hv.iaddr]
      refine (t_slicesCompare (hv.elt hml) hw (hll _ (List.getElem_mem hml))).mono ?_
      rintro _ _ ⟨rfl, rfl⟩
      refine sS0 ?_
      refine cond_dec (fun h2 => ?_) (fun h2 => ?_)
      · have hless : lessF l[(i + j) / 2] x = true := by
          unfold cmpF at h2
          split at h2
          · assumption
          · split at h2 <;> omega
        refine sS0 ?_
        refine hK _ _ ⟨rfl, (i + j) / 2 + 1, j, by omega, hj, sT1 @e0, sT1 @e1, sT1 @e2, sT1 @e8, by refine sS0 ?_; rfl, sT1 @e10, fun k hk1 hk2 => ?_, hhi⟩ (by refine sS2 @e9 @e10 ?_; omega)
        by_cases hk3 : k = (i + j) / 2
        · subst hk3; exact hless
        · exact lessF_trans (sorted_lt hs hml (by omega)) hless
      · have hnless : lessF l[(i + j) / 2] x = false := by
          unfold cmpF at h2
          split at h2
          · omega
          · simp_all
        refine sS0 ?_
        exact hK _ _ ⟨rfl, i, (i + j) / 2, hm2, by omega, sT1 @e0, sT1 @e1, sT1 @e2, sT1 @e8, sT1 @e9, sT0, hlo, fun _ => hnless⟩ (by refine sS2 @e9 @e10 ?_; omega)
    · obtain rfl : i = j := by omega
      by_cases hil : i < l.length
      · have hd : decide ((i : Int) < (l.length : Int)) = true := by simpa using hil
        refine sS7 @e0 @e1 @e2 @e8 @e9 @hd @hv.iaddr ?_
        refine (t_slicesCompare (hv.elt hil) hw (hll _ (List.getElem_mem hil))).mono ?_
        rintro _ _ ⟨rfl, rfl⟩
        refine sS0 ?_
        refine hR _ _ (sB) ⟨i, decide (cmpF l[i] x = 0), rfl, by omega, hlo, fun ht => ⟨hil, ?_⟩, fun ht _ => ?_⟩
        · have h3 : cmpF l[i] x = 0 := by simpa using ht
          unfold cmpF at h3
          rw [hhi hil] at h3
          simp only [Bool.false_eq_true, if_false] at h3
          split at h3
          · assumption
          · omega
        · have h3 : ¬ cmpF l[i] x = 0 := by simpa using ht
          unfold cmpF at h3
          rw [hhi hil] at h3
          simp only [Bool.false_eq_true, if_false] at h3
          rcases lessF_tri l[i] x with h4 | h4 | h4
          · rw [hhi hil] at h4; cases h4
          · rw [if_pos h4] at h3; exact absurd rfl h3
          · exact h4
      · have hd : decide ((i : Int) < (l.length : Int)) = false := by simpa using hil
        refine sS6 @e0 @e1 @e2 @e8 @e9 @hd ?_
        exact hR _ _ (sB) ⟨i, false, rfl, by omega, hlo, fun h => (by cases h), fun _ h => absurd h hil⟩
end Go.M2

namespace Go.M2
open Go.Proofs
variable {M : MH}
theorem slc_lo {b o n c : Nat} {ex : Bool} {k : IntKind} {a : Int} (h0 : 0 ≤ a) (h1 : a ≤ (n : Int)) (hc : a < (c : Int)) (hn : n ≤ c) :
    slcV 1 (some (.int k a)) none none (.sc (.sl (some (b, o)) n c ex 1)) = some (.sc (.sl (some (b, o + a.toNat)) (n - a.toNat) (c - a.toNat) ex 1)) := by
  simp only [slcV, slcF, bnds, natIn, Option.isSome_none, Bool.false_eq_true, if_false, h0, h1, and_self, if_true]
  rw [if_neg (by intro h; rcases h with h | h <;> omega), if_neg (by omega)]
  simp
theorem slc_end {b o n c : Nat} {k : IntKind} {a : Int} (h0 : a = (c : Int)) (h1 : n = c) :
    slcV 1 (some (.int k a)) none none (.sc (.sl (some (b, o)) n c true 1)) = some (.sc (.sl (some (b, o)) (n - c) 0 true 1)) := by
  subst h0 h1
  simp [slcV, slcF, bnds, natIn]
theorem slc_hi {b o n c kk : Nat} {ex : Bool} {k : IntKind} {a : Int} (h0 : 0 ≤ a) (h1 : a ≤ (c : Int)) (hc : 0 < c) :
    slcV 1 none (some (.int k a)) none (.sc (.sl (some (b, o)) n c ex kk)) = some (.sc (.sl (some (b, o)) a.toNat c ex kk)) := by
  simp only [slcV, slcF, bnds, natIn, Option.isSome_none, Bool.false_eq_true, if_false, h0, h1, and_self, if_true]
  rw [if_neg (by intro h; rcases h with h | h <;> omega), if_neg (by omega)]
  simp
theorem copy_own {K : V → MH → Prop} {b o n c k bs os m cs ks t : Nat} {ex exs : Bool} {ld ls : List V} (hs : M bs = some ls) (hd : M b = some ld) (ht : min m n = t) (h0 : 0 < t) (h1 : os + t ≤ ls.length) (h2 : o + t ≤ ld.length)
    (ho : ((ls.drop os).take t).all oneV = true) (hk : K (.sc (.int .i64 (t : Int))) (M.set b (setAtG ld o ((ls.drop os).take t)))) : copyV 1 (.sc (.sl (some (b, o)) n c ex k)) (.sc (.sl (some (bs, os)) m cs exs ks)) M K := by
  subst ht
  simp only [copyV, lenS, cellsS, Nat.mul_one, if_neg (show ¬ min m n = 0 by omega), hs, if_pos h1, hd]
  exact ⟨ho, h2, hk⟩
theorem setAtG_mid {α : Type} : ∀ (c z : List α) (o : Nat), o + c.length ≤ z.length → setAtG z o c = z.take o ++ c ++ z.drop (o + c.length)
  | [], z, o, h => by simp [setAtG]
  | x :: t, z, o, h => by
    simp only [setAtG]
    simp at h
    rw [setAtG_mid t _ _ (by simp; omega)]
    rw [List.take_succ_eq_append_getElem (by simp; omega)]
    have e1 : (z.set o x).take o = z.take o := by
      apply List.ext_getElem?
      intro i
      simp only [List.getElem?_take]
      split
      · rw [List.getElem?_set_ne (by omega)]
      · rfl
    have e2 : (z.set o x).drop (o + 1 + t.length) = z.drop (o + (x :: t).length) := by
      apply List.ext_getElem?
      intro i
      simp only [List.getElem?_drop]
      rw [List.getElem?_set_ne (by omega)]
      simp; congr 1; omega
    rw [e1, e2]
    simp
def GrN (M0 M : MH) (v : V) (us : List V) : Prop := Gr 1 M0 M v us ∧ ((us = [] ∧ ∃ k, v = .sc (.sl none 0 0 true k)) ∨ ∃ b n, v = .sc (.sl (some (b, 0)) n n false 1))
theorem slc_nil {k : IntKind} {kk : Nat} : slcV 1 (some (.int k 0)) none none (.sc (.sl none 0 0 true kk)) = some (.sc (.sl none 0 0 true kk)) := by
  simp [slcV, slcF, bnds, natIn]
theorem ins_new {us Z : List V} {u : V} {i : Nat} (hi : i ≤ us.length) (hz : i + Z.length = us.length + 1) : setAtG ((us.take i ++ Z).set i u) (i + 1) (us.drop i) = us.take i ++ u :: us.drop i := by
  have h1 : (us.take i).length = i := by simp; omega
  obtain ⟨z0, Z', rfl⟩ : ∃ z0 Z', Z = z0 :: Z' := by
    cases Z with
    | nil => simp at hz; omega
    | cons a t => exact ⟨a, t, rfl⟩
  have e0 : (us.take i ++ z0 :: Z').set i u = us.take i ++ [u] ++ Z' := by
    rw [List.set_append_right _ _ (by omega), h1]
    simp
  have hz' : i + (Z'.length + 1) = us.length + 1 := by simpa using hz
  have h2 : (us.take i ++ [u]).length = i + 1 := by rw [List.length_append, h1]; rfl
  have h3 : (us.drop i).length = us.length - i := List.length_drop
  have h5 : (us.take i ++ [u] ++ Z').drop (i + 1 + (us.drop i).length) = [] := List.drop_eq_nil_of_le (by rw [List.length_append, h2, h3]; omega)
  rw [e0, setAtG_mid _ _ _ (by rw [List.length_append, h2, h3]; omega), List.take_left' h2, h5]
  simp
theorem ins_room {us J : List V} {u : V} {i : Nat} (hi : i < us.length) (hj : 0 < J.length) : ((setAtG (us ++ J) (i + 1) (us.drop i)).set i u).take (us.length + 1) = us.take i ++ u :: us.drop i := by
  have h1 : (us.take i).length = i := by simp; omega
  have h3 : (us.drop i).length = us.length - i := List.length_drop
  have h4 : (us ++ J).length = us.length + J.length := List.length_append
  rw [setAtG_mid _ _ _ (by omega), List.take_append_of_le_length (by omega), List.take_succ_eq_append_getElem hi]
  generalize (us ++ J).drop (i + 1 + (us.drop i).length) = T
  have e0 : (us.take i ++ [us[i]] ++ us.drop i ++ T).set i u = (us.take i ++ u :: us.drop i) ++ T := by
    rw [List.append_assoc, List.append_assoc, List.set_append_right _ _ (by omega), h1]
    simp
  rw [e0, List.take_left' (by rw [List.length_append, List.length_cons, h1, h3]; omega)]
theorem all_drop {us : List V} (h : us.all oneV = true) (i : Nat) : (us.drop i).all oneV = true := List.all_eq_true.2 fun x hx => List.all_eq_true.1 h x (List.mem_of_mem_drop hx)
theorem t_Insert {M0 M1 : MH} {s u : V} {us : List V} {bt i : Nat} (h : GrN M0 M1 s us) (hbt : M1 bt = none) (hu : oneV u = true) (hus : us.all oneV = true) (hi : i ≤ us.length) (hl : us.length ≤ 1048576) :
    VCall Try.prog n_slices_Insert_SSint_Sint [s, .sc (.int .i64 i), .sc (.sl (some (bt, 0)) 1 1 true 1)] (M1.set bt [u]) (fun r M' => GrN M0 M' r (us.take i ++ u :: us.drop i)) := by
  have hsub : Sub M0 (M1.set bt [u]) := h.1.sub.set' hbt
  have hlit : cellsS (1 * 1) (.sc (.sl (some (bt, 0)) 1 1 true 1)) (M1.set bt [u]) = some [u] := by
    simp only [cellsS, Nat.one_mul, set_same, Nat.zero_add, List.drop_zero]; rfl
  rcases h with ⟨hg, ⟨rfl, k, rfl⟩ | ⟨b, n, rfl⟩⟩
  · obtain rfl : i = 0 := by simpa using hi
    refine VCall.plain fun R hR => v_slices_Insert_SSint_Sint rfl ?_
    have e0 : ((0 : Nat) : Int) = 0 := rfl
    simp (maxSteps := 2000000) (disch := first | omega | assumption | exact idP rfl | exact idP (bL rfl)) only [go_sem, reduceIte, Nat.reduceEqDiff, wpV_kd, wpV_tH, e0, slc_nil]
    refine cond_dec (fun h => by omega) (fun h => ?_)
    refine sS0 ?_
    refine cond_dec (fun h => ?_) (fun h => by omega)
    refine sS0 ?_
    simp only [appV, lenS, hlit]
    refine ⟨_, _, .refl _ _, ?_⟩
    simp only [appW]
    rw [if_neg (by omega), if_neg (by omega)]
    refine ⟨by simp [mostCells], by simp [mostCells], ?_⟩
    simp only [if_true, cellsS, Nat.zero_mul]
    intro b hb
    refine sS0 ?_
    exact hR _ _ ⟨Gr.new' hsub hb rfl, .inr ⟨b, _, rfl⟩⟩
  · obtain ⟨hm, _, _, _, hn, hm0⟩ := hg.get
    have hn : us.length = n := by omega
    have hne : b ≠ bt := fun e => by subst e; rw [hbt] at hm; cases hm
    refine VCall.closeCap (VCall.openCap (a1 := []) (l := us) (by rw [set_ne hne]; exact hm) fun c' hc => ?_)
    have eJ : 0 + c' * 1 - us.length = c' - n := by omega
    rw [eJ]
    generalize hJ : List.replicate (c' - n) (V.sc .junk) = J
    have hJl : J.length = c' - n := by rw [← hJ]; simp
    refine VCall.plain fun R hR => v_slices_Insert_SSint_Sint rfl ?_
    have fin : ∀ b' M', Gr 1 M0 M' (.sc (.sl (some (b', 0)) (n + 1) (n + 1) false 1)) (us.take i ++ u :: us.drop i) → R (.sc (.sl (some (b', 0)) (n + 1) (n + 1) false 1)) M' := fun b' M' q => hR _ _ (.inl ⟨q, .inr ⟨b', _, rfl⟩⟩)
    have finC : ∀ l M', n + 1 ≤ c' → l.take (n + 1) = us.take i ++ u :: us.drop i → n + 1 ≤ l.length → Sub M0 M' → M' b = some l → R (.sc (.sl (some (b, 0)) (n + 1) c' true 1)) M' := fun l M' q0 q1 q2 q3 q4 =>
      hR _ _ (.inr ⟨b, n + 1, c', 1, l, true, rfl, q0, q4, by omega, by
        rw [Nat.mul_one, q1]
        exact ⟨.mk' (q3.set hm0) hm0 (by simp; omega) set_same, .inr ⟨b, _, rfl⟩⟩⟩)
    have hlit2 : cellsS (1 * 1) (.sc (.sl (some (bt, 0)) 1 1 true 1)) ((M1.set bt [u]).set b (us ++ J)) = some [u] := by
      simp only [cellsS, Nat.one_mul, set_ne (Ne.symm hne), set_same, Nat.zero_add, List.drop_zero]; rfl
    have hsub2 : Sub M0 ((M1.set bt [u]).set b (us ++ J)) := hsub.set hm0
    -- the check of the bounds
    have chk : ∃ r, slcV 1 (some (.int .i64 (i : Int))) none none (.sc (.sl (some (b, 0)) n c' true 1)) = some r := by
      by_cases h1 : i < c'
      · exact ⟨_, slc_lo (by omega) (by omega) (by omega) hc⟩
      · exact ⟨_, slc_end (by omega) (by omega)⟩
    obtain ⟨rr, chk⟩ := chk
    by_cases hin : i = n
    · subst hin
      refine sS1 @chk ?_
      refine cond_dec (fun h => by omega) (fun h => ?_)
      refine sS0 ?_
      simp only [appV, lenS, hlit2]
      refine ⟨_, _, .refl _ _, ?_⟩
      simp only [appW, set_same]
      rw [if_neg (by omega)]
      have et : us.take i ++ u :: us.drop i = us ++ [u] := by rw [List.take_of_length_le (by omega), List.drop_eq_nil_of_le (by omega)]
      rw [et] at fin finC
      by_cases hroom : i + 1 ≤ c'
      · rw [if_pos hroom]
        refine ⟨trivial, by simp [hu], by simp; omega, ?_⟩
        refine sS0 ?_
        obtain ⟨j0, J', rfl⟩ : ∃ j0 J', J = j0 :: J' := by
          cases J with
          | nil => simp at hJl; omega
          | cons a t => exact ⟨a, t, rfl⟩
        have e9 : (us ++ j0 :: J').set i u = (us ++ [u]) ++ J' := by
          rw [List.set_append_right _ _ (by omega), hn, Nat.sub_self]; simp
        refine finC _ _ hroom ?_ ?_ (hsub.set hm0) set_same
        · rw [e9, List.take_left' (by simp [hn])]
        · simp; omega
      · rw [if_neg hroom]
        have hJ0 : J = [] := List.eq_nil_of_length_eq_zero (by omega)
        subst hJ0
        refine ⟨by simp [mostCells]; omega, by simp [mostCells]; omega, ?_⟩
        have hco : cellsS (i * 1) (.sc (.sl (some (b, 0)) i c' true 1)) ((M1.set bt [u]).set b (us ++ [])) = some us := by
          simp only [cellsS, set_same, Nat.zero_add, Nat.mul_one, List.append_nil, List.drop_zero]
          split
          · rename_i h0
            have : us = [] := List.eq_nil_of_length_eq_zero (by omega)
            rw [this]
          · first | rw [if_pos (by omega), List.take_of_length_le (by omega)] | rw [List.take_of_length_le (by omega)]
        simp only [if_true, hco]
        intro b' hb'
        refine sS0 ?_
        exact fin _ _ (Gr.new' hsub2 hb' (by simp; omega))
    · have hin' : i < n := by omega
      have e11 : ((1 : Nat) : Int) = 1 := rfl
      have e1 : ((i : Int) + 1).toNat = i + 1 := by omega
      have e2 : ((n : Int) + 1).toNat = n + 1 := by omega
      have e3 : ((n : Int) + 1 - (i : Int)).toNat = n + 1 - i := by omega
      have hdl : ((us ++ J).drop i).take (n - i) = us.drop i := by
        rw [List.drop_append_of_le_length (by omega), List.take_left' (by simp; omega)]
      refine sS1 @chk ?_
      refine cond_dec (fun h => by omega) (fun h => ?_)
      refine sS0 ?_
      refine cond_dec (fun h => by omega) (fun h => ?_)
      refine sS1 @e11 ?_
      refine cond_dec (fun h => ?_) (fun h => ?_)
      · -- no room
        have hcn : c' = n := by omega
        have hJ0 : J = [] := List.eq_nil_of_length_eq_zero (by omega)
        simp (maxSteps := 2000000) (disch := first | omega | assumption | exact idP rfl | exact idP (bL rfl)) only [go_sem, reduceIte, Nat.reduceEqDiff, wpV_kd, wpV_tH, slc_hi, e1, e2, e3, e11]
        have hco : cellsS (i * 1) (.sc (.sl (some (b, 0)) i c' true 1)) ((M1.set bt [u]).set b (us ++ J)) = some (us.take i) := by
          simp only [cellsS, set_same, Nat.zero_add, Nat.mul_one, List.drop_zero]
          split
          · rename_i h0; rw [h0]; rfl
          · rw [if_pos (by simp; omega), List.take_append_of_le_length (by omega)]
        have hco : cellsS (i * [AV.sl none 0 0 true 0].length) (.sc (.sl (some (b, 0)) i c' true 1)) ((M1.set bt [u]).set b (us ++ J)) = some (us.take i) := hco
        simp only [appzV, e3, hco]
        refine ⟨by omega, by omega, by simp [mostCells]; omega, by simp [mostCells]; omega, ?_⟩
        intro b9 hb9
        have hz : ((zeros [AV.sl none 0 0 true 0] (n + 1 - i)).map V.sc).length = n + 1 - i := by simp [zeros_length]
        generalize hZ : (zeros [AV.sl none 0 0 true 0] (n + 1 - i)).map V.sc = Z at hz
        have hlen : i + (n + 1 - i) = n + 1 := by omega
        rw [hlen]
        have ne1 : b9 ≠ b := (fresh_set hb9).1
        have ne2 : b9 ≠ bt := (fresh_set (fresh_set hb9).2).1
        simp (maxSteps := 2000000) (disch := first | omega | assumption | exact idP rfl | exact idP (bL rfl)) only [go_sem, reduceIte, Nat.reduceEqDiff, wpV_kd, wpV_tH, slc_lo]
        refine copy_own (t := 1) (ls := [u]) (ld := us.take i ++ Z) (by rw [set_ne (Ne.symm ne2), set_ne (Ne.symm hne), set_same]) set_same (by omega) (by omega) (by simp) (by simp; omega) (by simp [hu]) ?_
        simp (maxSteps := 2000000) (disch := first | omega | assumption | exact idP rfl | exact idP (bL rfl)) only [go_sem, reduceIte, Nat.reduceEqDiff, wpV_kd, wpV_tH, slc_lo, e11, e1]
        refine copy_own (t := n - i) (ls := us ++ J) (ld := (us.take i ++ Z).set i u) (by rw [set_ne (Ne.symm ne1), set_same]) (by rw [set_same]) (by omega) (by omega) (by simp; omega) (by simp; omega) (by rw [hdl]; exact all_drop hus i) ?_
        refine sS0 ?_
        refine fin _ _ ?_
        simp only [Nat.zero_add, hdl]
        rw [ins_new hi (by omega)]
        exact .mk' (hsub2.set' hb9) (hsub2.none hb9) (by simp; omega) set_same
      · -- room
        have hroom : n + 1 ≤ c' := by omega
        simp (maxSteps := 2000000) (disch := first | omega | assumption | exact idP rfl | exact idP (bL rfl)) only [go_sem, reduceIte, Nat.reduceEqDiff, wpV_kd, wpV_tH, slc_hi, e1, e2, e3, e11]
        simp (maxSteps := 2000000) (disch := first | omega | assumption | exact idP rfl | exact idP (bL rfl)) only [go_sem, reduceIte, Nat.reduceEqDiff, wpV_kd, wpV_tH, slc_lo, e1, e2, e11]
        have husz : 0 < us.length := by omega
        refine ⟨Ne.symm hne, by rw [set_ne (Ne.symm hne), set_same]; rfl, ?_, ?_⟩
        · cases hus' : us with
          | nil => rw [hus'] at husz; simp at husz
          | cons a t => exact ⟨a, t ++ J, by rw [set_same]; rfl⟩
        simp (maxSteps := 2000000) (disch := first | omega | assumption | exact idP rfl | exact idP (bL rfl)) only [go_sem, reduceIte, Nat.reduceEqDiff, wpV_kd, wpV_tH, slc_lo, e1, e2, e11]
        refine copy_own (t := n - i) (ls := us ++ J) (ld := us ++ J) set_same set_same (by omega) (by omega) (by simp; omega) (by simp; omega) (by rw [hdl]; exact all_drop hus i) ?_
        simp (maxSteps := 2000000) (disch := first | omega | assumption | exact idP rfl | exact idP (bL rfl)) only [go_sem, reduceIte, Nat.reduceEqDiff, wpV_kd, wpV_tH, slc_lo, e1, e2, e11]
        refine copy_own (t := 1) (ls := [u]) (ld := setAtG (us ++ J) (i + 1) ((us ++ J).drop i |>.take (n - i))) (by rw [set_ne (Ne.symm hne), set_same]) set_same (by omega) (by omega) (by simp) (by rw [setAtG_mid _ _ _ (by simp; omega)]; simp; omega) (by simp [hu]) ?_
        refine sS0 ?_
        refine finC _ _ hroom ?_ ?_ (hsub.set hm0) set_same
        · rw [hdl, ← hn]
          exact ins_room (by omega) (by omega)
        · rw [hdl, setAtG_mid _ _ _ (by simp; omega)]; simp; omega
end Go.M2

namespace Go.M2
open Go.Proofs
variable {M : MH}
def isL (xs : List Int) (u : V) : Prop := LI u xs
theorem t_l2Put {v w : V} {l : List (List Int)} {x : List Int} (hv : LII v l) (hw : LI w x) (hl : l.length ≤ 1048576) (hll : ∀ y ∈ l, y.length ≤ 1048576) (hx : x.length ≤ 1048576) :
    VCall Try.prog n_spec_l2Put [v, w] M (fun r M' => ∃ us, Gr 1 M M' r us ∧ Cs isL us (putF l x)) := by
  refine VCall.plain fun R hR => v_spec_l2Put rfl ?_
  have hw1 := hw.one.1
  have hw2 := hw.one.2
  (repeat' (first | ((with_reducible first | refine cond_dec (fun h => ?_) (fun h => ?_) | refine guardK_dec (fun h => ?_) (fun h => ?_) | refine guardD3_dec (fun h => ?_) (fun h => ?_)) <;> first | (exfalso; omega) | (simp (maxSteps := 2000000) (disch := first | omega | assumption | exact idP rfl | exact idP (bL rfl)) only [go_sem, reduceIte, Nat.reduceEqDiff, wpV_kd, wpV_tH, h]) | skip) | ((with_reducible first | refine cond_split (fun h => ?_) (fun h => ?_) | refine guardK_split (fun h => ?_) (fun h => ?_) | refine guardD3_split (fun h => ?_) (fun h => ?_)) <;> ((try simp only [Bool.not_eq_true', Bool.not_eq_false'] at h); first | (simp (maxSteps := 2000000) (disch := first | omega | assumption | exact idP rfl | exact idP (bL rfl)) only [go_sem, reduceIte, Nat.reduceEqDiff, wpV_kd, wpV_tH, h]) | skip)) | (with_reducible intro bk hbk; try have hnk := (fresh_set hbk).1) | (simp (maxSteps := 2000000) (disch := first | omega | assumption | exact idP rfl | exact idP (bL rfl)) only [go_sem, reduceIte, Nat.reduceEqDiff, wpV_kd, wpV_tH])))
  refine loop_k (fun e M' => ∃ (i : Nat) (d : Bool) (us : List V) (out : List (List Int)), i ≤ l.length ∧ e 0 = v ∧ e 1 = w ∧ e 6 = .sc (.bool d) ∧ e 7 = .sc (.int .i64 i) ∧ Gr 1 M M' (e 5) us ∧ Cs isL us out ∧ out.length ≤ i + 1 ∧
    (d = false → out = l.take i ∧ ∀ j (hj : j < l.length), j < i → lessF l[j] x = true) ∧ (d = true → putF l x = out ++ l.drop i)) (fun e _ => ctrV l.length (e 7)) ?_ ?_
  · exact ⟨0, false, [], [], by omega, sT0, sT0, sT0, by refine sS0 ?_; rfl, by refine sS0 ?_; exact Gr.new' (Sub.refl _) hbk rfl, .nil, by simp, fun _ => ⟨rfl, fun j _ h => by omega⟩, fun h => (by cases h)⟩
  · rintro e M1 ⟨i, d, us, out, hi, e0, e1, e6, e7, hg, hc, hol, hd0, hd1⟩ K hK
    have hul := hc.1
    refine sS5 @e0 @e1 @e6 @e7 @hv.len ?_
    refine cond_dec (fun h => ?_) (fun h => ?_)
    · have hi' : i < l.length := by omega
      have hat := hv.elt hi'
      have ha1 := hat.one.1
      have ha2 := hat.one.2
      have hll' := hll _ (List.getElem_mem hi')
      have step : ∀ (us' : List V) (out' : List (List Int)) (s : V) (M2 : MH) (d' : Bool), Gr 1 M M2 s us' → Cs isL us' out' → out'.length ≤ i + 1 → (d' = false → out' = l.take i ∧ (∀ j (hj : j < l.length), j < i + 1 → lessF l[j] x = true)) → (d' = true → putF l x = out' ++ l.drop i) →
          ∀ bt, M2 bt = none → ∀ (K' : V → MH → Prop), (∀ s' M', Gr 1 M M' s' (us' ++ [at1 v i]) → Cs isL (us' ++ [at1 v i]) (out' ++ [l[i]]) → (out' ++ [l[i]]).length ≤ i + 1 + 1 →
            (d' = false → out' ++ [l[i]] = l.take (i + 1) ∧ ∀ j (hj : j < l.length), j < i + 1 → lessF l[j] x = true) → (d' = true → putF l x = (out' ++ [l[i]]) ++ l.drop (i + 1)) → K' s' M') →
          appV 1 24 s (.sc (.sl (some (bt, 0)) 1 1 true 1)) (M2.set bt [at1 v i]) K' := by
        intro us' out' s M2 d' q1 q2 q3 q4 q5 bt hbt K' hk
        refine app_val q1 hbt ha1 (by have := q2.1; omega) (by omega) fun s' M' g1 g2 => hk s' M' g1 (q2.snoc hat) (by simp; omega) (fun h => ?_) (fun h => ?_)
        · obtain ⟨rfl, h2⟩ := q4 h
          exact ⟨(take_snoc hi').symm, h2⟩
        · rw [q5 h, List.drop_eq_getElem_cons hi']; simp
      cases d with
      | true =>
        have hd1 := hd1 rfl
        refine sS7 @e0 @e1 @e6 @e7 @hv.iaddr @ha1 @ha2 ?_
        intro bt hbt
        refine step us out _ M1 true hg hc hol (fun h => (by cases h)) (fun _ => hd1) bt hbt _ ?_
        intro s' M' g1 g2 g3 g4 g5
        refine sS4 @e0 @e1 @e6 @e7 ?_
        exact hK _ _ ⟨i + 1, true, _, _, by omega, sT0, sT0, sT0, by refine sS0 ?_; rfl, by refine sS0 ?_; exact g1, g2, g3, g4, g5⟩ (by refine sS2 @ctrV_int @e7 ?_; omega)
      | false =>
        obtain ⟨rfl, hlt⟩ := hd0 rfl
        refine sS7 @e0 @e1 @e6 @e7 @hv.iaddr @ha1 @ha2 ?_
        refine (t_l2Same hat hw hll').mono ?_
        rintro _ _ ⟨rfl, rfl⟩
        by_cases heq : l[i] = x
        · have hd : decide (l[i] = x) = true := by simpa using heq
          refine sS4 @hd @hv.iaddr @ha1 @ha2 ?_
          intro bt hbt
          refine step us (l.take i) _ M1 true hg hc (by simp; omega) (fun h => (by cases h)) (fun _ => by rw [putF_in hi' hlt heq, List.take_append_drop]) bt hbt _ ?_
          intro s' M' g1 g2 g3 g4 g5
          refine sS4 @e0 @e1 @e6 @e7 ?_
          exact hK _ _ ⟨i + 1, true, _, _, by omega, sT0, sT0, sT0, by refine sS0 ?_; rfl, by refine sS0 ?_; exact g1, g2, g3, g4, g5⟩ (by refine sS2 @ctrV_int @e7 ?_; omega)
        · have hd : decide (l[i] = x) = false := by simpa using heq
          refine sS4 @hd @hv.iaddr @ha1 @ha2 ?_
          refine (t_l2Less hw hat hx hll').mono ?_
          rintro _ _ ⟨rfl, rfl⟩
          cases hls : lessF x l[i] with
          | true =>
            refine sS5 @hv.iaddr @ha1 @ha2 @hw1 @hw2 ?_
            intro bt hbt
            refine app_val hg hbt hw1 (by omega) (by omega) ?_
            intro s1 M2 hg2 _
            refine sS3 @hv.iaddr @ha1 @ha2 ?_
            intro bt2 hbt2
            refine step (us ++ [w]) (l.take i ++ [x]) _ M2 true hg2 (hc.snoc hw) (by simp; omega) (fun h => (by cases h)) (fun _ => by rw [putF_at (by omega) hlt (fun _ => hls)]; simp) bt2 hbt2 _ ?_
            intro s' M' g1 g2 g3 g4 g5
            refine sS4 @e0 @e1 @e6 @e7 ?_
            exact hK _ _ ⟨i + 1, true, _, _, by omega, sT0, sT0, sT0, by refine sS0 ?_; rfl, by refine sS0 ?_; exact g1, g2, g3, g4, g5⟩ (by refine sS2 @ctrV_int @e7 ?_; omega)
          | false =>
            refine sS5 @hv.iaddr @ha1 @ha2 @hw1 @hw2 ?_
            intro bt hbt
            refine step us (l.take i) _ M1 false hg hc (by simp; omega) (fun _ => ⟨rfl, fun j hj1 hj2 => ?_⟩) (fun h => (by cases h)) bt hbt _ ?_
            · by_cases hji : j = i
              · subst hji
                rcases lessF_tri l[j] x with h1 | h1 | h1
                · exact h1
                · exact absurd h1 heq
                · rw [hls] at h1; cases h1
              · exact hlt j hj1 (by omega)
            intro s' M' g1 g2 g3 g4 g5
            refine sS4 @e0 @e1 @e6 @e7 ?_
            exact hK _ _ ⟨i + 1, false, _, _, by omega, sT0, sT0, sT0, by refine sS0 ?_; rfl, by refine sS0 ?_; exact g1, g2, g3, g4, g5⟩ (by refine sS2 @ctrV_int @e7 ?_; omega)
    · obtain rfl : i = l.length := by omega
      cases d with
      | true =>
        refine sS1 @e6 ?_
        refine hR _ _ ⟨us, hg, ?_⟩
        rw [hd1 rfl, List.drop_length, List.append_nil]
        exact hc
      | false =>
        obtain ⟨rfl, hlt⟩ := hd0 rfl
        refine sS4 @e1 @e6 @hw1 @hw2 ?_
        intro bt hbt
        refine app_val hg hbt hw1 (by omega) (by omega) ?_
        intro s1 M2 hg2 _
        refine sS0 ?_
        refine hR _ _ ⟨_, hg2, ?_⟩
        rw [putF_at (Nat.le_refl _) hlt (fun h => by omega), List.drop_length]
        exact hc.snoc hw
theorem f_l2Put {v w : V} {l : List (List Int)} {x : List Int} (hv : LII v l) (hw : LI w x) (hl : l.length ≤ 1048576) (hll : ∀ y ∈ l, y.length ≤ 1048576) (hx : x.length ≤ 1048576) :
    VCall Try.prog n_spec_l2Put [v, w] M (fun r M' => M = M' ∧ LII r (putF l x)) :=
  (VCall.fr (l := fun _ us => Cs isL us (putF l x)) (t_l2Put hv hw hl hll hx) (fun _ _ _ h => h)).mono fun r M' ⟨h1, c, h2, h3⟩ => ⟨h1, h2.lsC h3⟩
theorem t_l2Next {v w : V} {s : SysS} {st : List Int} (hv : isSys s v) (hs : SysOk s) (hw : LI w st) (hin : StIn s.vars st) : VCall Try.prog n_spec_l2Next [v, w] M (fun r M' => M = M' ∧ LII r (nextF s st)) := by
  refine VCall.froz fun R hP hG => v_spec_l2Next rfl ?_
  have hv0 := hv
  obtain ⟨a, b, rfl, ha, hb⟩ := hv
  have h1 := hs.v1
  have h5 := hs.v5
  have h8 := hs.r8
  (repeat' (first | ((with_reducible first | refine cond_dec (fun h => ?_) (fun h => ?_) | refine guardK_dec (fun h => ?_) (fun h => ?_) | refine guardD3_dec (fun h => ?_) (fun h => ?_)) <;> first | (exfalso; omega) | (simp (maxSteps := 2000000) (disch := first | omega | assumption | exact idP rfl | exact idP (bL rfl)) only [go_sem, reduceIte, Nat.reduceEqDiff, wpV_kd, wpV_tH, h]) | skip) | ((with_reducible first | refine cond_split (fun h => ?_) (fun h => ?_) | refine guardK_split (fun h => ?_) (fun h => ?_) | refine guardD3_split (fun h => ?_) (fun h => ?_)) <;> ((try simp only [Bool.not_eq_true', Bool.not_eq_false'] at h); first | (simp (maxSteps := 2000000) (disch := first | omega | assumption | exact idP rfl | exact idP (bL rfl)) only [go_sem, reduceIte, Nat.reduceEqDiff, wpV_kd, wpV_tH, h]) | skip)) | (with_reducible intro bk hbk; try have hnk := (fresh_set hbk).1) | (simp (maxSteps := 2000000) (disch := first | omega | assumption | exact idP rfl | exact idP (bL rfl)) only [go_sem, reduceIte, Nat.reduceEqDiff, wpV_kd, wpV_tH])))
  rename_i bb hbb
  -- the list is frozen from the second round on: the first one is owned, and empty
  refine loop_k (fun e M' => Sub (M.set bb [a, b]) M' ∧ ∃ i : Nat, i ≤ s.rules.length ∧ e 1 = w ∧ e 2 = .sc (.ptr (some (bb, 0))) ∧ e 6 = .sc (.int .i64 i) ∧ (LII (e 5) (nextGo s.vars st (s.rules.take i) []) ∨ (nextGo s.vars st (s.rules.take i) [] = [] ∧ Gr 1 (M.set bb [a, b]) M' (e 5) []))) (fun e _ => ctrV s.rules.length (e 6)) ?_ ?_
  · refine ⟨(Sub.refl _).set hbk, 0, by omega, sT0, sT0, by refine sS0 ?_; rfl, .inr ⟨rfl, ?_⟩⟩
    refine sS0 ?_
    exact Gr.new' (Sub.refl _) hbk rfl
  · rintro e M1 ⟨hsub, i, hi, e1, e2, e6, h5'⟩ K hK
    have hm : M1 bb = some [a, b] := hsub _ _ set_same
    refine sS5 @e1 @e2 @e6 @hm @hb.len ?_
    refine cond_dec (fun h => ?_) (fun h => ?_)
    · have hi' : i < s.rules.length := by omega
      refine sS4 @e1 @e2 @e6 @hm ?_
      refine (t_l2Use hv0 hs hw hin hi').mono ?_
      rintro r _ ⟨rfl, hr⟩
      have hnt := nextGo_take (vars := s.vars) (st := st) hi'
      have hok := nextGo_ok (vars := s.vars) (st := st) (rs := s.rules.take i) (l := []) List.Pairwise.nil (fun x hx => by cases hx)
      have hnl := nextGo_len (vars := s.vars) (st := st) (rs := s.rules.take i) (l := [])
      simp at hnl
      cases hu : useR s.vars s.rules[i] st with
      | none =>
        rw [hu] at hr hnt
        simp only [lRes] at hr
        subst hr
        (repeat' (first | ((with_reducible first | refine cond_dec (fun h => ?_) (fun h => ?_) | refine guardK_dec (fun h => ?_) (fun h => ?_) | refine guardD3_dec (fun h => ?_) (fun h => ?_)) <;> first | (exfalso; omega) | (simp (maxSteps := 2000000) (disch := first | omega | assumption | exact idP rfl | exact idP (bL rfl)) only [go_sem, reduceIte, Nat.reduceEqDiff, wpV_kd, wpV_tH, h]) | skip) | ((with_reducible first | refine cond_split (fun h => ?_) (fun h => ?_) | refine guardK_split (fun h => ?_) (fun h => ?_) | refine guardD3_split (fun h => ?_) (fun h => ?_)) <;> ((try simp only [Bool.not_eq_true', Bool.not_eq_false'] at h); first | (simp (maxSteps := 2000000) (disch := first | omega | assumption | exact idP rfl | exact idP (bL rfl)) only [go_sem, reduceIte, Nat.reduceEqDiff, wpV_kd, wpV_tH, h]) | skip)) | (with_reducible intro bk hbk; try have hnk := (fresh_set hbk).1) | (simp (maxSteps := 2000000) (disch := first | omega | assumption | exact idP rfl | exact idP (bL rfl)) only [go_sem, reduceIte, Nat.reduceEqDiff, wpV_kd, wpV_tH])))
        refine hK _ _ ⟨hsub, i + 1, by omega, sT0, sT0, by refine sS0 ?_; rfl, ?_⟩ (by refine sS2 @ctrV_int @e6 ?_; omega)
        refine sS0 ?_
        rw [hnt]; exact h5'
      | some x =>
        rw [hu] at hr hnt
        have hr : LI r x := hr
        have hxi := useR_in hu
        have hxl : x.length = s.vars.length := hxi.1
        refine sS1 @hr.len ?_
        refine cond_dec (fun h0 => ?_) (fun h0 => by omega)
        refine sS0 ?_
        rcases h5' with h6 | ⟨h6, h7⟩
        · refine (f_l2Put h6 hr (by omega) (fun y hy => by have := (hok.2 y hy).1; omega) (by omega)).mono ?_
          rintro r' _ ⟨rfl, hr'⟩
          refine sS0 ?_
          refine hK _ _ ⟨hsub, i + 1, by omega, sT0, sT0, by refine sS0 ?_; rfl, .inl ?_⟩ (by refine sS2 @ctrV_int @e6 ?_; omega)
          refine sS0 ?_
          rw [hnt]; exact hr'
        · refine VCall.give0 h7 fun u M2 hu hs2 => ?_
          have hun : LII u [] := hu.ls rfl fun i h => by simp at h
          refine (f_l2Put hun hr (by simp) (fun y hy => (by cases hy)) (by omega)).mono ?_
          rintro r' _ ⟨rfl, hr'⟩
          refine sS0 ?_
          refine hK _ _ ⟨hs2, i + 1, by omega, sT0, sT0, by refine sS0 ?_; rfl, .inl ?_⟩ (by refine sS2 @ctrV_int @e6 ?_; omega)
          refine sS0 ?_
          rw [hnt, h6]; exact hr'
    · obtain rfl : i = s.rules.length := by omega
      have hM : Sub M (M.set bb [a, b]) := sB
      rw [List.take_length] at h5'
      refine sS0 ?_
      rcases h5' with h6 | ⟨h6, h7⟩
      · exact hP _ _ (hM.trans hsub) h6
      · refine hG _ _ 1 _ ⟨hM.trans h7.sub, fun b' h' => hM.none (h7.new b' h'), h7.own⟩ fun u hu => ?_
        have : nextF s st = [] := h6
        rw [this]
        exact hu.ls rfl fun i h => by simp at h
end Go.M2

namespace Go.M2
open Go.Proofs
variable {M : MH}
theorem sizeF_mono {vs : List VarS} (hv : ∀ v ∈ vs, VarOk v) (h5 : vs.length ≤ 5) {i : Nat} : 1 ≤ sizeF (vs.take i) ∧ sizeF (vs.take i) ≤ 3200000 := sizeF_take_bd h5 fun j hj _ => hv _ (List.getElem_mem hj)
end Go.M2

namespace Go.M2
open Go.Proofs
variable {M : MH}
theorem SysOk.sz {s : SysS} (hs : SysOk s) : 1 ≤ sizeF s.vars ∧ sizeF s.vars ≤ 400 := by
  have := sizeF_mono hs.vars hs.v5 (i := s.vars.length)
  rw [List.take_length] at this
  exact ⟨this.1, hs.size⟩
theorem nextF_len {s : SysS} (hs : SysOk s) (st : List Int) : (nextF s st).length ≤ 8 := by
  have := nextGo_len (vars := s.vars) (st := st) (rs := s.rules) (l := [])
  have := hs.r8
  simp at *
  unfold nextF
  omega
end Go.M2

namespace Go.M2
open Go.Proofs
variable {M : MH}
def uRes (r : V) : Option (List Int) → Prop
  | none => r = .tup [.sc (.sl none 0 0 true 0), .sc (.bool false)]
  | some xs => ∃ u, r = .tup [u, .sc (.bool true)] ∧ LI u xs
theorem t_use {v w : V} {s : SysS} {st : List Int} {k : Nat} (hv : isSys s v) (hs : SysOk s) (hw : LI w st) (hin : StIn s.vars st) (hk : k < s.rules.length) :
    VCall Try.prog n_impl_use [v, w, .sc (.int .i64 k)] M (fun r M' => M = M' ∧ uRes r (useR s.vars s.rules[k] st)) := by
  refine VCall.froz2 fun R hP hG => v_impl_use rfl ?_
  obtain ⟨a, b, rfl, ha, hb⟩ := hv
  obtain ⟨x, y, z, hat, hx, hy, hz⟩ := hb.elt hk
  have h1 := hs.v1
  have h5 := hs.v5
  have hl := hin.1
  have hok := hin.ok hs
  obtain ⟨hw2, hst, hsets⟩ := hs.rules _ (List.getElem_mem hk)
  obtain ⟨kw, hkw⟩ := kind_some hw2
  have hx1 := hx.one.1
  have hy1 := hy.one.1
  have hz1 := hz.one.1
  (repeat' (first | ((with_reducible first | refine cond_dec (fun h => ?_) (fun h => ?_) | refine guardK_dec (fun h => ?_) (fun h => ?_) | refine guardD3_dec (fun h => ?_) (fun h => ?_)) <;> first | (exfalso; omega) | (simp (maxSteps := 2000000) (disch := first | omega | assumption | exact idP rfl | exact idP (bL rfl)) only [go_sem, reduceIte, Nat.reduceEqDiff, wpV_kd, wpV_tH, h, hb.len, hb.iaddr, hat]) | skip) | ((with_reducible first | refine cond_split (fun h => ?_) (fun h => ?_) | refine guardK_split (fun h => ?_) (fun h => ?_) | refine guardD3_split (fun h => ?_) (fun h => ?_)) <;> ((try simp only [Bool.not_eq_true', Bool.not_eq_false'] at h); first | (simp (maxSteps := 2000000) (disch := first | omega | assumption | exact idP rfl | exact idP (bL rfl)) only [go_sem, reduceIte, Nat.reduceEqDiff, wpV_kd, wpV_tH, h, hb.len, hb.iaddr, hat]) | skip)) | ((with_reducible refine (t_eval hx hw hkw hok (by omega)).mono ?_); rintro _ _ ⟨rfl, rfl⟩) | (with_reducible intro bk hbk; try have hnk := (fresh_set hbk).1) | (simp (maxSteps := 2000000) (disch := first | omega | assumption | exact idP rfl | exact idP (bL rfl)) only [go_sem, reduceIte, Nat.reduceEqDiff, wpV_kd, wpV_tH, hb.len, hb.iaddr, hat])))
  · refine hP _ _ (sB) ?_
    rename_i h
    simp only [useR, h, if_true, uRes]
  · rename_i b3 hb3
    have hev := h
    refine (t_cloneInt hw (by omega)).mono ?_
    rintro r M1 hg
    have hm8 : M1 bk = some [x, y, z] := hg.sub _ _ (sT0)
    refine sS2 @hm8 @hy.len ?_
    refine loop_k (fun e M' => ∃ i : Nat, i ≤ s.rules[k].sets.length ∧ e 1 = w ∧ e 3 = .sc (.ptr (some (b3, 0))) ∧ e 8 = .sc (.ptr (some (bk, 0))) ∧ e 25 = y ∧ e 26 = .sc (.int .i64 s.rules[k].sets.length) ∧ e 27 = .sc (.int .i64 i) ∧ Gr 1 ((M.set b3 [a, b]).set bk [x, y, z]) M' (e 9) ((setsF st s.rules[k].terms s.rules[k].sets i).map vi)) (fun e _ => ctrV s.rules[k].sets.length (e 27)) ?_ ?_
    · exact ⟨0, by omega, sT0, sT0, sT0, sT0, sT0, by refine sS0 ?_; rfl, by refine sS0 ?_; exact hg⟩
    · rintro e M2 ⟨i, hi, e1, e3, e8, e25, e26, e27, hg⟩ K2 hK2
      have hm3 : M2 b3 = some [a, b] := hg.sub _ _ (sT0)
      have hm8 : M2 bk = some [x, y, z] := hg.sub _ _ (sT0)
      have hsl := setsF_len st s.rules[k].terms s.rules[k].sets i
      have hle := sets_le hsets (by omega)
      refine sS2 @e26 @e27 ?_
      refine cond_dec (fun h => ?_) (fun h => ?_)
      · have hi' : i < s.rules[k].sets.length := by omega
        have hi2 : i < s.rules[k].terms.length := by omega
        obtain ⟨ki, hki⟩ := kind_some (hsets.kind hi' hi2)
        have hset := (hsets i hi').1
        have hat8 := hg.at (by rw [len_vi]; omega)
        have hia : ∀ {k : IntKind} {a : Int}, 0 ≤ a → a < (st.length : Int) → iaddrV 1 (e 9) (.int k a) = some (.sc (.ptr (some (oB (e 9), a.toNat)))) := fun q1 q2 => hg.own.iaddr q1 (by rw [len_vi, hsl]; exact q2)
        have hso : s.rules[k].sets[i].toNat < ((setsF st s.rules[k].terms s.rules[k].sets i).map vi).length := by rw [len_vi]; omega
        simp (maxSteps := 2000000) (disch := first | omega | assumption | exact idP rfl | exact idP (bL rfl)) only [go_sem, reduceIte, Nat.reduceEqDiff, wpV_kd, wpV_tH, e1, e3, e8, e25, e27, hm8, hy.iaddr, hy.at hi', hz.iaddr]
        refine (t_eval (hz.elt hi2) hw hki hok (by omega)).mono ?_
        rintro _ _ ⟨rfl, rfl⟩
        refine sS9 @e1 @e3 @e8 @e25 @e26 @e27 @hm8 @hia @hat8 ?_
        refine hK2 _ _ ⟨i + 1, by omega, sT0, sT0, sT0, sT0, sT0, by refine sS0 ?_; rfl, ?_⟩ (by refine sS2 @ctrV_int @e27 ?_; omega)
        refine sS0 ?_
        have := hg.setO (l' := (setsF st s.rules[k].terms s.rules[k].sets (i + 1)).map vi) (by rw [len_vi]; omega) (by simp [setsF_len])
        simp only [setsF, getD_eq hi', getD_eq hi2] at this ⊢
        rw [← set_vi] at this ⊢
        exact this
      · obtain rfl : i = s.rules[k].sets.length := by omega
        refine sS2 @hm3 @e3 ?_
        refine (VCall.lend1 hg.own flat_eq fun u M' hu => t_inRange ha hu.li (by omega)).mono ?_
        rintro _ _ ⟨rfl, rfl⟩
        have hsub : Sub M ((M.set b3 [a, b]).set bk [x, y, z]) := sB
        cases hib : inB s.vars (setsF st s.rules[k].terms s.rules[k].sets s.rules[k].sets.length) with
        | false =>
          refine sS0 ?_
          refine hP _ _ (hsub.trans hg.sub) ?_
          simp [useR, hev, hib, uRes]
        | true =>
          refine sS0 ?_
          refine hG _ _ _ 1 _ ⟨hsub.trans hg.sub, fun b' h' => hsub.none (hg.new b' h'), hg.own⟩ fun u hu => ?_
          have : useR s.vars s.rules[k] st = some (setsF st s.rules[k].terms s.rules[k].sets s.rules[k].sets.length) := by simp [useR, hev, hib]
          rw [this]
          exact ⟨_, rfl, hu.li⟩
theorem Cs.one {us : List V} {l : List (List Int)} (h : Cs isL us l) : us.all oneV = true := by
  refine List.all_eq_true.2 fun x hx => ?_
  obtain ⟨i, hi, rfl⟩ := List.getElem_of_mem hx
  obtain ⟨u, hu, he⟩ := h.2 i (by rw [← h.1]; exact hi)
  rw [List.getElem?_eq_getElem hi] at hu
  cases hu
  exact he.one.1
theorem Cs.take {us : List V} {l : List (List Int)} (h : Cs isL us l) (i : Nat) : Cs isL (us.take i) (l.take i) := by
  refine ⟨by simp [h.1], fun j hj => ?_⟩
  simp at hj
  obtain ⟨u, hu, he⟩ := h.2 j (by omega)
  exact ⟨u, by rw [List.getElem?_take, if_pos (by omega)]; exact hu, by rw [List.getElem_take]; exact he⟩
theorem Cs.ins {us : List V} {l : List (List Int)} {u : V} {x : List Int} (h : Cs isL us l) (hu : LI u x) {i : Nat} (hi : i ≤ l.length) : Cs isL (us.take i ++ u :: us.drop i) (l.take i ++ x :: l.drop i) := by
  have h1 : (us.take i).length = i := by have := h.1; simp; omega
  have h2 : (l.take i).length = i := by simp; omega
  refine ⟨by simp [h.1], fun j hj => ?_⟩
  have hl := h.1
  by_cases h3 : j < i
  · obtain ⟨v, hv, he⟩ := h.2 j (by omega)
    refine ⟨v, by rw [List.getElem?_append_left (by omega), List.getElem?_take, if_pos h3]; exact hv, ?_⟩
    rw [List.getElem_append_left (by omega), List.getElem_take]; exact he
  · by_cases h4 : j = i
    · subst h4
      refine ⟨u, by rw [List.getElem?_append_right (by omega), h1]; simp, ?_⟩
      rw [List.getElem_append_right (by omega)]; simp only [h2, Nat.sub_self, List.getElem_cons_zero]; exact hu
    · simp at hj
      obtain ⟨v, hv, he⟩ := h.2 (j - 1) (by omega)
      obtain ⟨q, hq⟩ : ∃ q, j - i = q + 1 := ⟨j - i - 1, by omega⟩
      refine ⟨v, ?_, ?_⟩
      · rw [List.getElem?_append_right (by omega), h1, hq, List.getElem?_cons_succ, List.getElem?_drop, show i + q = j - 1 by omega]; exact hv
      · rw [List.getElem_append_right (by omega)]
        simp only [h2, hq, List.getElem_cons_succ, List.getElem_drop, show i + q = j - 1 by omega]; exact he
end Go.M2

namespace Go.M2
open Go.Proofs
variable {M : MH}
theorem Fz.pre {M M' : MH} {l l' : List V} (h : Fz M l M' l') : ∀ us : List V, Fz M (us ++ l) M' (us ++ l')
  | [] => h
  | x :: t => .keep x (Fz.pre h t)
theorem FzE.row {M0 M : MH} {b3 sz : Nat} {rv : V} {us post row : List V} (hb : M b3 = some (us ++ rv :: post)) (hr : Gr sz M0 M rv row) (hne : blkV rv ≠ some b3) :
    ∃ M' u, (∀ e, FzE e M e M') ∧ Fr sz u row ∧ M' b3 = some (us ++ u :: post) ∧ (M0 b3 = none → Sub M0 M') := by
  rcases hr.own with ⟨rfl, k, rfl⟩ | ⟨b, n, ex, rfl, h1, h2⟩
  · exact ⟨M, _, fun e => .refl _ _, .inl ⟨rfl, k, rfl⟩, hb, fun _ => hr.sub⟩
  · have hne' : b3 ≠ b := fun e => hne (by rw [e]; rfl)
    have h0 := hr.new b rfl
    have hd : M.del b b3 = some (us ++ V.sc (.sl (some (b, 0)) n n ex sz) :: post) := by simp only [MH.del]; rw [if_neg hne']; exact hb
    have hz : Fz M (us ++ V.sc (.sl (some (b, 0)) n n ex sz) :: post) (M.del b) (us ++ V.fs (some (b, 0)) n n ex sz (row.drop 0) :: post) := Fz.pre (.sl h1 (Fz.refl _ _) (Fz.refl _ _)) us
    refine ⟨_, _, fun e => FzE.cells hb hz hd, .inr ⟨_, _, _, _, _, rfl, by simpa using h2⟩, set_same, fun h3 => Sub.set (fun i l hi => ?_) h3⟩
    simp only [MH.del]
    rw [if_neg (fun e => by subst e; rw [h0] at hi; cases hi)]
    exact hr.sub i l hi
theorem Gr.setN {sz b : Nat} {M0 M : MH} {v : V} {l l' : List V} (h : Gr sz M0 M v l) (hb : M0 b = none) (hne : blkV v ≠ some b) : Gr sz M0 (M.set b l') v l := by
  rcases h.own with ⟨rfl, k, rfl⟩ | ⟨c, n, ex, rfl, h1, h2⟩
  · exact .nil (h.sub.set hb)
  · exact .mk' (h.sub.set hb) (h.new c rfl) h2 (by rw [set_ne (fun e => hne (by rw [← e]; rfl))]; exact h1)
end Go.M2

namespace Go.M2
open Go.Proofs
variable {M : MH}
def nil1 : V := .sc (.sl none 0 0 true 0)
end Go.M2

namespace Go.M2
open Go.Proofs
variable {M : MH}
def AscTo (n : Int) (xs : List Int) (k : Nat) : Prop := ∀ i (h : i < xs.length), i < k → (0 ≤ xs[i] ∧ xs[i] ≤ n - 1) ∧ (0 < i → xs[i - 1] < xs[i])
def SetOk (n : Int) (xs : List Int) : Prop := AscTo n xs xs.length
noncomputable def setB (n : Int) (xs : List Int) : Bool := @decide (SetOk n xs) (Classical.propDecidable _)
theorem AscTo.next {n : Int} {xs : List Int} {k : Nat} (h : AscTo n xs k) (hk : k < xs.length) (h1 : 0 ≤ xs[k] ∧ xs[k] ≤ n - 1) (h2 : 0 < k → xs[k - 1] < xs[k]) : AscTo n xs (k + 1) := fun i hi hik => by
  by_cases e : i = k
  · subst e; exact ⟨h1, h2⟩
  · exact h i hi (by omega)
noncomputable def sizeB (s : SysS) : Int := if sysB s = true then sizeF s.vars else 0
theorem t_SizeOfB {v : V} {s : SysS} (hv : isSys s v) : VCall Try.prog n_spec_SizeOf [v] M (fun r M' => M = M' ∧ r = .sc (.int .i64 (sizeB s))) := by
  by_cases hs : sysB s = true
  · refine (t_SizeOf hv ((sysB_iff s).1 hs)).mono ?_
    rintro r _ ⟨rfl, rfl⟩
    exact ⟨rfl, by simp [sizeB, hs]⟩
  · refine VCall.pure fun R hR => v_spec_SizeOf rfl ?_
    have hv0 := hv
    obtain ⟨a, b, rfl, ha, hb⟩ := hv
    (repeat' (first | ((with_reducible first | refine cond_dec (fun h => ?_) (fun h => ?_) | refine guardK_dec (fun h => ?_) (fun h => ?_) | refine guardD3_dec (fun h => ?_) (fun h => ?_)) <;> first | (exfalso; omega) | (simp (maxSteps := 2000000) (disch := first | omega | assumption | exact idP rfl | exact idP (bL rfl)) only [go_sem, reduceIte, Nat.reduceEqDiff, wpV_kd, wpV_tH, h]) | skip) | ((with_reducible first | refine cond_split (fun h => ?_) (fun h => ?_) | refine guardK_split (fun h => ?_) (fun h => ?_) | refine guardD3_split (fun h => ?_) (fun h => ?_)) <;> ((try simp only [Bool.not_eq_true', Bool.not_eq_false'] at h); first | (simp (maxSteps := 2000000) (disch := first | omega | assumption | exact idP rfl | exact idP (bL rfl)) only [go_sem, reduceIte, Nat.reduceEqDiff, wpV_kd, wpV_tH, h]) | skip)) | (with_reducible intro bk hbk; try have hnk := (fresh_set hbk).1) | (simp (maxSteps := 2000000) (disch := first | omega | assumption | exact idP rfl | exact idP (bL rfl)) only [go_sem, reduceIte, Nat.reduceEqDiff, wpV_kd, wpV_tH])))
    refine (t_SystemValidS hv0).mono ?_
    rintro _ _ ⟨rfl, rfl⟩
    simp only [Bool.not_eq_true] at hs
    refine sS1 @hs ?_
    exact hR _ _ (sB) (by simp [sizeB, hs])
noncomputable def setV (s : SysS) (xs : List Int) : Bool := sysB s && setB (sizeF s.vars) xs
end Go.M2

namespace Go.M2
open Go.Proofs
variable {M : MH}
def selL (n : Nat) (p : Nat → Bool) : List Int := ((List.range n).filter p).map (fun i : Nat => (i : Int))
theorem selL_succ {n : Nat} {p : Nat → Bool} : selL (n + 1) p = if p n = true then selL n p ++ [(n : Int)] else selL n p := by
  unfold selL
  rw [List.range_succ, List.filter_append]
  cases h : p n <;> simp [h]
theorem selL_len {n : Nat} {p : Nat → Bool} : (selL n p).length ≤ n := by
  unfold selL
  rw [List.length_map]
  exact Nat.le_trans (List.length_filter_le ..) (by simp)
theorem mem_selL {n : Nat} {p : Nat → Bool} {x : Int} : x ∈ selL n p ↔ ∃ i : Nat, i < n ∧ p i = true ∧ (i : Int) = x := by
  unfold selL
  simp only [List.mem_map, List.mem_filter, List.mem_range]
  constructor
  · rintro ⟨i, ⟨h1, h2⟩, h3⟩; exact ⟨i, h1, h2, h3⟩
  · rintro ⟨i, h1, h2, h3⟩; exact ⟨i, ⟨h1, h2⟩, h3⟩
end Go.M2

namespace Go.M2
open Go.Proofs
variable {M : MH}
def behB (tab : List (List Int)) (xs : List Int) (i : Nat) : Bool := xs.any fun x => decide ((i : Int) ∈ tab.getD x.toNat [])
end Go.M2

namespace Go.M2
open Go.Proofs
variable {M : MH}
theorem SetOk.in {n : Int} {xs : List Int} (h : SetOk n xs) : ∀ x ∈ xs, 0 ≤ x ∧ x < n := by
  intro x hx
  obtain ⟨i, hi, rfl⟩ := List.getElem_of_mem hx
  have := (h i hi hi).1
  omega
noncomputable def nextN (s : SysS) (xs : List Int) : List Int := if setV s xs = true then selL (tabF s).length (behB (tabF s) xs) else []
end Go.M2

namespace Go.M2
open Go.Proofs
variable {M : MH}
noncomputable def firstN (s : SysS) : Int := numF s.vars (firstF s)
end Go.M2

namespace Go.M2
theorem SetOk.mono {n m : Int} {xs : List Int} (h : SetOk n xs) (hnm : n ≤ m) : SetOk m xs := fun i hi hik => ⟨by have := (h i hi hik).1; omega, (h i hi hik).2⟩
theorem SetOk.snoc {n x : Int} {xs : List Int} (h : SetOk n xs) (h0 : 0 ≤ n) (hx : n ≤ x) : SetOk (x + 1) (xs ++ [x]) := by
  intro i hi _
  by_cases e : i < xs.length
  · have h1 := h i e e
    have e1 : (xs ++ [x])[i] = xs[i] := List.getElem_append_left e
    rw [e1]
    refine ⟨by omega, fun h2 => ?_⟩
    have e2 : (xs ++ [x])[i - 1] = xs[i - 1] := List.getElem_append_left (by omega)
    rw [e2]; exact h1.2 h2
  · have e3 : i = xs.length := by simp at hi; omega
    subst e3
    have e1 : (xs ++ [x])[xs.length] = x := by simp
    rw [e1]
    refine ⟨by omega, fun h2 => ?_⟩
    have hl : xs.length - 1 < xs.length := by omega
    have e2 : (xs ++ [x])[xs.length - 1] = xs[xs.length - 1] := List.getElem_append_left hl
    rw [e2]
    have := (h _ hl hl).1
    omega
end Go.M2

namespace Go.M2
open Go.Proofs
variable {M : MH}
def In {α : Type} (L : V → List α → Prop) (v : V) (ys : List α) : Prop := L v ys ∨ (v = .sc .emp ∧ ys = [])
theorem In.get {α : Type} {L : V → List α → Prop} {v : V} {ys : List α} (h : In L v ys) (h0 : 0 < ys.length) : L v ys := by
  rcases h with h | ⟨_, rfl⟩
  · exact h
  · simp at h0
theorem In.len {α : Type} {L : V → List α → Prop} {v : V} {ys : List α} (h : In L v ys) (hl : ∀ v ys, L v ys → lenF (er v) = some (.int .i64 (ys.length : Int))) : lenF (er v) = some (.int .i64 (ys.length : Int)) := by
  rcases h with h | ⟨rfl, rfl⟩
  · exact hl _ _ h
  · rfl
def mx : Nat := 9223372036854775807
def LenOk {α : Type} (xs : List α) : Prop := xs.length ≤ 9223372036854775807
def RuleFit (r : RuleS) : Prop := r.when_.length ≤ 1048576 ∧ r.sets.length ≤ 1048576 ∧ r.terms.length ≤ 1048576 ∧ ∀ ts ∈ r.terms, ts.length ≤ 1048576
def SysFit (s : SysS) : Prop := s.vars.length ≤ 1048576 ∧ s.rules.length ≤ 1048576 ∧ ∀ r ∈ s.rules, RuleFit r
end Go.M2

namespace Go.M2
open Go.Proofs
variable {M : MH}
end Go.M2

namespace Go.M2
open Go.Proofs
variable {M : MH}
end Go.M2

namespace Go.M2
open Go.Proofs
variable {M : MH}
def catV {α : Type} (enc : α → List V) (xs : List α) : List V := (xs.map enc).flatten
theorem catV_len {α : Type} {enc : α → List V} {sz : Nat} (he : ∀ x, (enc x).length = sz) : ∀ xs : List α, (catV enc xs).length = xs.length * sz
  | [] => by simp [catV]
  | x :: t => by
    have := catV_len he t
    simp only [catV, List.map_cons, List.flatten_cons, List.length_append, he, List.length_cons, Nat.succ_mul] at this ⊢
    omega
theorem catV_snoc {α : Type} {enc : α → List V} {xs : List α} {x : α} : catV enc (xs ++ [x]) = catV enc xs ++ enc x := by simp [catV]
theorem catV_at {α : Type} {enc : α → List V} {sz : Nat} (he : ∀ x, (enc x).length = sz) {xs : List α} {i : Nat} (hi : i < xs.length) : ((catV enc xs).drop (i * sz)).take sz = enc xs[i] := by
  have e1 : xs = xs.take i ++ xs[i] :: xs.drop (i + 1) := by rw [← List.drop_eq_getElem_cons hi, List.take_append_drop]
  have e2 : catV enc xs = catV enc (xs.take i) ++ (enc xs[i] ++ catV enc (xs.drop (i + 1))) := by
    have e3 : catV enc xs = catV enc (xs.take i ++ xs[i] :: xs.drop (i + 1)) := congrArg (catV enc) e1
    rw [e3]
    simp only [catV, List.map_append, List.map_cons, List.flatten_append, List.flatten_cons]
  have h3 := catV_len he (xs.take i)
  have h4 : (xs.take i).length = i := by simp; omega
  rw [e2, List.drop_left' (by rw [h3, h4]), List.take_left' (he _)]
end Go.M2

namespace Go.M2
open Go.Proofs
variable {M : MH}
abbrev T3 := {l : List V // l.length = 3}
def z3 : T3 := ⟨[nil1, nil1, nil1], rfl⟩
end Go.M2

namespace Go.M2
open Go.Proofs
variable {M : MH}
theorem Mem.base {M0 M1 M : MH} {f : List (Nat × List V)} (h : Mem M1 M f) (hs : Sub M0 M1) : Mem M0 M f := ⟨hs.trans h.sub, fun p hp => hs.none (h.new p hp), h.nd, h.at_⟩
theorem Mem.tail {M0 M : MH} {p : Nat × List V} {f : List (Nat × List V)} (h : Mem M0 M (p :: f)) : Mem M0 M f := Mem.right (f := [p]) h
theorem Mem.hd {M0 M : MH} {b : Nat} {l : List V} {f : List (Nat × List V)} (h : Mem M0 M ((b, l) :: f)) : M b = some l := h.at_ _ (List.mem_cons_self ..)
def One (v : V) : Prop := oneV v = true ∧ cellsV v = some [v]
theorem Ow.flat {sz : Nat} {M : MH} {v : V} {l : List V} (h : Ow sz M v l) : flat v := by
  rcases h with ⟨_, k, rfl⟩ | ⟨b, n, ex, rfl, _⟩ <;> simp [Go.M2.flat]
theorem catV_flat {α : Type} {enc : α → List V} (he : ∀ x, flatL (enc x)) : ∀ xs : List α, flatL (catV enc xs)
  | [] => by simp [catV, flatL]
  | x :: t => flatL_all.2 fun v hv => by
    have ih := catV_flat he t
    simp only [catV, List.map_cons, List.flatten_cons, List.mem_append] at hv
    rcases hv with h1 | h1
    · exact flatL_all.1 (he x) v h1
    · exact flatL_all.1 ih v h1
theorem encT_flat (x : TermS) : flatL (encT x) := by simp [encT, flatL, flat]
end Go.M2

namespace Go.M2
open Go.Proofs
variable {M : MH}
theorem bin_xorN {a b : Int} (h0 : 0 ≤ a) (h1 : a < 4611686018427387904) (h2 : 0 ≤ b) (h3 : b < 4611686018427387904) :
    ∃ c : Int, binF .xor (.int .i64 a) (.int .i64 b) = some (.int .i64 c) ∧ 0 ≤ c ∧ c < 4611686018427387904 := by
  have ea : (BitVec.ofInt 64 a).toNat = a.toNat := by rw [BitVec.toNat_ofInt]; omega
  have eb : (BitVec.ofInt 64 b).toNat = b.toNat := by rw [BitVec.toNat_ofInt]; omega
  have hlt : a.toNat ^^^ b.toNat < 2 ^ 62 := Nat.xor_lt_two_pow (by omega) (by omega)
  have hlt' : a.toNat ^^^ b.toNat < 4611686018427387904 := hlt
  refine ⟨((a.toNat ^^^ b.toNat : Nat) : Int), ?_, by omega, by omega⟩
  have e : (BitVec.ofInt IntKind.i64.bits a ^^^ BitVec.ofInt IntKind.i64.bits b).toNat = a.toNat ^^^ b.toNat := by
    show (BitVec.ofInt 64 a ^^^ BitVec.ofInt 64 b).toNat = _
    rw [BitVec.toNat_xor, ea, eb]
  simp only [binF, isSh, intBin, Bool.false_eq_true, if_false, if_true, e]
  rw [wrap_in (by omega) (by omega)]
theorem kd_cut {P : Program} {Q : PostV} {e : EnvV} {l : List GOp} {s : List (Nat × List Nat)} {k : List Nat} (A : EnvV → MH → Prop) (h : ∀ K : EnvV → MH → Prop, (∀ e' M', A e' M' → K e' M') → wpDV P l s K e M)
    (hQ : ∀ e' M', A e' M' → Q .normal (keepV k e') M') : wpV P (.kd l s k) Q e M := by
  rw [wpV_kd]; exact h _ hQ
def isU (n : Int) (u : V) : Prop := u = .sc (.int .u8 n) ∧ 0 ≤ n ∧ n ≤ 255
abbrev LU : V → List Int → Prop := Ls isU
abbrev XU : V → List Int → Prop := In LU
theorem LU.at {v : V} {ys : List Int} (h : LU v ys) {i : Nat} (hi : i < ys.length) : ∃ n : Int, at1 v i = .sc (.int .u8 n) ∧ 0 ≤ n ∧ n ≤ 255 := by
  obtain ⟨h1, h2, h3⟩ := h.elt hi
  exact ⟨_, h1, h2, h3⟩
def rdC (w : V) (p : Int) : List V := [w, .sc (.int .i64 p)]
structure Rdr (w : V) (code : List Int) : Prop where
  u : XU w code
  l : code.length ≤ 2000
theorem t_pick {rb : Nat} {w : V} {code : List Int} {p n : Int} (hr : Rdr w code) (hm : M rb = some (rdC w p)) (h0 : 0 ≤ p) (h1 : p ≤ 1099511627776) :
    VCall Try.prog n_spec_l40Rd_pick [.sc (.ptr (some (rb, 0))), .sc (.int .i64 n)] M (fun r M' => M' = M.set rb (rdC w (p + 1)) ∧ ∃ k : Int, r = .sc (.int .i64 k) ∧ 0 ≤ k ∧ (1 ≤ n → k < n) ∧ (n < 1 → k = 0)) := by
  refine VCall.plain fun R hR => v_spec_l40Rd_pick rfl ?_
  obtain ⟨hw, hl⟩ := hr
  have hlen := hw.len fun _ _ h => h.len
  simp only [rdC] at hm
  by_cases hn : n < 1
  · have hd : decide (n < 1) = true := by simp [hn]
    refine sS2 @hm @hd ?_
    exact hR _ _ ⟨rfl, _, rfl, by omega, by omega, fun _ => by omega⟩
  have hd : decide (n < 1) = false := by simp [hn]
  by_cases hz : code.length = 0
  · have hz2 : decide ((code.length : Int) = 0) = true := by simp [hz]
    refine sS4 @hm @hd @hlen @hz2 ?_
    exact hR _ _ ⟨rfl, _, rfl, by omega, by omega, fun _ => by omega⟩
  have hz2 : decide ((code.length : Int) = 0) = false := decide_eq_false (by omega)
  have hw' : LU w code := hw.get (by omega)
  have e1 : p + 1 - 1 = p := by omega
  simp (maxSteps := 2000000) (disch := first | omega | assumption | exact idP rfl | exact idP (bL rfl)) only [go_sem, reduceIte, Nat.reduceEqDiff, wpV_tH, hm, hd, hlen, hz2, e1]
  refine cond_dec (fun hk => ?_) (fun hk => ?_)
  · obtain ⟨c, hc, c0, c1⟩ := hw'.at (i := p.toNat) (by omega)
    refine sS2 @hw'.iaddr @hc ?_
    have := Int.emod_nonneg c (b := n) (by omega)
    have := Int.emod_lt_of_pos c (b := n) (by omega)
    exact hR _ _ ⟨rfl, _, rfl, by omega, fun _ => by omega, fun _ => by omega⟩
  simp (maxSteps := 2000000) (disch := first | omega | assumption | exact idP rfl | exact idP (bL rfl)) only [go_sem, reduceIte, Nat.reduceEqDiff, wpV_tH]
  have hN : (0 : Int) < (code.length : Int) := by omega
  have m1 := Int.emod_nonneg p (b := (code.length : Int)) (by omega)
  have m2 := Int.emod_lt_of_pos p hN
  have m3 := Int.emod_nonneg (p * 7 + 3) (b := (code.length : Int)) (by omega)
  have m4 := Int.emod_lt_of_pos (p * 7 + 3) hN
  have m5 : 0 ≤ p / (code.length : Int) := Int.ediv_nonneg h0 (by omega)
  have m6 : p / (code.length : Int) ≤ p := Int.ediv_le_self _ h0
  generalize hq1 : p % (code.length : Int) = q1 at *
  generalize hq2 : (p * 7 + 3) % (code.length : Int) = q2 at *
  generalize hq3 : p / (code.length : Int) = q3 at *
  obtain ⟨c, hc, c0, c1⟩ := hw'.at (i := q1.toNat) (by omega)
  obtain ⟨c', hc', c0', c1'⟩ := hw'.at (i := q2.toNat) (by omega)
  refine kd_cut (fun e' M' => M' = M.set rb [w, .sc (.int .i64 (p + 1))] ∧ e' 1 = .sc (.int .i64 n) ∧ ∃ x : Int, e' 6 = .sc (.int .i64 x) ∧ 0 ≤ x ∧ x < 4611686018427387904) ?_ ?_
  · intro K hK
    refine sS7 @hlen @hw'.iaddr @hc @hc' @hq1 @hq2 @hq3 ?_
    exact hK _ _ ⟨rfl, sT0, _, by refine sS0 ?_; rfl, by omega, by omega⟩
  rintro e' _ ⟨rfl, e1, x, e6, x0, x1⟩
  obtain ⟨y, hy, y0, y1⟩ := bin_xorN (a := x) (b := x / 64) x0 x1 (by omega) (by omega)
  refine sS3 @e1 @e6 @hy ?_
  have := Int.emod_nonneg y (b := n) (by omega)
  have := Int.emod_lt_of_pos y (b := n) (by omega)
  exact hR _ _ ⟨rfl, _, rfl, by omega, fun _ => by omega, fun _ => by omega⟩
end Go.M2

namespace Go.M2
open Go.Proofs
variable {M : MH}
section
variable {M0 M M' : MH} {rb : Nat} {X Y l : List V}
theorem Sub.rd (h : Sub (M0.set rb X) M) : Sub (M0.set rb Y) (M.set rb Y) := fun b l hb => by
  by_cases e : b = rb
  · subst e; rw [set_same] at hb ⊢; exact hb
  · rw [set_ne e] at hb ⊢; exact h b l (by rw [set_ne e]; exact hb)
theorem Gr.rd {sz : Nat} {s : V} (h : Gr sz (M0.set rb X) M s l) : Gr sz (M0.set rb Y) (M.set rb Y) s l := by
  have hne : ∀ b, blkV s = some b → b ≠ rb := fun b hb e => by
    have := h.new b hb
    rw [e, set_same] at this; cases this
  refine ⟨h.sub.rd, fun b hb => ?_, ?_⟩
  · rw [set_ne (hne b hb)]
    have := h.new b hb
    rwa [set_ne (hne b hb)] at this
  · rcases h.own with ⟨e, k, e2⟩ | ⟨b, n, ex, rfl, h1, h2⟩
    · exact .inl ⟨e, k, e2⟩
    · exact .inr ⟨b, n, ex, rfl, by rw [set_ne (hne b rfl)]; exact h1, h2⟩
theorem Mem.rd {fp : List (Nat × List V)} (h : Mem (M0.set rb X) M fp) : Mem (M0.set rb Y) (M.set rb Y) fp := by
  have hne : ∀ p ∈ fp, p.1 ≠ rb := fun p hp e => by
    have := h.new p hp
    rw [e, set_same] at this; cases this
  refine ⟨h.sub.rd, fun p hp => ?_, h.nd, fun p hp => ?_⟩
  · have := h.new p hp
    rw [set_ne (hne p hp)] at this ⊢; exact this
  · rw [set_ne (hne p hp)]; exact h.at_ p hp
end
structure RS (M0 : MH) (rb : Nat) (w : V) (M : MH) (p : Int) : Prop where
  at_ : M rb = some (rdC w p)
  sub : Sub (M0.set rb (rdC w p)) M
section
variable {M0 M M' : MH} {rb b : Nat} {w : V} {p q : Int} {l : List V}
theorem RS.start (h : M rb = some (rdC w p)) : RS M rb w M p := ⟨h, by rw [set_id h]; exact Sub.refl M⟩
theorem RS.set (h : RS M0 rb w M p) (q : Int) : RS M0 rb w (M.set rb (rdC w q)) q := ⟨set_same, h.sub.rd⟩
theorem RS.more (h : RS M0 rb w M p) (hs : Sub M M') : RS M0 rb w M' p := ⟨hs _ _ h.at_, h.sub.trans hs⟩
theorem RS.to (h : RS M0 rb w M p) (hs : Sub (M.set rb (rdC w q)) M') : RS M0 rb w M' q := (h.set q).more hs
theorem RS.ne (h : RS M0 rb w M p) (hb : M b = none) : b ≠ rb := fun e => by rw [e, h.at_] at hb; cases hb
theorem RS.ne' (h : RS M0 rb w M p) (hb : M b = none) : rb ≠ b := Ne.symm (h.ne hb)
theorem RS.gone (h : RS M0 rb w M p) (hb : M b = none) : M0 b = none := by
  have := h.sub.none hb
  rwa [set_ne (h.ne hb)] at this
end
def fpG (v : V) (l : List V) : List (Nat × List V) := match blkV v with
  | some b => [(b, l)]
  | none => []
def OwS (sz : Nat) (v : V) (l : List V) : Prop := (l = [] ∧ ∃ k, v = .sc (.sl none 0 0 true k)) ∨ ∃ b n ex, v = .sc (.sl (some (b, 0)) n n ex sz) ∧ l.length = n * sz
theorem Ow.sh {sz : Nat} {v : V} {l : List V} (h : Ow sz M v l) : OwS sz v l ∧ ∀ q ∈ fpG v l, M q.1 = some q.2 := by
  rcases h with ⟨rfl, k, rfl⟩ | ⟨b, n, ex, rfl, h1, h2⟩
  · exact ⟨.inl ⟨rfl, k, rfl⟩, fun q hq => (by cases hq)⟩
  · exact ⟨.inr ⟨b, n, ex, rfl, h2⟩, fun q hq => by simp [fpG, blkV] at hq; subst hq; exact h1⟩
theorem OwS.ow {sz : Nat} {v : V} {l : List V} (h : OwS sz v l) (hm : ∀ q ∈ fpG v l, M q.1 = some q.2) : Ow sz M v l := by
  rcases h with ⟨rfl, k, rfl⟩ | ⟨b, n, ex, rfl, h2⟩
  · exact .inl ⟨rfl, k, rfl⟩
  · exact .inr ⟨b, n, ex, rfl, hm (b, l) (by simp [fpG, blkV]), h2⟩
theorem OwS.tr {sz : Nat} {v : V} {l l' : List V} {g : List (Nat × List V)} (h : OwS sz v l) (ht : Tr l l' g) : ∃ u, Tr [v] [u] (fpG v l ++ g) ∧ Fr sz u l' := by
  rcases h with ⟨rfl, k, rfl⟩ | ⟨b, n, ex, rfl, h2⟩
  · cases ht
    exact ⟨_, .refl _, .inl ⟨rfl, k, rfl⟩⟩
  · exact ⟨_, by simpa [fpG, blkV] using Tr.sl (o := 0) (n := n) (c := n) (k := sz) (ex := ex) (b := b) ht .nil, .inr ⟨(b, 0), n, n, ex, sz, by simp, by rw [ht.len, h2]⟩⟩
theorem OwS.one {sz : Nat} {v : V} {l : List V} (h : OwS sz v l) : One v := by
  rcases h with ⟨rfl, k, rfl⟩ | ⟨b, n, ex, rfl, h2⟩ <;> exact ⟨rfl, rfl⟩
theorem Mem.app {B M M' : MH} {sz' : Nat} {s s' : V} {l l' : List V} {f : List (Nat × List V)} (h : Mem B M (fpG s l ++ f)) (hg : Gr sz' B M' s' l') (ho : Oth M M' s s') : Mem B M' (fpG s' l' ++ f) := by
  have hf := h.right
  have hsf : ∀ p ∈ f, blkV s ≠ some p.1 := fun p hp e => by
    have hnd := h.nd
    simp only [fpG, e, Nd2, List.cons_append, List.nil_append, List.map_cons, List.nodup_cons, List.mem_map] at hnd
    exact hnd.1 ⟨p, hp, rfl⟩
  have hat : ∀ p ∈ f, M' p.1 = some p.2 := fun p hp => (ho _ _ (hf.at_ p hp) (hsf p hp)).1
  have hne : ∀ p ∈ f, blkV s' ≠ some p.1 := fun p hp => (ho _ _ (hf.at_ p hp) (hsf p hp)).2
  refine ⟨hg.sub, fun p hp => ?_, ?_, fun p hp => ?_⟩
  · rcases List.mem_append.1 hp with h1 | h1
    · exact hg.new _ (by simp only [fpG] at h1; split at h1 <;> simp_all)
    · exact hf.new p h1
  · cases hb : blkV s' with
    | none => simpa [fpG, hb] using hf.nd
    | some b =>
      simp only [fpG, hb, Nd2, List.cons_append, List.nil_append, List.map_cons, List.nodup_cons, List.mem_map]
      exact ⟨fun ⟨p, hp, e⟩ => hne p hp (by rw [hb, e]), hf.nd⟩
  · rcases List.mem_append.1 hp with h1 | h1
    · exact hg.own.sh.2 p h1
    · exact hat p h1
theorem Gr.mem {B M : MH} {sz : Nat} {s : V} {l : List V} (h : Gr sz B M s l) : Mem B M (fpG s l) := by
  refine ⟨h.sub, fun p hp => h.new _ (by simp only [fpG] at hp; split at hp <;> simp_all), ?_, fun p hp => h.own.sh.2 p hp⟩
  unfold fpG
  split <;> simp [Nd2]
theorem Mem.gr {B M : MH} {sz : Nat} {s : V} {l : List V} {f : List (Nat × List V)} (h : Mem B M (fpG s l ++ f)) (ho : OwS sz s l) : Gr sz B M s l :=
  ⟨h.sub, fun b hb => h.new (b, l) (List.mem_append_left _ (by simp [fpG, hb])), ho.ow fun q hq => h.at_ q (List.mem_append_left _ hq)⟩
section
variable {P : Program} {f : FuncId} {args : List V}
theorem VCall.frG {sz : Nat} {q : MH → List V → Prop} (h : VCall P f args M (fun r M' => ∃ B l, Gr sz B M' r l ∧ q B l)) : VCall P f args M (fun r M' => ∃ l, Fr sz r l ∧ q M' l) :=
  VCall.of fun R hR => h.mono fun r M' ⟨B, l, h1, h2⟩ => by
    obtain ⟨M1, v', q1, q2, q3⟩ := h1.fz
    exact hR r v' M' M1 B q1 q2 ⟨l, q3, h2⟩
theorem VCall.frB {q : MH → V → Prop} (h : VCall P f args M (fun r M' => ∃ B r' g, Tr [r] [r'] g ∧ Mem B M' g ∧ q B r')) : VCall P f args M (fun r M' => q M' r) :=
  VCall.of fun R hR => h.mono fun r M' => by
    rintro ⟨B, r', g, h1, h2, h3⟩
    let M1 : MH := fun i => if inF g i then M' i else B i
    have e : delF M1 g = B := by
      funext i
      simp only [delF, M1]
      split
      · rename_i hin
        obtain ⟨l, hl⟩ := inF_iff.1 hin
        exact (h2.new _ hl).symm
      · rfl
    have hz := h1.fz (M := M1) (fun q hq => by simp only [M1]; rw [if_pos (inF_iff.2 ⟨q.2, hq⟩)]; exact h2.at_ q hq) h2.nd
    rw [e] at hz
    refine hR r r' M' M1 B (fun i l hi => ?_) hz h3
    simp only [M1] at hi
    split at hi
    · exact hi
    · exact h2.sub _ _ hi
variable {args' : List V} {R R' : V → MH → Prop} {fp : List (Nat × List V)}
theorem VCall.lendT2 (ht : Tr args args' fp) (hm : ∀ p ∈ fp, M p.1 = some p.2) (hn : Nd2 fp) (h : VCall P f args' (delF M fp) R')
    (hr : ∀ r M', (∀ p ∈ fp, M' p.1 = none) → R' r M' → flat r ∧ (∀ i l', M' i = some l' → ∀ v ∈ l', flat v ∨ ∃ j l0, delF M fp j = some l0 ∧ v ∈ l0) ∧ R r (backF M M' fp)) : VCall P f args M R := by
  intro H F hs hok
  obtain ⟨e, s1, F1, f1, f2, f3, f4⟩ := (ht.fz hm hn).keeps hs hok
  have := h H F1 f2 f3
  rw [← erl_map, e, erl_map] at this
  refine this.mono ?_
  rintro a H' ⟨r, M', F', rfl, k1, k2, k3, k4⟩
  have hF1 : ∀ p ∈ fp, F1.blk p.1 = .cells (erl p.2) true := fun p hp => by
    rcases f4 p.1 p.2 (hm p hp) with h1 | h1
    · simp only [delF, inF_iff.2 ⟨p.2, hp⟩, if_true] at h1; cases h1
    · exact h1
  have hsz : ∀ p ∈ fp, p.1 < F1.size := fun p hp => by rw [f2.size]; exact (hs.own _ _ (hm p hp)).1
  have hF' : ∀ p ∈ fp, F'.blk p.1 = .cells (erl p.2) true := fun p hp => k2.cells (hsz p hp) (hF1 p hp)
  have hnone : ∀ p ∈ fp, M' p.1 = none := fun p hp => by
    cases hb : M' p.1 with
    | none => rfl
    | some l2 => have := (k3.own _ l2 hb).2.2.1; rw [hF' p hp] at this; cases this
  obtain ⟨q1, q2, q3⟩ := hr r M' hnone k4
  let F'' : Heap := ⟨F'.size, fun i => if inF fp i then .dead else F'.blk i⟩
  have hLe : Le F F'' := by
    refine ⟨(f1.trans k2).1, fun i hi => ?_⟩
    by_cases hin : inF fp i = true
    · obtain ⟨l, hl⟩ := inF_iff.1 hin
      exact .inl (hs.own _ _ (hm _ hl)).2.2.1
    · rcases (f1.trans k2).2 i hi with h1 | h1
      · exact .inl h1
      · refine .inr ?_
        simp only [F'', hin, Bool.false_eq_true, if_false]; exact h1
  refine ⟨r, backF M M' fp, F'', rfl, q1.ok, hLe, ⟨k3.size, fun i hi => ?_, fun i l hi => ?_⟩, q3⟩
  · simp only [F'']
    split
    · exact .inl rfl
    · exact k3.le i hi
  · simp only [backF] at hi
    split at hi
    · rename_i hin
      obtain ⟨l0, hl0⟩ := inF_iff.1 hin
      have h1 := hm _ hl0
      simp only at h1
      rw [h1] at hi; cases hi
      have hb : i < H'.size := by
        have h2 := hsz _ hl0
        have h3 := k2.1
        rw [k3.size] at h3
        simp only at h2; omega
      refine ⟨hb, ?_, by simp only [F'', hin, if_true], okL.mono hLe (hs.ok h1)⟩
      have h4 := hF' _ hl0
      simp only at h4
      rcases k3.le i hb with h2 | h2
      · rw [h4] at h2; cases h2
      · rw [← h2]; exact h4
    · rename_i hin
      obtain ⟨p1, p2, p3, p4⟩ := k3.own i l hi
      refine ⟨p1, p2, by simp only [F'', hin, Bool.false_eq_true, if_false]; exact p3, okL_all.2 fun v hv => ?_⟩
      rcases q2 i l hi v hv with h1 | ⟨j, l0, h1, h2⟩
      · exact h1.ok
      · simp only [delF] at h1
        split at h1
        · cases h1
        · exact okV.mono hLe (okL_all.1 (hs.ok h1) v h2)
end
section
variable {P : Program} {f : FuncId} {a1 a2 : List V} {rb : Nat} {w : V} {p : Int}
theorem backF_set {fp : List (Nat × List V)} {Y : List V} (hm : ∀ p ∈ fp, M p.1 = some p.2) (hrb : inF fp rb = false) : backF M ((delF M fp).set rb Y) fp = M.set rb Y := by
  funext i
  simp only [backF]
  split
  · rename_i hin
    have : i ≠ rb := fun e => by rw [e, hrb] at hin; cases hin
    rw [set_ne this]
  · rename_i hin
    simp only [MH.set, delF]
    split
    · rfl
    · simp [hin]
theorem VCall.lendR {sz : Nat} {v : V} {l : List V} {q : V → Int → Prop} (ho : Ow sz M v l) (hne : blkV v ≠ some rb) (hm : M rb = some (rdC w p)) (hq : ∀ r p', q r p' → flat r)
    (h : ∀ u M', Fr sz u l → M' rb = some (rdC w p) → VCall P f (a1 ++ u :: a2) M' (fun r M'' => ∃ p', M'' = M'.set rb (rdC w p') ∧ q r p')) : VCall P f (a1 ++ v :: a2) M (fun r M' => ∃ p', M' = M.set rb (rdC w p') ∧ q r p') := by
  obtain ⟨hs, hat⟩ := ho.sh
  obtain ⟨u, ht, hu⟩ := hs.tr (Tr.refl l)
  rw [List.append_nil] at ht
  have hin : inF (fpG v l) rb = false := by
    cases hh : inF (fpG v l) rb with
    | false => rfl
    | true =>
      obtain ⟨l2, hl2⟩ := inF_iff.1 hh
      unfold fpG at hl2
      split at hl2
      · rename_i b hb; simp at hl2; rw [hl2.1] at hne; exact absurd hb hne
      · cases hl2
  have htr : Tr (a1 ++ v :: a2) (a1 ++ u :: a2) (fpG v l) := by
    have h1 : Tr (v :: a2) (u :: a2) (fpG v l ++ []) := by simpa using ht.append (Tr.refl a2)
    simpa using (Tr.refl a1).append h1
  have hnd : Nd2 (fpG v l) := by unfold fpG; split <;> simp [Nd2]
  have hmd : delF M (fpG v l) rb = some (rdC w p) := by simp only [delF, hin, Bool.false_eq_true, if_false]; exact hm
  refine VCall.lendT2 htr hat hnd (h u _ hu hmd) ?_
  rintro r M' hnone ⟨p', rfl, hqr⟩
  refine ⟨hq _ _ hqr, fun i l' hi x hx => ?_, p', backF_set hat hin, hqr⟩
  by_cases e : i = rb
  · subst e
    rw [set_same] at hi; cases hi
    simp only [rdC, List.mem_cons, List.not_mem_nil, or_false] at hx
    rcases hx with rfl | rfl
    · exact .inr ⟨_, _, hmd, by simp [rdC]⟩
    · exact .inl (by simp [flat])
  · rw [set_ne e] at hi
    exact .inr ⟨i, l', hi, hx⟩
theorem VCall.lendRG {sz sz' : Nat} {v : V} {l : List V} {q : List V → Int → Prop} (ho : Ow sz M v l) (hne : blkV v ≠ some rb) (hm : M rb = some (rdC w p)) (hq : ∀ c p', q c p' → flatL c)
    (h : ∀ u M', Fr sz u l → M' rb = some (rdC w p) → VCall P f (a1 ++ u :: a2) M' (fun r M'' => ∃ p' c, Gr sz' (M'.set rb (rdC w p')) M'' r c ∧ q c p')) :
    VCall P f (a1 ++ v :: a2) M (fun r M' => ∃ p' c, Gr sz' (M.set rb (rdC w p')) M' r c ∧ q c p') := by
  obtain ⟨hs, hat⟩ := ho.sh
  obtain ⟨u, ht, hu⟩ := hs.tr (Tr.refl l)
  rw [List.append_nil] at ht
  have hin : inF (fpG v l) rb = false := by
    cases hh : inF (fpG v l) rb with
    | false => rfl
    | true =>
      obtain ⟨l2, hl2⟩ := inF_iff.1 hh
      unfold fpG at hl2
      split at hl2
      · rename_i b hb; simp at hl2; rw [hl2.1] at hne; exact absurd hb hne
      · cases hl2
  have htr : Tr (a1 ++ v :: a2) (a1 ++ u :: a2) (fpG v l) := by
    have h1 : Tr (v :: a2) (u :: a2) (fpG v l ++ []) := by simpa using ht.append (Tr.refl a2)
    simpa using (Tr.refl a1).append h1
  have hnd : Nd2 (fpG v l) := by unfold fpG; split <;> simp [Nd2]
  have hmd : delF M (fpG v l) rb = some (rdC w p) := by simp only [delF, hin, Bool.false_eq_true, if_false]; exact hm
  refine VCall.lendT2 (R' := fun r M'' => ∃ p' c, ((∃ k, c = [] ∧ r = .sc (.sl none 0 0 true k) ∧ M'' = (delF M (fpG v l)).set rb (rdC w p')) ∨
      ∃ b n ex, ((delF M (fpG v l)).set rb (rdC w p')) b = none ∧ r = .sc (.sl (some (b, 0)) n n ex sz') ∧ c.length = n * sz' ∧ M'' = ((delF M (fpG v l)).set rb (rdC w p')).set b c) ∧ q c p') htr hat hnd
    (VCall.of fun R hR => (h u _ hu hmd).mono fun r M' => ?_) ?_
  · rintro ⟨p', c, hg, hqc⟩
    rcases hg.own with ⟨rfl, k, rfl⟩ | ⟨b, n, ex, rfl, h1, h2⟩
    · exact hR _ _ M' _ _ hg.sub (.refl _ _) ⟨p', [], .inl ⟨k, rfl, rfl, rfl⟩, hqc⟩
    · refine hR _ _ M' (((delF M (fpG v l)).set rb (rdC w p')).set b c) _ (fun i l2 hi => ?_) (.refl _ _) ⟨p', c, .inr ⟨b, n, ex, hg.new b rfl, rfl, h2, rfl⟩, hqc⟩
      by_cases e : i = b
      · subst e; rw [set_same] at hi; cases hi; exact h1
      · rw [set_ne e] at hi; exact hg.sub i l2 hi
  · rintro r M' hnone ⟨p', c, hcase, hqc⟩
    have cells : ∀ i l', ((delF M (fpG v l)).set rb (rdC w p')) i = some l' → ∀ x ∈ l', flat x ∨ ∃ j l0, delF M (fpG v l) j = some l0 ∧ x ∈ l0 := fun i l' hi x hx => by
      by_cases e : i = rb
      · subst e
        rw [set_same] at hi; cases hi
        simp only [rdC, List.mem_cons, List.not_mem_nil, or_false] at hx
        rcases hx with rfl | rfl
        · exact .inr ⟨_, _, hmd, by simp [rdC]⟩
        · exact .inl (by simp [flat])
      · rw [set_ne e] at hi
        exact .inr ⟨i, l', hi, hx⟩
    rcases hcase with ⟨k, rfl, rfl, rfl⟩ | ⟨b, n, ex, hb, rfl, h2, rfl⟩
    · refine ⟨by simp [flat], cells, p', [], ⟨?_, fun b hb => by simp [blkV] at hb, .inl ⟨rfl, k, rfl⟩⟩, hqc⟩
      rw [backF_set hat hin]; exact Sub.refl _
    · have hbf : inF (fpG v l) b = false := by
        cases hh : inF (fpG v l) b with
        | false => rfl
        | true =>
          obtain ⟨l2, hl2⟩ := inF_iff.1 hh
          have := hnone _ hl2
          simp only [set_same] at this; cases this
      have hback : backF M (((delF M (fpG v l)).set rb (rdC w p')).set b c) (fpG v l) = (M.set rb (rdC w p')).set b c := by
        rw [← backF_set (Y := rdC w p') hat hin]
        funext i
        simp only [backF]
        by_cases e : i = b
        · subst e; rw [set_same, set_same, hbf]; rfl
        · rw [set_ne e, set_ne e]; rfl
      have hbM : (M.set rb (rdC w p')) b = none := by
        rw [← backF_set (Y := rdC w p') hat hin]
        simp only [backF, hbf, Bool.false_eq_true, if_false]; exact hb
      refine ⟨by simp [flat], fun i l' hi x hx => ?_, p', c, ?_, hqc⟩
      · by_cases e : i = b
        · subst e
          rw [set_same] at hi; cases hi
          exact .inl (flatL_all.1 (hq _ _ hqc) x hx)
        · rw [set_ne e] at hi; exact cells i l' hi x hx
      · rw [hback]
        exact ⟨(Sub.refl _).set hbM, fun b' hb' => by simp only [blkV, Option.some.injEq] at hb'; subst hb'; exact hbM, .inr ⟨b, n, ex, rfl, set_same, h2⟩⟩
end
theorem t_num {rb : Nat} {w v : V} {code xs : List Int} {p : Int} (hr : Rdr w code) (hm : M rb = some (rdC w p)) (h0 : 0 ≤ p) (h1 : p ≤ 1099511627776) (hv : LI v xs) (hx : 0 < xs.length) (hl : xs.length ≤ 1048576) :
    VCall Try.prog n_spec_l40Rd_num [.sc (.ptr (some (rb, 0))), v] M (fun r M' => M' = M.set rb (rdC w (p + 1)) ∧ ∃ x ∈ xs, r = .sc (.int .i64 x)) := by
  refine VCall.plain fun R hR => v_spec_l40Rd_num rfl ?_
  refine sS1 @hv.len ?_
  refine (t_pick hr hm h0 h1).mono ?_
  rintro _ _ ⟨rfl, k, rfl, k0, k1, _⟩
  have hk := k1 (by omega)
  simp (maxSteps := 2000000) (disch := first | omega | assumption | exact idP rfl | exact idP (bL rfl)) only [go_sem, reduceIte, Nat.reduceEqDiff, wpV_kd, wpV_tH, hv.iaddr, LI.at hv (i := k.toNat) (by omega)]
  exact hR _ _ ⟨rfl, _, List.getElem_mem _, rfl⟩
theorem t_numL {rb b n : Nat} {w : V} {code : List Int} {l : List V} {p : Int} (xs : List Int) (hr : Rdr w code) (hb : M b = none) (hm : M rb = some (rdC w p)) (h0 : 0 ≤ p) (h1 : p ≤ 1099511627776) (e : l = xs.map vi) (hn : n = xs.length) (hx : 0 < xs.length) (hl : xs.length ≤ 1048576) :
    VCall Try.prog n_spec_l40Rd_num [.sc (.ptr (some (rb, 0))), .sc (.sl (some (b, 0)) n n true 1)] (M.set b l) (fun r M' => M' = M.set rb (rdC w (p + 1)) ∧ ∃ x ∈ xs, r = .sc (.int .i64 x)) := by
  subst e hn
  have hz : Fz (M.set b (xs.map vi)) [.sc (.ptr (some (rb, 0))), .sc (.sl (some (b, 0)) xs.length xs.length true 1)] M [.sc (.ptr (some (rb, 0))), .fs (some (b, 0)) xs.length xs.length true 1 ((xs.map vi).drop 0)] := by
    refine .keep _ (.sl set_same (by rw [del_set hb]; exact Fz.refl M _) (.nil M))
  exact VCall.give hz (t_num hr hm h0 h1 (Fr.li (.inr ⟨_, _, _, _, _, rfl, by simp⟩)) hx hl)
end Go.M2

namespace Go.M2
open Go.Proofs
variable {M : MH}
theorem t_l2VarOf {n : Int} : VCall Try.prog n_spec_l2VarOf [.sc (.int .i64 n)] M (fun r M' => M = M' ∧ r = .agg (encT ⟨1, n, 0, 0⟩)) := by
  refine VCall.pure fun R hR => v_spec_l2VarOf rfl ?_
  refine sS0 ?_
  intro b hb
  exact hR _ _ (sB) rfl
theorem t_l2Const {n : Int} : VCall Try.prog n_spec_l2Const [.sc (.int .i64 n)] M (fun r M' => M = M' ∧ r = .agg (encT ⟨0, n, 0, 0⟩)) := by
  refine VCall.pure fun R hR => v_spec_l2Const rfl ?_
  refine sS0 ?_
  intro b hb
  exact hR _ _ (sB) rfl
def DT (p d : Int) (m n : Nat) (c : List V) (p' : Int) : Prop := p ≤ p' ∧ p' ≤ p + d ∧ ∃ ts : List TermS, c = catV encT ts ∧ m ≤ ts.length ∧ ts.length ≤ n
theorem DT.flat {p d p' : Int} {m n : Nat} {c : List V} (h : DT p d m n c p') : flatL c := by
  obtain ⟨_, _, ts, rfl, _⟩ := h
  exact catV_flat encT_flat ts
theorem Fr.lt {u : V} {ts : List TermS} (h : Fr 4 u (catV encT ts)) : LT u ts := h.lc (by omega) (catV_len (sz := 4) (enc := encT) (fun _ => rfl) ts) fun i hi => catV_at (sz := 4) (enc := encT) (fun _ => rfl) hi
theorem VCall.frT4 {P : Program} {f : FuncId} {args : List V} {rb : Nat} {w : V} {p d : Int} {m n : Nat} (h : VCall P f args M (fun r M' => ∃ p' c, Gr 4 (M.set rb (rdC w p')) M' r c ∧ DT p d m n c p')) :
    VCall P f args M (fun r M' => ∃ p', M' = M.set rb (rdC w p') ∧ p ≤ p' ∧ p' ≤ p + d ∧ ∃ ts, LT r ts ∧ m ≤ ts.length ∧ ts.length ≤ n) := by
  refine (VCall.frG (sz := 4) (q := fun B l => ∃ p', B = M.set rb (rdC w p') ∧ DT p d m n l p') (h.mono fun r M' ⟨p', c, h1, h2⟩ => ⟨_, c, h1, p', rfl, h2⟩)).mono ?_
  rintro r M' ⟨l, hf, p', rfl, q1, q2, ts, rfl, q3, q4⟩
  exact ⟨p', rfl, q1, q2, ts, hf.lt, q3, q4⟩
theorem app_term {M0 M : MH} {s : V} {K : V → MH → Prop} {by_ bt c k : Nat} {ex : Bool} {xs : List TermS} {l : List V} (t : TermS) (h : Gr 4 M0 M s (catV encT xs)) (hbt : M bt = none) (e : l = encT t) (hb : xs.length ≤ 1048576) (hby : by_ ≤ 64)
    (hk : ∀ s' M', Gr 4 M0 M' s' (catV encT (xs ++ [t])) → Oth M M' s s' → K s' M') : appV 4 by_ s (.sc (.sl (some (bt, 0)) 1 c ex k)) (M.set bt l) K := by
  subst e
  have hlen : (catV encT xs).length = xs.length * 4 := catV_len (sz := 4) (enc := encT) (fun _ => rfl) xs
  have h1 : ((catV encT xs).length + 1) * by_ ≤ ((catV encT xs).length + 1) * 64 := Nat.mul_le_mul_left _ hby
  refine gr_app1 h (by omega) hbt rfl (by simp [encT, oneV, er, oneA]) (by simp [mostCells]; omega) (by simp [mostCells]; omega) fun s' M' q1 q2 => hk s' M' (by rw [catV_snoc]; exact q1) q2
def VarB (v : VarS) : Prop := -20000 ≤ v.low ∧ v.low ≤ 20000 ∧ -20000 ≤ v.high ∧ v.high ≤ 20000
theorem t_l2Cond {rb : Nat} {w : V} {code : List Int} {p at_ : Int} {v : VarS} (hr : Rdr w code) (hm : M rb = some (rdC w p)) (h0 : 0 ≤ p) (h1 : p ≤ 1000000) (hv : VarB v) :
    VCall Try.prog n_spec_l2Cond [.sc (.ptr (some (rb, 0))), .agg (encVar v), .sc (.int .i64 at_)] M (fun r M' => ∃ p' c, Gr 4 (M.set rb (rdC w p')) M' r c ∧ DT p 3 1 4 c p') := by
  refine VCall.plain fun R hR => v_spec_l2Cond rfl ?_
  obtain ⟨lo, hi, fi⟩ := v
  obtain ⟨v1, v2, v3, v4⟩ := hv
  simp only at v1 v2 v3 v4
  simp only [encVar]
  refine sS0 ?_
  intro b4 hb4
  have hn4 : rb ≠ b4 := fun e => by rw [← e, hm] at hb4; cases hb4
  have hm1 : (M.set b4 [.sc (.int .i64 lo), .sc (.int .i64 hi), .sc (.int .i64 fi)]) rb = some (rdC w p) := by rw [set_ne hn4]; exact hm
  have hs1 : Sub M (M.set b4 [.sc (.int .i64 lo), .sc (.int .i64 hi), .sc (.int .i64 fi)]) := (Sub.refl M).set' hb4
  have q4 : (M.set b4 [.sc (.int .i64 lo), .sc (.int .i64 hi), .sc (.int .i64 fi)]) b4 = some [.sc (.int .i64 lo), .sc (.int .i64 hi), .sc (.int .i64 fi)] := set_same
  have rs1 := (RS.start hm).more hs1
  generalize hM1 : M.set b4 [.sc (.int .i64 lo), .sc (.int .i64 hi), .sc (.int .i64 fi)] = M1 at *
  refine (t_pick hr hm1 h0 (by omega)).mono ?_
  rintro _ _ ⟨rfl, k, rfl, k0, k1, k2⟩
  have kb : k ≤ 40000 := by
    by_cases hc : 1 ≤ hi - lo + 1
    · have := k1 hc; omega
    · have := k2 (by omega); omega
  have q4' : (M1.set rb (rdC w (p + 1))) b4 = some [.sc (.int .i64 lo), .sc (.int .i64 hi), .sc (.int .i64 fi)] := by rw [set_ne (Ne.symm hn4)]; exact q4
  have rs2 := rs1.set (p + 1)
  generalize hM2 : M1.set rb (rdC w (p + 1)) = M2 at *
  refine sS1 @q4' ?_
  intro b5 hb5
  refine (t_numL [6, 5, 5, 6] hr hb5 rs2.at_ (by omega) (by omega) rfl rfl (by simp) (by simp)).mono ?_
  rintro _ _ ⟨rfl, op, hop, rfl⟩
  have rs3 := rs2.set (p + 1 + 1)
  generalize hM3 : M2.set rb (rdC w (p + 1 + 1)) = M3 at *
  (repeat' (first | ((with_reducible first | refine cond_dec (fun h => ?_) (fun h => ?_) | refine guardK_dec (fun h => ?_) (fun h => ?_) | refine guardD3_dec (fun h => ?_) (fun h => ?_)) <;> first | (exfalso; omega) | (simp (maxSteps := 2000000) (disch := first | omega | assumption | exact idP rfl | exact idP (bL rfl)) only [go_sem, reduceIte, Nat.reduceEqDiff, wpV_kd, wpV_tH, h]) | skip) | ((with_reducible first | refine cond_split (fun h => ?_) (fun h => ?_) | refine guardK_split (fun h => ?_) (fun h => ?_) | refine guardD3_split (fun h => ?_) (fun h => ?_)) <;> ((try simp only [Bool.not_eq_true', Bool.not_eq_false'] at h); first | (simp (maxSteps := 2000000) (disch := first | omega | assumption | exact idP rfl | exact idP (bL rfl)) only [go_sem, reduceIte, Nat.reduceEqDiff, wpV_kd, wpV_tH, h]) | skip)) | ((with_reducible refine (t_l2VarOf).mono ?_); rintro _ _ ⟨rfl, rfl⟩) | ((with_reducible refine (t_l2Const).mono ?_); rintro _ _ ⟨rfl, rfl⟩) | (with_reducible intro bk hbk; try have hnk := (fresh_set hbk).1) | (simp (maxSteps := 2000000) (disch := first | omega | assumption | exact idP rfl | exact idP (bL rfl)) only [go_sem, reduceIte, Nat.reduceEqDiff, wpV_kd, wpV_tH])))
  change VCall _ _ _ (M3.set bk (catV encT [⟨1, at_, 0, 0⟩, ⟨0, lo + k, 0, 0⟩, ⟨op, 0, 0, 1⟩])) _
  have hg : Gr 4 (M.set rb (rdC w (p + 1 + 1))) (M3.set bk (catV encT [⟨1, at_, 0, 0⟩, ⟨0, lo + k, 0, 0⟩, ⟨op, 0, 0, 1⟩])) (.sc (.sl (some (bk, 0)) 3 3 true 4)) (catV encT [⟨1, at_, 0, 0⟩, ⟨0, lo + k, 0, 0⟩, ⟨op, 0, 0, 1⟩]) := Gr.new' rs3.sub hbk rfl
  have rs4 := rs3.more ((Sub.refl M3).set' (l := catV encT [⟨1, at_, 0, 0⟩, ⟨0, lo + k, 0, 0⟩, ⟨op, 0, 0, 1⟩]) hbk)
  generalize hM4 : M3.set bk (catV encT [⟨1, at_, 0, 0⟩, ⟨0, lo + k, 0, 0⟩, ⟨op, 0, 0, 1⟩]) = M4 at *
  refine (t_pick hr rs4.at_ (by omega) (by omega)).mono ?_
  rintro _ _ ⟨rfl, k3, rfl, _, _, _⟩
  have hg2 := hg.rd (Y := rdC w (p + 1 + 1 + 1))
  have rs5 := rs4.set (p + 1 + 1 + 1)
  generalize hM5 : M4.set rb (rdC w (p + 1 + 1 + 1)) = M5 at *
  refine sS0 ?_
  refine cond_dec (fun hk3 => ?_) (fun hk3 => ?_)
  · refine sS0 ?_
    intro b7 hb7
    refine app_term ⟨7, 0, 2, 2⟩ hg2 hb7 rfl (by simp) (by omega) ?_
    intro s' M6 hg3 _
    refine sS0 ?_
    exact hR _ _ ⟨_, _, hg3, by omega, by omega, _, rfl, by simp, by simp⟩
  · refine sS0 ?_
    exact hR _ _ ⟨_, _, hg2, by omega, by omega, _, rfl, by simp, by simp⟩
theorem t_l1Moved {t : TermS} {b : Int} : VCall Try.prog n_spec_l1Moved [.agg (encT t), .sc (.int .i64 b)] M (fun r M' => M = M' ∧ ∃ t' : TermS, r = .agg (encT t')) := by
  refine VCall.pure fun R hR => v_spec_l1Moved rfl ?_
  obtain ⟨op, n, a, c⟩ := t
  simp only [encT]
  (repeat' (first | ((with_reducible first | refine cond_dec (fun h => ?_) (fun h => ?_) | refine guardK_dec (fun h => ?_) (fun h => ?_) | refine guardD3_dec (fun h => ?_) (fun h => ?_)) <;> first | (exfalso; omega) | (simp (maxSteps := 2000000) (disch := first | omega | assumption | exact idP rfl | exact idP (bL rfl)) only [go_sem, reduceIte, Nat.reduceEqDiff, wpV_kd, wpV_tH, h]) | skip) | ((with_reducible first | refine cond_split (fun h => ?_) (fun h => ?_) | refine guardK_split (fun h => ?_) (fun h => ?_) | refine guardD3_split (fun h => ?_) (fun h => ?_)) <;> ((try simp only [Bool.not_eq_true', Bool.not_eq_false'] at h); first | (simp (maxSteps := 2000000) (disch := first | omega | assumption | exact idP rfl | exact idP (bL rfl)) only [go_sem, reduceIte, Nat.reduceEqDiff, wpV_kd, wpV_tH, h]) | skip)) | (with_reducible intro bk hbk; try have hnk := (fresh_set hbk).1) | (simp (maxSteps := 2000000) (disch := first | omega | assumption | exact idP rfl | exact idP (bL rfl)) only [go_sem, reduceIte, Nat.reduceEqDiff, wpV_kd, wpV_tH])))
  · exact hR _ _ (sB) ⟨⟨op, 0, _, _⟩, rfl⟩
  · exact hR _ _ (sB) ⟨⟨op, n, a, c⟩, rfl⟩
theorem t_TermsValid {v : V} {ts : List TermS} {vars : Int} (hv : LT v ts) : VCall Try.prog n_spec_TermsValid [v, .sc (.int .i64 vars)] M (fun r M' => M = M' ∧ r = .sc (.bool (kindsF vars ts).isSome)) := by
  refine VCall.pure fun R hR => v_spec_TermsValid rfl ?_
  refine sS0 ?_
  refine (t_KindsOf hv).mono ?_
  rintro r _ ⟨rfl, hr⟩
  cases hk : kindsF vars ts with
  | none =>
    rw [hk] at hr
    simp only [kRes] at hr
    subst hr
    refine sS0 ?_
    exact hR _ _ (sB) (by simp [hk])
  | some ks =>
    rw [hk] at hr
    have hr : LI r ks := hr
    obtain ⟨_, _, q1, q2, _, q3⟩ := kindsF_some hk
    refine sS1 @hr.len ?_
    exact hR _ _ (sB) (by refine eqB ?_; simp only [decide_eq_true_eq, hk, Option.isSome_some, iff_true]; omega)
theorem Gr.lenT {M0 : MH} {s : V} {ts : List TermS} (h : Gr 4 M0 M s (catV encT ts)) : lenF (er s) = some (.int .i64 (ts.length : Int)) := by
  obtain ⟨n, h1, _, h2, _⟩ := h.own.len
  have := catV_len (sz := 4) (enc := encT) (fun _ => rfl) ts
  rw [h1]
  congr 3
  omega
theorem t_Joined {v u : V} {xs ys : List TermS} {op vars : Int} (hv : LT v xs) (hu : LT u ys) : VCall Try.prog n_spec_Joined [.sc (.int .i64 op), v, u, .sc (.int .i64 vars)] M (fun r M' => ∃ ts, Gr 4 M M' r (catV encT ts) ∧ ts.length ≤ 81) := by
  refine VCall.plain fun R hR => v_spec_Joined rfl ?_
  (repeat' (first | ((with_reducible first | refine cond_dec (fun h => ?_) (fun h => ?_) | refine guardK_dec (fun h => ?_) (fun h => ?_) | refine guardD3_dec (fun h => ?_) (fun h => ?_)) <;> first | (exfalso; omega) | (simp (maxSteps := 2000000) (disch := first | omega | assumption | exact idP rfl | exact idP (bL rfl)) only [go_sem, reduceIte, Nat.reduceEqDiff, wpV_kd, wpV_tH, h, hv.len, hu.len]) | skip) | ((with_reducible first | refine cond_split (fun h => ?_) (fun h => ?_) | refine guardK_split (fun h => ?_) (fun h => ?_) | refine guardD3_split (fun h => ?_) (fun h => ?_)) <;> ((try simp only [Bool.not_eq_true', Bool.not_eq_false'] at h); first | (simp (maxSteps := 2000000) (disch := first | omega | assumption | exact idP rfl | exact idP (bL rfl)) only [go_sem, reduceIte, Nat.reduceEqDiff, wpV_kd, wpV_tH, h, hv.len, hu.len]) | skip)) | ((with_reducible refine (t_TermsValid hv).mono ?_); rintro _ _ ⟨rfl, rfl⟩) | ((with_reducible refine (t_TermsValid hu).mono ?_); rintro _ _ ⟨rfl, rfl⟩) | (with_reducible intro bk hbk; try have hnk := (fresh_set hbk).1) | (simp (maxSteps := 2000000) (disch := first | omega | assumption | exact idP rfl | exact idP (bL rfl)) only [go_sem, reduceIte, Nat.reduceEqDiff, wpV_kd, wpV_tH, hv.len, hu.len])))
  · exact hR _ _ ⟨[], .nil (.refl M), by simp⟩
  · exact hR _ _ ⟨[], .nil (.refl M), by simp⟩
  rename_i hx
  have hy := h
  have hxl : xs.length ≤ 40 := by
    cases hk : kindsF vars xs with
    | none => rw [hk] at hx; cases hx
    | some ks => have := kindsF_some hk; omega
  have hyl : ys.length ≤ 40 := by
    cases hk : kindsF vars ys with
    | none => rw [hk] at hy; cases hy
    | some ks => have := kindsF_some hk; omega
  refine loop_k (fun e M' => ∃ i : Nat, i ≤ xs.length ∧ e 0 = .sc (.int .i64 op) ∧ e 1 = v ∧ e 2 = u ∧ e 3 = .sc (.int .i64 vars) ∧ e 10 = .sc (.int .i64 i) ∧ Gr 4 M M' (e 9) (catV encT (xs.take i))) (fun e _ => ctrV xs.length (e 10)) ?_ ?_
  · exact ⟨0, by omega, sT0, sT0, sT0, sT0, by refine sS0 ?_; rfl, by refine sS0 ?_; exact Gr.new' (Sub.refl M) hbk rfl⟩
  · rintro e M1 ⟨i, hi, e0, e1, e2, e3, e10, hg⟩ K hK
    refine sS6 @e0 @e1 @e2 @e3 @e10 @hv.len ?_
    refine cond_dec (fun h => ?_) (fun h => ?_)
    · have hi' : i < xs.length := by omega
      simp (maxSteps := 2000000) (disch := first | omega | assumption | exact idP rfl | exact idP (bL rfl)) only [go_sem, reduceIte, Nat.reduceEqDiff, wpV_kd, wpV_tH, e0, e1, e2, e3, e10, hv.iaddr, LT.at hv hi', encT_take]
      intro bt hbt
      refine app_term xs[i] hg hbt rfl (by simp; omega) (by omega) ?_
      intro s' M' hg' _
      refine sS0 ?_
      exact hK _ _ ⟨i + 1, by omega, sT0, sT0, sT0, sT0, by refine sS0 ?_; rfl, by refine sS0 ?_; rw [take_snoc hi']; exact hg'⟩ (by refine sS2 @ctrV_int @e10 ?_; omega)
    · obtain rfl : i = xs.length := by omega
      rw [List.take_length] at hg
      refine sS0 ?_
      refine loop_k (fun e M' => ∃ (i : Nat) (zs : List TermS), i ≤ ys.length ∧ zs.length = xs.length + i ∧ e 0 = .sc (.int .i64 op) ∧ e 1 = v ∧ e 2 = u ∧ e 3 = .sc (.int .i64 vars) ∧ e 11 = .sc (.int .i64 i) ∧ Gr 4 M M' (e 9) (catV encT zs)) (fun e _ => ctrV ys.length (e 11)) ?_ ?_
      · exact ⟨0, xs, by omega, rfl, sT1 @e0, sT1 @e1, sT1 @e2, sT1 @e3, by refine sS0 ?_; rfl, by refine sS0 ?_; exact hg⟩
      · clear e0 e1 e2 e3 e10 hg
        rintro e M1 ⟨i, zs, hi, hz, e0, e1, e2, e3, e11, hg⟩ K2 hK2
        by_cases hi3 : (i : Int) < (ys.length : Int)
        · have hd : decide ((i : Int) < (ys.length : Int)) = true := by simp; omega
          have hi' : i < ys.length := by omega
          by_cases h7 : op = 7
          · have hd7 : decide (op = 7) = true := by simp [h7]
            (repeat' (first | ((with_reducible first | refine cond_dec (fun h => ?_) (fun h => ?_) | refine guardK_dec (fun h => ?_) (fun h => ?_) | refine guardD3_dec (fun h => ?_) (fun h => ?_)) <;> first | (exfalso; omega) | (simp (maxSteps := 2000000) (disch := first | omega | assumption | exact idP rfl | exact idP (bL rfl)) only [go_sem, reduceIte, Nat.reduceEqDiff, wpV_kd, wpV_tH, h, e0, e1, e2, e3, e11, hu.len, hd, hd7, hv.len, hg.lenT]) | skip) | ((with_reducible first | refine cond_split (fun h => ?_) (fun h => ?_) | refine guardK_split (fun h => ?_) (fun h => ?_) | refine guardD3_split (fun h => ?_) (fun h => ?_)) <;> ((try simp only [Bool.not_eq_true', Bool.not_eq_false'] at h); first | (simp (maxSteps := 2000000) (disch := first | omega | assumption | exact idP rfl | exact idP (bL rfl)) only [go_sem, reduceIte, Nat.reduceEqDiff, wpV_kd, wpV_tH, h, e0, e1, e2, e3, e11, hu.len, hd, hd7, hv.len, hg.lenT]) | skip)) | ((with_reducible refine (t_l1One).mono ?_); rintro _ _ ⟨rfl, rfl⟩) | (with_reducible intro bk hbk; try have hnk := (fresh_set hbk).1) | (simp (maxSteps := 2000000) (disch := first | omega | assumption | exact idP rfl | exact idP (bL rfl)) only [go_sem, reduceIte, Nat.reduceEqDiff, wpV_kd, wpV_tH, e0, e1, e2, e3, e11, hu.len, hd, hd7, hv.len, hg.lenT])))
            refine app_term ⟨op, 0, _, _⟩ hg hbk rfl (by omega) (by omega) ?_
            intro s' M2 hg2 _
            have hz2 : (zs ++ [(⟨op, 0, (xs.length : Int) - 1, (zs.length : Int) - 1⟩ : TermS)]).length ≤ 81 := by simp; omega
            generalize zs ++ [(⟨op, 0, (xs.length : Int) - 1, (zs.length : Int) - 1⟩ : TermS)] = qs at *
            by_cases h2 : op < 2
            · have hd2 : decide (op < 2) = true := by simp [h2]
              refine sS1 @hd2 ?_
              exact hR _ _ ⟨[], .nil hg2.sub, by simp⟩
            · have hd2 : decide (op < 2) = false := by simp [h2]
              refine sS1 @hd2 ?_
              refine (VCall.lend0 hg2.own flat_eq fun u M' hu => t_TermsValid hu.lt).mono ?_
              rintro _ _ ⟨rfl, rfl⟩
              (repeat' (first | ((with_reducible first | refine cond_dec (fun h => ?_) (fun h => ?_) | refine guardK_dec (fun h => ?_) (fun h => ?_) | refine guardD3_dec (fun h => ?_) (fun h => ?_)) <;> first | (exfalso; omega) | (simp (maxSteps := 2000000) (disch := first | omega | assumption | exact idP rfl | exact idP (bL rfl)) only [go_sem, reduceIte, Nat.reduceEqDiff, wpV_kd, wpV_tH, h]) | skip) | ((with_reducible first | refine cond_split (fun h => ?_) (fun h => ?_) | refine guardK_split (fun h => ?_) (fun h => ?_) | refine guardD3_split (fun h => ?_) (fun h => ?_)) <;> ((try simp only [Bool.not_eq_true', Bool.not_eq_false'] at h); first | (simp (maxSteps := 2000000) (disch := first | omega | assumption | exact idP rfl | exact idP (bL rfl)) only [go_sem, reduceIte, Nat.reduceEqDiff, wpV_kd, wpV_tH, h]) | skip)) | (with_reducible intro bk hbk; try have hnk := (fresh_set hbk).1) | (simp (maxSteps := 2000000) (disch := first | omega | assumption | exact idP rfl | exact idP (bL rfl)) only [go_sem, reduceIte, Nat.reduceEqDiff, wpV_kd, wpV_tH])))
              all_goals first | exact hR _ _ ⟨[], .nil hg2.sub, by simp⟩ | exact hR _ _ ⟨qs, hg2, hz2⟩
          · have hd7 : decide (op = 7) = false := by simp [h7]
            (repeat' (first | ((with_reducible first | refine cond_dec (fun h => ?_) (fun h => ?_) | refine guardK_dec (fun h => ?_) (fun h => ?_) | refine guardD3_dec (fun h => ?_) (fun h => ?_)) <;> first | (exfalso; omega) | (simp (maxSteps := 2000000) (disch := first | omega | assumption | exact idP rfl | exact idP (bL rfl)) only [go_sem, reduceIte, Nat.reduceEqDiff, wpV_kd, wpV_tH, h, e0, e1, e2, e3, e11, hu.len, hd, hd7, hu.iaddr, LT.at hu hi', encT_take, hv.len]) | skip) | ((with_reducible first | refine cond_split (fun h => ?_) (fun h => ?_) | refine guardK_split (fun h => ?_) (fun h => ?_) | refine guardD3_split (fun h => ?_) (fun h => ?_)) <;> ((try simp only [Bool.not_eq_true', Bool.not_eq_false'] at h); first | (simp (maxSteps := 2000000) (disch := first | omega | assumption | exact idP rfl | exact idP (bL rfl)) only [go_sem, reduceIte, Nat.reduceEqDiff, wpV_kd, wpV_tH, h, e0, e1, e2, e3, e11, hu.len, hd, hd7, hu.iaddr, LT.at hu hi', encT_take, hv.len]) | skip)) | ((with_reducible refine (t_l1One).mono ?_); rintro _ _ ⟨rfl, rfl⟩) | (with_reducible intro bk hbk; try have hnk := (fresh_set hbk).1) | (simp (maxSteps := 2000000) (disch := first | omega | assumption | exact idP rfl | exact idP (bL rfl)) only [go_sem, reduceIte, Nat.reduceEqDiff, wpV_kd, wpV_tH, e0, e1, e2, e3, e11, hu.len, hd, hd7, hu.iaddr, LT.at hu hi', encT_take, hv.len])))
            refine t_l1Moved.mono ?_
            rintro _ _ ⟨rfl, t', rfl⟩
            refine sS0 ?_
            intro bt hbt
            refine app_term t' hg hbt rfl (by omega) (by omega) ?_
            intro s' M' hg' _
            refine sS0 ?_
            exact hK2 _ _ ⟨i + 1, zs ++ [t'], by omega, by simp; omega, sE0, sE0, sE0, sE0, sE0, by refine sS0 ?_; exact hg'⟩ (by refine sS2 @ctrV_int @e11 ?_; omega)
        · have hd : decide ((i : Int) < (ys.length : Int)) = false := by simp; omega
          (repeat' (first | ((with_reducible first | refine cond_dec (fun h => ?_) (fun h => ?_) | refine guardK_dec (fun h => ?_) (fun h => ?_) | refine guardD3_dec (fun h => ?_) (fun h => ?_)) <;> first | (exfalso; omega) | (simp (maxSteps := 2000000) (disch := first | omega | assumption | exact idP rfl | exact idP (bL rfl)) only [go_sem, reduceIte, Nat.reduceEqDiff, wpV_kd, wpV_tH, h, e0, e1, e2, e3, e11, hu.len, hd, hv.len, hg.lenT]) | skip) | ((with_reducible first | refine cond_split (fun h => ?_) (fun h => ?_) | refine guardK_split (fun h => ?_) (fun h => ?_) | refine guardD3_split (fun h => ?_) (fun h => ?_)) <;> ((try simp only [Bool.not_eq_true', Bool.not_eq_false'] at h); first | (simp (maxSteps := 2000000) (disch := first | omega | assumption | exact idP rfl | exact idP (bL rfl)) only [go_sem, reduceIte, Nat.reduceEqDiff, wpV_kd, wpV_tH, h, e0, e1, e2, e3, e11, hu.len, hd, hv.len, hg.lenT]) | skip)) | (with_reducible intro bk hbk; try have hnk := (fresh_set hbk).1) | (simp (maxSteps := 2000000) (disch := first | omega | assumption | exact idP rfl | exact idP (bL rfl)) only [go_sem, reduceIte, Nat.reduceEqDiff, wpV_kd, wpV_tH, e0, e1, e2, e3, e11, hu.len, hd, hv.len, hg.lenT])))
          refine app_term ⟨op, 0, _, _⟩ hg hbk rfl (by omega) (by omega) ?_
          intro s' M2 hg2 _
          have hz2 : (zs ++ [(⟨op, 0, (xs.length : Int) - 1, (zs.length : Int) - 1⟩ : TermS)]).length ≤ 81 := by simp; omega
          generalize zs ++ [(⟨op, 0, (xs.length : Int) - 1, (zs.length : Int) - 1⟩ : TermS)] = qs at *
          by_cases h2 : op < 2
          · have hd2 : decide (op < 2) = true := by simp [h2]
            refine sS1 @hd2 ?_
            exact hR _ _ ⟨[], .nil hg2.sub, by simp⟩
          · have hd2 : decide (op < 2) = false := by simp [h2]
            refine sS1 @hd2 ?_
            refine (VCall.lend0 hg2.own flat_eq fun u M' hu => t_TermsValid hu.lt).mono ?_
            rintro _ _ ⟨rfl, rfl⟩
            (repeat' (first | ((with_reducible first | refine cond_dec (fun h => ?_) (fun h => ?_) | refine guardK_dec (fun h => ?_) (fun h => ?_) | refine guardD3_dec (fun h => ?_) (fun h => ?_)) <;> first | (exfalso; omega) | (simp (maxSteps := 2000000) (disch := first | omega | assumption | exact idP rfl | exact idP (bL rfl)) only [go_sem, reduceIte, Nat.reduceEqDiff, wpV_kd, wpV_tH, h]) | skip) | ((with_reducible first | refine cond_split (fun h => ?_) (fun h => ?_) | refine guardK_split (fun h => ?_) (fun h => ?_) | refine guardD3_split (fun h => ?_) (fun h => ?_)) <;> ((try simp only [Bool.not_eq_true', Bool.not_eq_false'] at h); first | (simp (maxSteps := 2000000) (disch := first | omega | assumption | exact idP rfl | exact idP (bL rfl)) only [go_sem, reduceIte, Nat.reduceEqDiff, wpV_kd, wpV_tH, h]) | skip)) | (with_reducible intro bk hbk; try have hnk := (fresh_set hbk).1) | (simp (maxSteps := 2000000) (disch := first | omega | assumption | exact idP rfl | exact idP (bL rfl)) only [go_sem, reduceIte, Nat.reduceEqDiff, wpV_kd, wpV_tH])))
            all_goals first | exact hR _ _ ⟨[], .nil hg2.sub, by simp⟩ | exact hR _ _ ⟨qs, hg2, hz2⟩
theorem encVar_take (v : VarS) : (encVar v).take 3 = encVar v := rfl
theorem LVar.at' {v : V} {vs : List VarS} (h : LVar v vs) {i : Nat} (hi : i < vs.length) : atN 3 v i = encVar vs[i] := h.elt hi
theorem t_l2When {rb : Nat} {w v : V} {code : List Int} {p : Int} {vs : List VarS} (hr : Rdr w code) (hm : M rb = some (rdC w p)) (h0 : 0 ≤ p) (h1 : p ≤ 900000) (hv : LVar v vs) (hb : ∀ x ∈ vs, VarB x) (hl : 0 < vs.length) (hl2 : vs.length ≤ 1048576) :
    VCall Try.prog n_spec_l2When [.sc (.ptr (some (rb, 0))), v] M (fun r M' => ∃ p' c, Gr 4 (M.set rb (rdC w p')) M' r c ∧ DT p 10 0 81 c p') := by
  refine VCall.plain fun R hR => v_spec_l2When rfl ?_
  have rs0 := RS.start hm
  refine sS1 @hv.len ?_
  refine (t_pick hr hm h0 (by omega)).mono ?_
  rintro _ _ ⟨rfl, k, rfl, k0, k1, _⟩
  have k1 := k1 (by omega)
  have rs1 := rs0.set (p + 1)
  generalize hM1 : M.set rb (rdC w (p + 1)) = M1 at *
  have hki : k.toNat < vs.length := by omega
  simp (maxSteps := 2000000) (disch := first | omega | assumption | exact idP rfl | exact idP (bL rfl)) only [go_sem, reduceIte, Nat.reduceEqDiff, wpV_kd, wpV_tH, hv.len, hv.iaddr, LVar.at' hv hki, encVar_take]
  refine (t_l2Cond hr rs1.at_ (by omega) (by omega) (hb _ (List.getElem_mem hki))).mono ?_
  rintro ul M2 ⟨p2, c, hg, d1, d2, ts, rfl, hts1, hts2⟩
  have rs2 := rs1.to hg.sub
  refine sS0 ?_
  refine (t_pick hr rs2.at_ (by omega) (by omega)).mono ?_
  rintro _ _ ⟨rfl, k', rfl, _, _, _⟩
  have rs3 := rs2.set (p2 + 1)
  have hg3 : Gr 4 (M.set rb (rdC w (p2 + 1))) (M2.set rb (rdC w (p2 + 1))) ul (catV encT ts) := by
    rw [← hM1, set_set] at hg; exact hg.rd
  generalize hM3 : M2.set rb (rdC w (p2 + 1)) = M3 at *
  refine sS0 ?_
  refine cond_dec (fun hk => ?_) (fun hk => ?_)
  · refine sS1 @hv.len ?_
    refine (t_pick hr rs3.at_ (by omega) (by omega)).mono ?_
    rintro _ _ ⟨rfl, j, rfl, j0, j1, _⟩
    have j1 := j1 (by omega)
    have hji : j.toNat < vs.length := by omega
    have rs4 := rs3.set (p2 + 1 + 1)
    have hg4 := hg3.rd (Y := rdC w (p2 + 1 + 1))
    generalize hM4 : M3.set rb (rdC w (p2 + 1 + 1)) = M4 at *
    simp (maxSteps := 2000000) (disch := first | omega | assumption | exact idP rfl | exact idP (bL rfl)) only [go_sem, reduceIte, Nat.reduceEqDiff, wpV_kd, wpV_tH, hv.len, hv.iaddr, LVar.at' hv hji, encVar_take]
    intro b5 hb5
    refine (t_numL [8, 9, 8] hr hb5 rs4.at_ (by omega) (by omega) rfl rfl (by simp) (by simp)).mono ?_
    rintro _ _ ⟨rfl, op, hop, rfl⟩
    have rs5 := rs4.set (p2 + 1 + 1 + 1)
    have hg5 := hg4.rd (Y := rdC w (p2 + 1 + 1 + 1))
    generalize hM5 : M4.set rb (rdC w (p2 + 1 + 1 + 1)) = M5 at *
    simp (maxSteps := 2000000) (disch := first | omega | assumption | exact idP rfl | exact idP (bL rfl)) only [go_sem, reduceIte, Nat.reduceEqDiff, wpV_kd, wpV_tH, hv.len, hv.iaddr, LVar.at' hv hji, encVar_take]
    refine (VCall.frT4 (t_l2Cond hr rs5.at_ (by omega) (by omega) (hb _ (List.getElem_mem hji)))).mono ?_
    rintro u2 _ ⟨p6, rfl, d3, d4, ts2, hu2, _, _⟩
    have hg6 := hg5.rd (Y := rdC w p6)
    refine sS1 @hv.len ?_
    refine (VCall.give1 hg6 fun u M7 hu hs7 => (t_Joined hu.lt hu2).mono fun r M' ⟨zs, hz, hzl⟩ => (show ∃ zs, Gr 4 (M.set rb (rdC w p6)) M' r (catV encT zs) ∧ zs.length ≤ 81 from ⟨zs, hz.base hs7, hzl⟩)).mono ?_
    rintro r M8 ⟨zs, hz, hzl⟩
    refine sS0 ?_
    exact hR _ _ ⟨_, _, hz, by omega, by omega, _, rfl, by omega, hzl⟩
  · refine sS0 ?_
    exact hR _ _ ⟨_, _, hg3, by omega, by omega, _, rfl, by omega, by omega⟩
end Go.M2

namespace Go.M2
open Go.Proofs
variable {M : MH}
end Go.M2

namespace Go.M2
open Go.Proofs
variable {M : MH}
end Go.M2

namespace Go.M2
open Go.Proofs
theorem least {p : Nat → Prop} (h : ∃ n, p n) : ∃ n, p n ∧ ∀ m, p m → n ≤ m := by
  obtain ⟨n, hn⟩ := h
  induction n using Nat.strongRecOn with
  | _ n ih =>
    by_cases h2 : ∃ m, m < n ∧ p m
    · obtain ⟨m, h3, h4⟩ := h2
      exact ih m h3 h4
    · refine ⟨n, hn, fun m hm => ?_⟩
      rcases Nat.lt_or_ge m n with h3 | h3
      · exact absurd ⟨m, h3, hm⟩ h2
      · exact h3
open Classical in
noncomputable def leastOf (p : Nat → Prop) : Nat := if h : ∃ n, p n then (least h).choose else 0
theorem leastOf_spec {p : Nat → Prop} (h : ∃ n, p n) : p (leastOf p) ∧ ∀ m, p m → leastOf p ≤ m := by
  unfold leastOf
  rw [dif_pos h]
  exact (least h).choose_spec
theorem loop_g {P : Program} {Q : PostV} {e : EnvV} {M : MH} {a : IR} (I : Nat → EnvV → MH → Prop) (n : Nat) (h0 : I n e M)
    (hr : ∀ n e M, I n e M → ∀ K : EnvV → MH → Prop, (∀ m e' M', m < n → I m e' M' → K e' M') → wpV P a (thenQV K Q) e M) : wpV P (.loop a) Q e M := by
  refine loop_k (fun e M => ∃ n, I n e M) (fun e M => leastOf fun n => I n e M) ⟨n, h0⟩ fun e M hI K hK => ?_
  have h1 := leastOf_spec hI
  exact hr _ e M h1.1 K fun m e' M' hm hI' => hK e' M' ⟨m, hI'⟩ (Nat.lt_of_le_of_lt ((leastOf_spec ⟨m, hI'⟩).2 m hI') hm)
def Wn (M0 M : MH) (v : V) (xs : List Int) : Prop := ∃ b o ex l, v = .sc (.sl (some (b, o)) xs.length xs.length ex 1) ∧ M b = some l ∧ o + xs.length ≤ l.length ∧ (l.drop o).take xs.length = xs.map vi ∧ M0 b = none ∧ Sub M0 M
section
variable {M0 M : MH} {v : V} {x : Int} {xs : List Int} {K : V → MH → Prop} {by_ : Nat}
theorem Wn.len (h : Wn M0 M v xs) : lenF (er v) = some (.int .i64 (xs.length : Int)) := by
  obtain ⟨b, o, ex, l, rfl, _⟩ := h; rfl
theorem Wn.sub (h : Wn M0 M v xs) : Sub M0 M := by
  obtain ⟨b, o, ex, l, rfl, _, _, _, _, hs⟩ := h; exact hs
theorem Wn.oth {q : Nat} {l' : List V} (h : Wn M0 M v xs) (hq : blkV v ≠ some q) (h0 : M0 q = none) : Wn M0 (M.set q l') v xs := by
  obtain ⟨b, o, ex, l, rfl, h1, h2, h3, h4, h5⟩ := h
  have hne : b ≠ q := fun e => hq (by simp [blkV, e])
  exact ⟨b, o, ex, l, rfl, by rw [set_ne hne]; exact h1, h2, h3, h4, h5.set h0⟩
end
inductive Rch (tab : List (List Int)) (st : Nat → Prop) : Nat → Prop
  | base {i : Nat} : st i → Rch tab st i
  | step {i : Nat} {x : Int} : Rch tab st i → x ∈ tab.getD i [] → Rch tab st x.toNat
noncomputable def rB (tab : List (List Int)) (st : Nat → Prop) (i : Nat) : Bool := @decide (Rch tab st i) (Classical.propDecidable _)
theorem rB_iff {tab : List (List Int)} {st : Nat → Prop} {i : Nat} : rB tab st i = true ↔ Rch tab st i := by unfold rB; exact @decide_eq_true_iff _ (Classical.propDecidable _)
theorem rB_closed {tab : List (List Int)} {st : Nat → Prop} {m : Nat → Bool} (h0 : ∀ i, st i → m i = true) (h1 : ∀ i, m i = true → Rch tab st i) (h2 : ∀ i, m i = true → ∀ x ∈ tab.getD i [], m x.toNat = true) (i : Nat) : m i = rB tab st i := by
  rw [Bool.eq_iff_iff, rB_iff]
  constructor
  · exact h1 i
  · intro h
    induction h with
    | base h => exact h0 _ h
    | step _ hx ih => exact h2 _ ih _ hx
end Go.M2

namespace Go.M2
open Go.Proofs
variable {M : MH}
theorem RS.set' {M0 M M' : MH} {rb : Nat} {w : V} {p q : Int} (h : RS M0 rb w M p) (e : M' = M.set rb (rdC w q)) : RS M0 rb w M' q := e ▸ h.set q
theorem Gr.rd' {M0 M M' : MH} {rb sz : Nat} {X Y l : List V} {s : V} (h : Gr sz (M0.set rb X) M s l) (e : M' = M.set rb Y) : Gr sz (M0.set rb Y) M' s l := e ▸ h.rd
theorem VCall.pureR {P : Program} {f : FuncId} {args : List V} {rb : Nat} {w : V} {q : V → Int → Prop} (h : ∀ R : V → MH → Prop, (∀ r M' p', Sub (M.set rb (rdC w p')) M' → q r p' → R r M') → VCall P f args M R) : VCall P f args M (fun r M' => ∃ p', M' = M.set rb (rdC w p') ∧ q r p') :=
  VCall.of fun R hR => h R fun r M' p' h1 h2 => hR r r M' _ _ h1 (.refl _ _) ⟨p', rfl, h2⟩
theorem t_l1Number {rb : Nat} {w : V} {code : List Int} {p : Int} (hr : Rdr w code) (hm : M rb = some (rdC w p)) (h0 : 0 ≤ p) (h1 : p ≤ 1000000) :
    VCall Try.prog n_spec_l1Number [.sc (.ptr (some (rb, 0)))] M (fun r M' => ∃ p', M' = M.set rb (rdC w p') ∧ p ≤ p' ∧ p' ≤ p + 6 ∧ ∃ k : Int, r = .sc (.int .i64 k) ∧ -10000 ≤ k ∧ k ≤ 10000) := by
  refine VCall.pureR fun R hR => v_spec_l1Number rfl ?_
  have rs0 := RS.start hm
  refine sS0 ?_
  refine (t_pick hr rs0.at_ (by omega) (by omega)).mono ?_
  rintro _ M1 ⟨e1, k1, rfl, a1, b1, _⟩
  have rs1 := rs0.set' e1
  refine sS0 ?_
  refine (t_pick hr rs1.at_ (by omega) (by omega)).mono ?_
  rintro _ M2 ⟨e2, k2, rfl, a2, b2, _⟩
  have rs2 := rs1.set' e2
  refine sS0 ?_
  refine (t_pick hr rs2.at_ (by omega) (by omega)).mono ?_
  rintro _ M3 ⟨e3, k3, rfl, a3, b3, _⟩
  have rs3 := rs2.set' e3
  have b1 := b1 (by omega)
  have b2 := b2 (by omega)
  have b3 := b3 (by omega)
  refine sS0 ?_
  refine (t_pick hr rs3.at_ (by omega) (by omega)).mono ?_
  rintro _ M4 ⟨e4, k4, rfl, a4, b4, _⟩
  have rs4 := rs3.set' e4
  have b4 := b4 (by omega)
  refine sS0 ?_
  intro bl hbl
  have hne := rs4.ne' hbl
  have rs5 := rs4.more ((Sub.refl M4).set' (l := [9999, -9999, 5000, 100].map vi) hbl)
  have ql : (M4.set bl ([9999, -9999, 5000, 100].map vi)) bl = some ([9999, -9999, 5000, 100].map vi) := set_same
  change VCall _ _ _ (M4.set bl ([9999, -9999, 5000, 100].map vi)) _
  refine (t_pick hr rs5.at_ (by omega) (by omega)).mono ?_
  rintro _ M5 ⟨e5, k5, rfl, a5, b5, _⟩
  have rs6 := rs5.set' e5
  have b5 := b5 (by omega)
  have ql5 : M5 bl = some ([9999, -9999, 5000, 100].map vi) := by rw [e5, set_ne (Ne.symm hne)]; exact ql
  obtain ⟨n, hn, n1, n2⟩ : ∃ n : Int, ([vi 9999, vi (-9999), vi 5000, vi 100] : List V)[k5.toNat]? = some (.sc (.int .i64 n)) ∧ -10000 ≤ n ∧ n ≤ 10000 := by
    have : k5 = 0 ∨ k5 = 1 ∨ k5 = 2 ∨ k5 = 3 := by omega
    rcases this with rfl | rfl | rfl | rfl
    · exact ⟨9999, rfl, by omega, by omega⟩
    · exact ⟨-9999, rfl, by omega, by omega⟩
    · exact ⟨5000, rfl, by omega, by omega⟩
    · exact ⟨100, rfl, by omega, by omega⟩
  refine sS2 @ql5 @hn ?_
  intro bn hbn
  refine (t_numL [k1, k2, k3 - 3, 1, 0, k4 - 100, n] hr hbn rs6.at_ (by omega) (by omega) rfl rfl (by simp) (by simp)).mono ?_
  rintro _ M6 ⟨e6, x, hx, rfl⟩
  have rs7 := rs6.set' e6
  refine sS0 ?_
  refine hR _ _ _ rs7.sub ⟨by omega, by omega, x, rfl, ?_⟩
  simp only [List.mem_cons, List.not_mem_nil, or_false] at hx
  omega
theorem t_l1Pick {rb : Nat} {w v : V} {code ks : List Int} {p kind : Int} (hr : Rdr w code) (hm : M rb = some (rdC w p)) (h0 : 0 ≤ p) (h1 : p ≤ 1000000) (hv : LI v ks) (hl : ks.length ≤ 1048576) :
    VCall Try.prog n_spec_l1Pick [.sc (.ptr (some (rb, 0))), v, .sc (.int .i64 kind)] M (fun r M' => ∃ p', M' = M.set rb (rdC w p') ∧ p' = p + 1 ∧ ∃ k : Int, r = .sc (.int .i64 k) ∧ -1 ≤ k ∧ k < (ks.length : Int)) := by
  refine VCall.pureR fun R hR => v_spec_l1Pick rfl ?_
  have rs0 := RS.start hm
  refine sS1 @hv.len ?_
  refine (t_pick hr rs0.at_ (by omega) (by omega)).mono ?_
  rintro _ M1 ⟨e1, k, rfl, a1, b1, c1⟩
  have rs1 := rs0.set' e1
  refine sS0 ?_
  refine loop_k (fun e M' => M' = M1 ∧ ∃ i : Nat, i ≤ ks.length ∧ e 1 = v ∧ e 2 = .sc (.int .i64 kind) ∧ e 7 = .sc (.int .i64 k) ∧ e 8 = .sc (.int .i64 i)) (fun e _ => ctrV ks.length (e 8)) ?_ ?_
  · exact ⟨rfl, 0, by omega, sE0, sE0, sE0, sE0⟩
  · rintro e _ ⟨rfl, i, hi, q1, q2, q7, q8⟩ K hK
    refine sS5 @q1 @q2 @q7 @q8 @hv.len ?_
    refine cond_dec (fun h => ?_) (fun h => ?_)
    · have hN : (0 : Int) < (ks.length : Int) := by omega
      have hk := b1 (by omega)
      have m1 := Int.emod_nonneg (k + (i : Int)) (b := (ks.length : Int)) (by omega)
      have m2 := Int.emod_lt_of_pos (k + (i : Int)) hN
      generalize hq : (k + (i : Int)) % (ks.length : Int) = q at *
      simp (maxSteps := 2000000) (disch := first | omega | assumption | exact idP rfl | exact idP (bL rfl)) only [go_sem, reduceIte, Nat.reduceEqDiff, wpV_kd, wpV_tH, q1, q2, q7, q8, hv.len, hq, hv.iaddr, LI.at hv (i := q.toNat) (by omega)]
      refine cond_dec (fun h2 => ?_) (fun h2 => ?_)
      · refine sS0 ?_
        exact hR _ _ _ rs1.sub ⟨rfl, q, rfl, by omega, by omega⟩
      · refine sS0 ?_
        exact hK _ _ ⟨rfl, i + 1, by omega, sE0, sE0, sE0, sE0⟩ (by refine sS2 @ctrV_int @q8 ?_; omega)
    · refine sS0 ?_
      exact hR _ _ _ rs1.sub ⟨rfl, -1, rfl, by omega, by omega⟩
theorem midQ {P : Program} {Q : PostV} {e : EnvV} {a : IR} {K : EnvV → MH → Prop} (J : EnvV → MH → Prop) (h : ∀ (K' : EnvV → MH → Prop) (Q' : PostV), (∀ e' M', J e' M' → K' e' M') → wpV P a (thenQV K' Q') e M) (hk : ∀ e' M', J e' M' → K e' M') : wpV P a (thenQV K Q) e M := h K Q hk
theorem Gr.off {B M : MH} {sz b : Nat} {s : V} {l x : List V} (h : Gr sz B M s l) (hb : blkV s ≠ some b) (hB : B b = none) : Gr sz B (M.set b x) s l := by
  refine ⟨fun i l' hi => ?_, h.new, ?_⟩
  · rw [set_ne (fun e => by subst e; rw [hB] at hi; cases hi)]; exact h.sub i l' hi
  · rcases h.own with ⟨e, k, e2⟩ | ⟨b', n, ex, rfl, h1, h2⟩
    · exact .inl ⟨e, k, e2⟩
    · exact .inr ⟨b', n, ex, rfl, by rw [set_ne (fun e => hb (by simp [blkV, e]))]; exact h1, h2⟩
theorem RS.off {M0 M : MH} {rb b : Nat} {w : V} {p : Int} {x : List V} (h : RS M0 rb w M p) (hb : b ≠ rb) (h0 : M0 b = none) : RS M0 rb w (M.set b x) p := by
  refine ⟨by rw [set_ne (Ne.symm hb)]; exact h.at_, fun i l' hi => ?_⟩
  rw [set_ne (fun e => by subst e; rw [set_ne hb, h0] at hi; cases hi)]; exact h.sub i l' hi
structure TK (M0 M : MH) (rb : Nat) (w : V) (p : Int) (s9 s10 : V) (ts : List TermS) (ks : List Int) : Prop where
  rs : RS M0 rb w M p
  g9 : Gr 4 (M0.set rb (rdC w p)) M s9 (catV encT ts)
  g10 : Gr 1 (M0.set rb (rdC w p)) M s10 (ks.map vi)
  sep : ∀ b, blkV s10 = some b → blkV s9 ≠ some b
  len : ts.length = ks.length
section
variable {M0 M M' : MH} {rb : Nat} {w s9 s10 : V} {p q : Int} {ts : List TermS} {ks : List Int} {K : V → MH → Prop}
theorem TK.rd' (h : TK M0 M rb w p s9 s10 ts ks) (e : M' = M.set rb (rdC w q)) : TK M0 M' rb w q s9 s10 ts ks := ⟨h.rs.set' e, h.g9.rd' e, h.g10.rd' e, h.sep, h.len⟩
theorem TK.more (h : TK M0 M rb w p s9 s10 ts ks) (hs : Sub M M') : TK M0 M' rb w p s9 s10 ts ks := ⟨h.rs.more hs, h.g9.more hs, h.g10.more hs, h.sep, h.len⟩
structure TK.Off (M0 : MH) (rb : Nat) (s9 s10 : V) (b : Nat) : Prop where
  n : b ≠ rb
  z : M0 b = none
  a : blkV s9 ≠ some b
  c : blkV s10 ≠ some b
theorem TK.new (h : TK M0 M rb w p s9 s10 ts ks) {b : Nat} (hb : M b = none) : TK.Off M0 rb s9 s10 b := by
  refine ⟨h.rs.ne hb, h.rs.gone hb, fun e => ?_, fun e => ?_⟩
  · rcases h.g9.own with ⟨_, k, rfl⟩ | ⟨b', n, ex, rfl, h1, h2⟩
    · cases e
    · simp only [blkV, Option.some.injEq] at e; subst e; rw [hb] at h1; cases h1
  · rcases h.g10.own with ⟨_, k, rfl⟩ | ⟨b', n, ex, rfl, h1, h2⟩
    · cases e
    · simp only [blkV, Option.some.injEq] at e; subst e; rw [hb] at h1; cases h1
theorem TK.off (h : TK M0 M rb w p s9 s10 ts ks) {b : Nat} {x : List V} (hb : TK.Off M0 rb s9 s10 b) : TK M0 (M.set b x) rb w p s9 s10 ts ks := by
  have hB : (M0.set rb (rdC w p)) b = none := by rw [set_ne hb.n]; exact hb.z
  exact ⟨h.rs.off hb.n hb.z, h.g9.off hb.a hB, h.g10.off hb.c hB, h.sep, h.len⟩
theorem TK.push9 {by_ bt c k : Nat} {ex : Bool} {l : List V} (t : TermS) (h : TK M0 M rb w p s9 s10 ts ks) (hbt : M bt = none) (e : l = encT t) (hb : ts.length ≤ 1048576) (hby : by_ ≤ 64)
    (hk : ∀ s' M', Gr 4 (M0.set rb (rdC w p)) M' s' (catV encT (ts ++ [t])) → Gr 1 (M0.set rb (rdC w p)) M' s10 (ks.map vi) → (∀ b, blkV s10 = some b → blkV s' ≠ some b) → RS M0 rb w M' p → K s' M') : appV 4 by_ s9 (.sc (.sl (some (bt, 0)) 1 c ex k)) (M.set bt l) K := by
  refine app_term t h.g9 hbt e hb hby fun s' M' h1 h2 => ?_
  obtain ⟨q1, q2⟩ := h.g10.oth (sz' := 4) h2 h.sep h1.sub
  exact hk s' M' h1 q1 q2 ⟨h1.sub _ _ set_same, h1.sub⟩
theorem TK.push10 {by_ bt c k : Nat} {ex : Bool} {n : Int} (h9 : Gr 4 (M0.set rb (rdC w p)) M s9 (catV encT ts)) (h10 : Gr 1 (M0.set rb (rdC w p)) M s10 (ks.map vi)) (hs : ∀ b, blkV s10 = some b → blkV s9 ≠ some b) (hl : ts.length = ks.length + 1) (hbt : M bt = none) (hb : ks.length ≤ 1048576) (hby : by_ ≤ 16)
    (hk : ∀ s' M', TK M0 M' rb w p s9 s' ts (ks ++ [n]) → K s' M') : appV 1 by_ s10 (.sc (.sl (some (bt, 0)) 1 c ex k)) (M.set bt [.sc (.int .i64 n)]) K := by
  refine app_int h10 hbt (by omega) hby fun s' M' h1 h2 => ?_
  obtain ⟨q1, q2⟩ := h9.oth (sz' := 1) h2 (fun b h3 h4 => hs b h4 h3) h1.sub
  exact hk s' M' ⟨⟨h1.sub _ _ set_same, h1.sub⟩, q1, h1, fun b h3 h4 => q2 b h4 h3, by simp; omega⟩
end
theorem t_l1PickO {M0 : MH} {rb : Nat} {w s9 s10 : V} {code ks : List Int} {p kind : Int} {ts : List TermS} (hr : Rdr w code) (tk : TK M0 M rb w p s9 s10 ts ks) (h0 : 0 ≤ p) (h1 : p ≤ 1000000) (hl : ks.length ≤ 1048576) :
    VCall Try.prog n_spec_l1Pick [.sc (.ptr (some (rb, 0))), s10, .sc (.int .i64 kind)] M (fun r M' => M' = M.set rb (rdC w (p + 1)) ∧ ∃ k : Int, r = .sc (.int .i64 k)) :=
  (VCall.lendR (a1 := [.sc (.ptr (some (rb, 0)))]) (q := fun r q' => q' = p + 1 ∧ ∃ k : Int, r = .sc (.int .i64 k)) tk.g10.own (fun e => by have := tk.g10.new rb e; rw [set_same] at this; cases this) tk.rs.at_ (fun r _ ⟨_, k, h⟩ => by subst h; simp [flat])
    fun u M' hu hm' => (t_l1Pick hr hm' h0 h1 hu.li hl).mono fun r M'' ⟨q', h1, h2, k, h3, _⟩ => ⟨q', h1, h2, k, h3⟩).mono fun r M' ⟨q', h1, h2, h3⟩ => ⟨by rw [h1, h2], h3⟩
theorem t_l1Terms {rb : Nat} {w : V} {code : List Int} {p vars kind most : Int} (hr : Rdr w code) (hm : M rb = some (rdC w p)) (h0 : 0 ≤ p) (h1 : p ≤ 900000) (hv0 : 0 ≤ vars) (hv5 : vars ≤ 5) (hm1 : 1 ≤ most) (hm2 : most ≤ 12) :
    VCall Try.prog n_spec_l1Terms [.sc (.ptr (some (rb, 0))), .sc (.int .i64 vars), .sc (.int .i64 kind), .sc (.int .i64 most)] M (fun r M' => ∃ p' c, Gr 4 (M.set rb (rdC w p')) M' r c ∧ DT p 210 1 20 c p') := by
  refine VCall.plain fun R hR => v_spec_l1Terms rfl ?_
  have rs0 := RS.start hm
  refine sS0 ?_
  intro b9 hb9 b10 hb10
  have n10 := (fresh_set hb10).1
  have tk0 : TK M ((M.set b9 []).set b10 []) rb w p (.sc (.sl (some (b9, 0)) 0 0 true 4)) (.sc (.sl (some (b10, 0)) 0 0 true 1)) [] [] := by
    have rs1 := rs0.more ((Sub.refl M).set' (l := []) hb9)
    have rs2 := rs1.more ((Sub.refl (M.set b9 [])).set' (l := []) hb10)
    refine ⟨rs2, ?_, Gr.new' rs1.sub hb10 rfl, fun b h1 h2 => ?_, rfl⟩
    · exact (Gr.new' rs0.sub hb9 rfl).more ((Sub.refl _).set' hb10)
    · simp only [blkV, Option.some.injEq] at h1 h2; omega
  generalize ((M.set b9 []).set b10 []) = M1 at *
  refine (t_pick hr tk0.rs.at_ (by omega) (by omega)).mono ?_
  rintro _ M2 ⟨e2, k2, rfl, a2, b2, _⟩
  have b2 := b2 (by omega)
  have tk1 := tk0.rd' e2
  refine sS0 ?_
  refine loop_g (fun j e M' => ∃ (p' : Int) (ts : List TermS) (ks : List Int), e 0 = .sc (.ptr (some (rb, 0))) ∧ e 1 = .sc (.int .i64 vars) ∧ e 2 = .sc (.int .i64 kind) ∧ e 11 = .sc (.int .i64 (j : Nat)) ∧ TK M M' rb w p' (e 9) (e 10) ts ks ∧ (ts.length : Int) + j ≤ most + 1 ∧ p ≤ p' ∧ p' + 9 * j ≤ p + 180) (2 + k2).toNat ?_ ?_
  · have e11 : (((2 + k2).toNat : Nat) : Int) = 2 + k2 := by omega
    exact ⟨p + 1, [], [], sE0, sE0, sE0, sE1 @e11, by refine sS0 ?_; exact tk1, by simp; omega, by omega, by omega⟩
  · rintro j e M3 ⟨p3, ts, ks, q0, q1, q2, q11, tk, hc, d1, d2⟩ K hK
    refine sS4 @q0 @q1 @q2 @q11 ?_
    refine cond_dec (fun hj => ?_) (fun hj => ?_)
    · refine sS4 @q0 @q1 @q2 @q11 ?_
      intro bn hbn
      refine (t_numL [0, 1, 1, 2, 3, 4, 5, 6, 5, 6, 7, 8, 9] hr hbn tk.rs.at_ (by omega) (by omega) rfl rfl (by simp) (by simp)).mono ?_
      rintro _ M4 ⟨e4, op, hop, rfl⟩
      have tk4 := tk.rd' e4
      simp (maxSteps := 2000000) (disch := first | omega | assumption | exact idP rfl | exact idP (bL rfl)) only [go_sem, reduceIte, Nat.reduceEqDiff, wpV_kd]
      intro b13 hb13
      have off := tk4.new hb13
      have tk5 := tk4.off (x := encT ⟨op, 0, 0, 0⟩) off
      have at5 : (M4.set b13 (encT ⟨op, 0, 0, 0⟩)) b13 = some (encT ⟨op, 0, 0, 0⟩) := set_same
      change wpV _ _ _ _ (M4.set b13 (encT ⟨op, 0, 0, 0⟩))
      generalize M4.set b13 (encT ⟨op, 0, 0, 0⟩) = M5 at *
      generalize hs9 : e 9 = s9 at *
      generalize hs10 : e 10 = s10 at *
      refine midQ (fun e' M' => ∃ (p' : Int) (tt : TermS), e' 0 = .sc (.ptr (some (rb, 0))) ∧ e' 1 = .sc (.int .i64 vars) ∧ e' 2 = .sc (.int .i64 kind) ∧ e' 9 = s9 ∧ e' 10 = s10 ∧ e' 11 = .sc (.int .i64 j) ∧ e' 13 = .sc (.ptr (some (b13, 0))) ∧ M' b13 = some (encT tt) ∧ TK M M' rb w p' s9 s10 ts ks ∧ p3 + 1 ≤ p' ∧ p' ≤ p3 + 8) ?_ ?_
      · intro K' Q' hK'
        have hlen := tk5.g9.lenT
        have at5' : M5 b13 = some [.sc (.int .i64 op), .sc (.int .i64 0), .sc (.int .i64 0), .sc (.int .i64 0)] := at5
        by_cases hz : (ts.length : Int) = 0 ∨ op < 2
        · rcases Classical.em ((ts.length : Int) = 0) with hz1 | hz1
          all_goals first
            | (have hd : decide ((ts.length : Int) = 0) = true := by simp only [decide_eq_true_eq]; exact hz1
               simp (maxSteps := 2000000) (disch := first | omega | assumption | exact idP rfl | exact idP (bL rfl)) only [go_sem, reduceIte, Nat.reduceEqDiff, wpV_kd, wpV_tH, hlen, hd])
            | (have hd : decide ((ts.length : Int) = 0) = false := decide_eq_false hz1
               have hd2 : decide (op < 2) = true := decide_eq_true (hz.resolve_left hz1)
               simp (maxSteps := 2000000) (disch := first | omega | assumption | exact idP rfl | exact idP (bL rfl)) only [go_sem, reduceIte, Nat.reduceEqDiff, wpV_kd, wpV_tH, hlen, hd, hd2])
          all_goals
            refine (t_l1Number hr tk5.rs.at_ (by omega) (by omega)).mono ?_
            rintro _ M6 ⟨p6, e6, d3, d4, k6, rfl, _, _⟩
            have tk6 := tk5.rd' e6
            have at6 : M6 b13 = some [.sc (.int .i64 op), .sc (.int .i64 0), .sc (.int .i64 0), .sc (.int .i64 0)] := by rw [e6, set_ne off.n]; exact at5'
            by_cases hv : 0 < vars
            · have hdv : decide (0 < vars) = true := by simp [hv]
              by_cases ho : op = 0
              · have hdo : decide (op ≠ 0) = false := by simp [ho]
                refine sS3 @at6 @hdv @hdo ?_
                exact hK' _ _ ⟨p6, ⟨0, k6, 0, 0⟩, sE0, sE0, sE0, sE0, sE0, sE0, sE0, set_same, tk6.off off, by omega, by omega⟩
              · have hdo : decide (op ≠ 0) = true := by simp [ho]
                have tk7 := tk6.off (x := [.sc (.int .i64 0), .sc (.int .i64 k6), .sc (.int .i64 0), .sc (.int .i64 0)]) off
                refine sS3 @at6 @hdv @hdo ?_
                refine (t_pick hr tk7.rs.at_ (by omega) (by omega)).mono ?_
                rintro _ M8 ⟨e8, k8, rfl, _, _, _⟩
                have tk8 := tk7.rd' e8
                have at8 : M8 b13 = some [.sc (.int .i64 0), .sc (.int .i64 k6), .sc (.int .i64 0), .sc (.int .i64 0)] := by rw [e8, set_ne off.n]; exact set_same
                refine sS1 @at8 ?_
                exact hK' _ _ ⟨p6 + 1, ⟨1, k8, 0, 0⟩, sE0, sE0, sE0, sE0, sE0, sE0, sE0, set_same, tk8.off off, by omega, by omega⟩
            · have hdv : decide (0 < vars) = false := by simp; omega
              refine sS2 @at6 @hdv ?_
              exact hK' _ _ ⟨p6, ⟨0, k6, 0, 0⟩, sE0, sE0, sE0, sE0, sE0, sE0, sE0, set_same, tk6.off off, by omega, by omega⟩
        · have hd : decide ((ts.length : Int) = 0) = false := decide_eq_false fun h => hz (.inl h)
          have hd2 : decide (op < 2) = false := decide_eq_false fun h => hz (.inr h)
          refine sS3 @hlen @hd @hd2 ?_
          refine cond_dec (fun h7 => ?_) (fun h7 => ?_)
          all_goals
            refine sS0 ?_
            refine (t_l1PickO hr tk5 (by omega) (by omega) (by have := tk5.len; omega)).mono ?_
            rintro _ M6 ⟨e6, k6, rfl⟩
            have tk6 := tk5.rd' e6
            have at6 : M6 b13 = some [.sc (.int .i64 op), .sc (.int .i64 0), .sc (.int .i64 0), .sc (.int .i64 0)] := by rw [e6, set_ne off.n]; exact at5'
            have tk7 := tk6.off (x := [.sc (.int .i64 op), .sc (.int .i64 0), .sc (.int .i64 k6), .sc (.int .i64 0)]) off
            refine sS1 @at6 ?_
            refine (t_l1PickO hr tk7 (by omega) (by omega) (by have := tk5.len; omega)).mono ?_
            rintro _ M8 ⟨e8, k8, rfl⟩
            have tk8 := tk7.rd' e8
            have at8 : M8 b13 = some [.sc (.int .i64 op), .sc (.int .i64 0), .sc (.int .i64 k6), .sc (.int .i64 0)] := by rw [e8, set_ne off.n]; exact set_same
            refine sS1 @at8 ?_
            refine t_l1One.mono ?_
            rintro _ _ ⟨rfl, rfl⟩
            refine sS0 ?_
            refine cond_dec (fun ho => ?_) (fun ho => ?_)
            · refine sS0 ?_
              exact hK' _ _ ⟨_, ⟨op, 0, k6, k6⟩, sE0, sE0, sE0, sE0, sE0, sE0, sE0, set_same, tk8.off off, by omega, by omega⟩
            · refine sS0 ?_
              exact hK' _ _ ⟨_, ⟨op, 0, k6, k8⟩, sE0, sE0, sE0, sE0, sE0, sE0, sE0, set_same, tk8.off off, by omega, by omega⟩
      · clear tk4 tk5 at5 tk off
        rintro e' M6 ⟨p6, tt, q0, q1, q2, q9, q10, q11, q13, at6, tk, d3, d4⟩
        have at6' : M6 b13 = some [.sc (.int .i64 tt.op), .sc (.int .i64 tt.n), .sc (.int .i64 tt.a), .sc (.int .i64 tt.b)] := at6
        refine sS8 @q0 @q1 @q2 @q9 @q10 @q11 @q13 @at6' ?_
        have hkl : ks.length ≤ 40 := by have := tk.len; omega
        refine (VCall.lend1 tk.g10.own flat_eq fun u M' hu => t_l1Kind (t := tt) hu.li hkl hv0 hv5).mono ?_
        rintro _ _ ⟨rfl, rfl⟩
        refine sS8 @at6' @q0 @q1 @q2 @q9 @q10 @q11 @q13 ?_
        refine cond_dec (fun hk0 => ?_) (fun hk0 => ?_)
        · refine sS8 @at6' @q0 @q1 @q2 @q9 @q10 @q11 @q13 ?_
          intro bt hbt
          refine tk.push9 tt hbt rfl (by omega) (by omega) ?_
          intro s' M7 g9 g10 sep rs
          refine sS0 ?_
          intro bt2 hbt2
          refine TK.push10 g9 g10 sep (by simp [tk.len]) hbt2 (by omega) (by omega) ?_
          intro s2 M8 tk8
          refine sS0 ?_
          have ej : (j : Int) - 1 = ((j - 1 : Nat) : Int) := by omega
          exact hK (j - 1) _ _ (by omega) ⟨p6, _, _, sE0, sE0, sE0, sE1 @ej, by refine sS0 ?_; exact tk8, by simp; omega, by omega, by omega⟩
        · refine sS7 @q0 @q1 @q2 @q9 @q10 @q11 @q13 ?_
          have ej : (j : Int) - 1 = ((j - 1 : Nat) : Int) := by omega
          exact hK (j - 1) _ _ (by omega) ⟨p6, ts, ks, sE0, sE0, sE0, sE1 @ej, by refine sS0 ?_; exact tk, by omega, by omega, by omega⟩
    · obtain rfl : j = 0 := by omega
      generalize hs9 : e 9 = s9 at *
      generalize hs10 : e 10 = s10 at *
      clear hK
      simp (maxSteps := 2000000) (disch := first | omega | assumption | exact idP rfl | exact idP (bL rfl)) only [go_sem, reduceIte, Nat.reduceEqDiff, wpV_kd]
      refine midQ (fun e' M' => ∃ (s9 s10 : V) (ts : List TermS) (ks : List Int), e' 0 = .sc (.ptr (some (rb, 0))) ∧ e' 2 = .sc (.int .i64 kind) ∧ e' 9 = s9 ∧ e' 10 = s10 ∧ TK M M' rb w p3 s9 s10 ts ks ∧ 1 ≤ ts.length ∧ ts.length ≤ 13) ?_ ?_
      · intro K' Q' hK'
        refine sS1 @tk.g9.lenT ?_
        refine cond_dec (fun hz => ?_) (fun hz => ?_)
        · refine sS0 ?_
          intro bt hbt
          refine tk.push9 ⟨0, 1, 0, 0⟩ hbt rfl (by omega) (by omega) ?_
          intro s' M7 g9 g10 sep rs
          refine sS0 ?_
          intro bt2 hbt2
          refine TK.push10 g9 g10 sep (by simp [tk.len]) hbt2 (by have := tk.len; omega) (by omega) ?_
          intro s2 M8 tk8
          refine sS0 ?_
          exact hK' _ _ ⟨_, _, _, _, sE0, sE0, sE0, sE0, tk8, by simp, by simp; omega⟩
        · refine sS0 ?_
          exact hK' _ _ ⟨_, _, _, _, sE0, sE0, sE0, sE0, tk, by omega, by omega⟩
      · clear tk hc hs9 hs10
        rintro e' M6 ⟨s9, s10, ts, ks, q0, q2, q9, q10, tk, hc1, hc2⟩
        have tkl := tk.len
        have fin : ∀ (p' : Int) (M' : MH) (s : V) (zs : List TermS), Gr 4 (M.set rb (rdC w p')) M' s (catV encT zs) → p ≤ p' → p' ≤ p + 210 → 1 ≤ zs.length → zs.length ≤ 20 → R s M' := fun p' M' s zs h1 h2 h3 h4 h5 => hR _ _ ⟨p', _, h1, h2, h3, zs, rfl, h4, h5⟩
        have hia : iaddrV 1 s10 (.int .i64 ((ts.length : Int) - 1)) = some (.sc (.ptr (some (oB s10, ts.length - 1)))) := by
          rw [show ts.length - 1 = ((ts.length : Int) - 1).toNat by omega]
          exact tk.g10.own.iaddr (by omega) (by rw [len_vi]; omega)
        have hat := tk.g10.at (by rw [len_vi]; omega)
        have hnth : (ks.map vi)[ts.length - 1]? = some (.sc (.int .i64 (ks[ts.length - 1]'(by omega)))) := nth_vi (by omega)
        have app : ∀ (p' : Int) (M4 : MH) (op a b : Int) (Q' : V → MH → Prop) (bt : Nat), TK M M4 rb w p' s9 s10 ts ks → M4 bt = none → (∀ s' M', Gr 4 (M.set rb (rdC w p')) M' s' (catV encT (ts ++ [⟨op, 0, a, b⟩])) → Q' s' M') → appV 4 32 s9 (.sc (.sl (some (bt, 0)) 1 1 true 4)) (M4.set bt (encT ⟨op, 0, a, b⟩)) Q' := fun p' M4 op a b Q' bt h1 h2 h3 => h1.push9 ⟨op, 0, a, b⟩ h2 rfl (by omega) (by omega) fun s' M' g9 _ _ _ => h3 s' M' g9
        by_cases h2 : kind = 2
        · have hd : decide (kind = 2) = true := by simp [h2]
          refine sS9 @q0 @q2 @q9 @q10 @tk.g9.lenT @hd @hia @hat @hnth ?_
          refine cond_dec (fun hk => ?_) (fun hk => ?_)
          · refine sS0 ?_
            intro bn hbn
            refine (t_numL [5, 6] hr hbn tk.rs.at_ (by omega) (by omega) rfl rfl (by simp) (by simp)).mono ?_
            rintro _ M7 ⟨e7, op, _, rfl⟩
            have tk7 := tk.rd' e7
            refine sS0 ?_
            refine (t_l1PickO hr tk7 (by omega) (by omega) (by omega)).mono ?_
            rintro _ M8 ⟨e8, k8, rfl⟩
            have tk8 := tk7.rd' e8
            refine sS0 ?_
            intro bt hbt
            refine app _ _ op _ _ _ bt tk8 hbt ?_
            intro s' M9 g9
            refine sS0 ?_
            exact fin _ _ _ _ g9 (by omega) (by omega) (by simp) (by simp; omega)
          · have hd1 : decide (kind = 1) = false := by simp; omega
            refine sS1 @hd1 ?_
            exact fin _ _ _ _ tk.g9 (by omega) (by omega) (by omega) (by omega)
        · have hd : decide (kind = 2) = false := by simp [h2]
          by_cases h3 : kind = 1
          · have hd1 : decide (kind = 1) = true := by simp [h3]
            simp (maxSteps := 2000000) (disch := first | omega | assumption | exact idP rfl | exact idP (bL rfl)) only [go_sem, reduceIte, Nat.reduceEqDiff, wpV_kd, wpV_tH, q0, q2, q9, q10, tk.g9.lenT, hd, hd1, hia, hat, hnth]
            refine cond_dec (fun hk => ?_) (fun hk => ?_)
            · refine sS0 ?_
              refine (t_l1PickO hr tk (by omega) (by omega) (by omega)).mono ?_
              rintro _ M7 ⟨e7, k7, rfl⟩
              have tk7 := tk.rd' e7
              refine sS0 ?_
              intro bn hbn
              refine (t_numL [2, 3] hr hbn tk7.rs.at_ (by omega) (by omega) rfl rfl (by simp) (by simp)).mono ?_
              rintro _ M8 ⟨e8, op, _, rfl⟩
              have tk8 := tk7.rd' e8
              refine sS0 ?_
              refine (t_l1PickO hr tk8 (by omega) (by omega) (by omega)).mono ?_
              rintro _ M9 ⟨e9, k9, rfl⟩
              have tk9 := tk8.rd' e9
              refine sS0 ?_
              intro bt hbt
              refine app _ _ op _ _ _ bt tk9 hbt ?_
              intro s' M9 g9
              refine sS0 ?_
              exact fin _ _ _ _ g9 (by omega) (by omega) (by simp) (by simp; omega)
            · refine sS0 ?_
              exact fin _ _ _ _ tk.g9 (by omega) (by omega) (by omega) (by omega)
          · have hd1 : decide (kind = 1) = false := by simp [h3]
            refine sS7 @q0 @q2 @q9 @q10 @tk.g9.lenT @hd @hd1 ?_
            exact fin _ _ _ _ tk.g9 (by omega) (by omega) (by omega) (by omega)
end Go.M2

namespace Go.M2
open Go.Proofs
variable {M : MH}
theorem t_l2Value {rb : Nat} {w v : V} {code : List Int} {p : Int} {vs : List VarS} {i : Nat} (hr : Rdr w code) (hm : M rb = some (rdC w p)) (h0 : 0 ≤ p) (h1 : p ≤ 800000) (hv : LVar v vs) (hb : ∀ x ∈ vs, VarB x) (hl : i < vs.length) (hl2 : vs.length ≤ 5) :
    VCall Try.prog n_spec_l2Value [.sc (.ptr (some (rb, 0))), v, .sc (.int .i64 (i : Int))] M (fun r M' => ∃ p' c, Gr 4 (M.set rb (rdC w p')) M' r c ∧ DT p 220 1 20 c p') := by
  refine VCall.plain fun R hR => v_spec_l2Value rfl ?_
  have rs0 := RS.start hm
  have hvb := hb _ (List.getElem_mem hl)
  have hva : atN 3 v i = [.sc (.int .i64 vs[i].low), .sc (.int .i64 vs[i].high), .sc (.int .i64 vs[i].first)] := hv.elt hl
  obtain ⟨v1, v2, v3, v4⟩ := hvb
  refine sS0 ?_
  refine (t_pick hr rs0.at_ (by omega) (by omega)).mono ?_
  rintro _ M1 ⟨e1, k1, rfl, a1, b1, _⟩
  have rs1 := rs0.set' e1
  refine sS0 ?_
  refine cond_dec (fun hk => ?_) (fun hk => ?_)
  · (repeat' (first | ((with_reducible first | refine cond_dec (fun h => ?_) (fun h => ?_) | refine guardK_dec (fun h => ?_) (fun h => ?_) | refine guardD3_dec (fun h => ?_) (fun h => ?_)) <;> first | (exfalso; omega) | (simp (maxSteps := 2000000) (disch := first | omega | assumption | exact idP rfl | exact idP (bL rfl)) only [go_sem, reduceIte, Nat.reduceEqDiff, wpV_kd, wpV_tH, h]) | skip) | ((with_reducible first | refine cond_split (fun h => ?_) (fun h => ?_) | refine guardK_split (fun h => ?_) (fun h => ?_) | refine guardD3_split (fun h => ?_) (fun h => ?_)) <;> ((try simp only [Bool.not_eq_true', Bool.not_eq_false'] at h); first | (simp (maxSteps := 2000000) (disch := first | omega | assumption | exact idP rfl | exact idP (bL rfl)) only [go_sem, reduceIte, Nat.reduceEqDiff, wpV_kd, wpV_tH, h]) | skip)) | ((with_reducible refine (t_l2VarOf).mono ?_); rintro _ _ ⟨rfl, rfl⟩) | ((with_reducible refine (t_l2Const).mono ?_); rintro _ _ ⟨rfl, rfl⟩) | (with_reducible intro bk hbk; try have hnk := (fresh_set hbk).1) | (simp (maxSteps := 2000000) (disch := first | omega | assumption | exact idP rfl | exact idP (bL rfl)) only [go_sem, reduceIte, Nat.reduceEqDiff, wpV_kd, wpV_tH])))
    change VCall _ _ _ (M1.set bk ([2, 3].map vi)) _
    refine (t_numL [2, 3] hr hbk rs1.at_ (by omega) (by omega) rfl rfl (by simp) (by simp)).mono ?_
    rintro _ M2 ⟨e2, op, _, rfl⟩
    have rs2 := rs1.set' e2
    refine sS0 ?_
    intro b9 hb9
    change R _ (M2.set b9 (catV encT [⟨1, (i : Int), 0, 0⟩, ⟨0, 1, 0, 0⟩, ⟨op, 0, 0, 1⟩]))
    exact hR _ _ ⟨_, _, Gr.new' rs2.sub hb9 rfl, by omega, by omega, _, rfl, by simp, by simp⟩
  · refine sS0 ?_
    refine cond_dec (fun hk3 => ?_) (fun hk3 => ?_)
    · refine sS2 @hv.iaddr @hva ?_
      refine (t_pick hr rs1.at_ (by omega) (by omega)).mono ?_
      rintro _ M2 ⟨e2, k2, rfl, a2, b2, c2⟩
      have kb : k2 ≤ 40000 := by
        by_cases hc : 1 ≤ vs[i].high - vs[i].low + 1
        · have := b2 hc; omega
        · have := c2 (by omega); omega
      have rs2 := rs1.set' e2
      refine sS2 @hv.iaddr @hva ?_
      refine t_l2Const.mono ?_
      rintro _ _ ⟨rfl, rfl⟩
      refine sS2 @hv.iaddr @hva ?_
      intro b9 hb9
      change R _ (M2.set b9 (catV encT [⟨0, vs[i].low + k2, 0, 0⟩]))
      exact hR _ _ ⟨_, _, Gr.new' rs2.sub hb9 rfl, by omega, by omega, _, rfl, by simp, by simp⟩
    · refine sS0 ?_
      refine cond_dec (fun hk4 => ?_) (fun hk4 => ?_)
      · refine sS1 @hv.len ?_
        refine (t_pick hr rs1.at_ (by omega) (by omega)).mono ?_
        rintro _ M2 ⟨e2, k2, rfl, a2, b2, c2⟩
        have rs2 := rs1.set' e2
        (repeat' (first | ((with_reducible first | refine cond_dec (fun h => ?_) (fun h => ?_) | refine guardK_dec (fun h => ?_) (fun h => ?_) | refine guardD3_dec (fun h => ?_) (fun h => ?_)) <;> first | (exfalso; omega) | (simp (maxSteps := 2000000) (disch := first | omega | assumption | exact idP rfl | exact idP (bL rfl)) only [go_sem, reduceIte, Nat.reduceEqDiff, wpV_kd, wpV_tH, h]) | skip) | ((with_reducible first | refine cond_split (fun h => ?_) (fun h => ?_) | refine guardK_split (fun h => ?_) (fun h => ?_) | refine guardD3_split (fun h => ?_) (fun h => ?_)) <;> ((try simp only [Bool.not_eq_true', Bool.not_eq_false'] at h); first | (simp (maxSteps := 2000000) (disch := first | omega | assumption | exact idP rfl | exact idP (bL rfl)) only [go_sem, reduceIte, Nat.reduceEqDiff, wpV_kd, wpV_tH, h]) | skip)) | ((with_reducible refine (t_l2VarOf).mono ?_); rintro _ _ ⟨rfl, rfl⟩) | (with_reducible intro bk hbk; try have hnk := (fresh_set hbk).1) | (simp (maxSteps := 2000000) (disch := first | omega | assumption | exact idP rfl | exact idP (bL rfl)) only [go_sem, reduceIte, Nat.reduceEqDiff, wpV_kd, wpV_tH])))
        change R _ (M2.set bk (catV encT [⟨1, k2, 0, 0⟩]))
        exact hR _ _ ⟨_, _, Gr.new' rs2.sub hbk rfl, by omega, by omega, _, rfl, by simp, by simp⟩
      · refine sS1 @hv.len ?_
        refine (t_l1Terms hr rs1.at_ (by omega) (by omega) (by omega) (by omega) (by omega) (by omega)).mono ?_
        rintro r M2 ⟨p2, c, hg, d1, d2, ts, rfl, d3, d4⟩
        refine sS0 ?_
        rw [e1, set_set] at hg
        exact hR _ _ ⟨_, _, hg, by omega, by omega, _, rfl, d3, d4⟩
end Go.M2
