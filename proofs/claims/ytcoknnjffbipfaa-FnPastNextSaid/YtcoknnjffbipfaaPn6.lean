/- Contracts: numbers of states, the table of what comes behind, the program's side. -/
import Derived.Test.YtcoknnjffbipfaaPn5
import Derived.Test.YtcoknnjffbipfaaChecked
set_option linter.unusedVariables false
set_option linter.unusedSimpArgs false
set_option maxRecDepth 10000
set_option maxHeartbeats 4000000
namespace Go.M2
open Go.Proofs
variable {M : MH}
theorem t_number {a b w : V} {vars : List VarS} {st : List Int} (ha : LVar a vars) (hw : LI w st) (hv : ∀ v ∈ vars, VarOk v) (h5 : vars.length ≤ 5) (hin : StIn vars st) :
    VCall Try.prog n_impl_number [.agg [a, b], w] M (fun r M' => M = M' ∧ r = .sc (.int .i64 (numF vars st))) := by
  refine VCall.pure fun R hR => v_impl_number rfl ?_
  have hlen := hin.1
  (repeat' (first | ((with_reducible first | refine cond_dec (fun h => ?_) (fun h => ?_) | refine guardK_dec (fun h => ?_) (fun h => ?_) | refine guardD3_dec (fun h => ?_) (fun h => ?_)) <;> first | (exfalso; omega) | (simp (maxSteps := 2000000) (disch := first | omega | assumption | exact idP rfl | exact idP (bL rfl)) only [go_sem, reduceIte, Nat.reduceEqDiff, wpV_kd, wpV_tH, h, ha.len]) | skip) | ((with_reducible first | refine cond_split (fun h => ?_) (fun h => ?_) | refine guardK_split (fun h => ?_) (fun h => ?_) | refine guardD3_split (fun h => ?_) (fun h => ?_)) <;> ((try simp only [Bool.not_eq_true', Bool.not_eq_false'] at h); first | (simp (maxSteps := 2000000) (disch := first | omega | assumption | exact idP rfl | exact idP (bL rfl)) only [go_sem, reduceIte, Nat.reduceEqDiff, wpV_kd, wpV_tH, h, ha.len]) | skip)) | (with_reducible intro bk hbk; try have hnk := (fresh_set hbk).1) | (simp (maxSteps := 2000000) (disch := first | omega | assumption | exact idP rfl | exact idP (bL rfl)) only [go_sem, reduceIte, Nat.reduceEqDiff, wpV_kd, wpV_tH, ha.len])))
  refine loop_k (fun e M' => Sub M M' ∧ ∃ i : Nat, i ≤ vars.length ∧ e 1 = w ∧ e 9 = a ∧ e 10 = .sc (.int .i64 vars.length) ∧ e 5 = .sc (.int .i64 (numF (vars.take i) (st.take i))) ∧ e 11 = .sc (.int .i64 i)) (fun e _ => ctrV vars.length (e 11)) ?_ ?_
  · exact ⟨sB, 0, by omega, sT0, sT0, sT0, by refine sS0 ?_; simp [numF, numGo], by refine sS0 ?_; rfl⟩
  · rintro e M1 ⟨hsub, i, hi, e1, e9, e10, e5, e11⟩ K hK
    refine sS2 @e10 @e11 ?_
    refine cond_dec (fun h => ?_) (fun h => ?_)
    · have hi1 : i < vars.length := by omega
      have hi2 : i < st.length := by omega
      have hok := hv _ (List.getElem_mem hi1)
      have hinr := hin.2 i hi1 hi2
      have hb1 := numF_bd hv hin i (by omega)
      have hb2 := numF_bd hv hin (i + 1) (by omega)
      have hs1 := sizeF_mono hv h5 (i := i)
      have hs2 := sizeF_mono hv h5 (i := i + 1)
      have hnt := numF_take hi1 hi2
      have hmb : 0 ≤ numF (vars.take i) (st.take i) * (vars[i].high - vars[i].low + 1) ∧ numF (vars.take i) (st.take i) * (vars[i].high - vars[i].low + 1) ≤ 3200000 * 20 := by
        unfold VarOk at hok
        exact ⟨Int.mul_nonneg hb1.1 (by omega), Int.mul_le_mul (by omega) (by omega) (by omega) (by omega)⟩
      unfold VarOk at hok
      simp (maxSteps := 2000000) (disch := first | omega | assumption | exact idP rfl | exact idP (bL rfl)) only [go_sem, reduceIte, Nat.reduceEqDiff, wpV_kd, wpV_tH, e1, e5, e9, e10, e11, ha.iaddr, LVar.at ha hi1]
      intro b7 hb7
      simp (maxSteps := 2000000) (disch := first | omega | assumption | exact idP rfl | exact idP (bL rfl)) only [go_sem, reduceIte, Nat.reduceEqDiff, wpV_kd, wpV_tH, e1, e5, e9, e10, e11, hw.iaddr, hw.at hi2]
      refine hK _ _ ⟨sB, i + 1, by omega, sT0, sT0, sT0, by refine sS0 ?_; rw [hnt]; rfl, by refine sS0 ?_; rfl⟩ (by refine sS2 @ctrV_int @e11 ?_; omega)
    · obtain rfl : i = vars.length := by omega
      refine sS1 @e5 ?_
      exact hR _ _ hsub (by rw [List.take_length, ← hlen, List.take_length])
theorem t_stateAt {v : V} {s : SysS} {n : Int} (hv : isSys s v) (hs : SysOk s) (h0 : 0 ≤ n) (h1 : n ≤ 1099511627776) : VCall Try.prog n_impl_stateAt [v, .sc (.int .i64 n)] M (fun r M' => Gr 1 M M' r ((stGo s.vars n).map vi)) := by
  refine VCall.plain fun R hR => v_impl_stateAt rfl ?_
  obtain ⟨a, b, rfl, ha, hb⟩ := hv
  have h1' := hs.v1
  have h5 := hs.v5
  (repeat' (first | ((with_reducible first | refine cond_dec (fun h => ?_) (fun h => ?_) | refine guardK_dec (fun h => ?_) (fun h => ?_) | refine guardD3_dec (fun h => ?_) (fun h => ?_)) <;> first | (exfalso; omega) | (simp (maxSteps := 2000000) (disch := first | omega | assumption | exact idP rfl | exact idP (bL rfl)) only [go_sem, reduceIte, Nat.reduceEqDiff, wpV_kd, wpV_tH, h, ha.len]) | skip) | ((with_reducible first | refine cond_split (fun h => ?_) (fun h => ?_) | refine guardK_split (fun h => ?_) (fun h => ?_) | refine guardD3_split (fun h => ?_) (fun h => ?_)) <;> ((try simp only [Bool.not_eq_true', Bool.not_eq_false'] at h); first | (simp (maxSteps := 2000000) (disch := first | omega | assumption | exact idP rfl | exact idP (bL rfl)) only [go_sem, reduceIte, Nat.reduceEqDiff, wpV_kd, wpV_tH, h, ha.len]) | skip)) | (with_reducible intro bk hbk; try have hnk := (fresh_set hbk).1) | (simp (maxSteps := 2000000) (disch := first | omega | assumption | exact idP rfl | exact idP (bL rfl)) only [go_sem, reduceIte, Nat.reduceEqDiff, wpV_kd, wpV_tH, ha.len])))
  refine mks3 (by omega) (by simp [mostCells]; omega) (by simp [mostCells]; omega) ?_
  intro b12 hb12
  simp (maxSteps := 2000000) (disch := first | omega | assumption | exact idP rfl | exact idP (bL rfl)) only [go_sem, reduceIte, Nat.reduceEqDiff, wpV_kd, wpV_tH, zeros_vi]
  refine loop_k (fun e M' => ∃ j : Nat, j ≤ s.vars.length ∧ e 1 = .sc (.int .i64 (qGo (s.vars.drop j) n)) ∧ e 2 = .sc (.ptr (some (bk, 0))) ∧ e 6 = .sc (.int .i64 ((j : Int) - 1)) ∧ Gr 1 (M.set bk [a, b]) M' (e 5) ((List.replicate j 0 ++ stGo (s.vars.drop j) n).map vi)) (fun e _ => match e 6 with | .sc (.int _ i) => (i + 1).toNat | _ => 0) ?_ ?_
  · refine ⟨s.vars.length, Nat.le_refl _, by refine sS0 ?_; simp [qGo], sT0, sT0, ?_⟩
    refine sS0 ?_
    rw [List.drop_length]
    simp only [stGo, List.append_nil]
    exact Gr.new' (Sub.refl _) hb12 (by simp)
  · rintro e M3 ⟨j, hj, e1, e2, e6, hg⟩ K hK
    have hm := hg.sub bk _ set_same
    refine sS3 @e1 @e2 @e6 ?_
    refine cond_dec (fun h => ?_) (fun h => ?_)
    · obtain ⟨i, rfl⟩ : ∃ i, j = i + 1 := ⟨j - 1, by omega⟩
      have hi : i < s.vars.length := by omega
      have hok := hs.vars _ (List.getElem_mem hi)
      have hsp := span_pos hok
      have hq := qGo_bd (vs := s.vars.drop (i + 1)) (n := n) (fun u hu => hs.vars u (List.mem_of_mem_drop hu)) h0
      have et : (((i + 1 : Nat) : Int) - 1) = (i : Int) := by omega
      have hol : (List.replicate (i + 1) 0 ++ stGo (s.vars.drop (i + 1)) n).length = s.vars.length := by simp [stGo_len]; omega
      simp (maxSteps := 2000000) (disch := first | omega | assumption | exact idP rfl | exact idP (bL rfl)) only [go_sem, reduceIte, Nat.reduceEqDiff, wpV_kd, wpV_tH, e1, e2, e6, hm, et, ha.iaddr, LVar.at ha hi]
      intro b7 hb7
      have hgm : ∀ cl, Gr 1 (M.set bk [a, b]) (M3.set b7 cl) (e 5) ((List.replicate (i + 1) 0 ++ stGo (s.vars.drop (i + 1)) n).map vi) := fun cl => hg.more ((Sub.refl _).set' hb7)
      have hat : ∀ cl, (M3.set b7 cl) (oB (e 5)) = some ((List.replicate (i + 1) 0 ++ stGo (s.vars.drop (i + 1)) n).map vi) := fun cl => (hgm cl).at (by rw [len_vi]; omega)
      have hia : ∀ {k : IntKind} {x : Int}, 0 ≤ x → x < (s.vars.length : Int) → iaddrV 1 (e 5) (.int k x) = some (.sc (.ptr (some (oB (e 5), x.toNat)))) := fun q1 q2 => hg.own.iaddr q1 (by rw [len_vi, hol]; exact q2)
      have hso : i < ((List.replicate (i + 1) 0 ++ stGo (s.vars.drop (i + 1)) n).map vi).length := by rw [len_vi]; omega
      have hm1 := Int.emod_nonneg (qGo (s.vars.drop (i + 1)) n) (show span1 s.vars[i] ≠ 0 by omega)
      have hm2 := Int.emod_lt_of_pos (qGo (s.vars.drop (i + 1)) n) (show 0 < span1 s.vars[i] by omega)
      unfold span1 at hsp hm1 hm2
      unfold VarOk at hok
      refine sS6 @e1 @e2 @e6 @et @hia @hat ?_
      have hgs := fun cl => (hgm cl).setO (l' := (List.replicate i 0 ++ stGo (s.vars.drop i) n).map vi) (by rw [len_vi]; omega) (by rw [len_vi, len_vi, hol]; simp [stGo_len]; omega)
      refine hK _ _ ⟨i, by omega, by refine sS0 ?_; rw [drop_cons' hi]; rfl, sT0, sT0, ?_⟩ (by refine sS1 @e6 ?_; omega)
      refine sS0 ?_
      have e9 : (List.replicate (i + 1) 0 ++ stGo (s.vars.drop (i + 1)) n).set i (s.vars[i].low + qGo (s.vars.drop (i + 1)) n % (s.vars[i].high - s.vars[i].low + 1)) = List.replicate i 0 ++ stGo (s.vars.drop i) n := by
        rw [drop_cons' hi, List.replicate_succ', List.append_assoc, List.set_append_right _ _ (by simp)]
        simp [stGo, span1]
      rw [set_vi, e9]
      exact hgs _
    · obtain rfl : j = 0 := by omega
      refine sS0 ?_
      refine hR _ _ ?_
      simp only [List.replicate_zero, List.nil_append, List.drop_zero] at hg
      exact hg.base (sB)
theorem f_stateAt {v : V} {s : SysS} {n : Int} (hv : isSys s v) (hs : SysOk s) (h0 : 0 ≤ n) (h1 : n ≤ 1099511627776) : VCall Try.prog n_impl_stateAt [v, .sc (.int .i64 n)] M (fun r M' => M = M' ∧ LI r (stGo s.vars n)) :=
  (VCall.fr1 (t_stateAt hv hs h0 h1)).mono fun r M' ⟨h1, h2⟩ => ⟨h1, h2.li⟩
theorem Fz.pre {M M' : MH} {l l' : List V} (h : Fz M l M' l') : ∀ us : List V, Fz M (us ++ l) M' (us ++ l')
  | [] => h
  | x :: t => .keep x (Fz.pre h t)
theorem FzE.row {M0 M : MH} {b3 sz : Nat} {rv : V} {us post row : List V} (hb : M b3 = some (us ++ rv :: post)) (hr : Gr sz M0 M rv row) (hne : blkV rv ≠ some b3) :
    ∃ M' u, (∀ e, FzE e M e M') ∧ Fr sz u row ∧ M' b3 = some (us ++ u :: post) ∧ (M0 b3 = none → Sub M0 M') := by
  rcases hr.own with ⟨rfl, k, rfl⟩ | ⟨b, n, ex, rfl, h1, h2⟩
  · exact ⟨M, _, fun e => .refl _ _, .inl ⟨rfl, k, rfl⟩, hb, fun _ => hr.sub⟩
  · have hne' : b3 ≠ b := fun e => hne (by rw [e]; rfl)
    have h0 := hr.new b rfl
    have hd : M.del b b3 = some (us ++ V.sc (.sl (some (b, 0)) n n ex sz) :: post) := by simp only [MH.del]; rw [if_neg hne']; exact hb
    have hz : Fz M (us ++ V.sc (.sl (some (b, 0)) n n ex sz) :: post) (M.del b) (us ++ V.fs (some (b, 0)) n n ex sz (row.drop 0) :: post) := Fz.pre (.sl h1 (Fz.refl _ _) (Fz.refl _ _)) us
    refine ⟨_, _, fun e => FzE.cells hb hz hd, .inr ⟨_, _, _, _, _, rfl, by simpa using h2⟩, set_same, fun h3 => Sub.set (fun i l hi => ?_) h3⟩
    simp only [MH.del]
    rw [if_neg (fun e => by subst e; rw [h0] at hi; cases hi)]
    exact hr.sub i l hi
theorem Gr.setN {sz b : Nat} {M0 M : MH} {v : V} {l l' : List V} (h : Gr sz M0 M v l) (hb : M0 b = none) (hne : blkV v ≠ some b) : Gr sz M0 (M.set b l') v l := by
  rcases h.own with ⟨rfl, k, rfl⟩ | ⟨c, n, ex, rfl, h1, h2⟩
  · exact .nil (h.sub.set hb)
  · exact .mk' (h.sub.set hb) (h.new c rfl) h2 (by rw [set_ne (fun e => hne (by rw [← e]; rfl))]; exact h1)
end Go.M2

namespace Go.M2
open Go.Proofs
variable {M : MH}
def nil1 : V := .sc (.sl none 0 0 true 0)
theorem zeros_nil (n : Nat) : (zeros [AV.sl none 0 0 true 0] n).map V.sc = List.replicate n nil1 := by
  induction n with
  | zero => rfl
  | succ n ih => simp only [zeros, List.replicate_succ, List.flatten_cons, List.map_append] at ih ⊢; rw [ih]; rfl
theorem set_mid {α : Type} {us post : List α} {x y : α} {n : Nat} (h : us.length = n) : (us ++ x :: post).set n y = us ++ y :: post := by
  subst h
  rw [List.set_append_right _ _ (Nat.le_refl _), Nat.sub_self]; rfl
theorem nth_mid {α : Type} {us post : List α} {x : α} {n : Nat} (h : us.length = n) : (us ++ x :: post)[n]? = some x := by
  subst h
  rw [List.getElem?_append_right (Nat.le_refl _), Nat.sub_self]; rfl
theorem t_nexts {v : V} {s : SysS} (hv : isSys s v) (hs : SysOk s) : VCall Try.prog n_impl_nexts [v] M (fun r M' => ∃ us, Gr 1 M M' r us ∧ Cs isL us (tabF s)) := by
  refine VCall.plain fun R hR => v_impl_nexts rfl ?_
  have hv0 := hv
  obtain ⟨a, b, rfl, ha, hb⟩ := hv
  have hsz := hs.sz
  have htl := tabF_len s
  obtain ⟨N, hN⟩ : ∃ N : Nat, sizeF s.vars = (N : Int) := ⟨(sizeF s.vars).toNat, by omega⟩
  have hN2 : (sizeF s.vars).toNat = N := by omega
  (repeat' (first | ((with_reducible first | refine cond_dec (fun h => ?_) (fun h => ?_) | refine guardK_dec (fun h => ?_) (fun h => ?_) | refine guardD3_dec (fun h => ?_) (fun h => ?_)) <;> first | (exfalso; omega) | (simp (maxSteps := 2000000) (disch := first | omega | assumption | exact idP rfl | exact idP (bL rfl)) only [go_sem, reduceIte, Nat.reduceEqDiff, wpV_kd, wpV_tH, h]) | skip) | ((with_reducible first | refine cond_split (fun h => ?_) (fun h => ?_) | refine guardK_split (fun h => ?_) (fun h => ?_) | refine guardD3_split (fun h => ?_) (fun h => ?_)) <;> ((try simp only [Bool.not_eq_true', Bool.not_eq_false'] at h); first | (simp (maxSteps := 2000000) (disch := first | omega | assumption | exact idP rfl | exact idP (bL rfl)) only [go_sem, reduceIte, Nat.reduceEqDiff, wpV_kd, wpV_tH, h]) | skip)) | ((with_reducible refine (t_impSize ha hs.vars hs.v5).mono ?_); rintro _ _ ⟨rfl, rfl⟩) | (with_reducible intro bk hbk; try have hnk := (fresh_set hbk).1) | (simp (maxSteps := 2000000) (disch := first | omega | assumption | exact idP rfl | exact idP (bL rfl)) only [go_sem, reduceIte, Nat.reduceEqDiff, wpV_kd, wpV_tH])))
  rw [hN]
  refine mks3 (by omega) (by simp [mostCells]; omega) (by simp [mostCells]; omega) ?_
  intro b3 hb3
  simp (maxSteps := 2000000) (disch := first | omega | assumption | exact idP rfl | exact idP (bL rfl)) only [go_sem, reduceIte, Nat.reduceEqDiff, wpV_kd, wpV_tH, zeros_nil]
  refine loop_f (fun e M' => ∃ (n : Nat) (us : List V), n ≤ N ∧ e 1 = .sc (.ptr (some (bk, 0))) ∧ e 3 = .sc (.sl (some (b3, 0)) N N true 1) ∧ e 12 = .sc (.int .i64 N) ∧ e 13 = .sc (.int .i64 n) ∧ Sub (M.set bk [a, b]) M' ∧ M' b3 = some (us ++ List.replicate (N - n) nil1) ∧ Cs isL us ((tabF s).take n)) (fun e _ => ctrV N (e 13)) ?_ ?_
  · exact ⟨_, _, .refl _ _, 0, [], by omega, sT0, sT0, sT0, by refine sS0 ?_; rfl, (Sub.refl _).set hb3, by refine sS0 ?_; simp, .nil⟩
  · rintro e M1 ⟨n, us, hn, e1, e3, e12, e13, hsub, hm3, hc⟩ K hK
    have hm := hsub bk _ set_same
    have hul := hc.1
    rw [List.length_take, htl] at hul
    refine sS4 @e1 @e3 @e12 @e13 ?_
    refine cond_dec (fun h => ?_) (fun h => ?_)
    · have hn' : n < (sizeF s.vars).toNat := by omega
      have hul : us.length = n := by omega
      obtain ⟨q, hq⟩ : ∃ q, N - n = q + 1 := ⟨N - n - 1, by omega⟩
      rw [hq, List.replicate_succ] at hm3
      refine sS5 @e1 @e3 @e12 @e13 @hm ?_
      refine (f_stateAt hv0 hs (n := (n : Int)) (by omega) (by omega)).mono ?_
      rintro st _ ⟨rfl, hst⟩
      refine sS5 @e1 @e3 @e12 @e13 @hm ?_
      have hin : StIn s.vars (stGo s.vars (n : Int)) := stGo_in hs.vars
      refine (f_nextStates hv0 hs hst hin).mono ?_
      rintro nx _ ⟨rfl, hnx⟩
      have hnl := nextF_len hs (stGo s.vars (n : Int))
      refine sS1 @hnx.len ?_
      refine loop_k (fun e' M' => ∃ (i : Nat) (rv : V), i ≤ (nextF s (stGo s.vars (n : Int))).length ∧ e' 1 = .sc (.ptr (some (bk, 0))) ∧ e' 3 = .sc (.sl (some (b3, 0)) N N true 1) ∧ e' 4 = .sc (.int .i64 n) ∧ e' 12 = .sc (.int .i64 N) ∧ e' 13 = .sc (.int .i64 n) ∧ e' 20 = nx ∧ e' 21 = .sc (.int .i64 (nextF s (stGo s.vars (n : Int))).length) ∧ e' 22 = .sc (.int .i64 i) ∧ M' b3 = some (us ++ rv :: List.replicate q nil1) ∧ blkV rv ≠ some b3 ∧ Gr 1 (M.set bk [a, b]) M' rv ((((nextF s (stGo s.vars (n : Int))).take i).map (numF s.vars)).map vi)) (fun e' _ => ctrV (nextF s (stGo s.vars (n : Int))).length (e' 22)) ?_ ?_
      · exact ⟨0, nil1, by omega, sT0, sT0, sT0, sT0, sT0, sT0, sT0, by refine sS0 ?_; rfl, hm3, by simp [nil1, blkV], .nil hsub⟩
      · rintro e' M2 ⟨i, rv, hi, f1, f3, f4, f12, f13, f20, f21, f22, g3, hne, hg2⟩ K2 hK2
        have hm2 := hg2.sub bk _ set_same
        refine sS8 @f1 @f3 @f4 @f12 @f13 @f20 @f21 @f22 ?_
        refine cond_dec (fun h => ?_) (fun h => ?_)
        · have hi' : i < (nextF s (stGo s.vars (n : Int))).length := by omega
          have hxi := nextF_in (List.getElem_mem hi')
          have hnth := nth_mid (post := List.replicate q nil1) (x := rv) hul
          have ho1 := hg2.one.1
          have ho2 := hg2.one.2
          have hnN : n < N := by omega
          simp (maxSteps := 2000000) (disch := first | omega | assumption | exact idP rfl | exact idP (bL rfl)) only [go_sem, reduceIte, Nat.reduceEqDiff, wpV_kd, wpV_tH, f1, f3, f4, f12, f13, f20, f21, f22, hm2, hnx.iaddr, g3, hnth]
          refine (t_number ha (hnx.elt hi') hs.vars hs.v5 hxi).mono ?_
          rintro _ _ ⟨rfl, rfl⟩
          simp (maxSteps := 2000000) (disch := first | omega | assumption | exact idP rfl | exact idP (bL rfl)) only [go_sem, reduceIte, Nat.reduceEqDiff, wpV_kd, wpV_tH, f1, f3, f4, f12, f13, f20, f21, f22, g3, hnth]
          intro bt hbt
          refine app_int hg2 hbt (by simp; omega) (by omega) ?_
          intro s' M' hg' hoth
          obtain ⟨g3', hne'⟩ := hoth b3 _ g3 hne
          have ho3 := hg'.one.1
          have ho4 := hg'.one.2
          have hsm : (us ++ rv :: List.replicate q nil1).set n s' = us ++ s' :: List.replicate q nil1 := set_mid hul
          have hnl3 : n < (us ++ rv :: List.replicate q nil1).length := by simp; omega
          simp (maxSteps := 2000000) (disch := first | omega | assumption | exact idP rfl | exact idP (bL rfl)) only [go_sem, reduceIte, Nat.reduceEqDiff, wpV_kd, wpV_tH, f1, f3, f4, f12, f13, f20, f21, f22, g3', ho4, hsm]
          refine hK2 _ _ ⟨i + 1, s', by omega, sT0, sT0, sT0, sT0, sT0, sT0, sT0, by refine sS0 ?_; rfl, sT0, hne', ?_⟩ (by refine sS2 @ctrV_int @f22 ?_; omega)
          rw [take_snoc hi', List.map_append]
          exact hg'.setN hb3 hne'
        · have hie : i = (nextF s (stGo s.vars (n : Int))).length := by omega
          rw [hie, List.take_length] at hg2
          refine sS5 @f1 @f3 @f4 @f12 @f13 ?_
          obtain ⟨M3, u, k1, k2, k3, k4⟩ := FzE.row g3 hg2 hne
          refine hK _ _ _ _ (k1 _) ⟨n + 1, us ++ [u], by omega, sT1 @f1, sT1 @f3, sT1 @f12, by refine sS1 @f13 ?_; rfl, k4 hb3, by rw [k3, List.append_assoc]; simp [show N - (n + 1) = q by omega], ?_⟩ (by refine sS3 @ctrV_int @e13 @f13 ?_; omega)
          rw [tabF_take hn']
          exact hc.snoc (x := rowF s n) k2.li
    · have hne : n = N := by omega
      subst hne
      rw [List.take_of_length_le (by omega)] at hc
      refine sS1 @e3 ?_
      refine hR _ _ ⟨us, ⟨(show Sub M (M.set bk [a, b]) from sB).trans hsub, fun b' h' => ?_, .inr ⟨b3, n, true, rfl, by simpa using hm3, by omega⟩⟩, hc⟩
      simp [blkV] at h'; subst h'
      exact (show Sub M (M.set bk [a, b]) from sB).none hb3
theorem f_nexts {v : V} {s : SysS} (hv : isSys s v) (hs : SysOk s) : VCall Try.prog n_impl_nexts [v] M (fun r M' => M = M' ∧ LII r (tabF s)) :=
  (VCall.fr (l := fun _ us => Cs isL us (tabF s)) (t_nexts hv hs) (fun _ _ _ h => h)).mono fun r M' ⟨h1, c, h2, h3⟩ => ⟨h1, h2.lsC h3⟩
end Go.M2

namespace Go.M2
open Go.Proofs
variable {M : MH}
def AscTo (n : Int) (xs : List Int) (k : Nat) : Prop := ∀ i (h : i < xs.length), i < k → (0 ≤ xs[i] ∧ xs[i] ≤ n - 1) ∧ (0 < i → xs[i - 1] < xs[i])
def SetOk (n : Int) (xs : List Int) : Prop := AscTo n xs xs.length
noncomputable def setB (n : Int) (xs : List Int) : Bool := @decide (SetOk n xs) (Classical.propDecidable _)
theorem setB_iff {n : Int} {xs : List Int} : setB n xs = true ↔ SetOk n xs := by unfold setB; exact @decide_eq_true_iff _ (Classical.propDecidable _)
theorem setB_false {n : Int} {xs : List Int} : setB n xs = false ↔ ¬ SetOk n xs := by rw [← setB_iff]; cases setB n xs <;> simp
theorem AscTo.next {n : Int} {xs : List Int} {k : Nat} (h : AscTo n xs k) (hk : k < xs.length) (h1 : 0 ≤ xs[k] ∧ xs[k] ≤ n - 1) (h2 : 0 < k → xs[k - 1] < xs[k]) : AscTo n xs (k + 1) := fun i hi hik => by
  by_cases e : i = k
  · subst e; exact ⟨h1, h2⟩
  · exact h i hi (by omega)
theorem t_setOk {w : V} {xs : List Int} {n : Int} (hw : LI w xs) (hl : xs.length ≤ 1048576) (hn : 0 ≤ n ∧ n ≤ 1099511627776) : VCall Try.prog n_impl_setOk [w, .sc (.int .i64 n)] M (fun r M' => M = M' ∧ r = .sc (.bool (setB n xs))) := by
  refine VCall.pure fun R hR => v_impl_setOk rfl ?_
  refine sS1 @hw.len ?_
  refine loop_k (fun e M' => M' = M ∧ ∃ i : Nat, i ≤ xs.length ∧ e 0 = w ∧ e 1 = .sc (.int .i64 n) ∧ e 7 = w ∧ e 8 = .sc (.int .i64 xs.length) ∧ e 9 = .sc (.int .i64 i) ∧ AscTo n xs i) (fun e _ => ctrV xs.length (e 9)) ?_ ?_
  · exact ⟨rfl, 0, by omega, sT0, sT0, sT0, sT0, by refine sS0 ?_; rfl, fun i h h2 => by omega⟩
  · rintro e _ ⟨rfl, i, hi, e0, e1, e7, e8, e9, hj⟩ K hK
    refine sS5 @e0 @e1 @e7 @e8 @e9 ?_
    refine cond_dec (fun h => ?_) (fun h => ?_)
    · have hi' : i < xs.length := by omega
      have bad : ¬ ((0 ≤ xs[i] ∧ xs[i] ≤ n - 1) ∧ (0 < i → xs[i - 1] < xs[i])) → setB n xs = false := fun hb => setB_false.2 fun hs => hb (hs i hi' hi')
      by_cases h0 : i = 0
      · subst h0
        (repeat' (first | ((with_reducible first | refine cond_dec (fun h => ?_) (fun h => ?_) | refine guardK_dec (fun h => ?_) (fun h => ?_) | refine guardD3_dec (fun h => ?_) (fun h => ?_)) <;> first | (exfalso; omega) | (simp (maxSteps := 2000000) (disch := first | omega | assumption | exact idP rfl | exact idP (bL rfl)) only [go_sem, reduceIte, Nat.reduceEqDiff, wpV_kd, wpV_tH, h, e0, e1, e7, e8, e9, hw.iaddr, hw.at hi']) | skip) | ((with_reducible first | refine cond_split (fun h => ?_) (fun h => ?_) | refine guardK_split (fun h => ?_) (fun h => ?_) | refine guardD3_split (fun h => ?_) (fun h => ?_)) <;> ((try simp only [Bool.not_eq_true', Bool.not_eq_false'] at h); first | (simp (maxSteps := 2000000) (disch := first | omega | assumption | exact idP rfl | exact idP (bL rfl)) only [go_sem, reduceIte, Nat.reduceEqDiff, wpV_kd, wpV_tH, h, e0, e1, e7, e8, e9, hw.iaddr, hw.at hi']) | skip)) | ((with_reducible refine (t_in).mono ?_); rintro _ _ ⟨rfl, rfl⟩) | (with_reducible intro bk hbk; try have hnk := (fresh_set hbk).1) | (simp (maxSteps := 2000000) (disch := first | omega | assumption | exact idP rfl | exact idP (bL rfl)) only [go_sem, reduceIte, Nat.reduceEqDiff, wpV_kd, wpV_tH, e0, e1, e7, e8, e9, hw.iaddr, hw.at hi'])))
        · exact hR _ _ (sB) (by rw [bad (by omega)])
        · exact hK _ _ ⟨rfl, 1, by omega, sT1 @e0, sT1 @e1, sT1 @e7, sT1 @e8, by refine sS1 @e9 ?_; rfl, hj.next hi' (by omega) (by omega)⟩ (by refine sS2 @ctrV_int @e9 ?_; omega)
      · have hi2 : i - 1 < xs.length := by omega
        have et : (i : Int) - 1 = ((i - 1 : Nat) : Int) := by omega
        (repeat' (first | ((with_reducible first | refine cond_dec (fun h => ?_) (fun h => ?_) | refine guardK_dec (fun h => ?_) (fun h => ?_) | refine guardD3_dec (fun h => ?_) (fun h => ?_)) <;> first | (exfalso; omega) | (simp (maxSteps := 2000000) (disch := first | omega | assumption | exact idP rfl | exact idP (bL rfl)) only [go_sem, reduceIte, Nat.reduceEqDiff, wpV_kd, wpV_tH, h, e0, e1, e7, e8, e9, et, hw.iaddr, hw.at hi', hw.at hi2]) | skip) | ((with_reducible first | refine cond_split (fun h => ?_) (fun h => ?_) | refine guardK_split (fun h => ?_) (fun h => ?_) | refine guardD3_split (fun h => ?_) (fun h => ?_)) <;> ((try simp only [Bool.not_eq_true', Bool.not_eq_false'] at h); first | (simp (maxSteps := 2000000) (disch := first | omega | assumption | exact idP rfl | exact idP (bL rfl)) only [go_sem, reduceIte, Nat.reduceEqDiff, wpV_kd, wpV_tH, h, e0, e1, e7, e8, e9, et, hw.iaddr, hw.at hi', hw.at hi2]) | skip)) | ((with_reducible refine (t_in).mono ?_); rintro _ _ ⟨rfl, rfl⟩) | (with_reducible intro bk hbk; try have hnk := (fresh_set hbk).1) | (simp (maxSteps := 2000000) (disch := first | omega | assumption | exact idP rfl | exact idP (bL rfl)) only [go_sem, reduceIte, Nat.reduceEqDiff, wpV_kd, wpV_tH, e0, e1, e7, e8, e9, et, hw.iaddr, hw.at hi', hw.at hi2])))
        all_goals first
          | exact hR _ _ (sB) (by rw [bad (by omega)])
          | exact hK _ _ ⟨rfl, i + 1, by omega, sT1 @e0, sT1 @e1, sT1 @e7, sT1 @e8, by refine sS1 @e9 ?_; rfl, hj.next hi' (by omega) (by omega)⟩ (by refine sS2 @ctrV_int @e9 ?_; omega)
    · obtain rfl : i = xs.length := by omega
      refine sS0 ?_
      exact hR _ _ (sB) (by rw [setB_iff.2 hj])
noncomputable def sizeB (s : SysS) : Int := if sysB s = true then sizeF s.vars else 0
theorem t_SizeOfB {v : V} {s : SysS} (hv : isSys s v) : VCall Try.prog n_spec_SizeOf [v] M (fun r M' => M = M' ∧ r = .sc (.int .i64 (sizeB s))) := by
  by_cases hs : sysB s = true
  · refine (t_SizeOf hv ((sysB_iff s).1 hs)).mono ?_
    rintro r _ ⟨rfl, rfl⟩
    exact ⟨rfl, by simp [sizeB, hs]⟩
  · refine VCall.pure fun R hR => v_spec_SizeOf rfl ?_
    have hv0 := hv
    obtain ⟨a, b, rfl, ha, hb⟩ := hv
    (repeat' (first | ((with_reducible first | refine cond_dec (fun h => ?_) (fun h => ?_) | refine guardK_dec (fun h => ?_) (fun h => ?_) | refine guardD3_dec (fun h => ?_) (fun h => ?_)) <;> first | (exfalso; omega) | (simp (maxSteps := 2000000) (disch := first | omega | assumption | exact idP rfl | exact idP (bL rfl)) only [go_sem, reduceIte, Nat.reduceEqDiff, wpV_kd, wpV_tH, h]) | skip) | ((with_reducible first | refine cond_split (fun h => ?_) (fun h => ?_) | refine guardK_split (fun h => ?_) (fun h => ?_) | refine guardD3_split (fun h => ?_) (fun h => ?_)) <;> ((try simp only [Bool.not_eq_true', Bool.not_eq_false'] at h); first | (simp (maxSteps := 2000000) (disch := first | omega | assumption | exact idP rfl | exact idP (bL rfl)) only [go_sem, reduceIte, Nat.reduceEqDiff, wpV_kd, wpV_tH, h]) | skip)) | (with_reducible intro bk hbk; try have hnk := (fresh_set hbk).1) | (simp (maxSteps := 2000000) (disch := first | omega | assumption | exact idP rfl | exact idP (bL rfl)) only [go_sem, reduceIte, Nat.reduceEqDiff, wpV_kd, wpV_tH])))
    refine (t_SystemValidS hv0).mono ?_
    rintro _ _ ⟨rfl, rfl⟩
    simp only [Bool.not_eq_true] at hs
    refine sS1 @hs ?_
    exact hR _ _ (sB) (by simp [sizeB, hs])
theorem sizeB_bd (s : SysS) : 0 ≤ sizeB s ∧ sizeB s ≤ 400 ∧ (0 < sizeB s ↔ sysB s = true) := by
  unfold sizeB
  split
  · rename_i h
    have := ((sysB_iff s).1 h).sz
    exact ⟨by omega, by omega, by simp [h]; omega⟩
  · rename_i h; simp [h]
noncomputable def setV (s : SysS) (xs : List Int) : Bool := sysB s && setB (sizeF s.vars) xs
theorem setV_eq (s : SysS) (xs : List Int) : setV s xs = (decide (0 < sizeB s) && setB (sizeB s) xs) := by
  unfold setV
  cases h : sysB s with
  | true => simp [sizeB, h, ((sysB_iff s).1 h).sz.1]; intro; have := ((sysB_iff s).1 h).sz.1; omega
  | false => simp [sizeB, h]
theorem t_specSetValid {v w : V} {s : SysS} {xs : List Int} (hv : isSys s v) (hw : LI w xs) (hl : xs.length ≤ 1048576) : VCall Try.prog n_spec_SetValid [v, w] M (fun r M' => M = M' ∧ r = .sc (.bool (setV s xs))) := by
  refine VCall.pure fun R hR => v_spec_SetValid rfl ?_
  have hv0 := hv
  obtain ⟨a, b, rfl, ha, hb⟩ := hv
  have hbd := sizeB_bd s
  rw [setV_eq] at hR
  (repeat' (first | ((with_reducible first | refine cond_dec (fun h => ?_) (fun h => ?_) | refine guardK_dec (fun h => ?_) (fun h => ?_) | refine guardD3_dec (fun h => ?_) (fun h => ?_)) <;> first | (exfalso; omega) | (simp (maxSteps := 2000000) (disch := first | omega | assumption | exact idP rfl | exact idP (bL rfl)) only [go_sem, reduceIte, Nat.reduceEqDiff, wpV_kd, wpV_tH, h]) | skip) | ((with_reducible first | refine cond_split (fun h => ?_) (fun h => ?_) | refine guardK_split (fun h => ?_) (fun h => ?_) | refine guardD3_split (fun h => ?_) (fun h => ?_)) <;> ((try simp only [Bool.not_eq_true', Bool.not_eq_false'] at h); first | (simp (maxSteps := 2000000) (disch := first | omega | assumption | exact idP rfl | exact idP (bL rfl)) only [go_sem, reduceIte, Nat.reduceEqDiff, wpV_kd, wpV_tH, h]) | skip)) | ((with_reducible refine (t_SizeOfB hv0).mono ?_); rintro _ _ ⟨rfl, rfl⟩) | (with_reducible intro bk hbk; try have hnk := (fresh_set hbk).1) | (simp (maxSteps := 2000000) (disch := first | omega | assumption | exact idP rfl | exact idP (bL rfl)) only [go_sem, reduceIte, Nat.reduceEqDiff, wpV_kd, wpV_tH])))
  refine loop_k (fun e M' => Sub M M' ∧ ∃ i : Nat, i ≤ xs.length ∧ e 1 = w ∧ e 5 = .sc (.int .i64 (sizeB s)) ∧ e 6 = .sc (.int .i64 i) ∧ AscTo (sizeB s) xs i) (fun e _ => ctrV xs.length (e 6)) ?_ ?_
  · exact ⟨sB, 0, by omega, sT0, sT0, by refine sS0 ?_; rfl, fun i h h2 => by omega⟩
  · rintro e M1 ⟨hsub, i, hi, e1, e5, e6, hj⟩ K hK
    refine sS4 @e1 @e5 @e6 @hw.len ?_
    refine cond_dec (fun h => ?_) (fun h => ?_)
    · have hi' : i < xs.length := by omega
      have bad : ¬ ((0 ≤ xs[i] ∧ xs[i] ≤ sizeB s - 1) ∧ (0 < i → xs[i - 1] < xs[i])) → setB (sizeB s) xs = false := fun hb => setB_false.2 fun hs => hb (hs i hi' hi')
      by_cases h0 : i = 0
      · subst h0
        (repeat' (first | ((with_reducible first | refine cond_dec (fun h => ?_) (fun h => ?_) | refine guardK_dec (fun h => ?_) (fun h => ?_) | refine guardD3_dec (fun h => ?_) (fun h => ?_)) <;> first | (exfalso; omega) | (simp (maxSteps := 2000000) (disch := first | omega | assumption | exact idP rfl | exact idP (bL rfl)) only [go_sem, reduceIte, Nat.reduceEqDiff, wpV_kd, wpV_tH, h, e1, e5, e6, hw.iaddr, hw.at hi']) | skip) | ((with_reducible first | refine cond_split (fun h => ?_) (fun h => ?_) | refine guardK_split (fun h => ?_) (fun h => ?_) | refine guardD3_split (fun h => ?_) (fun h => ?_)) <;> ((try simp only [Bool.not_eq_true', Bool.not_eq_false'] at h); first | (simp (maxSteps := 2000000) (disch := first | omega | assumption | exact idP rfl | exact idP (bL rfl)) only [go_sem, reduceIte, Nat.reduceEqDiff, wpV_kd, wpV_tH, h, e1, e5, e6, hw.iaddr, hw.at hi']) | skip)) | ((with_reducible refine (t_l1In).mono ?_); rintro _ _ ⟨rfl, rfl⟩) | (with_reducible intro bk hbk; try have hnk := (fresh_set hbk).1) | (simp (maxSteps := 2000000) (disch := first | omega | assumption | exact idP rfl | exact idP (bL rfl)) only [go_sem, reduceIte, Nat.reduceEqDiff, wpV_kd, wpV_tH, e1, e5, e6, hw.iaddr, hw.at hi'])))
        · exact hR _ _ hsub (by rw [bad (by omega), Bool.and_false])
        · exact hK _ _ ⟨hsub, 1, by omega, sT1 @e1, sT1 @e5, by refine sS1 @e6 ?_; rfl, hj.next hi' (by omega) (by omega)⟩ (by refine sS2 @ctrV_int @e6 ?_; omega)
      · have hi2 : i - 1 < xs.length := by omega
        have et : (i : Int) - 1 = ((i - 1 : Nat) : Int) := by omega
        (repeat' (first | ((with_reducible first | refine cond_dec (fun h => ?_) (fun h => ?_) | refine guardK_dec (fun h => ?_) (fun h => ?_) | refine guardD3_dec (fun h => ?_) (fun h => ?_)) <;> first | (exfalso; omega) | (simp (maxSteps := 2000000) (disch := first | omega | assumption | exact idP rfl | exact idP (bL rfl)) only [go_sem, reduceIte, Nat.reduceEqDiff, wpV_kd, wpV_tH, h, e1, e5, e6, et, hw.iaddr, hw.at hi', hw.at hi2]) | skip) | ((with_reducible first | refine cond_split (fun h => ?_) (fun h => ?_) | refine guardK_split (fun h => ?_) (fun h => ?_) | refine guardD3_split (fun h => ?_) (fun h => ?_)) <;> ((try simp only [Bool.not_eq_true', Bool.not_eq_false'] at h); first | (simp (maxSteps := 2000000) (disch := first | omega | assumption | exact idP rfl | exact idP (bL rfl)) only [go_sem, reduceIte, Nat.reduceEqDiff, wpV_kd, wpV_tH, h, e1, e5, e6, et, hw.iaddr, hw.at hi', hw.at hi2]) | skip)) | ((with_reducible refine (t_l1In).mono ?_); rintro _ _ ⟨rfl, rfl⟩) | (with_reducible intro bk hbk; try have hnk := (fresh_set hbk).1) | (simp (maxSteps := 2000000) (disch := first | omega | assumption | exact idP rfl | exact idP (bL rfl)) only [go_sem, reduceIte, Nat.reduceEqDiff, wpV_kd, wpV_tH, e1, e5, e6, et, hw.iaddr, hw.at hi', hw.at hi2])))
        all_goals first
          | exact hR _ _ hsub (by rw [bad (by omega), Bool.and_false])
          | exact hK _ _ ⟨hsub, i + 1, by omega, sT1 @e1, sT1 @e5, by refine sS1 @e6 ?_; rfl, hj.next hi' (by omega) (by omega)⟩ (by refine sS2 @ctrV_int @e6 ?_; omega)
    · obtain rfl : i = xs.length := by omega
      refine sS0 ?_
      exact hR _ _ hsub (by rw [setB_iff.2 hj, Bool.and_true])
theorem t_impSetValid {v w : V} {s : SysS} {xs : List Int} (hv : isSys s v) (hz : SysSz s) (hw : LI w xs) (hl : xs.length ≤ 1048576) : VCall Try.prog n_impl_SetValid [v, w] M (fun r M' => M = M' ∧ r = .sc (.bool (setV s xs))) := by
  refine VCall.pure fun R hR => v_impl_SetValid rfl ?_
  have hv0 := hv
  obtain ⟨a, b, rfl, ha, hb⟩ := hv
  (repeat' (first | ((with_reducible first | refine cond_dec (fun h => ?_) (fun h => ?_) | refine guardK_dec (fun h => ?_) (fun h => ?_) | refine guardD3_dec (fun h => ?_) (fun h => ?_)) <;> first | (exfalso; omega) | (simp (maxSteps := 2000000) (disch := first | omega | assumption | exact idP rfl | exact idP (bL rfl)) only [go_sem, reduceIte, Nat.reduceEqDiff, wpV_kd, wpV_tH, h]) | skip) | ((with_reducible first | refine cond_split (fun h => ?_) (fun h => ?_) | refine guardK_split (fun h => ?_) (fun h => ?_) | refine guardD3_split (fun h => ?_) (fun h => ?_)) <;> ((try simp only [Bool.not_eq_true', Bool.not_eq_false'] at h); first | (simp (maxSteps := 2000000) (disch := first | omega | assumption | exact idP rfl | exact idP (bL rfl)) only [go_sem, reduceIte, Nat.reduceEqDiff, wpV_kd, wpV_tH, h]) | skip)) | ((with_reducible refine (t_impSystemValid hv0 hz).mono ?_); rintro _ _ ⟨rfl, rfl⟩) | (with_reducible intro bk hbk; try have hnk := (fresh_set hbk).1) | (simp (maxSteps := 2000000) (disch := first | omega | assumption | exact idP rfl | exact idP (bL rfl)) only [go_sem, reduceIte, Nat.reduceEqDiff, wpV_kd, wpV_tH])))
  · have hs := (sysB_iff s).1 h
    have := hs.sz
    (repeat' (first | ((with_reducible first | refine cond_dec (fun h => ?_) (fun h => ?_) | refine guardK_dec (fun h => ?_) (fun h => ?_) | refine guardD3_dec (fun h => ?_) (fun h => ?_)) <;> first | (exfalso; omega) | (simp (maxSteps := 2000000) (disch := first | omega | assumption | exact idP rfl | exact idP (bL rfl)) only [go_sem, reduceIte, Nat.reduceEqDiff, wpV_kd, wpV_tH, h, h]) | skip) | ((with_reducible first | refine cond_split (fun h => ?_) (fun h => ?_) | refine guardK_split (fun h => ?_) (fun h => ?_) | refine guardD3_split (fun h => ?_) (fun h => ?_)) <;> ((try simp only [Bool.not_eq_true', Bool.not_eq_false'] at h); first | (simp (maxSteps := 2000000) (disch := first | omega | assumption | exact idP rfl | exact idP (bL rfl)) only [go_sem, reduceIte, Nat.reduceEqDiff, wpV_kd, wpV_tH, h, h]) | skip)) | ((with_reducible refine (t_impSize ha hs.vars hs.v5).mono ?_); rintro _ _ ⟨rfl, rfl⟩) | ((with_reducible refine (t_setOk hw hl (by omega)).mono ?_); rintro _ _ ⟨rfl, rfl⟩) | (with_reducible intro bk hbk; try have hnk := (fresh_set hbk).1) | (simp (maxSteps := 2000000) (disch := first | omega | assumption | exact idP rfl | exact idP (bL rfl)) only [go_sem, reduceIte, Nat.reduceEqDiff, wpV_kd, wpV_tH, h])))
    exact hR _ _ (sB) (by simp [setV, h])
  · exact hR _ _ (sB) (by simp [setV, h])
end Go.M2

namespace Go.M2
open Go.Proofs
variable {M : MH}
def mkL (n : Nat) (p : Nat → Bool) : List Bool := (List.range n).map p
theorem mkL_len {n : Nat} {p : Nat → Bool} : (mkL n p).length = n := by simp [mkL]
theorem mkL_get {n : Nat} {p : Nat → Bool} {i : Nat} (h : i < (mkL n p).length) : (mkL n p)[i] = p i := by simp [mkL]
theorem mkL_ext {n : Nat} {p q : Nat → Bool} (h : ∀ i, i < n → p i = q i) : mkL n p = mkL n q := by
  unfold mkL
  exact List.map_congr_left fun i hi => h i (List.mem_range.1 hi)
theorem mkL_set {n k : Nat} {p q : Nat → Bool} (h : ∀ i, i < n → q i = (p i || decide (i = k))) : (mkL n p).set k true = mkL n q := by
  apply List.ext_getElem
  · simp [mkL]
  · intro i h1 h2
    have hi : i < n := by rw [mkL_len] at h2; exact h2
    rw [List.getElem_set]
    split
    · rename_i e; subst e; rw [mkL_get, h _ hi]; simp
    · rename_i e
      have e' : ¬ i = k := fun h => e h.symm
      rw [mkL_get, mkL_get, h _ hi]; simp [e']
theorem mkL_none {n : Nat} : List.replicate n false = mkL n (fun _ => false) := by
  unfold mkL
  rw [List.map_const', List.length_range]
theorem zeros_vb' (n : Nat) : (zeros [AV.bool false] n).map V.sc = (List.replicate n false).map vb := by
  induction n with
  | zero => rfl
  | succ n ih => simp only [zeros, List.replicate_succ, List.flatten_cons, List.map_append, List.map_cons] at ih ⊢; rw [ih]; rfl
theorem set_vb' {bs : List Bool} {i : Nat} {b : Bool} : (bs.map vb).set i (.sc (.bool b)) = (bs.set i b).map vb := by rw [List.map_set]; rfl
theorem len_vb' {bs : List Bool} : (bs.map vb).length = bs.length := List.length_map ..
def selL (n : Nat) (p : Nat → Bool) : List Int := ((List.range n).filter p).map (fun i : Nat => (i : Int))
theorem selL_succ {n : Nat} {p : Nat → Bool} : selL (n + 1) p = if p n = true then selL n p ++ [(n : Int)] else selL n p := by
  unfold selL
  rw [List.range_succ, List.filter_append]
  cases h : p n <;> simp [h]
theorem selL_len {n : Nat} {p : Nat → Bool} : (selL n p).length ≤ n := by
  unfold selL
  rw [List.length_map]
  exact Nat.le_trans (List.length_filter_le ..) (by simp)
theorem selL_ext {n : Nat} {p q : Nat → Bool} (h : ∀ i, i < n → p i = q i) : selL n p = selL n q := by
  unfold selL
  rw [List.filter_congr fun i hi => h i (List.mem_range.1 hi)]
theorem mem_selL {n : Nat} {p : Nat → Bool} {x : Int} : x ∈ selL n p ↔ ∃ i : Nat, i < n ∧ p i = true ∧ (i : Int) = x := by
  unfold selL
  simp only [List.mem_map, List.mem_filter, List.mem_range]
  constructor
  · rintro ⟨i, ⟨h1, h2⟩, h3⟩; exact ⟨i, h1, h2, h3⟩
  · rintro ⟨i, h1, h2, h3⟩; exact ⟨i, ⟨h1, h2⟩, h3⟩
def inL (xs : List Int) (i : Nat) : Bool := decide ((i : Int) ∈ xs)
theorem t_l4Marks {w : V} {xs : List Int} {n : Nat} (hw : LI w xs) (hn : n ≤ 1048576) (hl : xs.length ≤ 1048576) (hin : ∀ x ∈ xs, 0 ≤ x ∧ x < (n : Int)) :
    VCall Try.prog n_spec_l4Marks [w, .sc (.int .i64 n)] M (fun r M' => Gr 1 M M' r ((mkL n (inL xs)).map vb)) := by
  refine VCall.plain fun R hR => v_spec_l4Marks rfl ?_
  refine sS0 ?_
  refine mks3 (by omega) (by simp [mostCells]; omega) (by simp [mostCells]; omega) ?_
  intro b9 hb9
  simp (maxSteps := 2000000) (disch := first | omega | assumption | exact idP rfl | exact idP (bL rfl)) only [go_sem, reduceIte, Nat.reduceEqDiff, wpV_kd, wpV_tH, zeros_vb', mkL_none]
  refine loop_k (fun e M' => ∃ i : Nat, i ≤ xs.length ∧ e 5 = .sc (.sl (some (b9, 0)) n n true 1) ∧ e 0 = w ∧ e 6 = .sc (.int .i64 i) ∧ Sub M M' ∧ M' b9 = some ((mkL n (inL (xs.take i))).map vb)) (fun e _ => ctrV xs.length (e 6)) ?_ ?_
  · refine ⟨0, by omega, sT0, sT0, by refine sS0 ?_; rfl, (Sub.refl _).set hb9, ?_⟩
    refine sS0 ?_
    rw [mkL_ext]
    intro i hi; simp [inL]
  · rintro e M1 ⟨i, hi, e5, e0, e6, hsub, hm⟩ K hK
    refine sS4 @e0 @e5 @e6 @hw.len ?_
    refine cond_dec (fun h => ?_) (fun h => ?_)
    · have hi' : i < xs.length := by omega
      have hxi := hin _ (List.getElem_mem hi')
      have hso : xs[i].toNat < ((mkL n (inL (xs.take i))).map vb).length := by rw [len_vb', mkL_len]; omega
      simp (maxSteps := 2000000) (disch := first | omega | assumption | exact idP rfl | exact idP (bL rfl)) only [go_sem, reduceIte, Nat.reduceEqDiff, wpV_kd, wpV_tH, e0, e5, e6, hw.iaddr, hw.at hi', hm]
      refine hK _ _ ⟨i + 1, by omega, sT0, sT0, by refine sS0 ?_; rfl, hsub.set hb9, ?_⟩ (by refine sS2 @ctrV_int @e6 ?_; omega)
      refine sS0 ?_
      rw [set_vb', mkL_set]
      intro j hj
      simp only [inL, take_snoc hi', List.mem_append, List.mem_singleton, Bool.decide_or]
      congr 1
      apply decide_eq_decide.2
      omega
    · obtain rfl : i = xs.length := by omega
      rw [List.take_length] at hm
      refine sS1 @e5 ?_
      exact hR _ _ ⟨hsub, fun b' h' => by simp [blkV] at h'; subst h'; exact hb9, .inr ⟨b9, n, true, rfl, hm, by rw [len_vb', mkL_len]; omega⟩⟩
end Go.M2

namespace Go.M2
open Go.Proofs
variable {M : MH}
theorem t_listOf {w : V} {n : Nat} {p : Nat → Bool} (hw : LB w (mkL n p)) (hn : n ≤ 1048576) : VCall Try.prog n_impl_listOf [w] M (fun r M' => Gr 1 M M' r ((selL n p).map vi)) := by
  refine VCall.plain fun R hR => v_impl_listOf rfl ?_
  have hlen := hw.len
  rw [mkL_len] at hlen
  refine sS1 @hlen ?_
  refine loop_k (fun e M' => ∃ i : Nat, i ≤ n ∧ e 6 = w ∧ e 7 = .sc (.int .i64 n) ∧ e 8 = .sc (.int .i64 i) ∧ Gr 1 M M' (e 3) ((selL i p).map vi)) (fun e _ => ctrV n (e 8)) ?_ ?_
  · exact ⟨0, by omega, sT0, sT0, by refine sS0 ?_; rfl, by refine sS0 ?_; exact .nil (Sub.refl _)⟩
  · rintro e M1 ⟨i, hi, e6, e7, e8, hg⟩ K hK
    have hsl : (selL i p).length ≤ i := selL_len
    refine sS3 @e6 @e7 @e8 ?_
    refine cond_dec (fun h => ?_) (fun h => ?_)
    · have hi' : i < (mkL n p).length := by rw [mkL_len]; omega
      simp (maxSteps := 2000000) (disch := first | omega | assumption | exact idP rfl | exact idP (bL rfl)) only [go_sem, reduceIte, Nat.reduceEqDiff, wpV_kd, wpV_tH, e6, e7, e8, hw.iaddr, hw.at hi', mkL_get]
      refine cond_split (fun h2 => ?_) (fun h2 => ?_)
      · refine sS0 ?_
        intro bt hbt
        refine app_int hg hbt (by omega) (by omega) ?_
        intro s' M' hg' _
        refine sS0 ?_
        exact hK _ _ ⟨i + 1, by omega, sT0, sT0, by refine sS0 ?_; rfl, by refine sS0 ?_; rw [selL_succ, if_pos h2]; exact hg'⟩ (by refine sS2 @ctrV_int @e8 ?_; omega)
      · refine sS0 ?_
        exact hK _ _ ⟨i + 1, by omega, sT0, sT0, by refine sS0 ?_; rfl, by refine sS0 ?_; rw [selL_succ, if_neg (by simpa using h2)]; exact hg⟩ (by refine sS2 @ctrV_int @e8 ?_; omega)
    · obtain rfl : i = n := by omega
      refine sS0 ?_
      refine (VCall.give0 hg fun u M2 hu hs2 => (t_cloneInt hu.li (by omega)).mono fun r M' hr => hr.base hs2).mono ?_
      rintro r M2 hg2
      refine sS0 ?_
      exact hR _ _ hg2
theorem t_l4List {w : V} {n : Nat} {p : Nat → Bool} (hw : LB w (mkL n p)) (hn : n ≤ 1048576) : VCall Try.prog n_spec_l4List [w] M (fun r M' => Gr 1 M M' r ((selL n p).map vi)) := by
  refine VCall.plain fun R hR => v_spec_l4List rfl ?_
  have hlen := hw.len
  rw [mkL_len] at hlen
  refine sS0 ?_
  intro b0 hb0
  refine loop_k (fun e M' => ∃ i : Nat, i ≤ n ∧ e 0 = w ∧ e 4 = .sc (.int .i64 i) ∧ Gr 1 M M' (e 3) ((selL i p).map vi)) (fun e _ => ctrV n (e 4)) ?_ ?_
  · exact ⟨0, by omega, sT0, by refine sS0 ?_; rfl, by refine sS0 ?_; exact Gr.new' (Sub.refl _) hb0 rfl⟩
  · rintro e M1 ⟨i, hi, e0, e4, hg⟩ K hK
    have hsl : (selL i p).length ≤ i := selL_len
    refine sS3 @e0 @e4 @hlen ?_
    refine cond_dec (fun h => ?_) (fun h => ?_)
    · have hi' : i < (mkL n p).length := by rw [mkL_len]; omega
      simp (maxSteps := 2000000) (disch := first | omega | assumption | exact idP rfl | exact idP (bL rfl)) only [go_sem, reduceIte, Nat.reduceEqDiff, wpV_kd, wpV_tH, e0, e4, hw.iaddr, hw.at hi', mkL_get]
      refine cond_split (fun h2 => ?_) (fun h2 => ?_)
      · refine sS2 @e0 @e4 ?_
        intro bt hbt
        refine app_int hg hbt (by omega) (by omega) ?_
        intro s' M' hg' _
        refine sS2 @e0 @e4 ?_
        exact hK _ _ ⟨i + 1, by omega, sT0, by refine sS0 ?_; rfl, by refine sS0 ?_; rw [selL_succ, if_pos h2]; exact hg'⟩ (by refine sS2 @ctrV_int @e4 ?_; omega)
      · refine sS2 @e0 @e4 ?_
        exact hK _ _ ⟨i + 1, by omega, sT0, by refine sS0 ?_; rfl, by refine sS0 ?_; rw [selL_succ, if_neg (by simpa using h2)]; exact hg⟩ (by refine sS2 @ctrV_int @e4 ?_; omega)
    · obtain rfl : i = n := by omega
      refine sS0 ?_
      exact hR _ _ hg
def behB (tab : List (List Int)) (xs : List Int) (i : Nat) : Bool := xs.any fun x => decide ((i : Int) ∈ tab.getD x.toNat [])
theorem behB_snoc {tab : List (List Int)} {xs : List Int} {k i : Nat} (hk : k < xs.length) : behB tab (xs.take (k + 1)) i = (behB tab (xs.take k) i || decide ((i : Int) ∈ tab.getD xs[k].toNat [])) := by
  unfold behB
  rw [take_snoc hk, List.any_append]
  simp
end Go.M2

namespace Go.M2
open Go.Proofs
variable {M : MH}
theorem f_l4Marks {w : V} {xs : List Int} {n : Nat} (hw : LI w xs) (hn : n ≤ 1048576) (hl : xs.length ≤ 1048576) (hin : ∀ x ∈ xs, 0 ≤ x ∧ x < (n : Int)) :
    VCall Try.prog n_spec_l4Marks [w, .sc (.int .i64 n)] M (fun r M' => M = M' ∧ LB r (mkL n (inL xs))) :=
  (VCall.fr1 (t_l4Marks hw hn hl hin)).mono fun r M' ⟨h1, h2⟩ => ⟨h1, h2.lb⟩
def bB (tab : List (List Int)) (m : Nat → Bool) (k i : Nat) : Bool := (List.range k).any fun q => m q && decide ((i : Int) ∈ tab.getD q [])
theorem bB_succ {tab : List (List Int)} {m : Nat → Bool} {k i : Nat} (hk : k < tab.length) : bB tab m (k + 1) i = (bB tab m k i || (m k && inL tab[k] i)) := by
  unfold bB
  rw [List.range_succ, List.any_append]
  simp [inL, List.getD, hk]
theorem bB_beh {tab : List (List Int)} {xs : List Int} {i : Nat} (h : ∀ x ∈ xs, 0 ≤ x ∧ x < (tab.length : Int)) : bB tab (inL xs) tab.length i = behB tab xs i := by
  unfold bB behB
  rw [Bool.eq_iff_iff]
  simp only [List.any_eq_true, List.mem_range, Bool.and_eq_true, inL, decide_eq_true_eq]
  constructor
  · rintro ⟨q, h1, h2, h3⟩
    exact ⟨_, h2, by simpa using h3⟩
  · rintro ⟨x, h1, h2⟩
    have := h x h1
    exact ⟨x.toNat, by omega, by rw [Int.toNat_of_nonneg this.1]; exact h1, h2⟩
theorem t_l4Behind {v w : V} {tab : List (List Int)} {m : Nat → Bool} (hv : LII v tab) (hw : LB w (mkL tab.length m)) (hn : tab.length ≤ 1048576)
    (htl : ∀ r ∈ tab, r.length ≤ 1048576 ∧ ∀ x ∈ r, 0 ≤ x ∧ x < (tab.length : Int)) :
    VCall Try.prog n_spec_l4Behind [v, w] M (fun r M' => M = M' ∧ LB r (mkL tab.length (bB tab m tab.length))) := by
  refine VCall.froz fun R hP hG => v_spec_l4Behind rfl ?_
  refine sS1 @hv.len ?_
  refine mks3 (by omega) (by simp [mostCells]; omega) (by simp [mostCells]; omega) ?_
  intro b9 hb9
  simp (maxSteps := 2000000) (disch := first | omega | assumption | exact idP rfl | exact idP (bL rfl)) only [go_sem, reduceIte, Nat.reduceEqDiff, wpV_kd, wpV_tH, zeros_vb, mkL_none]
  refine loop_k (fun e M' => ∃ i : Nat, i ≤ tab.length ∧ e 0 = v ∧ e 1 = w ∧ e 5 = .sc (.sl (some (b9, 0)) tab.length tab.length true 1) ∧ e 6 = .sc (.int .i64 i) ∧ Sub M M' ∧ M' b9 = some ((mkL tab.length (bB tab m i)).map vb)) (fun e _ => ctrV tab.length (e 6)) ?_ ?_
  · refine ⟨0, by omega, sT0, sT0, sT0, by refine sS0 ?_; rfl, (Sub.refl _).set hb9, ?_⟩
    refine sS0 ?_
    rw [mkL_ext]
    intro i hi; simp [bB]
  · rintro e M1 ⟨i, hi, e0, e1, e5, e6, hsub, hm⟩ K hK
    refine sS5 @e0 @e1 @e5 @e6 @hv.len ?_
    refine cond_dec (fun h => ?_) (fun h => ?_)
    · have hi' : i < tab.length := by omega
      have hrow := hv.elt hi'
      have hrl := htl _ (List.getElem_mem hi')
      try simp (maxSteps := 2000000) (disch := first | omega | assumption | exact idP rfl | exact idP (bL rfl)) only [go_sem, reduceIte, Nat.reduceEqDiff, wpV_kd, wpV_tH, e0, e1, e5, e6]
      refine loop_k (fun e' M' => ∃ j : Nat, j ≤ tab[i].length ∧ e' 0 = v ∧ e' 1 = w ∧ e' 5 = .sc (.sl (some (b9, 0)) tab.length tab.length true 1) ∧ e' 6 = .sc (.int .i64 i) ∧ e' 7 = .sc (.int .i64 j) ∧ Sub M M' ∧ M' b9 = some ((mkL tab.length (fun q => bB tab m i q || (m i && inL (tab[i].take j) q))).map vb)) (fun e' _ => ctrV tab[i].length (e' 7)) ?_ ?_
      · refine ⟨0, by omega, sT0, sT0, sT0, sT0, by refine sS0 ?_; rfl, hsub, ?_⟩
        rw [hm, mkL_ext (q := fun q => bB tab m i q || (m i && inL (tab[i].take 0) q))]
        intro i hi; simp [inL]
      · rintro e' M2 ⟨j, hj, f0, f1, f5, f6, f7, hsub2, hm2⟩ K2 hK2
        refine sS7 @f0 @f1 @f5 @f6 @f7 @hv.iaddr @hrow.len ?_
        refine cond_dec (fun h => ?_) (fun h => ?_)
        · have hj' : j < tab[i].length := by omega
          have hxj := hrl.2 _ (List.getElem_mem hj')
          have hi2 : i < (mkL tab.length m).length := by rw [mkL_len]; exact hi'
          have hwl := hw.iaddr (k := .i64) (a := (i : Int)) (by omega) (by rw [mkL_len]; omega)
          have hso : tab[i][j].toNat < ((mkL tab.length (fun q => bB tab m i q || (m i && inL (tab[i].take j) q))).map vb).length := by rw [len_vb', mkL_len]; omega
          simp (maxSteps := 2000000) (disch := first | omega | assumption | exact idP rfl | exact idP (bL rfl)) only [go_sem, reduceIte, Nat.reduceEqDiff, wpV_kd, wpV_tH, f0, f1, f5, f6, f7, hwl, hw.at hi2, mkL_get]
          refine cond_split (fun h2 => ?_) (fun h2 => ?_)
          · simp (maxSteps := 2000000) (disch := first | omega | assumption | exact idP rfl | exact idP (bL rfl)) only [go_sem, reduceIte, Nat.reduceEqDiff, wpV_kd, wpV_tH, f0, f1, f5, f6, f7, hv.iaddr, hrow.iaddr, hrow.at hj', hm2]
            refine hK2 _ _ ⟨j + 1, by omega, sT0, sT0, sT0, sT0, by refine sS0 ?_; rfl, hsub2.set hb9, ?_⟩ (by refine sS2 @ctrV_int @f7 ?_; omega)
            refine sS0 ?_
            rw [set_vb', mkL_set]
            intro q hq
            simp only [h2, Bool.true_and, inL, take_snoc hj', List.mem_append, List.mem_singleton, Bool.decide_or, Bool.or_assoc]
            congr 2
            apply decide_eq_decide.2
            omega
          · refine sS5 @f0 @f1 @f5 @f6 @f7 ?_
            refine hK2 _ _ ⟨j + 1, by omega, sT0, sT0, sT0, sT0, by refine sS0 ?_; rfl, hsub2, ?_⟩ (by refine sS2 @ctrV_int @f7 ?_; omega)
            rw [hm2, mkL_ext]
            intro q hq
            simp [h2]
        · obtain rfl : j = tab[i].length := by omega
          rw [List.take_length] at hm2
          refine sS4 @f0 @f1 @f5 @f6 ?_
          refine hK _ _ ⟨i + 1, by omega, sT0, sT0, sT0, by refine sS0 ?_; rfl, hsub2, ?_⟩ (by refine sS3 @ctrV_int @e6 @f6 ?_; omega)
          rw [hm2, mkL_ext]
          intro q hq
          rw [bB_succ hi']
    · obtain rfl : i = tab.length := by omega
      refine sS1 @e5 ?_
      exact hG _ _ 1 _ ⟨hsub, fun b' h' => by simp [blkV] at h'; subst h'; exact hb9, .inr ⟨b9, _, true, rfl, hm, by rw [len_vb', mkL_len]; omega⟩⟩ fun u hu => hu.lb
theorem tabF_in {s : SysS} (hs : SysOk s) : ∀ r ∈ tabF s, r.length ≤ 1048576 ∧ ∀ x ∈ r, 0 ≤ x ∧ x < ((tabF s).length : Int) := by
  intro r hr
  obtain ⟨n, hn, rfl⟩ := List.mem_map.1 hr
  have hsz := hs.sz
  refine ⟨?_, fun x hx => ?_⟩
  · have := nextF_len hs (stGo s.vars n)
    simp [rowF]; omega
  · have := rowF_lt hs hx
    rw [tabF_len]; omega
theorem SetOk.in {n : Int} {xs : List Int} (h : SetOk n xs) : ∀ x ∈ xs, 0 ≤ x ∧ x < n := by
  intro x hx
  obtain ⟨i, hi, rfl⟩ := List.getElem_of_mem hx
  have := (h i hi hi).1
  omega
noncomputable def nextN (s : SysS) (xs : List Int) : List Int := if setV s xs = true then selL (tabF s).length (behB (tabF s) xs) else []
theorem setV_iff {s : SysS} {xs : List Int} : setV s xs = true ↔ SysOk s ∧ SetOk (sizeF s.vars) xs := by
  unfold setV
  rw [Bool.and_eq_true, sysB_iff, setB_iff]
theorem t_NextNumbers {v w : V} {s : SysS} {xs : List Int} (hv : isSys s v) (hw : LI w xs) (hl : xs.length ≤ 1048576) : VCall Try.prog n_spec_NextNumbers [v, w] M (fun r M' => M = M' ∧ LI r (nextN s xs)) := by
  refine VCall.froz fun R hP hG => v_spec_NextNumbers rfl ?_
  have hv0 := hv
  obtain ⟨a, b, rfl, ha, hb⟩ := hv
  (repeat' (first | ((with_reducible first | refine cond_dec (fun h => ?_) (fun h => ?_) | refine guardK_dec (fun h => ?_) (fun h => ?_) | refine guardD3_dec (fun h => ?_) (fun h => ?_)) <;> first | (exfalso; omega) | (simp (maxSteps := 2000000) (disch := first | omega | assumption | exact idP rfl | exact idP (bL rfl)) only [go_sem, reduceIte, Nat.reduceEqDiff, wpV_kd, wpV_tH, h]) | skip) | ((with_reducible first | refine cond_split (fun h => ?_) (fun h => ?_) | refine guardK_split (fun h => ?_) (fun h => ?_) | refine guardD3_split (fun h => ?_) (fun h => ?_)) <;> ((try simp only [Bool.not_eq_true', Bool.not_eq_false'] at h); first | (simp (maxSteps := 2000000) (disch := first | omega | assumption | exact idP rfl | exact idP (bL rfl)) only [go_sem, reduceIte, Nat.reduceEqDiff, wpV_kd, wpV_tH, h]) | skip)) | ((with_reducible refine (t_specSetValid hv0 hw hl).mono ?_); rintro _ _ ⟨rfl, rfl⟩) | (with_reducible intro bk hbk; try have hnk := (fresh_set hbk).1) | (simp (maxSteps := 2000000) (disch := first | omega | assumption | exact idP rfl | exact idP (bL rfl)) only [go_sem, reduceIte, Nat.reduceEqDiff, wpV_kd, wpV_tH])))
  · exact hP _ _ (sB) (by unfold nextN; rw [if_neg (by rw [h]; simp)]; exact .nil)
  · obtain ⟨hs, hset⟩ := setV_iff.1 h
    have hsz := hs.sz
    have htl := tabF_len s
    have hle : ((tabF s).length : Int) = sizeF s.vars := by omega
    have hsub : Sub M (M.set bk [a, b]) := sB
    refine (f_l4Steps hv0 hs).mono ?_
    rintro t _ ⟨rfl, ht⟩
    (repeat' (first | ((with_reducible first | refine cond_dec (fun h => ?_) (fun h => ?_) | refine guardK_dec (fun h => ?_) (fun h => ?_) | refine guardD3_dec (fun h => ?_) (fun h => ?_)) <;> first | (exfalso; omega) | (simp (maxSteps := 2000000) (disch := first | omega | assumption | exact idP rfl | exact idP (bL rfl)) only [go_sem, reduceIte, Nat.reduceEqDiff, wpV_kd, wpV_tH, h]) | skip) | ((with_reducible first | refine cond_split (fun h => ?_) (fun h => ?_) | refine guardK_split (fun h => ?_) (fun h => ?_) | refine guardD3_split (fun h => ?_) (fun h => ?_)) <;> ((try simp only [Bool.not_eq_true', Bool.not_eq_false'] at h); first | (simp (maxSteps := 2000000) (disch := first | omega | assumption | exact idP rfl | exact idP (bL rfl)) only [go_sem, reduceIte, Nat.reduceEqDiff, wpV_kd, wpV_tH, h]) | skip)) | ((with_reducible refine (t_SizeOf hv0 hs).mono ?_); rintro _ _ ⟨rfl, rfl⟩) | (with_reducible intro bk hbk; try have hnk := (fresh_set hbk).1) | (simp (maxSteps := 2000000) (disch := first | omega | assumption | exact idP rfl | exact idP (bL rfl)) only [go_sem, reduceIte, Nat.reduceEqDiff, wpV_kd, wpV_tH])))
    rw [← hle]
    refine (f_l4Marks hw (by omega) hl (by rw [hle]; exact hset.in)).mono ?_
    rintro m _ ⟨rfl, hm⟩
    refine sS0 ?_
    refine (t_l4Behind ht hm (by omega) (tabF_in hs)).mono ?_
    rintro q _ ⟨rfl, hq⟩
    refine sS0 ?_
    refine (t_l4List hq (by omega)).mono ?_
    rintro r M2 hg
    refine sS0 ?_
    refine hG _ _ _ _ (hg.base hsub) fun u hu => ?_
    have h3 := hu.li
    rw [selL_ext (q := behB (tabF s) xs) (fun i hi => bB_beh (by rw [hle]; exact hset.in))] at h3
    unfold nextN
    rw [if_pos h]
    exact h3
end Go.M2

namespace Go.M2
open Go.Proofs
variable {M : MH}
noncomputable def firstN (s : SysS) : Int := numF s.vars (firstF s)
theorem nextN_len {s : SysS} {xs : List Int} : (nextN s xs).length ≤ 400 := by
  unfold nextN
  split
  · rename_i h
    have := (setV_iff.1 h).1.sz
    have h2 := tabF_len s
    exact Nat.le_trans selL_len (by omega)
  · simp
end Go.M2

namespace Go.M2
theorem SetOk.mono {n m : Int} {xs : List Int} (h : SetOk n xs) (hnm : n ≤ m) : SetOk m xs := fun i hi hik => ⟨by have := (h i hi hik).1; omega, (h i hi hik).2⟩
theorem SetOk.snoc {n x : Int} {xs : List Int} (h : SetOk n xs) (h0 : 0 ≤ n) (hx : n ≤ x) : SetOk (x + 1) (xs ++ [x]) := by
  intro i hi _
  by_cases e : i < xs.length
  · have h1 := h i e e
    have e1 : (xs ++ [x])[i] = xs[i] := List.getElem_append_left e
    rw [e1]
    refine ⟨by omega, fun h2 => ?_⟩
    have e2 : (xs ++ [x])[i - 1] = xs[i - 1] := List.getElem_append_left (by omega)
    rw [e2]; exact h1.2 h2
  · have e3 : i = xs.length := by simp at hi; omega
    subst e3
    have e1 : (xs ++ [x])[xs.length] = x := by simp
    rw [e1]
    refine ⟨by omega, fun h2 => ?_⟩
    have hl : xs.length - 1 < xs.length := by omega
    have e2 : (xs ++ [x])[xs.length - 1] = xs[xs.length - 1] := List.getElem_append_left hl
    rw [e2]
    have := (h _ hl hl).1
    omega
theorem selL_ok {p : Nat → Bool} : ∀ n : Nat, SetOk (n : Int) (selL n p)
  | 0 => fun i hi => by simp [selL] at hi
  | n + 1 => by
    rw [selL_succ]
    have ih := selL_ok (p := p) n
    split
    · exact (ih.snoc (by omega) (Int.le_refl _))
    · exact ih.mono (by omega)
end Go.M2

namespace Go.M2
open Go.Proofs
variable {M : MH}
def In {α : Type} (L : V → List α → Prop) (v : V) (ys : List α) : Prop := L v ys ∨ (v = .sc .emp ∧ ys = [])
theorem In.get {α : Type} {L : V → List α → Prop} {v : V} {ys : List α} (h : In L v ys) (h0 : 0 < ys.length) : L v ys := by
  rcases h with h | ⟨_, rfl⟩
  · exact h
  · simp at h0
theorem In.len {α : Type} {L : V → List α → Prop} {v : V} {ys : List α} (h : In L v ys) (hl : ∀ v ys, L v ys → lenF (er v) = some (.int .i64 (ys.length : Int))) : lenF (er v) = some (.int .i64 (ys.length : Int)) := by
  rcases h with h | ⟨rfl, rfl⟩
  · exact hl _ _ h
  · rfl
def mx : Nat := 9223372036854775807
def LenOk {α : Type} (xs : List α) : Prop := xs.length ≤ 9223372036854775807
def RuleFit (r : RuleS) : Prop := r.when_.length ≤ 1048576 ∧ r.sets.length ≤ 1048576 ∧ r.terms.length ≤ 1048576 ∧ ∀ ts ∈ r.terms, ts.length ≤ 1048576
def SysFit (s : SysS) : Prop := s.vars.length ≤ 1048576 ∧ s.rules.length ≤ 1048576 ∧ ∀ r ∈ s.rules, RuleFit r
end Go.M2

namespace Go.M2
open Go.Proofs
variable {M : MH}
end Go.M2

namespace Go.M2
open Go.Proofs
variable {M : MH}
end Go.M2

namespace Go.M2
open Go.Proofs
variable {M : MH}
def catV {α : Type} (enc : α → List V) (xs : List α) : List V := (xs.map enc).flatten
theorem catV_len {α : Type} {enc : α → List V} {sz : Nat} (he : ∀ x, (enc x).length = sz) : ∀ xs : List α, (catV enc xs).length = xs.length * sz
  | [] => by simp [catV]
  | x :: t => by
    have := catV_len he t
    simp only [catV, List.map_cons, List.flatten_cons, List.length_append, he, List.length_cons, Nat.succ_mul] at this ⊢
    omega
theorem catV_snoc {α : Type} {enc : α → List V} {xs : List α} {x : α} : catV enc (xs ++ [x]) = catV enc xs ++ enc x := by simp [catV]
theorem catV_at {α : Type} {enc : α → List V} {sz : Nat} (he : ∀ x, (enc x).length = sz) {xs : List α} {i : Nat} (hi : i < xs.length) : ((catV enc xs).drop (i * sz)).take sz = enc xs[i] := by
  have e1 : xs = xs.take i ++ xs[i] :: xs.drop (i + 1) := by rw [← List.drop_eq_getElem_cons hi, List.take_append_drop]
  have e2 : catV enc xs = catV enc (xs.take i) ++ (enc xs[i] ++ catV enc (xs.drop (i + 1))) := by
    have e3 : catV enc xs = catV enc (xs.take i ++ xs[i] :: xs.drop (i + 1)) := congrArg (catV enc) e1
    rw [e3]
    simp only [catV, List.map_append, List.map_cons, List.flatten_append, List.flatten_cons]
  have h3 := catV_len he (xs.take i)
  have h4 : (xs.take i).length = i := by simp; omega
  rw [e2, List.drop_left' (by rw [h3, h4]), List.take_left' (he _)]
end Go.M2

namespace Go.M2
open Go.Proofs
variable {M : MH}
abbrev T3 := {l : List V // l.length = 3}
def z3 : T3 := ⟨[nil1, nil1, nil1], rfl⟩
end Go.M2

namespace Go.M2
open Go.Proofs
variable {M : MH}
theorem Mem.base {M0 M1 M : MH} {f : List (Nat × List V)} (h : Mem M1 M f) (hs : Sub M0 M1) : Mem M0 M f := ⟨hs.trans h.sub, fun p hp => hs.none (h.new p hp), h.nd, h.at_⟩
theorem Mem.tail {M0 M : MH} {p : Nat × List V} {f : List (Nat × List V)} (h : Mem M0 M (p :: f)) : Mem M0 M f := Mem.right (f := [p]) h
theorem Mem.hd {M0 M : MH} {b : Nat} {l : List V} {f : List (Nat × List V)} (h : Mem M0 M ((b, l) :: f)) : M b = some l := h.at_ _ (List.mem_cons_self ..)
def One (v : V) : Prop := oneV v = true ∧ cellsV v = some [v]
theorem Ow.flat {sz : Nat} {M : MH} {v : V} {l : List V} (h : Ow sz M v l) : flat v := by
  rcases h with ⟨_, k, rfl⟩ | ⟨b, n, ex, rfl, _⟩ <;> simp [Go.M2.flat]
theorem catV_flat {α : Type} {enc : α → List V} (he : ∀ x, flatL (enc x)) : ∀ xs : List α, flatL (catV enc xs)
  | [] => by simp [catV, flatL]
  | x :: t => flatL_all.2 fun v hv => by
    have ih := catV_flat he t
    simp only [catV, List.map_cons, List.flatten_cons, List.mem_append] at hv
    rcases hv with h1 | h1
    · exact flatL_all.1 (he x) v h1
    · exact flatL_all.1 ih v h1
theorem encT_flat (x : TermS) : flatL (encT x) := by simp [encT, flatL, flat]
end Go.M2

namespace Go.M2
open Go.Proofs
variable {M : MH}
theorem bin_xorN {a b : Int} (h0 : 0 ≤ a) (h1 : a < 4611686018427387904) (h2 : 0 ≤ b) (h3 : b < 4611686018427387904) :
    ∃ c : Int, binF .xor (.int .i64 a) (.int .i64 b) = some (.int .i64 c) ∧ 0 ≤ c ∧ c < 4611686018427387904 := by
  have ea : (BitVec.ofInt 64 a).toNat = a.toNat := by rw [BitVec.toNat_ofInt]; omega
  have eb : (BitVec.ofInt 64 b).toNat = b.toNat := by rw [BitVec.toNat_ofInt]; omega
  have hlt : a.toNat ^^^ b.toNat < 2 ^ 62 := Nat.xor_lt_two_pow (by omega) (by omega)
  have hlt' : a.toNat ^^^ b.toNat < 4611686018427387904 := hlt
  refine ⟨((a.toNat ^^^ b.toNat : Nat) : Int), ?_, by omega, by omega⟩
  have e : (BitVec.ofInt IntKind.i64.bits a ^^^ BitVec.ofInt IntKind.i64.bits b).toNat = a.toNat ^^^ b.toNat := by
    show (BitVec.ofInt 64 a ^^^ BitVec.ofInt 64 b).toNat = _
    rw [BitVec.toNat_xor, ea, eb]
  simp only [binF, isSh, intBin, Bool.false_eq_true, if_false, if_true, e]
  rw [wrap_in (by omega) (by omega)]
theorem kd_cut {P : Program} {Q : PostV} {e : EnvV} {l : List GOp} {s : List (Nat × List Nat)} {k : List Nat} (A : EnvV → MH → Prop) (h : ∀ K : EnvV → MH → Prop, (∀ e' M', A e' M' → K e' M') → wpDV P l s K e M)
    (hQ : ∀ e' M', A e' M' → Q .normal (keepV k e') M') : wpV P (.kd l s k) Q e M := by
  rw [wpV_kd]; exact h _ hQ
def isU (n : Int) (u : V) : Prop := u = .sc (.int .u8 n) ∧ 0 ≤ n ∧ n ≤ 255
abbrev LU : V → List Int → Prop := Ls isU
abbrev XU : V → List Int → Prop := In LU
theorem LU.at {v : V} {ys : List Int} (h : LU v ys) {i : Nat} (hi : i < ys.length) : ∃ n : Int, at1 v i = .sc (.int .u8 n) ∧ 0 ≤ n ∧ n ≤ 255 := by
  obtain ⟨h1, h2, h3⟩ := h.elt hi
  exact ⟨_, h1, h2, h3⟩
def rdC (w : V) (p : Int) : List V := [w, .sc (.int .i64 p)]
structure Rdr (w : V) (code : List Int) : Prop where
  u : XU w code
  l : code.length ≤ 2000
theorem t_pick {rb : Nat} {w : V} {code : List Int} {p n : Int} (hr : Rdr w code) (hm : M rb = some (rdC w p)) (h0 : 0 ≤ p) (h1 : p ≤ 1099511627776) :
    VCall Try.prog n_spec_l40Rd_pick [.sc (.ptr (some (rb, 0))), .sc (.int .i64 n)] M (fun r M' => M' = M.set rb (rdC w (p + 1)) ∧ ∃ k : Int, r = .sc (.int .i64 k) ∧ 0 ≤ k ∧ (1 ≤ n → k < n) ∧ (n < 1 → k = 0)) := by
  refine VCall.plain fun R hR => v_spec_l40Rd_pick rfl ?_
  obtain ⟨hw, hl⟩ := hr
  have hlen := hw.len fun _ _ h => h.len
  simp only [rdC] at hm
  by_cases hn : n < 1
  · have hd : decide (n < 1) = true := by simp [hn]
    refine sS2 @hm @hd ?_
    exact hR _ _ ⟨rfl, _, rfl, by omega, by omega, fun _ => by omega⟩
  have hd : decide (n < 1) = false := by simp [hn]
  by_cases hz : code.length = 0
  · have hz2 : decide ((code.length : Int) = 0) = true := by simp [hz]
    refine sS4 @hm @hd @hlen @hz2 ?_
    exact hR _ _ ⟨rfl, _, rfl, by omega, by omega, fun _ => by omega⟩
  have hz2 : decide ((code.length : Int) = 0) = false := decide_eq_false (by omega)
  have hw' : LU w code := hw.get (by omega)
  have e1 : p + 1 - 1 = p := by omega
  simp (maxSteps := 2000000) (disch := first | omega | assumption | exact idP rfl | exact idP (bL rfl)) only [go_sem, reduceIte, Nat.reduceEqDiff, wpV_tH, hm, hd, hlen, hz2, e1]
  refine cond_dec (fun hk => ?_) (fun hk => ?_)
  · obtain ⟨c, hc, c0, c1⟩ := hw'.at (i := p.toNat) (by omega)
    refine sS2 @hw'.iaddr @hc ?_
    have := Int.emod_nonneg c (b := n) (by omega)
    have := Int.emod_lt_of_pos c (b := n) (by omega)
    exact hR _ _ ⟨rfl, _, rfl, by omega, fun _ => by omega, fun _ => by omega⟩
  simp (maxSteps := 2000000) (disch := first | omega | assumption | exact idP rfl | exact idP (bL rfl)) only [go_sem, reduceIte, Nat.reduceEqDiff, wpV_tH]
  have hN : (0 : Int) < (code.length : Int) := by omega
  have m1 := Int.emod_nonneg p (b := (code.length : Int)) (by omega)
  have m2 := Int.emod_lt_of_pos p hN
  have m3 := Int.emod_nonneg (p * 7 + 3) (b := (code.length : Int)) (by omega)
  have m4 := Int.emod_lt_of_pos (p * 7 + 3) hN
  have m5 : 0 ≤ p / (code.length : Int) := Int.ediv_nonneg h0 (by omega)
  have m6 : p / (code.length : Int) ≤ p := Int.ediv_le_self _ h0
  generalize hq1 : p % (code.length : Int) = q1 at *
  generalize hq2 : (p * 7 + 3) % (code.length : Int) = q2 at *
  generalize hq3 : p / (code.length : Int) = q3 at *
  obtain ⟨c, hc, c0, c1⟩ := hw'.at (i := q1.toNat) (by omega)
  obtain ⟨c', hc', c0', c1'⟩ := hw'.at (i := q2.toNat) (by omega)
  refine kd_cut (fun e' M' => M' = M.set rb [w, .sc (.int .i64 (p + 1))] ∧ e' 1 = .sc (.int .i64 n) ∧ ∃ x : Int, e' 6 = .sc (.int .i64 x) ∧ 0 ≤ x ∧ x < 4611686018427387904) ?_ ?_
  · intro K hK
    refine sS7 @hlen @hw'.iaddr @hc @hc' @hq1 @hq2 @hq3 ?_
    exact hK _ _ ⟨rfl, sT0, _, by refine sS0 ?_; rfl, by omega, by omega⟩
  rintro e' _ ⟨rfl, e1, x, e6, x0, x1⟩
  obtain ⟨y, hy, y0, y1⟩ := bin_xorN (a := x) (b := x / 64) x0 x1 (by omega) (by omega)
  refine sS3 @e1 @e6 @hy ?_
  have := Int.emod_nonneg y (b := n) (by omega)
  have := Int.emod_lt_of_pos y (b := n) (by omega)
  exact hR _ _ ⟨rfl, _, rfl, by omega, fun _ => by omega, fun _ => by omega⟩
end Go.M2

namespace Go.M2
open Go.Proofs
variable {M : MH}
section
variable {M0 M M' : MH} {rb : Nat} {X Y l : List V}
theorem Sub.rd (h : Sub (M0.set rb X) M) : Sub (M0.set rb Y) (M.set rb Y) := fun b l hb => by
  by_cases e : b = rb
  · subst e; rw [set_same] at hb ⊢; exact hb
  · rw [set_ne e] at hb ⊢; exact h b l (by rw [set_ne e]; exact hb)
theorem Gr.rd {sz : Nat} {s : V} (h : Gr sz (M0.set rb X) M s l) : Gr sz (M0.set rb Y) (M.set rb Y) s l := by
  have hne : ∀ b, blkV s = some b → b ≠ rb := fun b hb e => by
    have := h.new b hb
    rw [e, set_same] at this; cases this
  refine ⟨h.sub.rd, fun b hb => ?_, ?_⟩
  · rw [set_ne (hne b hb)]
    have := h.new b hb
    rwa [set_ne (hne b hb)] at this
  · rcases h.own with ⟨e, k, e2⟩ | ⟨b, n, ex, rfl, h1, h2⟩
    · exact .inl ⟨e, k, e2⟩
    · exact .inr ⟨b, n, ex, rfl, by rw [set_ne (hne b rfl)]; exact h1, h2⟩
theorem Mem.rd {fp : List (Nat × List V)} (h : Mem (M0.set rb X) M fp) : Mem (M0.set rb Y) (M.set rb Y) fp := by
  have hne : ∀ p ∈ fp, p.1 ≠ rb := fun p hp e => by
    have := h.new p hp
    rw [e, set_same] at this; cases this
  refine ⟨h.sub.rd, fun p hp => ?_, h.nd, fun p hp => ?_⟩
  · have := h.new p hp
    rw [set_ne (hne p hp)] at this ⊢; exact this
  · rw [set_ne (hne p hp)]; exact h.at_ p hp
end
structure RS (M0 : MH) (rb : Nat) (w : V) (M : MH) (p : Int) : Prop where
  at_ : M rb = some (rdC w p)
  sub : Sub (M0.set rb (rdC w p)) M
section
variable {M0 M M' : MH} {rb b : Nat} {w : V} {p q : Int} {l : List V}
theorem RS.start (h : M rb = some (rdC w p)) : RS M rb w M p := ⟨h, by rw [set_id h]; exact Sub.refl M⟩
theorem RS.set (h : RS M0 rb w M p) (q : Int) : RS M0 rb w (M.set rb (rdC w q)) q := ⟨set_same, h.sub.rd⟩
theorem RS.more (h : RS M0 rb w M p) (hs : Sub M M') : RS M0 rb w M' p := ⟨hs _ _ h.at_, h.sub.trans hs⟩
theorem RS.to (h : RS M0 rb w M p) (hs : Sub (M.set rb (rdC w q)) M') : RS M0 rb w M' q := (h.set q).more hs
theorem RS.ne (h : RS M0 rb w M p) (hb : M b = none) : b ≠ rb := fun e => by rw [e, h.at_] at hb; cases hb
theorem RS.ne' (h : RS M0 rb w M p) (hb : M b = none) : rb ≠ b := Ne.symm (h.ne hb)
theorem RS.gone (h : RS M0 rb w M p) (hb : M b = none) : M0 b = none := by
  have := h.sub.none hb
  rwa [set_ne (h.ne hb)] at this
end
def fpG (v : V) (l : List V) : List (Nat × List V) := match blkV v with
  | some b => [(b, l)]
  | none => []
def OwS (sz : Nat) (v : V) (l : List V) : Prop := (l = [] ∧ ∃ k, v = .sc (.sl none 0 0 true k)) ∨ ∃ b n ex, v = .sc (.sl (some (b, 0)) n n ex sz) ∧ l.length = n * sz
theorem Ow.sh {sz : Nat} {v : V} {l : List V} (h : Ow sz M v l) : OwS sz v l ∧ ∀ q ∈ fpG v l, M q.1 = some q.2 := by
  rcases h with ⟨rfl, k, rfl⟩ | ⟨b, n, ex, rfl, h1, h2⟩
  · exact ⟨.inl ⟨rfl, k, rfl⟩, fun q hq => (by cases hq)⟩
  · exact ⟨.inr ⟨b, n, ex, rfl, h2⟩, fun q hq => by simp [fpG, blkV] at hq; subst hq; exact h1⟩
theorem OwS.ow {sz : Nat} {v : V} {l : List V} (h : OwS sz v l) (hm : ∀ q ∈ fpG v l, M q.1 = some q.2) : Ow sz M v l := by
  rcases h with ⟨rfl, k, rfl⟩ | ⟨b, n, ex, rfl, h2⟩
  · exact .inl ⟨rfl, k, rfl⟩
  · exact .inr ⟨b, n, ex, rfl, hm (b, l) (by simp [fpG, blkV]), h2⟩
theorem OwS.tr {sz : Nat} {v : V} {l l' : List V} {g : List (Nat × List V)} (h : OwS sz v l) (ht : Tr l l' g) : ∃ u, Tr [v] [u] (fpG v l ++ g) ∧ Fr sz u l' := by
  rcases h with ⟨rfl, k, rfl⟩ | ⟨b, n, ex, rfl, h2⟩
  · cases ht
    exact ⟨_, .refl _, .inl ⟨rfl, k, rfl⟩⟩
  · exact ⟨_, by simpa [fpG, blkV] using Tr.sl (o := 0) (n := n) (c := n) (k := sz) (ex := ex) (b := b) ht .nil, .inr ⟨(b, 0), n, n, ex, sz, by simp, by rw [ht.len, h2]⟩⟩
theorem OwS.one {sz : Nat} {v : V} {l : List V} (h : OwS sz v l) : One v := by
  rcases h with ⟨rfl, k, rfl⟩ | ⟨b, n, ex, rfl, h2⟩ <;> exact ⟨rfl, rfl⟩
theorem Mem.app {B M M' : MH} {sz' : Nat} {s s' : V} {l l' : List V} {f : List (Nat × List V)} (h : Mem B M (fpG s l ++ f)) (hg : Gr sz' B M' s' l') (ho : Oth M M' s s') : Mem B M' (fpG s' l' ++ f) := by
  have hf := h.right
  have hsf : ∀ p ∈ f, blkV s ≠ some p.1 := fun p hp e => by
    have hnd := h.nd
    simp only [fpG, e, Nd2, List.cons_append, List.nil_append, List.map_cons, List.nodup_cons, List.mem_map] at hnd
    exact hnd.1 ⟨p, hp, rfl⟩
  have hat : ∀ p ∈ f, M' p.1 = some p.2 := fun p hp => (ho _ _ (hf.at_ p hp) (hsf p hp)).1
  have hne : ∀ p ∈ f, blkV s' ≠ some p.1 := fun p hp => (ho _ _ (hf.at_ p hp) (hsf p hp)).2
  refine ⟨hg.sub, fun p hp => ?_, ?_, fun p hp => ?_⟩
  · rcases List.mem_append.1 hp with h1 | h1
    · exact hg.new _ (by simp only [fpG] at h1; split at h1 <;> simp_all)
    · exact hf.new p h1
  · cases hb : blkV s' with
    | none => simpa [fpG, hb] using hf.nd
    | some b =>
      simp only [fpG, hb, Nd2, List.cons_append, List.nil_append, List.map_cons, List.nodup_cons, List.mem_map]
      exact ⟨fun ⟨p, hp, e⟩ => hne p hp (by rw [hb, e]), hf.nd⟩
  · rcases List.mem_append.1 hp with h1 | h1
    · exact hg.own.sh.2 p h1
    · exact hat p h1
theorem Gr.mem {B M : MH} {sz : Nat} {s : V} {l : List V} (h : Gr sz B M s l) : Mem B M (fpG s l) := by
  refine ⟨h.sub, fun p hp => h.new _ (by simp only [fpG] at hp; split at hp <;> simp_all), ?_, fun p hp => h.own.sh.2 p hp⟩
  unfold fpG
  split <;> simp [Nd2]
theorem Mem.gr {B M : MH} {sz : Nat} {s : V} {l : List V} {f : List (Nat × List V)} (h : Mem B M (fpG s l ++ f)) (ho : OwS sz s l) : Gr sz B M s l :=
  ⟨h.sub, fun b hb => h.new (b, l) (List.mem_append_left _ (by simp [fpG, hb])), ho.ow fun q hq => h.at_ q (List.mem_append_left _ hq)⟩
section
variable {P : Program} {f : FuncId} {args : List V}
theorem VCall.frG {sz : Nat} {q : MH → List V → Prop} (h : VCall P f args M (fun r M' => ∃ B l, Gr sz B M' r l ∧ q B l)) : VCall P f args M (fun r M' => ∃ l, Fr sz r l ∧ q M' l) :=
  VCall.of fun R hR => h.mono fun r M' ⟨B, l, h1, h2⟩ => by
    obtain ⟨M1, v', q1, q2, q3⟩ := h1.fz
    exact hR r v' M' M1 B q1 q2 ⟨l, q3, h2⟩
theorem VCall.frB {q : MH → V → Prop} (h : VCall P f args M (fun r M' => ∃ B r' g, Tr [r] [r'] g ∧ Mem B M' g ∧ q B r')) : VCall P f args M (fun r M' => q M' r) :=
  VCall.of fun R hR => h.mono fun r M' => by
    rintro ⟨B, r', g, h1, h2, h3⟩
    let M1 : MH := fun i => if inF g i then M' i else B i
    have e : delF M1 g = B := by
      funext i
      simp only [delF, M1]
      split
      · rename_i hin
        obtain ⟨l, hl⟩ := inF_iff.1 hin
        exact (h2.new _ hl).symm
      · rfl
    have hz := h1.fz (M := M1) (fun q hq => by simp only [M1]; rw [if_pos (inF_iff.2 ⟨q.2, hq⟩)]; exact h2.at_ q hq) h2.nd
    rw [e] at hz
    refine hR r r' M' M1 B (fun i l hi => ?_) hz h3
    simp only [M1] at hi
    split at hi
    · exact hi
    · exact h2.sub _ _ hi
variable {args' : List V} {R R' : V → MH → Prop} {fp : List (Nat × List V)}
theorem VCall.lendT2 (ht : Tr args args' fp) (hm : ∀ p ∈ fp, M p.1 = some p.2) (hn : Nd2 fp) (h : VCall P f args' (delF M fp) R')
    (hr : ∀ r M', (∀ p ∈ fp, M' p.1 = none) → R' r M' → flat r ∧ (∀ i l', M' i = some l' → ∀ v ∈ l', flat v ∨ ∃ j l0, delF M fp j = some l0 ∧ v ∈ l0) ∧ R r (backF M M' fp)) : VCall P f args M R := by
  intro H F hs hok
  obtain ⟨e, s1, F1, f1, f2, f3, f4⟩ := (ht.fz hm hn).keeps hs hok
  have := h H F1 f2 f3
  rw [← erl_map, e, erl_map] at this
  refine this.mono ?_
  rintro a H' ⟨r, M', F', rfl, k1, k2, k3, k4⟩
  have hF1 : ∀ p ∈ fp, F1.blk p.1 = .cells (erl p.2) true := fun p hp => by
    rcases f4 p.1 p.2 (hm p hp) with h1 | h1
    · simp only [delF, inF_iff.2 ⟨p.2, hp⟩, if_true] at h1; cases h1
    · exact h1
  have hsz : ∀ p ∈ fp, p.1 < F1.size := fun p hp => by rw [f2.size]; exact (hs.own _ _ (hm p hp)).1
  have hF' : ∀ p ∈ fp, F'.blk p.1 = .cells (erl p.2) true := fun p hp => k2.cells (hsz p hp) (hF1 p hp)
  have hnone : ∀ p ∈ fp, M' p.1 = none := fun p hp => by
    cases hb : M' p.1 with
    | none => rfl
    | some l2 => have := (k3.own _ l2 hb).2.2.1; rw [hF' p hp] at this; cases this
  obtain ⟨q1, q2, q3⟩ := hr r M' hnone k4
  let F'' : Heap := ⟨F'.size, fun i => if inF fp i then .dead else F'.blk i⟩
  have hLe : Le F F'' := by
    refine ⟨(f1.trans k2).1, fun i hi => ?_⟩
    by_cases hin : inF fp i = true
    · obtain ⟨l, hl⟩ := inF_iff.1 hin
      exact .inl (hs.own _ _ (hm _ hl)).2.2.1
    · rcases (f1.trans k2).2 i hi with h1 | h1
      · exact .inl h1
      · refine .inr ?_
        simp only [F'', hin, Bool.false_eq_true, if_false]; exact h1
  refine ⟨r, backF M M' fp, F'', rfl, q1.ok, hLe, ⟨k3.size, fun i hi => ?_, fun i l hi => ?_⟩, q3⟩
  · simp only [F'']
    split
    · exact .inl rfl
    · exact k3.le i hi
  · simp only [backF] at hi
    split at hi
    · rename_i hin
      obtain ⟨l0, hl0⟩ := inF_iff.1 hin
      have h1 := hm _ hl0
      simp only at h1
      rw [h1] at hi; cases hi
      have hb : i < H'.size := by
        have h2 := hsz _ hl0
        have h3 := k2.1
        rw [k3.size] at h3
        simp only at h2; omega
      refine ⟨hb, ?_, by simp only [F'', hin, if_true], okL.mono hLe (hs.ok h1)⟩
      have h4 := hF' _ hl0
      simp only at h4
      rcases k3.le i hb with h2 | h2
      · rw [h4] at h2; cases h2
      · rw [← h2]; exact h4
    · rename_i hin
      obtain ⟨p1, p2, p3, p4⟩ := k3.own i l hi
      refine ⟨p1, p2, by simp only [F'', hin, Bool.false_eq_true, if_false]; exact p3, okL_all.2 fun v hv => ?_⟩
      rcases q2 i l hi v hv with h1 | ⟨j, l0, h1, h2⟩
      · exact h1.ok
      · simp only [delF] at h1
        split at h1
        · cases h1
        · exact okV.mono hLe (okL_all.1 (hs.ok h1) v h2)
end
section
variable {P : Program} {f : FuncId} {a1 a2 : List V} {rb : Nat} {w : V} {p : Int}
theorem backF_set {fp : List (Nat × List V)} {Y : List V} (hm : ∀ p ∈ fp, M p.1 = some p.2) (hrb : inF fp rb = false) : backF M ((delF M fp).set rb Y) fp = M.set rb Y := by
  funext i
  simp only [backF]
  split
  · rename_i hin
    have : i ≠ rb := fun e => by rw [e, hrb] at hin; cases hin
    rw [set_ne this]
  · rename_i hin
    simp only [MH.set, delF]
    split
    · rfl
    · simp [hin]
theorem VCall.lendR {sz : Nat} {v : V} {l : List V} {q : V → Int → Prop} (ho : Ow sz M v l) (hne : blkV v ≠ some rb) (hm : M rb = some (rdC w p)) (hq : ∀ r p', q r p' → flat r)
    (h : ∀ u M', Fr sz u l → M' rb = some (rdC w p) → VCall P f (a1 ++ u :: a2) M' (fun r M'' => ∃ p', M'' = M'.set rb (rdC w p') ∧ q r p')) : VCall P f (a1 ++ v :: a2) M (fun r M' => ∃ p', M' = M.set rb (rdC w p') ∧ q r p') := by
  obtain ⟨hs, hat⟩ := ho.sh
  obtain ⟨u, ht, hu⟩ := hs.tr (Tr.refl l)
  rw [List.append_nil] at ht
  have hin : inF (fpG v l) rb = false := by
    cases hh : inF (fpG v l) rb with
    | false => rfl
    | true =>
      obtain ⟨l2, hl2⟩ := inF_iff.1 hh
      unfold fpG at hl2
      split at hl2
      · rename_i b hb; simp at hl2; rw [hl2.1] at hne; exact absurd hb hne
      · cases hl2
  have htr : Tr (a1 ++ v :: a2) (a1 ++ u :: a2) (fpG v l) := by
    have h1 : Tr (v :: a2) (u :: a2) (fpG v l ++ []) := by simpa using ht.append (Tr.refl a2)
    simpa using (Tr.refl a1).append h1
  have hnd : Nd2 (fpG v l) := by unfold fpG; split <;> simp [Nd2]
  have hmd : delF M (fpG v l) rb = some (rdC w p) := by simp only [delF, hin, Bool.false_eq_true, if_false]; exact hm
  refine VCall.lendT2 htr hat hnd (h u _ hu hmd) ?_
  rintro r M' hnone ⟨p', rfl, hqr⟩
  refine ⟨hq _ _ hqr, fun i l' hi x hx => ?_, p', backF_set hat hin, hqr⟩
  by_cases e : i = rb
  · subst e
    rw [set_same] at hi; cases hi
    simp only [rdC, List.mem_cons, List.not_mem_nil, or_false] at hx
    rcases hx with rfl | rfl
    · exact .inr ⟨_, _, hmd, by simp [rdC]⟩
    · exact .inl (by simp [flat])
  · rw [set_ne e] at hi
    exact .inr ⟨i, l', hi, hx⟩
theorem VCall.lendRG {sz sz' : Nat} {v : V} {l : List V} {q : List V → Int → Prop} (ho : Ow sz M v l) (hne : blkV v ≠ some rb) (hm : M rb = some (rdC w p)) (hq : ∀ c p', q c p' → flatL c)
    (h : ∀ u M', Fr sz u l → M' rb = some (rdC w p) → VCall P f (a1 ++ u :: a2) M' (fun r M'' => ∃ p' c, Gr sz' (M'.set rb (rdC w p')) M'' r c ∧ q c p')) :
    VCall P f (a1 ++ v :: a2) M (fun r M' => ∃ p' c, Gr sz' (M.set rb (rdC w p')) M' r c ∧ q c p') := by
  obtain ⟨hs, hat⟩ := ho.sh
  obtain ⟨u, ht, hu⟩ := hs.tr (Tr.refl l)
  rw [List.append_nil] at ht
  have hin : inF (fpG v l) rb = false := by
    cases hh : inF (fpG v l) rb with
    | false => rfl
    | true =>
      obtain ⟨l2, hl2⟩ := inF_iff.1 hh
      unfold fpG at hl2
      split at hl2
      · rename_i b hb; simp at hl2; rw [hl2.1] at hne; exact absurd hb hne
      · cases hl2
  have htr : Tr (a1 ++ v :: a2) (a1 ++ u :: a2) (fpG v l) := by
    have h1 : Tr (v :: a2) (u :: a2) (fpG v l ++ []) := by simpa using ht.append (Tr.refl a2)
    simpa using (Tr.refl a1).append h1
  have hnd : Nd2 (fpG v l) := by unfold fpG; split <;> simp [Nd2]
  have hmd : delF M (fpG v l) rb = some (rdC w p) := by simp only [delF, hin, Bool.false_eq_true, if_false]; exact hm
  refine VCall.lendT2 (R' := fun r M'' => ∃ p' c, ((∃ k, c = [] ∧ r = .sc (.sl none 0 0 true k) ∧ M'' = (delF M (fpG v l)).set rb (rdC w p')) ∨
      ∃ b n ex, ((delF M (fpG v l)).set rb (rdC w p')) b = none ∧ r = .sc (.sl (some (b, 0)) n n ex sz') ∧ c.length = n * sz' ∧ M'' = ((delF M (fpG v l)).set rb (rdC w p')).set b c) ∧ q c p') htr hat hnd
    (VCall.of fun R hR => (h u _ hu hmd).mono fun r M' => ?_) ?_
  · rintro ⟨p', c, hg, hqc⟩
    rcases hg.own with ⟨rfl, k, rfl⟩ | ⟨b, n, ex, rfl, h1, h2⟩
    · exact hR _ _ M' _ _ hg.sub (.refl _ _) ⟨p', [], .inl ⟨k, rfl, rfl, rfl⟩, hqc⟩
    · refine hR _ _ M' (((delF M (fpG v l)).set rb (rdC w p')).set b c) _ (fun i l2 hi => ?_) (.refl _ _) ⟨p', c, .inr ⟨b, n, ex, hg.new b rfl, rfl, h2, rfl⟩, hqc⟩
      by_cases e : i = b
      · subst e; rw [set_same] at hi; cases hi; exact h1
      · rw [set_ne e] at hi; exact hg.sub i l2 hi
  · rintro r M' hnone ⟨p', c, hcase, hqc⟩
    have cells : ∀ i l', ((delF M (fpG v l)).set rb (rdC w p')) i = some l' → ∀ x ∈ l', flat x ∨ ∃ j l0, delF M (fpG v l) j = some l0 ∧ x ∈ l0 := fun i l' hi x hx => by
      by_cases e : i = rb
      · subst e
        rw [set_same] at hi; cases hi
        simp only [rdC, List.mem_cons, List.not_mem_nil, or_false] at hx
        rcases hx with rfl | rfl
        · exact .inr ⟨_, _, hmd, by simp [rdC]⟩
        · exact .inl (by simp [flat])
      · rw [set_ne e] at hi
        exact .inr ⟨i, l', hi, hx⟩
    rcases hcase with ⟨k, rfl, rfl, rfl⟩ | ⟨b, n, ex, hb, rfl, h2, rfl⟩
    · refine ⟨by simp [flat], cells, p', [], ⟨?_, fun b hb => by simp [blkV] at hb, .inl ⟨rfl, k, rfl⟩⟩, hqc⟩
      rw [backF_set hat hin]; exact Sub.refl _
    · have hbf : inF (fpG v l) b = false := by
        cases hh : inF (fpG v l) b with
        | false => rfl
        | true =>
          obtain ⟨l2, hl2⟩ := inF_iff.1 hh
          have := hnone _ hl2
          simp only [set_same] at this; cases this
      have hback : backF M (((delF M (fpG v l)).set rb (rdC w p')).set b c) (fpG v l) = (M.set rb (rdC w p')).set b c := by
        rw [← backF_set (Y := rdC w p') hat hin]
        funext i
        simp only [backF]
        by_cases e : i = b
        · subst e; rw [set_same, set_same, hbf]; rfl
        · rw [set_ne e, set_ne e]; rfl
      have hbM : (M.set rb (rdC w p')) b = none := by
        rw [← backF_set (Y := rdC w p') hat hin]
        simp only [backF, hbf, Bool.false_eq_true, if_false]; exact hb
      refine ⟨by simp [flat], fun i l' hi x hx => ?_, p', c, ?_, hqc⟩
      · by_cases e : i = b
        · subst e
          rw [set_same] at hi; cases hi
          exact .inl (flatL_all.1 (hq _ _ hqc) x hx)
        · rw [set_ne e] at hi; exact cells i l' hi x hx
      · rw [hback]
        exact ⟨(Sub.refl _).set hbM, fun b' hb' => by simp only [blkV, Option.some.injEq] at hb'; subst hb'; exact hbM, .inr ⟨b, n, ex, rfl, set_same, h2⟩⟩
end
theorem t_num {rb : Nat} {w v : V} {code xs : List Int} {p : Int} (hr : Rdr w code) (hm : M rb = some (rdC w p)) (h0 : 0 ≤ p) (h1 : p ≤ 1099511627776) (hv : LI v xs) (hx : 0 < xs.length) (hl : xs.length ≤ 1048576) :
    VCall Try.prog n_spec_l40Rd_num [.sc (.ptr (some (rb, 0))), v] M (fun r M' => M' = M.set rb (rdC w (p + 1)) ∧ ∃ x ∈ xs, r = .sc (.int .i64 x)) := by
  refine VCall.plain fun R hR => v_spec_l40Rd_num rfl ?_
  refine sS1 @hv.len ?_
  refine (t_pick hr hm h0 h1).mono ?_
  rintro _ _ ⟨rfl, k, rfl, k0, k1, _⟩
  have hk := k1 (by omega)
  simp (maxSteps := 2000000) (disch := first | omega | assumption | exact idP rfl | exact idP (bL rfl)) only [go_sem, reduceIte, Nat.reduceEqDiff, wpV_kd, wpV_tH, hv.iaddr, LI.at hv (i := k.toNat) (by omega)]
  exact hR _ _ ⟨rfl, _, List.getElem_mem _, rfl⟩
theorem t_numL {rb b n : Nat} {w : V} {code : List Int} {l : List V} {p : Int} (xs : List Int) (hr : Rdr w code) (hb : M b = none) (hm : M rb = some (rdC w p)) (h0 : 0 ≤ p) (h1 : p ≤ 1099511627776) (e : l = xs.map vi) (hn : n = xs.length) (hx : 0 < xs.length) (hl : xs.length ≤ 1048576) :
    VCall Try.prog n_spec_l40Rd_num [.sc (.ptr (some (rb, 0))), .sc (.sl (some (b, 0)) n n true 1)] (M.set b l) (fun r M' => M' = M.set rb (rdC w (p + 1)) ∧ ∃ x ∈ xs, r = .sc (.int .i64 x)) := by
  subst e hn
  have hz : Fz (M.set b (xs.map vi)) [.sc (.ptr (some (rb, 0))), .sc (.sl (some (b, 0)) xs.length xs.length true 1)] M [.sc (.ptr (some (rb, 0))), .fs (some (b, 0)) xs.length xs.length true 1 ((xs.map vi).drop 0)] := by
    refine .keep _ (.sl set_same (by rw [del_set hb]; exact Fz.refl M _) (.nil M))
  exact VCall.give hz (t_num hr hm h0 h1 (Fr.li (.inr ⟨_, _, _, _, _, rfl, by simp⟩)) hx hl)
end Go.M2

namespace Go.M2
open Go.Proofs
variable {M : MH}
theorem t_l2VarOf {n : Int} : VCall Try.prog n_spec_l2VarOf [.sc (.int .i64 n)] M (fun r M' => M = M' ∧ r = .agg (encT ⟨1, n, 0, 0⟩)) := by
  refine VCall.pure fun R hR => v_spec_l2VarOf rfl ?_
  refine sS0 ?_
  intro b hb
  exact hR _ _ (sB) rfl
theorem t_l2Const {n : Int} : VCall Try.prog n_spec_l2Const [.sc (.int .i64 n)] M (fun r M' => M = M' ∧ r = .agg (encT ⟨0, n, 0, 0⟩)) := by
  refine VCall.pure fun R hR => v_spec_l2Const rfl ?_
  refine sS0 ?_
  intro b hb
  exact hR _ _ (sB) rfl
def DT (p d : Int) (m n : Nat) (c : List V) (p' : Int) : Prop := p ≤ p' ∧ p' ≤ p + d ∧ ∃ ts : List TermS, c = catV encT ts ∧ m ≤ ts.length ∧ ts.length ≤ n
theorem DT.flat {p d p' : Int} {m n : Nat} {c : List V} (h : DT p d m n c p') : flatL c := by
  obtain ⟨_, _, ts, rfl, _⟩ := h
  exact catV_flat encT_flat ts
theorem Fr.lt {u : V} {ts : List TermS} (h : Fr 4 u (catV encT ts)) : LT u ts := h.lc (by omega) (catV_len (sz := 4) (enc := encT) (fun _ => rfl) ts) fun i hi => catV_at (sz := 4) (enc := encT) (fun _ => rfl) hi
theorem VCall.frT4 {P : Program} {f : FuncId} {args : List V} {rb : Nat} {w : V} {p d : Int} {m n : Nat} (h : VCall P f args M (fun r M' => ∃ p' c, Gr 4 (M.set rb (rdC w p')) M' r c ∧ DT p d m n c p')) :
    VCall P f args M (fun r M' => ∃ p', M' = M.set rb (rdC w p') ∧ p ≤ p' ∧ p' ≤ p + d ∧ ∃ ts, LT r ts ∧ m ≤ ts.length ∧ ts.length ≤ n) := by
  refine (VCall.frG (sz := 4) (q := fun B l => ∃ p', B = M.set rb (rdC w p') ∧ DT p d m n l p') (h.mono fun r M' ⟨p', c, h1, h2⟩ => ⟨_, c, h1, p', rfl, h2⟩)).mono ?_
  rintro r M' ⟨l, hf, p', rfl, q1, q2, ts, rfl, q3, q4⟩
  exact ⟨p', rfl, q1, q2, ts, hf.lt, q3, q4⟩
theorem app_term {M0 M : MH} {s : V} {K : V → MH → Prop} {by_ bt c k : Nat} {ex : Bool} {xs : List TermS} {l : List V} (t : TermS) (h : Gr 4 M0 M s (catV encT xs)) (hbt : M bt = none) (e : l = encT t) (hb : xs.length ≤ 1048576) (hby : by_ ≤ 64)
    (hk : ∀ s' M', Gr 4 M0 M' s' (catV encT (xs ++ [t])) → Oth M M' s s' → K s' M') : appV 4 by_ s (.sc (.sl (some (bt, 0)) 1 c ex k)) (M.set bt l) K := by
  subst e
  have hlen : (catV encT xs).length = xs.length * 4 := catV_len (sz := 4) (enc := encT) (fun _ => rfl) xs
  have h1 : ((catV encT xs).length + 1) * by_ ≤ ((catV encT xs).length + 1) * 64 := Nat.mul_le_mul_left _ hby
  refine gr_app1 h (by omega) hbt rfl (by simp [encT, oneV, er, oneA]) (by simp [mostCells]; omega) (by simp [mostCells]; omega) fun s' M' q1 q2 => hk s' M' (by rw [catV_snoc]; exact q1) q2
def VarB (v : VarS) : Prop := -20000 ≤ v.low ∧ v.low ≤ 20000 ∧ -20000 ≤ v.high ∧ v.high ≤ 20000
theorem t_l2Cond {rb : Nat} {w : V} {code : List Int} {p at_ : Int} {v : VarS} (hr : Rdr w code) (hm : M rb = some (rdC w p)) (h0 : 0 ≤ p) (h1 : p ≤ 1000000) (hv : VarB v) :
    VCall Try.prog n_spec_l2Cond [.sc (.ptr (some (rb, 0))), .agg (encVar v), .sc (.int .i64 at_)] M (fun r M' => ∃ p' c, Gr 4 (M.set rb (rdC w p')) M' r c ∧ DT p 3 1 4 c p') := by
  refine VCall.plain fun R hR => v_spec_l2Cond rfl ?_
  obtain ⟨lo, hi, fi⟩ := v
  obtain ⟨v1, v2, v3, v4⟩ := hv
  simp only at v1 v2 v3 v4
  simp only [encVar]
  refine sS0 ?_
  intro b4 hb4
  have hn4 : rb ≠ b4 := fun e => by rw [← e, hm] at hb4; cases hb4
  have hm1 : (M.set b4 [.sc (.int .i64 lo), .sc (.int .i64 hi), .sc (.int .i64 fi)]) rb = some (rdC w p) := by rw [set_ne hn4]; exact hm
  have hs1 : Sub M (M.set b4 [.sc (.int .i64 lo), .sc (.int .i64 hi), .sc (.int .i64 fi)]) := (Sub.refl M).set' hb4
  have q4 : (M.set b4 [.sc (.int .i64 lo), .sc (.int .i64 hi), .sc (.int .i64 fi)]) b4 = some [.sc (.int .i64 lo), .sc (.int .i64 hi), .sc (.int .i64 fi)] := set_same
  have rs1 := (RS.start hm).more hs1
  generalize hM1 : M.set b4 [.sc (.int .i64 lo), .sc (.int .i64 hi), .sc (.int .i64 fi)] = M1 at *
  refine (t_pick hr hm1 h0 (by omega)).mono ?_
  rintro _ _ ⟨rfl, k, rfl, k0, k1, k2⟩
  have kb : k ≤ 40000 := by
    by_cases hc : 1 ≤ hi - lo + 1
    · have := k1 hc; omega
    · have := k2 (by omega); omega
  have q4' : (M1.set rb (rdC w (p + 1))) b4 = some [.sc (.int .i64 lo), .sc (.int .i64 hi), .sc (.int .i64 fi)] := by rw [set_ne (Ne.symm hn4)]; exact q4
  have rs2 := rs1.set (p + 1)
  generalize hM2 : M1.set rb (rdC w (p + 1)) = M2 at *
  refine sS1 @q4' ?_
  intro b5 hb5
  refine (t_numL [6, 5, 5, 6] hr hb5 rs2.at_ (by omega) (by omega) rfl rfl (by simp) (by simp)).mono ?_
  rintro _ _ ⟨rfl, op, hop, rfl⟩
  have rs3 := rs2.set (p + 1 + 1)
  generalize hM3 : M2.set rb (rdC w (p + 1 + 1)) = M3 at *
  (repeat' (first | ((with_reducible first | refine cond_dec (fun h => ?_) (fun h => ?_) | refine guardK_dec (fun h => ?_) (fun h => ?_) | refine guardD3_dec (fun h => ?_) (fun h => ?_)) <;> first | (exfalso; omega) | (simp (maxSteps := 2000000) (disch := first | omega | assumption | exact idP rfl | exact idP (bL rfl)) only [go_sem, reduceIte, Nat.reduceEqDiff, wpV_kd, wpV_tH, h]) | skip) | ((with_reducible first | refine cond_split (fun h => ?_) (fun h => ?_) | refine guardK_split (fun h => ?_) (fun h => ?_) | refine guardD3_split (fun h => ?_) (fun h => ?_)) <;> ((try simp only [Bool.not_eq_true', Bool.not_eq_false'] at h); first | (simp (maxSteps := 2000000) (disch := first | omega | assumption | exact idP rfl | exact idP (bL rfl)) only [go_sem, reduceIte, Nat.reduceEqDiff, wpV_kd, wpV_tH, h]) | skip)) | ((with_reducible refine (t_l2VarOf).mono ?_); rintro _ _ ⟨rfl, rfl⟩) | ((with_reducible refine (t_l2Const).mono ?_); rintro _ _ ⟨rfl, rfl⟩) | (with_reducible intro bk hbk; try have hnk := (fresh_set hbk).1) | (simp (maxSteps := 2000000) (disch := first | omega | assumption | exact idP rfl | exact idP (bL rfl)) only [go_sem, reduceIte, Nat.reduceEqDiff, wpV_kd, wpV_tH])))
  change VCall _ _ _ (M3.set bk (catV encT [⟨1, at_, 0, 0⟩, ⟨0, lo + k, 0, 0⟩, ⟨op, 0, 0, 1⟩])) _
  have hg : Gr 4 (M.set rb (rdC w (p + 1 + 1))) (M3.set bk (catV encT [⟨1, at_, 0, 0⟩, ⟨0, lo + k, 0, 0⟩, ⟨op, 0, 0, 1⟩])) (.sc (.sl (some (bk, 0)) 3 3 true 4)) (catV encT [⟨1, at_, 0, 0⟩, ⟨0, lo + k, 0, 0⟩, ⟨op, 0, 0, 1⟩]) := Gr.new' rs3.sub hbk rfl
  have rs4 := rs3.more ((Sub.refl M3).set' (l := catV encT [⟨1, at_, 0, 0⟩, ⟨0, lo + k, 0, 0⟩, ⟨op, 0, 0, 1⟩]) hbk)
  generalize hM4 : M3.set bk (catV encT [⟨1, at_, 0, 0⟩, ⟨0, lo + k, 0, 0⟩, ⟨op, 0, 0, 1⟩]) = M4 at *
  refine (t_pick hr rs4.at_ (by omega) (by omega)).mono ?_
  rintro _ _ ⟨rfl, k3, rfl, _, _, _⟩
  have hg2 := hg.rd (Y := rdC w (p + 1 + 1 + 1))
  have rs5 := rs4.set (p + 1 + 1 + 1)
  generalize hM5 : M4.set rb (rdC w (p + 1 + 1 + 1)) = M5 at *
  refine sS0 ?_
  refine cond_dec (fun hk3 => ?_) (fun hk3 => ?_)
  · refine sS0 ?_
    intro b7 hb7
    refine app_term ⟨7, 0, 2, 2⟩ hg2 hb7 rfl (by simp) (by omega) ?_
    intro s' M6 hg3 _
    refine sS0 ?_
    exact hR _ _ ⟨_, _, hg3, by omega, by omega, _, rfl, by simp, by simp⟩
  · refine sS0 ?_
    exact hR _ _ ⟨_, _, hg2, by omega, by omega, _, rfl, by simp, by simp⟩
theorem t_l1Moved {t : TermS} {b : Int} : VCall Try.prog n_spec_l1Moved [.agg (encT t), .sc (.int .i64 b)] M (fun r M' => M = M' ∧ ∃ t' : TermS, r = .agg (encT t')) := by
  refine VCall.pure fun R hR => v_spec_l1Moved rfl ?_
  obtain ⟨op, n, a, c⟩ := t
  simp only [encT]
  (repeat' (first | ((with_reducible first | refine cond_dec (fun h => ?_) (fun h => ?_) | refine guardK_dec (fun h => ?_) (fun h => ?_) | refine guardD3_dec (fun h => ?_) (fun h => ?_)) <;> first | (exfalso; omega) | (simp (maxSteps := 2000000) (disch := first | omega | assumption | exact idP rfl | exact idP (bL rfl)) only [go_sem, reduceIte, Nat.reduceEqDiff, wpV_kd, wpV_tH, h]) | skip) | ((with_reducible first | refine cond_split (fun h => ?_) (fun h => ?_) | refine guardK_split (fun h => ?_) (fun h => ?_) | refine guardD3_split (fun h => ?_) (fun h => ?_)) <;> ((try simp only [Bool.not_eq_true', Bool.not_eq_false'] at h); first | (simp (maxSteps := 2000000) (disch := first | omega | assumption | exact idP rfl | exact idP (bL rfl)) only [go_sem, reduceIte, Nat.reduceEqDiff, wpV_kd, wpV_tH, h]) | skip)) | (with_reducible intro bk hbk; try have hnk := (fresh_set hbk).1) | (simp (maxSteps := 2000000) (disch := first | omega | assumption | exact idP rfl | exact idP (bL rfl)) only [go_sem, reduceIte, Nat.reduceEqDiff, wpV_kd, wpV_tH])))
  · exact hR _ _ (sB) ⟨⟨op, 0, _, _⟩, rfl⟩
  · exact hR _ _ (sB) ⟨⟨op, n, a, c⟩, rfl⟩
theorem t_TermsValid {v : V} {ts : List TermS} {vars : Int} (hv : LT v ts) : VCall Try.prog n_spec_TermsValid [v, .sc (.int .i64 vars)] M (fun r M' => M = M' ∧ r = .sc (.bool (kindsF vars ts).isSome)) := by
  refine VCall.pure fun R hR => v_spec_TermsValid rfl ?_
  refine sS0 ?_
  refine (t_KindsOf hv).mono ?_
  rintro r _ ⟨rfl, hr⟩
  cases hk : kindsF vars ts with
  | none =>
    rw [hk] at hr
    simp only [kRes] at hr
    subst hr
    refine sS0 ?_
    exact hR _ _ (sB) (by simp [hk])
  | some ks =>
    rw [hk] at hr
    have hr : LI r ks := hr
    obtain ⟨_, _, q1, q2, _, q3⟩ := kindsF_some hk
    refine sS1 @hr.len ?_
    exact hR _ _ (sB) (by refine eqB ?_; simp only [decide_eq_true_eq, hk, Option.isSome_some, iff_true]; omega)
theorem Gr.lenT {M0 : MH} {s : V} {ts : List TermS} (h : Gr 4 M0 M s (catV encT ts)) : lenF (er s) = some (.int .i64 (ts.length : Int)) := by
  obtain ⟨n, h1, _, h2, _⟩ := h.own.len
  have := catV_len (sz := 4) (enc := encT) (fun _ => rfl) ts
  rw [h1]
  congr 3
  omega
theorem t_Joined {v u : V} {xs ys : List TermS} {op vars : Int} (hv : LT v xs) (hu : LT u ys) : VCall Try.prog n_spec_Joined [.sc (.int .i64 op), v, u, .sc (.int .i64 vars)] M (fun r M' => ∃ ts, Gr 4 M M' r (catV encT ts) ∧ ts.length ≤ 81) := by
  refine VCall.plain fun R hR => v_spec_Joined rfl ?_
  (repeat' (first | ((with_reducible first | refine cond_dec (fun h => ?_) (fun h => ?_) | refine guardK_dec (fun h => ?_) (fun h => ?_) | refine guardD3_dec (fun h => ?_) (fun h => ?_)) <;> first | (exfalso; omega) | (simp (maxSteps := 2000000) (disch := first | omega | assumption | exact idP rfl | exact idP (bL rfl)) only [go_sem, reduceIte, Nat.reduceEqDiff, wpV_kd, wpV_tH, h, hv.len, hu.len]) | skip) | ((with_reducible first | refine cond_split (fun h => ?_) (fun h => ?_) | refine guardK_split (fun h => ?_) (fun h => ?_) | refine guardD3_split (fun h => ?_) (fun h => ?_)) <;> ((try simp only [Bool.not_eq_true', Bool.not_eq_false'] at h); first | (simp (maxSteps := 2000000) (disch := first | omega | assumption | exact idP rfl | exact idP (bL rfl)) only [go_sem, reduceIte, Nat.reduceEqDiff, wpV_kd, wpV_tH, h, hv.len, hu.len]) | skip)) | ((with_reducible refine (t_TermsValid hv).mono ?_); rintro _ _ ⟨rfl, rfl⟩) | ((with_reducible refine (t_TermsValid hu).mono ?_); rintro _ _ ⟨rfl, rfl⟩) | (with_reducible intro bk hbk; try have hnk := (fresh_set hbk).1) | (simp (maxSteps := 2000000) (disch := first | omega | assumption | exact idP rfl | exact idP (bL rfl)) only [go_sem, reduceIte, Nat.reduceEqDiff, wpV_kd, wpV_tH, hv.len, hu.len])))
  · exact hR _ _ ⟨[], .nil (.refl M), by simp⟩
  · exact hR _ _ ⟨[], .nil (.refl M), by simp⟩
  rename_i hx
  have hy := h
  have hxl : xs.length ≤ 40 := by
    cases hk : kindsF vars xs with
    | none => rw [hk] at hx; cases hx
    | some ks => have := kindsF_some hk; omega
  have hyl : ys.length ≤ 40 := by
    cases hk : kindsF vars ys with
    | none => rw [hk] at hy; cases hy
    | some ks => have := kindsF_some hk; omega
  refine loop_k (fun e M' => ∃ i : Nat, i ≤ xs.length ∧ e 0 = .sc (.int .i64 op) ∧ e 1 = v ∧ e 2 = u ∧ e 3 = .sc (.int .i64 vars) ∧ e 10 = .sc (.int .i64 i) ∧ Gr 4 M M' (e 9) (catV encT (xs.take i))) (fun e _ => ctrV xs.length (e 10)) ?_ ?_
  · exact ⟨0, by omega, sT0, sT0, sT0, sT0, by refine sS0 ?_; rfl, by refine sS0 ?_; exact Gr.new' (Sub.refl M) hbk rfl⟩
  · rintro e M1 ⟨i, hi, e0, e1, e2, e3, e10, hg⟩ K hK
    refine sS6 @e0 @e1 @e2 @e3 @e10 @hv.len ?_
    refine cond_dec (fun h => ?_) (fun h => ?_)
    · have hi' : i < xs.length := by omega
      simp (maxSteps := 2000000) (disch := first | omega | assumption | exact idP rfl | exact idP (bL rfl)) only [go_sem, reduceIte, Nat.reduceEqDiff, wpV_kd, wpV_tH, e0, e1, e2, e3, e10, hv.iaddr, LT.at hv hi', encT_take]
      intro bt hbt
      refine app_term xs[i] hg hbt rfl (by simp; omega) (by omega) ?_
      intro s' M' hg' _
      refine sS0 ?_
      exact hK _ _ ⟨i + 1, by omega, sT0, sT0, sT0, sT0, by refine sS0 ?_; rfl, by refine sS0 ?_; rw [take_snoc hi']; exact hg'⟩ (by refine sS2 @ctrV_int @e10 ?_; omega)
    · obtain rfl : i = xs.length := by omega
      rw [List.take_length] at hg
      refine sS0 ?_
      refine loop_k (fun e M' => ∃ (i : Nat) (zs : List TermS), i ≤ ys.length ∧ zs.length = xs.length + i ∧ e 0 = .sc (.int .i64 op) ∧ e 1 = v ∧ e 2 = u ∧ e 3 = .sc (.int .i64 vars) ∧ e 11 = .sc (.int .i64 i) ∧ Gr 4 M M' (e 9) (catV encT zs)) (fun e _ => ctrV ys.length (e 11)) ?_ ?_
      · exact ⟨0, xs, by omega, rfl, sT1 @e0, sT1 @e1, sT1 @e2, sT1 @e3, by refine sS0 ?_; rfl, by refine sS0 ?_; exact hg⟩
      · clear e0 e1 e2 e3 e10 hg
        rintro e M1 ⟨i, zs, hi, hz, e0, e1, e2, e3, e11, hg⟩ K2 hK2
        by_cases hi3 : (i : Int) < (ys.length : Int)
        · have hd : decide ((i : Int) < (ys.length : Int)) = true := by simp; omega
          have hi' : i < ys.length := by omega
          by_cases h7 : op = 7
          · have hd7 : decide (op = 7) = true := by simp [h7]
            (repeat' (first | ((with_reducible first | refine cond_dec (fun h => ?_) (fun h => ?_) | refine guardK_dec (fun h => ?_) (fun h => ?_) | refine guardD3_dec (fun h => ?_) (fun h => ?_)) <;> first | (exfalso; omega) | (simp (maxSteps := 2000000) (disch := first | omega | assumption | exact idP rfl | exact idP (bL rfl)) only [go_sem, reduceIte, Nat.reduceEqDiff, wpV_kd, wpV_tH, h, e0, e1, e2, e3, e11, hu.len, hd, hd7, hv.len, hg.lenT]) | skip) | ((with_reducible first | refine cond_split (fun h => ?_) (fun h => ?_) | refine guardK_split (fun h => ?_) (fun h => ?_) | refine guardD3_split (fun h => ?_) (fun h => ?_)) <;> ((try simp only [Bool.not_eq_true', Bool.not_eq_false'] at h); first | (simp (maxSteps := 2000000) (disch := first | omega | assumption | exact idP rfl | exact idP (bL rfl)) only [go_sem, reduceIte, Nat.reduceEqDiff, wpV_kd, wpV_tH, h, e0, e1, e2, e3, e11, hu.len, hd, hd7, hv.len, hg.lenT]) | skip)) | ((with_reducible refine (t_l1One).mono ?_); rintro _ _ ⟨rfl, rfl⟩) | (with_reducible intro bk hbk; try have hnk := (fresh_set hbk).1) | (simp (maxSteps := 2000000) (disch := first | omega | assumption | exact idP rfl | exact idP (bL rfl)) only [go_sem, reduceIte, Nat.reduceEqDiff, wpV_kd, wpV_tH, e0, e1, e2, e3, e11, hu.len, hd, hd7, hv.len, hg.lenT])))
            refine app_term ⟨op, 0, _, _⟩ hg hbk rfl (by omega) (by omega) ?_
            intro s' M2 hg2 _
            have hz2 : (zs ++ [(⟨op, 0, (xs.length : Int) - 1, (zs.length : Int) - 1⟩ : TermS)]).length ≤ 81 := by simp; omega
            generalize zs ++ [(⟨op, 0, (xs.length : Int) - 1, (zs.length : Int) - 1⟩ : TermS)] = qs at *
            by_cases h2 : op < 2
            · have hd2 : decide (op < 2) = true := by simp [h2]
              refine sS1 @hd2 ?_
              exact hR _ _ ⟨[], .nil hg2.sub, by simp⟩
            · have hd2 : decide (op < 2) = false := by simp [h2]
              refine sS1 @hd2 ?_
              refine (VCall.lend0 hg2.own flat_eq fun u M' hu => t_TermsValid hu.lt).mono ?_
              rintro _ _ ⟨rfl, rfl⟩
              (repeat' (first | ((with_reducible first | refine cond_dec (fun h => ?_) (fun h => ?_) | refine guardK_dec (fun h => ?_) (fun h => ?_) | refine guardD3_dec (fun h => ?_) (fun h => ?_)) <;> first | (exfalso; omega) | (simp (maxSteps := 2000000) (disch := first | omega | assumption | exact idP rfl | exact idP (bL rfl)) only [go_sem, reduceIte, Nat.reduceEqDiff, wpV_kd, wpV_tH, h]) | skip) | ((with_reducible first | refine cond_split (fun h => ?_) (fun h => ?_) | refine guardK_split (fun h => ?_) (fun h => ?_) | refine guardD3_split (fun h => ?_) (fun h => ?_)) <;> ((try simp only [Bool.not_eq_true', Bool.not_eq_false'] at h); first | (simp (maxSteps := 2000000) (disch := first | omega | assumption | exact idP rfl | exact idP (bL rfl)) only [go_sem, reduceIte, Nat.reduceEqDiff, wpV_kd, wpV_tH, h]) | skip)) | (with_reducible intro bk hbk; try have hnk := (fresh_set hbk).1) | (simp (maxSteps := 2000000) (disch := first | omega | assumption | exact idP rfl | exact idP (bL rfl)) only [go_sem, reduceIte, Nat.reduceEqDiff, wpV_kd, wpV_tH])))
              all_goals first | exact hR _ _ ⟨[], .nil hg2.sub, by simp⟩ | exact hR _ _ ⟨qs, hg2, hz2⟩
          · have hd7 : decide (op = 7) = false := by simp [h7]
            (repeat' (first | ((with_reducible first | refine cond_dec (fun h => ?_) (fun h => ?_) | refine guardK_dec (fun h => ?_) (fun h => ?_) | refine guardD3_dec (fun h => ?_) (fun h => ?_)) <;> first | (exfalso; omega) | (simp (maxSteps := 2000000) (disch := first | omega | assumption | exact idP rfl | exact idP (bL rfl)) only [go_sem, reduceIte, Nat.reduceEqDiff, wpV_kd, wpV_tH, h, e0, e1, e2, e3, e11, hu.len, hd, hd7, hu.iaddr, LT.at hu hi', encT_take, hv.len]) | skip) | ((with_reducible first | refine cond_split (fun h => ?_) (fun h => ?_) | refine guardK_split (fun h => ?_) (fun h => ?_) | refine guardD3_split (fun h => ?_) (fun h => ?_)) <;> ((try simp only [Bool.not_eq_true', Bool.not_eq_false'] at h); first | (simp (maxSteps := 2000000) (disch := first | omega | assumption | exact idP rfl | exact idP (bL rfl)) only [go_sem, reduceIte, Nat.reduceEqDiff, wpV_kd, wpV_tH, h, e0, e1, e2, e3, e11, hu.len, hd, hd7, hu.iaddr, LT.at hu hi', encT_take, hv.len]) | skip)) | ((with_reducible refine (t_l1One).mono ?_); rintro _ _ ⟨rfl, rfl⟩) | (with_reducible intro bk hbk; try have hnk := (fresh_set hbk).1) | (simp (maxSteps := 2000000) (disch := first | omega | assumption | exact idP rfl | exact idP (bL rfl)) only [go_sem, reduceIte, Nat.reduceEqDiff, wpV_kd, wpV_tH, e0, e1, e2, e3, e11, hu.len, hd, hd7, hu.iaddr, LT.at hu hi', encT_take, hv.len])))
            refine t_l1Moved.mono ?_
            rintro _ _ ⟨rfl, t', rfl⟩
            refine sS0 ?_
            intro bt hbt
            refine app_term t' hg hbt rfl (by omega) (by omega) ?_
            intro s' M' hg' _
            refine sS0 ?_
            exact hK2 _ _ ⟨i + 1, zs ++ [t'], by omega, by simp; omega, sE0, sE0, sE0, sE0, sE0, by refine sS0 ?_; exact hg'⟩ (by refine sS2 @ctrV_int @e11 ?_; omega)
        · have hd : decide ((i : Int) < (ys.length : Int)) = false := by simp; omega
          (repeat' (first | ((with_reducible first | refine cond_dec (fun h => ?_) (fun h => ?_) | refine guardK_dec (fun h => ?_) (fun h => ?_) | refine guardD3_dec (fun h => ?_) (fun h => ?_)) <;> first | (exfalso; omega) | (simp (maxSteps := 2000000) (disch := first | omega | assumption | exact idP rfl | exact idP (bL rfl)) only [go_sem, reduceIte, Nat.reduceEqDiff, wpV_kd, wpV_tH, h, e0, e1, e2, e3, e11, hu.len, hd, hv.len, hg.lenT]) | skip) | ((with_reducible first | refine cond_split (fun h => ?_) (fun h => ?_) | refine guardK_split (fun h => ?_) (fun h => ?_) | refine guardD3_split (fun h => ?_) (fun h => ?_)) <;> ((try simp only [Bool.not_eq_true', Bool.not_eq_false'] at h); first | (simp (maxSteps := 2000000) (disch := first | omega | assumption | exact idP rfl | exact idP (bL rfl)) only [go_sem, reduceIte, Nat.reduceEqDiff, wpV_kd, wpV_tH, h, e0, e1, e2, e3, e11, hu.len, hd, hv.len, hg.lenT]) | skip)) | (with_reducible intro bk hbk; try have hnk := (fresh_set hbk).1) | (simp (maxSteps := 2000000) (disch := first | omega | assumption | exact idP rfl | exact idP (bL rfl)) only [go_sem, reduceIte, Nat.reduceEqDiff, wpV_kd, wpV_tH, e0, e1, e2, e3, e11, hu.len, hd, hv.len, hg.lenT])))
          refine app_term ⟨op, 0, _, _⟩ hg hbk rfl (by omega) (by omega) ?_
          intro s' M2 hg2 _
          have hz2 : (zs ++ [(⟨op, 0, (xs.length : Int) - 1, (zs.length : Int) - 1⟩ : TermS)]).length ≤ 81 := by simp; omega
          generalize zs ++ [(⟨op, 0, (xs.length : Int) - 1, (zs.length : Int) - 1⟩ : TermS)] = qs at *
          by_cases h2 : op < 2
          · have hd2 : decide (op < 2) = true := by simp [h2]
            refine sS1 @hd2 ?_
            exact hR _ _ ⟨[], .nil hg2.sub, by simp⟩
          · have hd2 : decide (op < 2) = false := by simp [h2]
            refine sS1 @hd2 ?_
            refine (VCall.lend0 hg2.own flat_eq fun u M' hu => t_TermsValid hu.lt).mono ?_
            rintro _ _ ⟨rfl, rfl⟩
            (repeat' (first | ((with_reducible first | refine cond_dec (fun h => ?_) (fun h => ?_) | refine guardK_dec (fun h => ?_) (fun h => ?_) | refine guardD3_dec (fun h => ?_) (fun h => ?_)) <;> first | (exfalso; omega) | (simp (maxSteps := 2000000) (disch := first | omega | assumption | exact idP rfl | exact idP (bL rfl)) only [go_sem, reduceIte, Nat.reduceEqDiff, wpV_kd, wpV_tH, h]) | skip) | ((with_reducible first | refine cond_split (fun h => ?_) (fun h => ?_) | refine guardK_split (fun h => ?_) (fun h => ?_) | refine guardD3_split (fun h => ?_) (fun h => ?_)) <;> ((try simp only [Bool.not_eq_true', Bool.not_eq_false'] at h); first | (simp (maxSteps := 2000000) (disch := first | omega | assumption | exact idP rfl | exact idP (bL rfl)) only [go_sem, reduceIte, Nat.reduceEqDiff, wpV_kd, wpV_tH, h]) | skip)) | (with_reducible intro bk hbk; try have hnk := (fresh_set hbk).1) | (simp (maxSteps := 2000000) (disch := first | omega | assumption | exact idP rfl | exact idP (bL rfl)) only [go_sem, reduceIte, Nat.reduceEqDiff, wpV_kd, wpV_tH])))
            all_goals first | exact hR _ _ ⟨[], .nil hg2.sub, by simp⟩ | exact hR _ _ ⟨qs, hg2, hz2⟩
theorem encVar_take (v : VarS) : (encVar v).take 3 = encVar v := rfl
theorem LVar.at' {v : V} {vs : List VarS} (h : LVar v vs) {i : Nat} (hi : i < vs.length) : atN 3 v i = encVar vs[i] := h.elt hi
theorem t_l2When {rb : Nat} {w v : V} {code : List Int} {p : Int} {vs : List VarS} (hr : Rdr w code) (hm : M rb = some (rdC w p)) (h0 : 0 ≤ p) (h1 : p ≤ 900000) (hv : LVar v vs) (hb : ∀ x ∈ vs, VarB x) (hl : 0 < vs.length) (hl2 : vs.length ≤ 1048576) :
    VCall Try.prog n_spec_l2When [.sc (.ptr (some (rb, 0))), v] M (fun r M' => ∃ p' c, Gr 4 (M.set rb (rdC w p')) M' r c ∧ DT p 10 0 81 c p') := by
  refine VCall.plain fun R hR => v_spec_l2When rfl ?_
  have rs0 := RS.start hm
  refine sS1 @hv.len ?_
  refine (t_pick hr hm h0 (by omega)).mono ?_
  rintro _ _ ⟨rfl, k, rfl, k0, k1, _⟩
  have k1 := k1 (by omega)
  have rs1 := rs0.set (p + 1)
  generalize hM1 : M.set rb (rdC w (p + 1)) = M1 at *
  have hki : k.toNat < vs.length := by omega
  simp (maxSteps := 2000000) (disch := first | omega | assumption | exact idP rfl | exact idP (bL rfl)) only [go_sem, reduceIte, Nat.reduceEqDiff, wpV_kd, wpV_tH, hv.len, hv.iaddr, LVar.at' hv hki, encVar_take]
  refine (t_l2Cond hr rs1.at_ (by omega) (by omega) (hb _ (List.getElem_mem hki))).mono ?_
  rintro ul M2 ⟨p2, c, hg, d1, d2, ts, rfl, hts1, hts2⟩
  have rs2 := rs1.to hg.sub
  refine sS0 ?_
  refine (t_pick hr rs2.at_ (by omega) (by omega)).mono ?_
  rintro _ _ ⟨rfl, k', rfl, _, _, _⟩
  have rs3 := rs2.set (p2 + 1)
  have hg3 : Gr 4 (M.set rb (rdC w (p2 + 1))) (M2.set rb (rdC w (p2 + 1))) ul (catV encT ts) := by
    rw [← hM1, set_set] at hg; exact hg.rd
  generalize hM3 : M2.set rb (rdC w (p2 + 1)) = M3 at *
  refine sS0 ?_
  refine cond_dec (fun hk => ?_) (fun hk => ?_)
  · refine sS1 @hv.len ?_
    refine (t_pick hr rs3.at_ (by omega) (by omega)).mono ?_
    rintro _ _ ⟨rfl, j, rfl, j0, j1, _⟩
    have j1 := j1 (by omega)
    have hji : j.toNat < vs.length := by omega
    have rs4 := rs3.set (p2 + 1 + 1)
    have hg4 := hg3.rd (Y := rdC w (p2 + 1 + 1))
    generalize hM4 : M3.set rb (rdC w (p2 + 1 + 1)) = M4 at *
    simp (maxSteps := 2000000) (disch := first | omega | assumption | exact idP rfl | exact idP (bL rfl)) only [go_sem, reduceIte, Nat.reduceEqDiff, wpV_kd, wpV_tH, hv.len, hv.iaddr, LVar.at' hv hji, encVar_take]
    intro b5 hb5
    refine (t_numL [8, 9, 8] hr hb5 rs4.at_ (by omega) (by omega) rfl rfl (by simp) (by simp)).mono ?_
    rintro _ _ ⟨rfl, op, hop, rfl⟩
    have rs5 := rs4.set (p2 + 1 + 1 + 1)
    have hg5 := hg4.rd (Y := rdC w (p2 + 1 + 1 + 1))
    generalize hM5 : M4.set rb (rdC w (p2 + 1 + 1 + 1)) = M5 at *
    simp (maxSteps := 2000000) (disch := first | omega | assumption | exact idP rfl | exact idP (bL rfl)) only [go_sem, reduceIte, Nat.reduceEqDiff, wpV_kd, wpV_tH, hv.len, hv.iaddr, LVar.at' hv hji, encVar_take]
    refine (VCall.frT4 (t_l2Cond hr rs5.at_ (by omega) (by omega) (hb _ (List.getElem_mem hji)))).mono ?_
    rintro u2 _ ⟨p6, rfl, d3, d4, ts2, hu2, _, _⟩
    have hg6 := hg5.rd (Y := rdC w p6)
    refine sS1 @hv.len ?_
    refine (VCall.give1 hg6 fun u M7 hu hs7 => (t_Joined hu.lt hu2).mono fun r M' ⟨zs, hz, hzl⟩ => (show ∃ zs, Gr 4 (M.set rb (rdC w p6)) M' r (catV encT zs) ∧ zs.length ≤ 81 from ⟨zs, hz.base hs7, hzl⟩)).mono ?_
    rintro r M8 ⟨zs, hz, hzl⟩
    refine sS0 ?_
    exact hR _ _ ⟨_, _, hz, by omega, by omega, _, rfl, by omega, hzl⟩
  · refine sS0 ?_
    exact hR _ _ ⟨_, _, hg3, by omega, by omega, _, rfl, by omega, by omega⟩
end Go.M2

namespace Go.M2
open Go.Proofs
variable {M : MH}
end Go.M2

namespace Go.M2
open Go.Proofs
variable {M : MH}
end Go.M2

namespace Go.M2
open Go.Proofs
theorem least {p : Nat → Prop} (h : ∃ n, p n) : ∃ n, p n ∧ ∀ m, p m → n ≤ m := by
  obtain ⟨n, hn⟩ := h
  induction n using Nat.strongRecOn with
  | _ n ih =>
    by_cases h2 : ∃ m, m < n ∧ p m
    · obtain ⟨m, h3, h4⟩ := h2
      exact ih m h3 h4
    · refine ⟨n, hn, fun m hm => ?_⟩
      rcases Nat.lt_or_ge m n with h3 | h3
      · exact absurd ⟨m, h3, hm⟩ h2
      · exact h3
open Classical in
noncomputable def leastOf (p : Nat → Prop) : Nat := if h : ∃ n, p n then (least h).choose else 0
theorem leastOf_spec {p : Nat → Prop} (h : ∃ n, p n) : p (leastOf p) ∧ ∀ m, p m → leastOf p ≤ m := by
  unfold leastOf
  rw [dif_pos h]
  exact (least h).choose_spec
theorem loop_g {P : Program} {Q : PostV} {e : EnvV} {M : MH} {a : IR} (I : Nat → EnvV → MH → Prop) (n : Nat) (h0 : I n e M)
    (hr : ∀ n e M, I n e M → ∀ K : EnvV → MH → Prop, (∀ m e' M', m < n → I m e' M' → K e' M') → wpV P a (thenQV K Q) e M) : wpV P (.loop a) Q e M := by
  refine loop_k (fun e M => ∃ n, I n e M) (fun e M => leastOf fun n => I n e M) ⟨n, h0⟩ fun e M hI K hK => ?_
  have h1 := leastOf_spec hI
  exact hr _ e M h1.1 K fun m e' M' hm hI' => hK e' M' ⟨m, hI'⟩ (Nat.lt_of_le_of_lt ((leastOf_spec ⟨m, hI'⟩).2 m hI') hm)
def Wn (M0 M : MH) (v : V) (xs : List Int) : Prop := ∃ b o ex l, v = .sc (.sl (some (b, o)) xs.length xs.length ex 1) ∧ M b = some l ∧ o + xs.length ≤ l.length ∧ (l.drop o).take xs.length = xs.map vi ∧ M0 b = none ∧ Sub M0 M
section
variable {M0 M : MH} {v : V} {x : Int} {xs : List Int} {K : V → MH → Prop} {by_ : Nat}
theorem Wn.len (h : Wn M0 M v xs) : lenF (er v) = some (.int .i64 (xs.length : Int)) := by
  obtain ⟨b, o, ex, l, rfl, _⟩ := h; rfl
theorem Wn.sub (h : Wn M0 M v xs) : Sub M0 M := by
  obtain ⟨b, o, ex, l, rfl, _, _, _, _, hs⟩ := h; exact hs
theorem Wn.oth {q : Nat} {l' : List V} (h : Wn M0 M v xs) (hq : blkV v ≠ some q) (h0 : M0 q = none) : Wn M0 (M.set q l') v xs := by
  obtain ⟨b, o, ex, l, rfl, h1, h2, h3, h4, h5⟩ := h
  have hne : b ≠ q := fun e => hq (by simp [blkV, e])
  exact ⟨b, o, ex, l, rfl, by rw [set_ne hne]; exact h1, h2, h3, h4, h5.set h0⟩
end
inductive Rch (tab : List (List Int)) (st : Nat → Prop) : Nat → Prop
  | base {i : Nat} : st i → Rch tab st i
  | step {i : Nat} {x : Int} : Rch tab st i → x ∈ tab.getD i [] → Rch tab st x.toNat
noncomputable def rB (tab : List (List Int)) (st : Nat → Prop) (i : Nat) : Bool := @decide (Rch tab st i) (Classical.propDecidable _)
theorem rB_iff {tab : List (List Int)} {st : Nat → Prop} {i : Nat} : rB tab st i = true ↔ Rch tab st i := by unfold rB; exact @decide_eq_true_iff _ (Classical.propDecidable _)
theorem rB_closed {tab : List (List Int)} {st : Nat → Prop} {m : Nat → Bool} (h0 : ∀ i, st i → m i = true) (h1 : ∀ i, m i = true → Rch tab st i) (h2 : ∀ i, m i = true → ∀ x ∈ tab.getD i [], m x.toNat = true) (i : Nat) : m i = rB tab st i := by
  rw [Bool.eq_iff_iff, rB_iff]
  constructor
  · exact h1 i
  · intro h
    induction h with
    | base h => exact h0 _ h
    | step _ hx ih => exact h2 _ ih _ hx
end Go.M2

namespace Go.M2
open Go.Proofs
variable {M : MH}
theorem RS.set' {M0 M M' : MH} {rb : Nat} {w : V} {p q : Int} (h : RS M0 rb w M p) (e : M' = M.set rb (rdC w q)) : RS M0 rb w M' q := e ▸ h.set q
theorem Gr.rd' {M0 M M' : MH} {rb sz : Nat} {X Y l : List V} {s : V} (h : Gr sz (M0.set rb X) M s l) (e : M' = M.set rb Y) : Gr sz (M0.set rb Y) M' s l := e ▸ h.rd
theorem VCall.pureR {P : Program} {f : FuncId} {args : List V} {rb : Nat} {w : V} {q : V → Int → Prop} (h : ∀ R : V → MH → Prop, (∀ r M' p', Sub (M.set rb (rdC w p')) M' → q r p' → R r M') → VCall P f args M R) : VCall P f args M (fun r M' => ∃ p', M' = M.set rb (rdC w p') ∧ q r p') :=
  VCall.of fun R hR => h R fun r M' p' h1 h2 => hR r r M' _ _ h1 (.refl _ _) ⟨p', rfl, h2⟩
theorem t_l1Number {rb : Nat} {w : V} {code : List Int} {p : Int} (hr : Rdr w code) (hm : M rb = some (rdC w p)) (h0 : 0 ≤ p) (h1 : p ≤ 1000000) :
    VCall Try.prog n_spec_l1Number [.sc (.ptr (some (rb, 0)))] M (fun r M' => ∃ p', M' = M.set rb (rdC w p') ∧ p ≤ p' ∧ p' ≤ p + 6 ∧ ∃ k : Int, r = .sc (.int .i64 k) ∧ -10000 ≤ k ∧ k ≤ 10000) := by
  refine VCall.pureR fun R hR => v_spec_l1Number rfl ?_
  have rs0 := RS.start hm
  refine sS0 ?_
  refine (t_pick hr rs0.at_ (by omega) (by omega)).mono ?_
  rintro _ M1 ⟨e1, k1, rfl, a1, b1, _⟩
  have rs1 := rs0.set' e1
  refine sS0 ?_
  refine (t_pick hr rs1.at_ (by omega) (by omega)).mono ?_
  rintro _ M2 ⟨e2, k2, rfl, a2, b2, _⟩
  have rs2 := rs1.set' e2
  refine sS0 ?_
  refine (t_pick hr rs2.at_ (by omega) (by omega)).mono ?_
  rintro _ M3 ⟨e3, k3, rfl, a3, b3, _⟩
  have rs3 := rs2.set' e3
  have b1 := b1 (by omega)
  have b2 := b2 (by omega)
  have b3 := b3 (by omega)
  refine sS0 ?_
  refine (t_pick hr rs3.at_ (by omega) (by omega)).mono ?_
  rintro _ M4 ⟨e4, k4, rfl, a4, b4, _⟩
  have rs4 := rs3.set' e4
  have b4 := b4 (by omega)
  refine sS0 ?_
  intro bl hbl
  have hne := rs4.ne' hbl
  have rs5 := rs4.more ((Sub.refl M4).set' (l := [9999, -9999, 5000, 100].map vi) hbl)
  have ql : (M4.set bl ([9999, -9999, 5000, 100].map vi)) bl = some ([9999, -9999, 5000, 100].map vi) := set_same
  change VCall _ _ _ (M4.set bl ([9999, -9999, 5000, 100].map vi)) _
  refine (t_pick hr rs5.at_ (by omega) (by omega)).mono ?_
  rintro _ M5 ⟨e5, k5, rfl, a5, b5, _⟩
  have rs6 := rs5.set' e5
  have b5 := b5 (by omega)
  have ql5 : M5 bl = some ([9999, -9999, 5000, 100].map vi) := by rw [e5, set_ne (Ne.symm hne)]; exact ql
  obtain ⟨n, hn, n1, n2⟩ : ∃ n : Int, ([vi 9999, vi (-9999), vi 5000, vi 100] : List V)[k5.toNat]? = some (.sc (.int .i64 n)) ∧ -10000 ≤ n ∧ n ≤ 10000 := by
    have : k5 = 0 ∨ k5 = 1 ∨ k5 = 2 ∨ k5 = 3 := by omega
    rcases this with rfl | rfl | rfl | rfl
    · exact ⟨9999, rfl, by omega, by omega⟩
    · exact ⟨-9999, rfl, by omega, by omega⟩
    · exact ⟨5000, rfl, by omega, by omega⟩
    · exact ⟨100, rfl, by omega, by omega⟩
  refine sS2 @ql5 @hn ?_
  intro bn hbn
  refine (t_numL [k1, k2, k3 - 3, 1, 0, k4 - 100, n] hr hbn rs6.at_ (by omega) (by omega) rfl rfl (by simp) (by simp)).mono ?_
  rintro _ M6 ⟨e6, x, hx, rfl⟩
  have rs7 := rs6.set' e6
  refine sS0 ?_
  refine hR _ _ _ rs7.sub ⟨by omega, by omega, x, rfl, ?_⟩
  simp only [List.mem_cons, List.not_mem_nil, or_false] at hx
  omega
theorem t_l1Pick {rb : Nat} {w v : V} {code ks : List Int} {p kind : Int} (hr : Rdr w code) (hm : M rb = some (rdC w p)) (h0 : 0 ≤ p) (h1 : p ≤ 1000000) (hv : LI v ks) (hl : ks.length ≤ 1048576) :
    VCall Try.prog n_spec_l1Pick [.sc (.ptr (some (rb, 0))), v, .sc (.int .i64 kind)] M (fun r M' => ∃ p', M' = M.set rb (rdC w p') ∧ p' = p + 1 ∧ ∃ k : Int, r = .sc (.int .i64 k) ∧ -1 ≤ k ∧ k < (ks.length : Int)) := by
  refine VCall.pureR fun R hR => v_spec_l1Pick rfl ?_
  have rs0 := RS.start hm
  refine sS1 @hv.len ?_
  refine (t_pick hr rs0.at_ (by omega) (by omega)).mono ?_
  rintro _ M1 ⟨e1, k, rfl, a1, b1, c1⟩
  have rs1 := rs0.set' e1
  refine sS0 ?_
  refine loop_k (fun e M' => M' = M1 ∧ ∃ i : Nat, i ≤ ks.length ∧ e 1 = v ∧ e 2 = .sc (.int .i64 kind) ∧ e 7 = .sc (.int .i64 k) ∧ e 8 = .sc (.int .i64 i)) (fun e _ => ctrV ks.length (e 8)) ?_ ?_
  · exact ⟨rfl, 0, by omega, sE0, sE0, sE0, sE0⟩
  · rintro e _ ⟨rfl, i, hi, q1, q2, q7, q8⟩ K hK
    refine sS5 @q1 @q2 @q7 @q8 @hv.len ?_
    refine cond_dec (fun h => ?_) (fun h => ?_)
    · have hN : (0 : Int) < (ks.length : Int) := by omega
      have hk := b1 (by omega)
      have m1 := Int.emod_nonneg (k + (i : Int)) (b := (ks.length : Int)) (by omega)
      have m2 := Int.emod_lt_of_pos (k + (i : Int)) hN
      generalize hq : (k + (i : Int)) % (ks.length : Int) = q at *
      simp (maxSteps := 2000000) (disch := first | omega | assumption | exact idP rfl | exact idP (bL rfl)) only [go_sem, reduceIte, Nat.reduceEqDiff, wpV_kd, wpV_tH, q1, q2, q7, q8, hv.len, hq, hv.iaddr, LI.at hv (i := q.toNat) (by omega)]
      refine cond_dec (fun h2 => ?_) (fun h2 => ?_)
      · refine sS0 ?_
        exact hR _ _ _ rs1.sub ⟨rfl, q, rfl, by omega, by omega⟩
      · refine sS0 ?_
        exact hK _ _ ⟨rfl, i + 1, by omega, sE0, sE0, sE0, sE0⟩ (by refine sS2 @ctrV_int @q8 ?_; omega)
    · refine sS0 ?_
      exact hR _ _ _ rs1.sub ⟨rfl, -1, rfl, by omega, by omega⟩
theorem midQ {P : Program} {Q : PostV} {e : EnvV} {a : IR} {K : EnvV → MH → Prop} (J : EnvV → MH → Prop) (h : ∀ (K' : EnvV → MH → Prop) (Q' : PostV), (∀ e' M', J e' M' → K' e' M') → wpV P a (thenQV K' Q') e M) (hk : ∀ e' M', J e' M' → K e' M') : wpV P a (thenQV K Q) e M := h K Q hk
theorem Gr.off {B M : MH} {sz b : Nat} {s : V} {l x : List V} (h : Gr sz B M s l) (hb : blkV s ≠ some b) (hB : B b = none) : Gr sz B (M.set b x) s l := by
  refine ⟨fun i l' hi => ?_, h.new, ?_⟩
  · rw [set_ne (fun e => by subst e; rw [hB] at hi; cases hi)]; exact h.sub i l' hi
  · rcases h.own with ⟨e, k, e2⟩ | ⟨b', n, ex, rfl, h1, h2⟩
    · exact .inl ⟨e, k, e2⟩
    · exact .inr ⟨b', n, ex, rfl, by rw [set_ne (fun e => hb (by simp [blkV, e]))]; exact h1, h2⟩
theorem RS.off {M0 M : MH} {rb b : Nat} {w : V} {p : Int} {x : List V} (h : RS M0 rb w M p) (hb : b ≠ rb) (h0 : M0 b = none) : RS M0 rb w (M.set b x) p := by
  refine ⟨by rw [set_ne (Ne.symm hb)]; exact h.at_, fun i l' hi => ?_⟩
  rw [set_ne (fun e => by subst e; rw [set_ne hb, h0] at hi; cases hi)]; exact h.sub i l' hi
structure TK (M0 M : MH) (rb : Nat) (w : V) (p : Int) (s9 s10 : V) (ts : List TermS) (ks : List Int) : Prop where
  rs : RS M0 rb w M p
  g9 : Gr 4 (M0.set rb (rdC w p)) M s9 (catV encT ts)
  g10 : Gr 1 (M0.set rb (rdC w p)) M s10 (ks.map vi)
  sep : ∀ b, blkV s10 = some b → blkV s9 ≠ some b
  len : ts.length = ks.length
section
variable {M0 M M' : MH} {rb : Nat} {w s9 s10 : V} {p q : Int} {ts : List TermS} {ks : List Int} {K : V → MH → Prop}
theorem TK.rd' (h : TK M0 M rb w p s9 s10 ts ks) (e : M' = M.set rb (rdC w q)) : TK M0 M' rb w q s9 s10 ts ks := ⟨h.rs.set' e, h.g9.rd' e, h.g10.rd' e, h.sep, h.len⟩
theorem TK.more (h : TK M0 M rb w p s9 s10 ts ks) (hs : Sub M M') : TK M0 M' rb w p s9 s10 ts ks := ⟨h.rs.more hs, h.g9.more hs, h.g10.more hs, h.sep, h.len⟩
structure TK.Off (M0 : MH) (rb : Nat) (s9 s10 : V) (b : Nat) : Prop where
  n : b ≠ rb
  z : M0 b = none
  a : blkV s9 ≠ some b
  c : blkV s10 ≠ some b
theorem TK.new (h : TK M0 M rb w p s9 s10 ts ks) {b : Nat} (hb : M b = none) : TK.Off M0 rb s9 s10 b := by
  refine ⟨h.rs.ne hb, h.rs.gone hb, fun e => ?_, fun e => ?_⟩
  · rcases h.g9.own with ⟨_, k, rfl⟩ | ⟨b', n, ex, rfl, h1, h2⟩
    · cases e
    · simp only [blkV, Option.some.injEq] at e; subst e; rw [hb] at h1; cases h1
  · rcases h.g10.own with ⟨_, k, rfl⟩ | ⟨b', n, ex, rfl, h1, h2⟩
    · cases e
    · simp only [blkV, Option.some.injEq] at e; subst e; rw [hb] at h1; cases h1
theorem TK.off (h : TK M0 M rb w p s9 s10 ts ks) {b : Nat} {x : List V} (hb : TK.Off M0 rb s9 s10 b) : TK M0 (M.set b x) rb w p s9 s10 ts ks := by
  have hB : (M0.set rb (rdC w p)) b = none := by rw [set_ne hb.n]; exact hb.z
  exact ⟨h.rs.off hb.n hb.z, h.g9.off hb.a hB, h.g10.off hb.c hB, h.sep, h.len⟩
theorem TK.push9 {by_ bt c k : Nat} {ex : Bool} {l : List V} (t : TermS) (h : TK M0 M rb w p s9 s10 ts ks) (hbt : M bt = none) (e : l = encT t) (hb : ts.length ≤ 1048576) (hby : by_ ≤ 64)
    (hk : ∀ s' M', Gr 4 (M0.set rb (rdC w p)) M' s' (catV encT (ts ++ [t])) → Gr 1 (M0.set rb (rdC w p)) M' s10 (ks.map vi) → (∀ b, blkV s10 = some b → blkV s' ≠ some b) → RS M0 rb w M' p → K s' M') : appV 4 by_ s9 (.sc (.sl (some (bt, 0)) 1 c ex k)) (M.set bt l) K := by
  refine app_term t h.g9 hbt e hb hby fun s' M' h1 h2 => ?_
  obtain ⟨q1, q2⟩ := h.g10.oth (sz' := 4) h2 h.sep h1.sub
  exact hk s' M' h1 q1 q2 ⟨h1.sub _ _ set_same, h1.sub⟩
theorem TK.push10 {by_ bt c k : Nat} {ex : Bool} {n : Int} (h9 : Gr 4 (M0.set rb (rdC w p)) M s9 (catV encT ts)) (h10 : Gr 1 (M0.set rb (rdC w p)) M s10 (ks.map vi)) (hs : ∀ b, blkV s10 = some b → blkV s9 ≠ some b) (hl : ts.length = ks.length + 1) (hbt : M bt = none) (hb : ks.length ≤ 1048576) (hby : by_ ≤ 16)
    (hk : ∀ s' M', TK M0 M' rb w p s9 s' ts (ks ++ [n]) → K s' M') : appV 1 by_ s10 (.sc (.sl (some (bt, 0)) 1 c ex k)) (M.set bt [.sc (.int .i64 n)]) K := by
  refine app_int h10 hbt (by omega) hby fun s' M' h1 h2 => ?_
  obtain ⟨q1, q2⟩ := h9.oth (sz' := 1) h2 (fun b h3 h4 => hs b h4 h3) h1.sub
  exact hk s' M' ⟨⟨h1.sub _ _ set_same, h1.sub⟩, q1, h1, fun b h3 h4 => q2 b h4 h3, by simp; omega⟩
end
theorem t_l1PickO {M0 : MH} {rb : Nat} {w s9 s10 : V} {code ks : List Int} {p kind : Int} {ts : List TermS} (hr : Rdr w code) (tk : TK M0 M rb w p s9 s10 ts ks) (h0 : 0 ≤ p) (h1 : p ≤ 1000000) (hl : ks.length ≤ 1048576) :
    VCall Try.prog n_spec_l1Pick [.sc (.ptr (some (rb, 0))), s10, .sc (.int .i64 kind)] M (fun r M' => M' = M.set rb (rdC w (p + 1)) ∧ ∃ k : Int, r = .sc (.int .i64 k)) :=
  (VCall.lendR (a1 := [.sc (.ptr (some (rb, 0)))]) (q := fun r q' => q' = p + 1 ∧ ∃ k : Int, r = .sc (.int .i64 k)) tk.g10.own (fun e => by have := tk.g10.new rb e; rw [set_same] at this; cases this) tk.rs.at_ (fun r _ ⟨_, k, h⟩ => by subst h; simp [flat])
    fun u M' hu hm' => (t_l1Pick hr hm' h0 h1 hu.li hl).mono fun r M'' ⟨q', h1, h2, k, h3, _⟩ => ⟨q', h1, h2, k, h3⟩).mono fun r M' ⟨q', h1, h2, h3⟩ => ⟨by rw [h1, h2], h3⟩
theorem t_l1Terms {rb : Nat} {w : V} {code : List Int} {p vars kind most : Int} (hr : Rdr w code) (hm : M rb = some (rdC w p)) (h0 : 0 ≤ p) (h1 : p ≤ 900000) (hv0 : 0 ≤ vars) (hv5 : vars ≤ 5) (hm1 : 1 ≤ most) (hm2 : most ≤ 12) :
    VCall Try.prog n_spec_l1Terms [.sc (.ptr (some (rb, 0))), .sc (.int .i64 vars), .sc (.int .i64 kind), .sc (.int .i64 most)] M (fun r M' => ∃ p' c, Gr 4 (M.set rb (rdC w p')) M' r c ∧ DT p 210 1 20 c p') := by
  refine VCall.plain fun R hR => v_spec_l1Terms rfl ?_
  have rs0 := RS.start hm
  refine sS0 ?_
  intro b9 hb9 b10 hb10
  have n10 := (fresh_set hb10).1
  have tk0 : TK M ((M.set b9 []).set b10 []) rb w p (.sc (.sl (some (b9, 0)) 0 0 true 4)) (.sc (.sl (some (b10, 0)) 0 0 true 1)) [] [] := by
    have rs1 := rs0.more ((Sub.refl M).set' (l := []) hb9)
    have rs2 := rs1.more ((Sub.refl (M.set b9 [])).set' (l := []) hb10)
    refine ⟨rs2, ?_, Gr.new' rs1.sub hb10 rfl, fun b h1 h2 => ?_, rfl⟩
    · exact (Gr.new' rs0.sub hb9 rfl).more ((Sub.refl _).set' hb10)
    · simp only [blkV, Option.some.injEq] at h1 h2; omega
  generalize ((M.set b9 []).set b10 []) = M1 at *
  refine (t_pick hr tk0.rs.at_ (by omega) (by omega)).mono ?_
  rintro _ M2 ⟨e2, k2, rfl, a2, b2, _⟩
  have b2 := b2 (by omega)
  have tk1 := tk0.rd' e2
  refine sS0 ?_
  refine loop_g (fun j e M' => ∃ (p' : Int) (ts : List TermS) (ks : List Int), e 0 = .sc (.ptr (some (rb, 0))) ∧ e 1 = .sc (.int .i64 vars) ∧ e 2 = .sc (.int .i64 kind) ∧ e 11 = .sc (.int .i64 (j : Nat)) ∧ TK M M' rb w p' (e 9) (e 10) ts ks ∧ (ts.length : Int) + j ≤ most + 1 ∧ p ≤ p' ∧ p' + 9 * j ≤ p + 180) (2 + k2).toNat ?_ ?_
  · have e11 : (((2 + k2).toNat : Nat) : Int) = 2 + k2 := by omega
    exact ⟨p + 1, [], [], sE0, sE0, sE0, sE1 @e11, by refine sS0 ?_; exact tk1, by simp; omega, by omega, by omega⟩
  · rintro j e M3 ⟨p3, ts, ks, q0, q1, q2, q11, tk, hc, d1, d2⟩ K hK
    refine sS4 @q0 @q1 @q2 @q11 ?_
    refine cond_dec (fun hj => ?_) (fun hj => ?_)
    · refine sS4 @q0 @q1 @q2 @q11 ?_
      intro bn hbn
      refine (t_numL [0, 1, 1, 2, 3, 4, 5, 6, 5, 6, 7, 8, 9] hr hbn tk.rs.at_ (by omega) (by omega) rfl rfl (by simp) (by simp)).mono ?_
      rintro _ M4 ⟨e4, op, hop, rfl⟩
      have tk4 := tk.rd' e4
      simp (maxSteps := 2000000) (disch := first | omega | assumption | exact idP rfl | exact idP (bL rfl)) only [go_sem, reduceIte, Nat.reduceEqDiff, wpV_kd]
      intro b13 hb13
      have off := tk4.new hb13
      have tk5 := tk4.off (x := encT ⟨op, 0, 0, 0⟩) off
      have at5 : (M4.set b13 (encT ⟨op, 0, 0, 0⟩)) b13 = some (encT ⟨op, 0, 0, 0⟩) := set_same
      change wpV _ _ _ _ (M4.set b13 (encT ⟨op, 0, 0, 0⟩))
      generalize M4.set b13 (encT ⟨op, 0, 0, 0⟩) = M5 at *
      generalize hs9 : e 9 = s9 at *
      generalize hs10 : e 10 = s10 at *
      refine midQ (fun e' M' => ∃ (p' : Int) (tt : TermS), e' 0 = .sc (.ptr (some (rb, 0))) ∧ e' 1 = .sc (.int .i64 vars) ∧ e' 2 = .sc (.int .i64 kind) ∧ e' 9 = s9 ∧ e' 10 = s10 ∧ e' 11 = .sc (.int .i64 j) ∧ e' 13 = .sc (.ptr (some (b13, 0))) ∧ M' b13 = some (encT tt) ∧ TK M M' rb w p' s9 s10 ts ks ∧ p3 + 1 ≤ p' ∧ p' ≤ p3 + 8) ?_ ?_
      · intro K' Q' hK'
        have hlen := tk5.g9.lenT
        have at5' : M5 b13 = some [.sc (.int .i64 op), .sc (.int .i64 0), .sc (.int .i64 0), .sc (.int .i64 0)] := at5
        by_cases hz : (ts.length : Int) = 0 ∨ op < 2
        · rcases Classical.em ((ts.length : Int) = 0) with hz1 | hz1
          all_goals first
            | (have hd : decide ((ts.length : Int) = 0) = true := by simp only [decide_eq_true_eq]; exact hz1
               simp (maxSteps := 2000000) (disch := first | omega | assumption | exact idP rfl | exact idP (bL rfl)) only [go_sem, reduceIte, Nat.reduceEqDiff, wpV_kd, wpV_tH, hlen, hd])
            | (have hd : decide ((ts.length : Int) = 0) = false := decide_eq_false hz1
               have hd2 : decide (op < 2) = true := decide_eq_true (hz.resolve_left hz1)
               simp (maxSteps := 2000000) (disch := first | omega | assumption | exact idP rfl | exact idP (bL rfl)) only [go_sem, reduceIte, Nat.reduceEqDiff, wpV_kd, wpV_tH, hlen, hd, hd2])
          all_goals
            refine (t_l1Number hr tk5.rs.at_ (by omega) (by omega)).mono ?_
            rintro _ M6 ⟨p6, e6, d3, d4, k6, rfl, _, _⟩
            have tk6 := tk5.rd' e6
            have at6 : M6 b13 = some [.sc (.int .i64 op), .sc (.int .i64 0), .sc (.int .i64 0), .sc (.int .i64 0)] := by rw [e6, set_ne off.n]; exact at5'
            by_cases hv : 0 < vars
            · have hdv : decide (0 < vars) = true := by simp [hv]
              by_cases ho : op = 0
              · have hdo : decide (op ≠ 0) = false := by simp [ho]
                refine sS3 @at6 @hdv @hdo ?_
                exact hK' _ _ ⟨p6, ⟨0, k6, 0, 0⟩, sE0, sE0, sE0, sE0, sE0, sE0, sE0, set_same, tk6.off off, by omega, by omega⟩
              · have hdo : decide (op ≠ 0) = true := by simp [ho]
                have tk7 := tk6.off (x := [.sc (.int .i64 0), .sc (.int .i64 k6), .sc (.int .i64 0), .sc (.int .i64 0)]) off
                refine sS3 @at6 @hdv @hdo ?_
                refine (t_pick hr tk7.rs.at_ (by omega) (by omega)).mono ?_
                rintro _ M8 ⟨e8, k8, rfl, _, _, _⟩
                have tk8 := tk7.rd' e8
                have at8 : M8 b13 = some [.sc (.int .i64 0), .sc (.int .i64 k6), .sc (.int .i64 0), .sc (.int .i64 0)] := by rw [e8, set_ne off.n]; exact set_same
                refine sS1 @at8 ?_
                exact hK' _ _ ⟨p6 + 1, ⟨1, k8, 0, 0⟩, sE0, sE0, sE0, sE0, sE0, sE0, sE0, set_same, tk8.off off, by omega, by omega⟩
            · have hdv : decide (0 < vars) = false := by simp; omega
              refine sS2 @at6 @hdv ?_
              exact hK' _ _ ⟨p6, ⟨0, k6, 0, 0⟩, sE0, sE0, sE0, sE0, sE0, sE0, sE0, set_same, tk6.off off, by omega, by omega⟩
        · have hd : decide ((ts.length : Int) = 0) = false := decide_eq_false fun h => hz (.inl h)
          have hd2 : decide (op < 2) = false := decide_eq_false fun h => hz (.inr h)
          refine sS3 @hlen @hd @hd2 ?_
          refine cond_dec (fun h7 => ?_) (fun h7 => ?_)
          all_goals
            refine sS0 ?_
            refine (t_l1PickO hr tk5 (by omega) (by omega) (by have := tk5.len; omega)).mono ?_
            rintro _ M6 ⟨e6, k6, rfl⟩
            have tk6 := tk5.rd' e6
            have at6 : M6 b13 = some [.sc (.int .i64 op), .sc (.int .i64 0), .sc (.int .i64 0), .sc (.int .i64 0)] := by rw [e6, set_ne off.n]; exact at5'
            have tk7 := tk6.off (x := [.sc (.int .i64 op), .sc (.int .i64 0), .sc (.int .i64 k6), .sc (.int .i64 0)]) off
            refine sS1 @at6 ?_
            refine (t_l1PickO hr tk7 (by omega) (by omega) (by have := tk5.len; omega)).mono ?_
            rintro _ M8 ⟨e8, k8, rfl⟩
            have tk8 := tk7.rd' e8
            have at8 : M8 b13 = some [.sc (.int .i64 op), .sc (.int .i64 0), .sc (.int .i64 k6), .sc (.int .i64 0)] := by rw [e8, set_ne off.n]; exact set_same
            refine sS1 @at8 ?_
            refine t_l1One.mono ?_
            rintro _ _ ⟨rfl, rfl⟩
            refine sS0 ?_
            refine cond_dec (fun ho => ?_) (fun ho => ?_)
            · refine sS0 ?_
              exact hK' _ _ ⟨_, ⟨op, 0, k6, k6⟩, sE0, sE0, sE0, sE0, sE0, sE0, sE0, set_same, tk8.off off, by omega, by omega⟩
            · refine sS0 ?_
              exact hK' _ _ ⟨_, ⟨op, 0, k6, k8⟩, sE0, sE0, sE0, sE0, sE0, sE0, sE0, set_same, tk8.off off, by omega, by omega⟩
      · clear tk4 tk5 at5 tk off
        rintro e' M6 ⟨p6, tt, q0, q1, q2, q9, q10, q11, q13, at6, tk, d3, d4⟩
        have at6' : M6 b13 = some [.sc (.int .i64 tt.op), .sc (.int .i64 tt.n), .sc (.int .i64 tt.a), .sc (.int .i64 tt.b)] := at6
        refine sS8 @q0 @q1 @q2 @q9 @q10 @q11 @q13 @at6' ?_
        have hkl : ks.length ≤ 40 := by have := tk.len; omega
        refine (VCall.lend1 tk.g10.own flat_eq fun u M' hu => t_l1Kind (t := tt) hu.li hkl hv0 hv5).mono ?_
        rintro _ _ ⟨rfl, rfl⟩
        refine sS8 @at6' @q0 @q1 @q2 @q9 @q10 @q11 @q13 ?_
        refine cond_dec (fun hk0 => ?_) (fun hk0 => ?_)
        · refine sS8 @at6' @q0 @q1 @q2 @q9 @q10 @q11 @q13 ?_
          intro bt hbt
          refine tk.push9 tt hbt rfl (by omega) (by omega) ?_
          intro s' M7 g9 g10 sep rs
          refine sS0 ?_
          intro bt2 hbt2
          refine TK.push10 g9 g10 sep (by simp [tk.len]) hbt2 (by omega) (by omega) ?_
          intro s2 M8 tk8
          refine sS0 ?_
          have ej : (j : Int) - 1 = ((j - 1 : Nat) : Int) := by omega
          exact hK (j - 1) _ _ (by omega) ⟨p6, _, _, sE0, sE0, sE0, sE1 @ej, by refine sS0 ?_; exact tk8, by simp; omega, by omega, by omega⟩
        · refine sS7 @q0 @q1 @q2 @q9 @q10 @q11 @q13 ?_
          have ej : (j : Int) - 1 = ((j - 1 : Nat) : Int) := by omega
          exact hK (j - 1) _ _ (by omega) ⟨p6, ts, ks, sE0, sE0, sE0, sE1 @ej, by refine sS0 ?_; exact tk, by omega, by omega, by omega⟩
    · obtain rfl : j = 0 := by omega
      generalize hs9 : e 9 = s9 at *
      generalize hs10 : e 10 = s10 at *
      clear hK
      simp (maxSteps := 2000000) (disch := first | omega | assumption | exact idP rfl | exact idP (bL rfl)) only [go_sem, reduceIte, Nat.reduceEqDiff, wpV_kd]
      refine midQ (fun e' M' => ∃ (s9 s10 : V) (ts : List TermS) (ks : List Int), e' 0 = .sc (.ptr (some (rb, 0))) ∧ e' 2 = .sc (.int .i64 kind) ∧ e' 9 = s9 ∧ e' 10 = s10 ∧ TK M M' rb w p3 s9 s10 ts ks ∧ 1 ≤ ts.length ∧ ts.length ≤ 13) ?_ ?_
      · intro K' Q' hK'
        refine sS1 @tk.g9.lenT ?_
        refine cond_dec (fun hz => ?_) (fun hz => ?_)
        · refine sS0 ?_
          intro bt hbt
          refine tk.push9 ⟨0, 1, 0, 0⟩ hbt rfl (by omega) (by omega) ?_
          intro s' M7 g9 g10 sep rs
          refine sS0 ?_
          intro bt2 hbt2
          refine TK.push10 g9 g10 sep (by simp [tk.len]) hbt2 (by have := tk.len; omega) (by omega) ?_
          intro s2 M8 tk8
          refine sS0 ?_
          exact hK' _ _ ⟨_, _, _, _, sE0, sE0, sE0, sE0, tk8, by simp, by simp; omega⟩
        · refine sS0 ?_
          exact hK' _ _ ⟨_, _, _, _, sE0, sE0, sE0, sE0, tk, by omega, by omega⟩
      · clear tk hc hs9 hs10
        rintro e' M6 ⟨s9, s10, ts, ks, q0, q2, q9, q10, tk, hc1, hc2⟩
        have tkl := tk.len
        have fin : ∀ (p' : Int) (M' : MH) (s : V) (zs : List TermS), Gr 4 (M.set rb (rdC w p')) M' s (catV encT zs) → p ≤ p' → p' ≤ p + 210 → 1 ≤ zs.length → zs.length ≤ 20 → R s M' := fun p' M' s zs h1 h2 h3 h4 h5 => hR _ _ ⟨p', _, h1, h2, h3, zs, rfl, h4, h5⟩
        have hia : iaddrV 1 s10 (.int .i64 ((ts.length : Int) - 1)) = some (.sc (.ptr (some (oB s10, ts.length - 1)))) := by
          rw [show ts.length - 1 = ((ts.length : Int) - 1).toNat by omega]
          exact tk.g10.own.iaddr (by omega) (by rw [len_vi]; omega)
        have hat := tk.g10.at (by rw [len_vi]; omega)
        have hnth : (ks.map vi)[ts.length - 1]? = some (.sc (.int .i64 (ks[ts.length - 1]'(by omega)))) := nth_vi (by omega)
        have app : ∀ (p' : Int) (M4 : MH) (op a b : Int) (Q' : V → MH → Prop) (bt : Nat), TK M M4 rb w p' s9 s10 ts ks → M4 bt = none → (∀ s' M', Gr 4 (M.set rb (rdC w p')) M' s' (catV encT (ts ++ [⟨op, 0, a, b⟩])) → Q' s' M') → appV 4 32 s9 (.sc (.sl (some (bt, 0)) 1 1 true 4)) (M4.set bt (encT ⟨op, 0, a, b⟩)) Q' := fun p' M4 op a b Q' bt h1 h2 h3 => h1.push9 ⟨op, 0, a, b⟩ h2 rfl (by omega) (by omega) fun s' M' g9 _ _ _ => h3 s' M' g9
        by_cases h2 : kind = 2
        · have hd : decide (kind = 2) = true := by simp [h2]
          refine sS9 @q0 @q2 @q9 @q10 @tk.g9.lenT @hd @hia @hat @hnth ?_
          refine cond_dec (fun hk => ?_) (fun hk => ?_)
          · refine sS0 ?_
            intro bn hbn
            refine (t_numL [5, 6] hr hbn tk.rs.at_ (by omega) (by omega) rfl rfl (by simp) (by simp)).mono ?_
            rintro _ M7 ⟨e7, op, _, rfl⟩
            have tk7 := tk.rd' e7
            refine sS0 ?_
            refine (t_l1PickO hr tk7 (by omega) (by omega) (by omega)).mono ?_
            rintro _ M8 ⟨e8, k8, rfl⟩
            have tk8 := tk7.rd' e8
            refine sS0 ?_
            intro bt hbt
            refine app _ _ op _ _ _ bt tk8 hbt ?_
            intro s' M9 g9
            refine sS0 ?_
            exact fin _ _ _ _ g9 (by omega) (by omega) (by simp) (by simp; omega)
          · have hd1 : decide (kind = 1) = false := by simp; omega
            refine sS1 @hd1 ?_
            exact fin _ _ _ _ tk.g9 (by omega) (by omega) (by omega) (by omega)
        · have hd : decide (kind = 2) = false := by simp [h2]
          by_cases h3 : kind = 1
          · have hd1 : decide (kind = 1) = true := by simp [h3]
            simp (maxSteps := 2000000) (disch := first | omega | assumption | exact idP rfl | exact idP (bL rfl)) only [go_sem, reduceIte, Nat.reduceEqDiff, wpV_kd, wpV_tH, q0, q2, q9, q10, tk.g9.lenT, hd, hd1, hia, hat, hnth]
            refine cond_dec (fun hk => ?_) (fun hk => ?_)
            · refine sS0 ?_
              refine (t_l1PickO hr tk (by omega) (by omega) (by omega)).mono ?_
              rintro _ M7 ⟨e7, k7, rfl⟩
              have tk7 := tk.rd' e7
              refine sS0 ?_
              intro bn hbn
              refine (t_numL [2, 3] hr hbn tk7.rs.at_ (by omega) (by omega) rfl rfl (by simp) (by simp)).mono ?_
              rintro _ M8 ⟨e8, op, _, rfl⟩
              have tk8 := tk7.rd' e8
              refine sS0 ?_
              refine (t_l1PickO hr tk8 (by omega) (by omega) (by omega)).mono ?_
              rintro _ M9 ⟨e9, k9, rfl⟩
              have tk9 := tk8.rd' e9
              refine sS0 ?_
              intro bt hbt
              refine app _ _ op _ _ _ bt tk9 hbt ?_
              intro s' M9 g9
              refine sS0 ?_
              exact fin _ _ _ _ g9 (by omega) (by omega) (by simp) (by simp; omega)
            · refine sS0 ?_
              exact fin _ _ _ _ tk.g9 (by omega) (by omega) (by omega) (by omega)
          · have hd1 : decide (kind = 1) = false := by simp [h3]
            refine sS7 @q0 @q2 @q9 @q10 @tk.g9.lenT @hd @hd1 ?_
            exact fin _ _ _ _ tk.g9 (by omega) (by omega) (by omega) (by omega)
end Go.M2

namespace Go.M2
open Go.Proofs
variable {M : MH}
theorem t_l2Value {rb : Nat} {w v : V} {code : List Int} {p : Int} {vs : List VarS} {i : Nat} (hr : Rdr w code) (hm : M rb = some (rdC w p)) (h0 : 0 ≤ p) (h1 : p ≤ 800000) (hv : LVar v vs) (hb : ∀ x ∈ vs, VarB x) (hl : i < vs.length) (hl2 : vs.length ≤ 5) :
    VCall Try.prog n_spec_l2Value [.sc (.ptr (some (rb, 0))), v, .sc (.int .i64 (i : Int))] M (fun r M' => ∃ p' c, Gr 4 (M.set rb (rdC w p')) M' r c ∧ DT p 220 1 20 c p') := by
  refine VCall.plain fun R hR => v_spec_l2Value rfl ?_
  have rs0 := RS.start hm
  have hvb := hb _ (List.getElem_mem hl)
  have hva : atN 3 v i = [.sc (.int .i64 vs[i].low), .sc (.int .i64 vs[i].high), .sc (.int .i64 vs[i].first)] := hv.elt hl
  obtain ⟨v1, v2, v3, v4⟩ := hvb
  refine sS0 ?_
  refine (t_pick hr rs0.at_ (by omega) (by omega)).mono ?_
  rintro _ M1 ⟨e1, k1, rfl, a1, b1, _⟩
  have rs1 := rs0.set' e1
  refine sS0 ?_
  refine cond_dec (fun hk => ?_) (fun hk => ?_)
  · (repeat' (first | ((with_reducible first | refine cond_dec (fun h => ?_) (fun h => ?_) | refine guardK_dec (fun h => ?_) (fun h => ?_) | refine guardD3_dec (fun h => ?_) (fun h => ?_)) <;> first | (exfalso; omega) | (simp (maxSteps := 2000000) (disch := first | omega | assumption | exact idP rfl | exact idP (bL rfl)) only [go_sem, reduceIte, Nat.reduceEqDiff, wpV_kd, wpV_tH, h]) | skip) | ((with_reducible first | refine cond_split (fun h => ?_) (fun h => ?_) | refine guardK_split (fun h => ?_) (fun h => ?_) | refine guardD3_split (fun h => ?_) (fun h => ?_)) <;> ((try simp only [Bool.not_eq_true', Bool.not_eq_false'] at h); first | (simp (maxSteps := 2000000) (disch := first | omega | assumption | exact idP rfl | exact idP (bL rfl)) only [go_sem, reduceIte, Nat.reduceEqDiff, wpV_kd, wpV_tH, h]) | skip)) | ((with_reducible refine (t_l2VarOf).mono ?_); rintro _ _ ⟨rfl, rfl⟩) | ((with_reducible refine (t_l2Const).mono ?_); rintro _ _ ⟨rfl, rfl⟩) | (with_reducible intro bk hbk; try have hnk := (fresh_set hbk).1) | (simp (maxSteps := 2000000) (disch := first | omega | assumption | exact idP rfl | exact idP (bL rfl)) only [go_sem, reduceIte, Nat.reduceEqDiff, wpV_kd, wpV_tH])))
    change VCall _ _ _ (M1.set bk ([2, 3].map vi)) _
    refine (t_numL [2, 3] hr hbk rs1.at_ (by omega) (by omega) rfl rfl (by simp) (by simp)).mono ?_
    rintro _ M2 ⟨e2, op, _, rfl⟩
    have rs2 := rs1.set' e2
    refine sS0 ?_
    intro b9 hb9
    change R _ (M2.set b9 (catV encT [⟨1, (i : Int), 0, 0⟩, ⟨0, 1, 0, 0⟩, ⟨op, 0, 0, 1⟩]))
    exact hR _ _ ⟨_, _, Gr.new' rs2.sub hb9 rfl, by omega, by omega, _, rfl, by simp, by simp⟩
  · refine sS0 ?_
    refine cond_dec (fun hk3 => ?_) (fun hk3 => ?_)
    · refine sS2 @hv.iaddr @hva ?_
      refine (t_pick hr rs1.at_ (by omega) (by omega)).mono ?_
      rintro _ M2 ⟨e2, k2, rfl, a2, b2, c2⟩
      have kb : k2 ≤ 40000 := by
        by_cases hc : 1 ≤ vs[i].high - vs[i].low + 1
        · have := b2 hc; omega
        · have := c2 (by omega); omega
      have rs2 := rs1.set' e2
      refine sS2 @hv.iaddr @hva ?_
      refine t_l2Const.mono ?_
      rintro _ _ ⟨rfl, rfl⟩
      refine sS2 @hv.iaddr @hva ?_
      intro b9 hb9
      change R _ (M2.set b9 (catV encT [⟨0, vs[i].low + k2, 0, 0⟩]))
      exact hR _ _ ⟨_, _, Gr.new' rs2.sub hb9 rfl, by omega, by omega, _, rfl, by simp, by simp⟩
    · refine sS0 ?_
      refine cond_dec (fun hk4 => ?_) (fun hk4 => ?_)
      · refine sS1 @hv.len ?_
        refine (t_pick hr rs1.at_ (by omega) (by omega)).mono ?_
        rintro _ M2 ⟨e2, k2, rfl, a2, b2, c2⟩
        have rs2 := rs1.set' e2
        (repeat' (first | ((with_reducible first | refine cond_dec (fun h => ?_) (fun h => ?_) | refine guardK_dec (fun h => ?_) (fun h => ?_) | refine guardD3_dec (fun h => ?_) (fun h => ?_)) <;> first | (exfalso; omega) | (simp (maxSteps := 2000000) (disch := first | omega | assumption | exact idP rfl | exact idP (bL rfl)) only [go_sem, reduceIte, Nat.reduceEqDiff, wpV_kd, wpV_tH, h]) | skip) | ((with_reducible first | refine cond_split (fun h => ?_) (fun h => ?_) | refine guardK_split (fun h => ?_) (fun h => ?_) | refine guardD3_split (fun h => ?_) (fun h => ?_)) <;> ((try simp only [Bool.not_eq_true', Bool.not_eq_false'] at h); first | (simp (maxSteps := 2000000) (disch := first | omega | assumption | exact idP rfl | exact idP (bL rfl)) only [go_sem, reduceIte, Nat.reduceEqDiff, wpV_kd, wpV_tH, h]) | skip)) | ((with_reducible refine (t_l2VarOf).mono ?_); rintro _ _ ⟨rfl, rfl⟩) | (with_reducible intro bk hbk; try have hnk := (fresh_set hbk).1) | (simp (maxSteps := 2000000) (disch := first | omega | assumption | exact idP rfl | exact idP (bL rfl)) only [go_sem, reduceIte, Nat.reduceEqDiff, wpV_kd, wpV_tH])))
        change R _ (M2.set bk (catV encT [⟨1, k2, 0, 0⟩]))
        exact hR _ _ ⟨_, _, Gr.new' rs2.sub hbk rfl, by omega, by omega, _, rfl, by simp, by simp⟩
      · refine sS1 @hv.len ?_
        refine (t_l1Terms hr rs1.at_ (by omega) (by omega) (by omega) (by omega) (by omega) (by omega)).mono ?_
        rintro r M2 ⟨p2, c, hg, d1, d2, ts, rfl, d3, d4⟩
        refine sS0 ?_
        rw [e1, set_set] at hg
        exact hR _ _ ⟨_, _, hg, by omega, by omega, _, rfl, d3, d4⟩
end Go.M2

namespace Go.M2
open Go.Proofs
variable {M : MH}
inductive RulesO : List V → List (Nat × List V) → List RuleS → Prop
  | nil : RulesO [] [] []
  | cons {a a' b c : V} {ints : List Int} {rows cells : List V} {ga fp : List (Nat × List V)} {ws : List TermS} {terms : List (List TermS)} {rs : List RuleS} : One a → Tr [a] [a'] ga → LT a' ws → OwS 1 b (ints.map vi) → OwS 1 c rows → Cs (fun ts u => LT u ts) rows terms → RulesO cells fp rs →
    RulesO (a :: b :: c :: cells) (ga ++ (fpG b (ints.map vi) ++ (fpG c rows ++ fp))) (⟨ws, ints, terms⟩ :: rs)
theorem OwS.len1 {v : V} {l : List V} (h : OwS 1 v l) : lenF (er v) = some (.int .i64 (l.length : Int)) := by
  rcases h with ⟨rfl, k, rfl⟩ | ⟨b, n, ex, rfl, h2⟩
  · rfl
  · rw [show l.length = n by omega]; rfl
theorem RulesO.len {cells : List V} {fp : List (Nat × List V)} {rs : List RuleS} (h : RulesO cells fp rs) : cells.length = rs.length * 3 := by
  induction h with
  | nil => rfl
  | cons _ _ _ _ _ _ _ ih => simp [ih]; omega
theorem RulesO.app {cells c2 : List V} {fp f2 : List (Nat × List V)} {rs r2 : List RuleS} (h : RulesO cells fp rs) (k : RulesO c2 f2 r2) : RulesO (cells ++ c2) (fp ++ f2) (rs ++ r2) := by
  induction h with
  | nil => exact k
  | cons h1 h0 h2 h3 h4 h5 _ ih => simpa [List.append_assoc] using RulesO.cons h1 h0 h2 h3 h4 h5 ih
theorem RulesO.tr {cells : List V} {fp : List (Nat × List V)} {rs : List RuleS} (h : RulesO cells fp rs) : ∃ cells', Tr cells cells' fp ∧ ∀ i (h : i < rs.length), isRule rs[i] ((cells'.drop (i * 3)).take 3) := by
  induction h with
  | nil => exact ⟨[], .nil, fun i h => by simp at h⟩
  | @cons a a' b c ints rows cells ga fp ws terms rs h1 h0 h2 h3 h4 h5 _ ih =>
    obtain ⟨cs', t1, t2⟩ := ih
    obtain ⟨ub, tb, fb⟩ := h3.tr (Tr.refl _)
    obtain ⟨uc, tc, fc⟩ := h4.tr (Tr.refl _)
    rw [List.append_nil] at tb tc
    refine ⟨a' :: ub :: uc :: cs', ?_, fun i hi => ?_⟩
    · have := h0.append (tb.append (tc.append t1))
      simpa using this
    · cases i with
      | zero => exact ⟨a', ub, uc, by simp, h2, fb.li, fc.lsC h5⟩
      | succ i =>
        have hi' : i < rs.length := by simpa using hi
        have := t2 i hi'
        rw [show (i + 1) * 3 = i * 3 + 3 by omega]
        simpa using this
theorem fpG_one {s : V} {l : List V} {b : Nat} (h : blkV s = some b) : fpG s l = [(b, l)] := by simp [fpG, h]
theorem Ow.base {M0 M : MH} {rb sz : Nat} {X l : List V} {v : V} (h : Ow sz M0 v l) (hne : blkV v ≠ some rb) (hs : Sub (M0.set rb X) M) : Ow sz M v l := by
  rcases h with ⟨e, k, e2⟩ | ⟨b, n, ex, rfl, h1, h2⟩
  · exact .inl ⟨e, k, e2⟩
  · exact .inr ⟨b, n, ex, rfl, hs _ _ (by rw [set_ne (fun e => hne (by simp [blkV, e]))]; exact h1), h2⟩
theorem Fr.lvar {u : V} {vs : List VarS} (h : Fr 3 u (catV encVar vs)) : LVar u vs := h.lc (by omega) (catV_len (sz := 3) (enc := encVar) (fun _ => rfl) vs) fun i hi => catV_at (sz := 3) (enc := encVar) (fun _ => rfl) hi
theorem Ow.lenV {M : MH} {v : V} {vs : List VarS} (h : Ow 3 M v (catV encVar vs)) : lenF (er v) = some (.int .i64 (vs.length : Int)) := by
  obtain ⟨n, h1, _, h2, _⟩ := h.len
  have := catV_len (sz := 3) (enc := encVar) (fun _ => rfl) vs
  rw [h1]
  congr 3
  omega
theorem t_l2WhenO {rb : Nat} {w v : V} {code : List Int} {p : Int} {vs : List VarS} (hr : Rdr w code) (hm : M rb = some (rdC w p)) (h0 : 0 ≤ p) (h1 : p ≤ 800000) (ho : Ow 3 M v (catV encVar vs)) (hne : blkV v ≠ some rb) (hb : ∀ x ∈ vs, VarB x) (hl : 0 < vs.length) (hl2 : vs.length ≤ 5) :
    VCall Try.prog n_spec_l2When [.sc (.ptr (some (rb, 0))), v] M (fun r M' => ∃ p', M' = M.set rb (rdC w p') ∧ p ≤ p' ∧ p' ≤ p + 10 ∧ ∃ ts, LT r ts ∧ 0 ≤ ts.length ∧ ts.length ≤ 81) :=
  VCall.frT4 (VCall.lendRG (a1 := [.sc (.ptr (some (rb, 0)))]) (a2 := []) (q := DT p 10 0 81) ho hne hm (fun c p' h => h.flat) fun u M' hu hm' => t_l2When hr hm' h0 (by omega) hu.lvar hb hl (by omega))
theorem t_l2ValueO {rb : Nat} {w v : V} {code : List Int} {p : Int} {vs : List VarS} {i : Nat} (hr : Rdr w code) (hm : M rb = some (rdC w p)) (h0 : 0 ≤ p) (h1 : p ≤ 800000) (ho : Ow 3 M v (catV encVar vs)) (hne : blkV v ≠ some rb) (hb : ∀ x ∈ vs, VarB x) (hl : i < vs.length) (hl2 : vs.length ≤ 5) :
    VCall Try.prog n_spec_l2Value [.sc (.ptr (some (rb, 0))), v, .sc (.int .i64 (i : Int))] M (fun r M' => ∃ p', M' = M.set rb (rdC w p') ∧ p ≤ p' ∧ p' ≤ p + 220 ∧ ∃ ts, LT r ts ∧ 1 ≤ ts.length ∧ ts.length ≤ 20) :=
  VCall.frT4 (VCall.lendRG (a1 := [.sc (.ptr (some (rb, 0)))]) (a2 := [.sc (.int .i64 (i : Int))]) (q := DT p 220 1 20) ho hne hm (fun c p' h => h.flat) fun u M' hu hm' => t_l2Value hr hm' h0 (by omega) hu.lvar hb hl hl2)
structure RuSt (M0 M : MH) (rb : Nat) (w : V) (p : Int) (bx : Nat) (a bI cT out : V) (ints : List Int) (rows cells : List V) (fp : List (Nat × List V)) (ws : List TermS) (terms : List (List TermS)) (rl : List RuleS) : Prop where
  rs : RS M0 rb w M p
  mem : Mem (M0.set rb (rdC w p)) M ((bx, [a, bI, cT]) :: (fpG bI (ints.map vi) ++ (fpG cT rows ++ (fpG out cells ++ fp))))
  oa : One a
  la : LT a ws
  ob : OwS 1 bI (ints.map vi)
  oc : OwS 1 cT rows
  cc : Cs (fun ts u => LT u ts) rows terms
  oo : OwS 3 out cells
  ru : RulesO cells fp rl
theorem Mem.rd' {M0 M M' : MH} {rb : Nat} {X Y : List V} {fp : List (Nat × List V)} (h : Mem (M0.set rb X) M fp) (e : M' = M.set rb Y) : Mem (M0.set rb Y) M' fp := e ▸ h.rd
section
variable {M0 M M' : MH} {rb bx : Nat} {w a bI cT out : V} {p q : Int} {ints : List Int} {rows cells : List V} {fp : List (Nat × List V)} {ws : List TermS} {terms : List (List TermS)} {rs : List RuleS} {K : V → MH → Prop}
theorem RuSt.rd' (h : RuSt M0 M rb w p bx a bI cT out ints rows cells fp ws terms rs) (e : M' = M.set rb (rdC w q)) : RuSt M0 M' rb w q bx a bI cT out ints rows cells fp ws terms rs :=
  ⟨h.rs.set' e, h.mem.rd' e, h.oa, h.la, h.ob, h.oc, h.cc, h.oo, h.ru⟩
theorem perm3 {α : Type} (x : α) (A B C : List α) : (x :: (A ++ (B ++ C))).Perm (B ++ (x :: (A ++ C))) :=
  (List.Perm.cons x (List.perm_append_comm_assoc A B C)).trans List.perm_middle.symm
theorem RuSt.pushI {by_ bt c k : Nat} {ex : Bool} {n : Int} (h : RuSt M0 M rb w p bx a bI cT out ints rows cells fp ws terms rs) (hbt : M bt = none) (hb : ints.length ≤ 1048576) (hby : by_ ≤ 16)
    (hk : ∀ s' M', M' bx = some [a, bI, cT] → One s' → RuSt M0 (M'.set bx [a, s', cT]) rb w p bx a s' cT out (ints ++ [n]) rows cells fp ws terms rs → K s' M') : appV 1 by_ bI (.sc (.sl (some (bt, 0)) 1 c ex k)) (M.set bt [.sc (.int .i64 n)]) K := by
  have m1 := h.mem.perm List.perm_middle.symm
  refine app_int (m1.gr h.ob) hbt (by omega) hby fun s' M' h1 h2 => ?_
  have m2 := (m1.app h1 h2).perm List.perm_middle
  have m3 := m2.upd (l' := [a, s', cT])
  exact hk s' M' m2.hd h1.one ⟨⟨m3.sub _ _ set_same, m3.sub⟩, m3, h.oa, h.la, h1.own.sh.1, h.oc, h.cc, h.oo, h.ru⟩
theorem RuSt.pushT {by_ bt c k : Nat} {ex : Bool} {u : V} {ts : List TermS} (h : RuSt M0 M rb w p bx a bI cT out ints rows cells fp ws terms rs) (hbt : M bt = none) (hu : LT u ts) (hb : rows.length ≤ 1048576) (hby : by_ ≤ 32)
    (hk : ∀ s' M', M' bx = some [a, bI, cT] → One s' → RuSt M0 (M'.set bx [a, bI, s']) rb w p bx a bI s' out ints (rows ++ [u]) cells fp ws (terms ++ [ts]) rs → K s' M') : appV 1 by_ cT (.sc (.sl (some (bt, 0)) 1 c ex k)) (M.set bt [u]) K := by
  have m1 := h.mem.perm (perm3 _ _ _ _)
  refine app_val (m1.gr h.oc) hbt hu.one.1 (by omega) hby fun s' M' h1 h2 => ?_
  have m2 := (m1.app h1 h2).perm (perm3 _ _ _ _).symm
  have m3 := m2.upd (l' := [a, bI, s'])
  exact hk s' M' m2.hd h1.one ⟨⟨m3.sub _ _ set_same, m3.sub⟩, m3, h.oa, h.la, h.ob, h1.own.sh.1, h.cc.snoc hu, h.oo, h.ru⟩
theorem RuSt.pushR {by_ bt c k : Nat} {ex : Bool} {l : List V} (h : RuSt M0 M rb w p bx a bI cT out ints rows cells fp ws terms rs) (hbt : M bt = none) (e : l = [a, bI, cT]) (hb : rs.length ≤ 1048576) (hby : by_ ≤ 128)
    (hk : ∀ s' M' cells' fp', Mem (M0.set rb (rdC w p)) M' (fpG s' cells' ++ fp') → OwS 3 s' cells' → RulesO cells' fp' (rs ++ [⟨ws, ints, terms⟩]) → K s' M') : appV 3 by_ out (.sc (.sl (some (bt, 0)) 1 c ex k)) (M.set bt l) K := by
  subst e
  have m1 : Mem (M0.set rb (rdC w p)) M (fpG out cells ++ (fp ++ (fpG bI (ints.map vi) ++ fpG cT rows))) := by
    refine h.mem.tail.perm ?_
    refine (List.Perm.append_left _ (List.perm_append_comm_assoc (fpG cT rows) (fpG out cells) fp)).trans ?_
    refine (List.perm_append_comm_assoc _ _ _).trans (List.Perm.append_left _ ?_)
    rw [← List.append_assoc]
    exact List.perm_append_comm
  have hcl := h.ru.len
  have hmul : (cells.length + 1) * by_ ≤ (cells.length + 1) * 128 := Nat.mul_le_mul_left _ hby
  refine gr_app1 (m1.gr h.oo) (by omega) hbt rfl (by simp [h.oa.1, h.ob.one.1, h.oc.one.1]) (by simp [mostCells]; omega) (by simp [mostCells]; omega) fun s' M' h1 h2 => ?_
  have hru : RulesO [a, bI, cT] ([] ++ (fpG bI (ints.map vi) ++ (fpG cT rows ++ []))) [⟨ws, ints, terms⟩] := .cons h.oa (.refl _) h.la h.ob h.oc h.cc .nil
  rw [List.append_nil, List.nil_append] at hru
  exact hk s' M' _ _ (m1.app h1 h2) h1.own.sh.1 (h.ru.app hru)
end
def RuleB (r : RuleS) : Prop := r.when_.length ≤ 81 ∧ r.sets.length ≤ 6 ∧ r.terms.length ≤ 6 ∧ ∀ ts ∈ r.terms, ts.length ≤ 20
theorem t_l2Rules {rb many : Nat} {w v : V} {code : List Int} {p : Int} {vs : List VarS} (hr : Rdr w code) (hm : M rb = some (rdC w p)) (h0 : 0 ≤ p) (h1 : p ≤ 700000) (ho : Ow 3 M v (catV encVar vs)) (hne : blkV v ≠ some rb) (hb : ∀ x ∈ vs, VarB x) (hl : 0 < vs.length) (hl2 : vs.length ≤ 5) (hmy : many ≤ 8) :
    VCall Try.prog n_spec_l2Rules [.sc (.ptr (some (rb, 0))), v, .sc (.int .i64 (many : Int))] M (fun r M' => ∃ p' cells fp rl, Mem (M.set rb (rdC w p')) M' (fpG r cells ++ fp) ∧ OwS 3 r cells ∧ RulesO cells fp rl ∧ p ≤ p' ∧ p' ≤ p + 12000 ∧ rl.length ≤ many ∧ ∀ r ∈ rl, RuleB r) := by
  refine VCall.plain fun R hR => v_spec_l2Rules rfl ?_
  have rs0 := RS.start hm
  have hov : ∀ {M' : MH} {X : List V}, Sub (M.set rb X) M' → Ow 3 M' v (catV encVar vs) := fun hs => ho.base hne hs
  refine sS0 ?_
  intro b7 hb7
  have m7 : Mem (M.set rb (rdC w p)) (M.set b7 []) (fpG (.sc (.sl (some (b7, 0)) 0 0 true 3)) [] ++ []) := by
    simpa [fpG, blkV] using (Gr.new' (sz := 3) (n := 0) (ex := true) rs0.sub hb7 rfl).mem
  refine loop_k (fun e M' => ∃ (i : Nat) (p' : Int) (cells : List V) (fp : List (Nat × List V)) (rl : List RuleS), i ≤ many ∧ e 0 = .sc (.ptr (some (rb, 0))) ∧ e 1 = v ∧ e 2 = .sc (.int .i64 (many : Int)) ∧ e 8 = .sc (.int .i64 (i : Int)) ∧ Mem (M.set rb (rdC w p')) M' (fpG (e 7) cells ++ fp) ∧ OwS 3 (e 7) cells ∧ RulesO cells fp rl ∧ rl.length = i ∧ (∀ r ∈ rl, RuleB r) ∧ p ≤ p' ∧ p' ≤ p + 1500 * (i : Int)) (fun e _ => ctrV many (e 8)) ?_ ?_
  · exact ⟨0, p, [], [], [], by omega, sE0, sE0, sE0, sE0, by refine sS0 ?_; exact m7, by refine sS0 ?_; exact .inr ⟨b7, 0, true, rfl, rfl⟩, .nil, rfl, fun r hr => (by cases hr), by omega, by omega⟩
  · rintro e M1 ⟨i, p1, cells, fp, rl, hi, q0, q1, q2, q8, hmem, hoo, hru, hrl, hrb, d1, d2⟩ K hK
    generalize hs7 : e 7 = out at *
    refine sS4 @q0 @q1 @q2 @q8 ?_
    refine cond_dec (fun h => ?_) (fun h => ?_)
    · have rs1 : RS M rb w M1 p1 := ⟨hmem.sub _ _ set_same, hmem.sub⟩
      refine sS4 @q0 @q1 @q2 @q8 ?_
      refine (t_l2WhenO hr rs1.at_ (by omega) (by omega) (hov rs1.sub) hne hb hl hl2).mono ?_
      rintro a M2 ⟨p2, e2, d3, d4, ws, hws, _, hwl⟩
      have hmem2 := hmem.rd' e2
      have ha := hws.one
      have ha1 := ha.1
      have ha2 := ha.2
      refine sS2 @ha1 @ha2 ?_
      intro b9 hb9
      have rs2 := rs1.set' e2
      have m9 : Mem (M.set rb (rdC w p2)) (M2.set b9 [a, nil1, nil1]) ((b9, [a, nil1, nil1]) :: (fpG nil1 (([] : List Int).map vi) ++ (fpG nil1 [] ++ (fpG out cells ++ fp)))) := by
        have hM9 : (M.set rb (rdC w p2)) b9 = none := hmem2.sub.none hb9
        simpa [fpG, blkV, nil1] using hmem2.new1 (l := [a, nil1, nil1]) hb9
      have st0 : RuSt M (M2.set b9 [a, nil1, nil1]) rb w p2 b9 a nil1 nil1 out [] [] cells fp ws [] rl := ⟨rs2.more ((Sub.refl M2).set' hb9), m9, ha, hws, .inl ⟨rfl, 0, rfl⟩, .inl ⟨rfl, 0, rfl⟩, .nil, hoo, hru⟩
      refine loop_k (fun e' M' => ∃ (k : Nat) (p' : Int) (bI cT : V) (ints : List Int) (rows : List V) (terms : List (List TermS)), k ≤ vs.length ∧ e' 0 = .sc (.ptr (some (rb, 0))) ∧ e' 1 = v ∧ e' 2 = .sc (.int .i64 (many : Int)) ∧ e' 7 = out ∧ e' 8 = .sc (.int .i64 (i : Int)) ∧ e' 9 = .sc (.ptr (some (b9, 0))) ∧ e' 10 = .sc (.int .i64 (k : Int)) ∧ RuSt M M' rb w p' b9 a bI cT out ints rows cells fp ws terms rl ∧ ints.length ≤ k ∧ terms.length ≤ k ∧ (∀ ts ∈ terms, ts.length ≤ 20) ∧ p2 ≤ p' ∧ p' ≤ p2 + 230 * (k : Int)) (fun e' _ => ctrV vs.length (e' 10)) ?_ ?_
      · exact ⟨0, p2, nil1, nil1, [], [], [], by omega, sE0, sE0, sE0, sE1 @hs7, sE0, sE0, sE0, st0, by simp, by simp, fun ts h => (by cases h), by omega, by omega⟩
      · have q8' := q8
        clear q0 q1 q2 q8 hmem hmem2 e2 st0 m9 rs2 rs1 hb9 hs7
        rintro e M3 ⟨k, p3, bI, cT, ints, rows, terms, hk, q0, q1, q2, q7, q8, q9, q10, st, hil, htl, htb, d5, d6⟩ K2 hK2
        have hat := st.mem.hd
        have hvl := (hov st.rs.sub).lenV
        refine sS8 @q0 @q1 @q2 @q7 @q8 @q9 @q10 @hvl ?_
        refine cond_dec (fun hkl => ?_) (fun hkl => ?_)
        · refine sS8 @q0 @q1 @q2 @q7 @q8 @q9 @q10 @hvl ?_
          refine (t_pick hr st.rs.at_ (by omega) (by omega)).mono ?_
          rintro _ M4 ⟨e4, k1, rfl, _, _, _⟩
          have st4 := st.rd' e4
          have hat4 := st4.mem.hd
          have hvl4 := (hov st4.rs.sub).lenV
          have hbl : lenF (er bI) = some (.int .i64 (ints.length : Int)) := by rw [st4.ob.len1, len_vi]
          have hrl2 : rows.length = terms.length := st4.cc.1
          have skip : ∀ (p' : Int) (M' : MH) (e' : EnvV), RuSt M M' rb w p' b9 a bI cT out ints rows cells fp ws terms rl → p3 ≤ p' → p' ≤ p3 + 3 → e' 0 = .sc (.ptr (some (rb, 0))) → e' 1 = v → e' 2 = .sc (.int .i64 (many : Int)) → e' 7 = out → e' 8 = .sc (.int .i64 (i : Int)) → e' 9 = .sc (.ptr (some (b9, 0))) → e' 10 = .sc (.int .i64 ((k : Int) + 1)) → K2 e' M' := fun p' M' e' h1 h2 h3 h4 h5 h6 h7 h8 h9 h10 =>
            hK2 _ _ ⟨k + 1, p', bI, cT, ints, rows, terms, by omega, h4, h5, h6, h7, h8, h9, h10, h1, by omega, by omega, htb, by omega, by omega⟩ (by rw [h10, q10]; refine sS1 @ctrV_int ?_; omega)
          by_cases c1 : k1 < 1
          · have z1 : decide (k1 < 1) = true := by simp [c1]
            simp (maxSteps := 2000000) (disch := first | omega | assumption | exact idP rfl | exact idP (bL rfl)) only [go_sem, reduceIte, Nat.reduceEqDiff, wpV_kd, wpV_tH, z1, q0, q1, q2, q7, q8, q9, q10, hvl4, hat4, hbl]
            intro bt hbt
            refine st4.pushI (n := (k : Int)) hbt (by omega) (by omega) ?_
            intro s6 M6 hat6 hone6 st6
            have o1 := hone6.1
            have o2 := hone6.2
            refine sS3 @hat6 @o1 @o2 ?_
            have hat7 := st6.mem.hd
            have hoc := st6.oc.one
            refine (t_l2ValueO (i := k) hr st6.rs.at_ (by omega) (by omega) (hov st6.rs.sub) hne hb (by omega) hl2).mono ?_
            rintro u M7 ⟨p7, e7, d7, d8, ts, hts, _, htl2⟩
            have st7 := st6.rd' e7
            have hat8 := st7.mem.hd
            have hu1 := hts.one.1
            have hu2 := hts.one.2
            refine sS3 @hat8 @hu1 @hu2 ?_
            intro bt2 hbt2
            refine st7.pushT hbt2 hts (by omega) (by omega) ?_
            intro s8 M8 hat8 hone8 st8
            have o3 := hone8.1
            have o4 := hone8.2
            refine sS3 @hat8 @o3 @o4 ?_
            refine hK2 _ _ ⟨k + 1, p7, s6, s8, _, _, _, by omega, sE0, sE0, sE0, sE0, sE0, sE0, sE0, st8, by simp; omega, by simp; omega, fun ts' h' => ?_, by omega, by omega⟩ (by refine sS2 @ctrV_int @q10 ?_; omega)
            rcases List.mem_append.1 h' with h' | h'
            · exact htb _ h'
            · rw [List.mem_singleton] at h'; subst h'; exact htl2
          · have z1 : decide (k1 < 1) = false := by simp [c1]
            by_cases c2 : (k : Int) = (vs.length : Int) - 1
            · have z2 : decide ((k : Int) = (vs.length : Int) - 1) = true := by simp [c2]
              by_cases c3 : (ints.length : Int) = 0
              · have z3 : decide ((ints.length : Int) = 0) = true := by simp only [decide_eq_true_eq]; exact c3
                simp (maxSteps := 2000000) (disch := first | omega | assumption | exact idP rfl | exact idP (bL rfl)) only [go_sem, reduceIte, Nat.reduceEqDiff, wpV_kd, wpV_tH, z1, z2, z3, q0, q1, q2, q7, q8, q9, q10, hvl4, hat4, hbl]
                refine (t_pick hr st4.rs.at_ (by omega) (by omega)).mono ?_
                rintro _ M5 ⟨e5, k5, rfl, _, _, _⟩
                have st5 := st4.rd' e5
                have hat5 := st5.mem.hd
                by_cases c4 : 0 < k5
                · have z4 : decide (0 < k5) = true := by simp [c4]
                  refine sS9 @z4 @q0 @q1 @q2 @q7 @q8 @q9 @q10 @hat5 ?_
                  intro bt hbt
                  refine st5.pushI (n := (k : Int)) hbt (by omega) (by omega) ?_
                  intro s6 M6 hat6 hone6 st6
                  have o1 := hone6.1
                  have o2 := hone6.2
                  refine sS3 @hat6 @o1 @o2 ?_
                  have hat7 := st6.mem.hd
                  have hoc := st6.oc.one
                  refine (t_l2ValueO (i := k) hr st6.rs.at_ (by omega) (by omega) (hov st6.rs.sub) hne hb (by omega) hl2).mono ?_
                  rintro u M7 ⟨p7, e7, d7, d8, ts, hts, _, htl2⟩
                  have st7 := st6.rd' e7
                  have hat8 := st7.mem.hd
                  have hu1 := hts.one.1
                  have hu2 := hts.one.2
                  refine sS3 @hat8 @hu1 @hu2 ?_
                  intro bt2 hbt2
                  refine st7.pushT hbt2 hts (by omega) (by omega) ?_
                  intro s8 M8 hat8 hone8 st8
                  have o3 := hone8.1
                  have o4 := hone8.2
                  refine sS3 @hat8 @o3 @o4 ?_
                  refine hK2 _ _ ⟨k + 1, p7, s6, s8, _, _, _, by omega, sE0, sE0, sE0, sE0, sE0, sE0, sE0, st8, by simp; omega, by simp; omega, fun ts' h' => ?_, by omega, by omega⟩ (by refine sS2 @ctrV_int @q10 ?_; omega)
                  rcases List.mem_append.1 h' with h' | h'
                  · exact htb _ h'
                  · rw [List.mem_singleton] at h'; subst h'; exact htl2
                · have z4 : decide (0 < k5) = false := by simp [c4]
                  refine sS8 @z4 @q0 @q1 @q2 @q7 @q8 @q9 @q10 ?_
                  exact skip _ _ _ st5 (by omega) (by omega) (sE0) (sE0) (sE0) (sE0) (sE0) (sE0) (sE0)
              · have z3 : decide ((ints.length : Int) = 0) = false := decide_eq_false c3
                simp (maxSteps := 2000000) (disch := first | omega | assumption | exact idP rfl | exact idP (bL rfl)) only [go_sem, reduceIte, Nat.reduceEqDiff, wpV_kd, wpV_tH, z1, z2, z3, q0, q1, q2, q7, q8, q9, q10, hvl4, hat4, hbl]
                exact skip _ _ _ st4 (by omega) (by omega) (sE0) (sE0) (sE0) (sE0) (sE0) (sE0) (sE0)
            · have z2 : decide ((k : Int) = (vs.length : Int) - 1) = false := by simp [c2]
              simp (maxSteps := 2000000) (disch := first | omega | assumption | exact idP rfl | exact idP (bL rfl)) only [go_sem, reduceIte, Nat.reduceEqDiff, wpV_kd, wpV_tH, z1, z2, q0, q1, q2, q7, q8, q9, q10, hvl4, hat4, hbl]
              exact skip _ _ _ st4 (by omega) (by omega) (sE0) (sE0) (sE0) (sE0) (sE0) (sE0) (sE0)
        · obtain rfl : k = vs.length := by omega
          refine sS8 @q0 @q1 @q2 @q7 @q8 @q9 @q10 @hat ?_
          intro bt hbt
          refine st.pushR hbt rfl (by omega) (by omega) ?_
          intro s4 M4 cells4 fp4 hm4 ho4 hr4
          refine sS0 ?_
          refine hK _ _ ⟨i + 1, p3, cells4, fp4, _, by omega, sE0, sE0, sE0, sE0, by refine sS0 ?_; exact hm4, by refine sS0 ?_; exact ho4, hr4, by simp [hrl], fun r hr' => ?_, by omega, by omega⟩ (by refine sS2 @ctrV_int @q8' ?_; omega)
          rcases List.mem_append.1 hr' with h' | h'
          · exact hrb r h'
          · rw [List.mem_singleton] at h'; subst h'
            exact ⟨hwl, by simp only; omega, by simp only; omega, htb⟩
    · obtain rfl : i = many := by omega
      refine sS0 ?_
      rw [hs7]
      exact hR _ _ ⟨p1, cells, fp, rl, hmem, hoo, hru, d1, by omega, by omega, hrb⟩
end Go.M2

namespace Go.M2
open Go.Proofs
variable {M : MH}
def VarC (v : VarS) : Prop := -100 ≤ v.low ∧ v.low ≤ 100 ∧ -100 ≤ v.high ∧ v.high ≤ 100
theorem VarC.toB {v : VarS} (h : VarC v) : VarB v := by obtain ⟨h1, h2, h3, h4⟩ := h; exact ⟨by omega, by omega, by omega, by omega⟩
structure SyO (B M : MH) (xv xr : V) (vs : List VarS) (cells : List V) (fp : List (Nat × List V)) (rl : List RuleS) (f : List (Nat × List V)) : Prop where
  mem : Mem B M (fpG xv (catV encVar vs) ++ (fpG xr cells ++ (fp ++ f)))
  ov : OwS 3 xv (catV encVar vs)
  or : OwS 3 xr cells
  ru : RulesO cells fp rl
  vb : ∀ x ∈ vs, VarC x
  v4 : vs.length ≤ 4
  r8 : rl.length ≤ 8
  rb : ∀ r ∈ rl, RuleB r
theorem Mem.rs {M0 M : MH} {rb : Nat} {w : V} {p : Int} {f : List (Nat × List V)} (h : Mem (M0.set rb (rdC w p)) M f) : RS M0 rb w M p := ⟨h.sub _ _ set_same, h.sub⟩
theorem app_var {M0 M : MH} {s : V} {K : V → MH → Prop} {by_ bt c k : Nat} {ex : Bool} {xs : List VarS} {l : List V} (t : VarS) (h : Gr 3 M0 M s (catV encVar xs)) (hbt : M bt = none) (e : l = encVar t) (hb : xs.length ≤ 1048576) (hby : by_ ≤ 64)
    (hk : ∀ s' M', Gr 3 M0 M' s' (catV encVar (xs ++ [t])) → Oth M M' s s' → K s' M') : appV 3 by_ s (.sc (.sl (some (bt, 0)) 1 c ex k)) (M.set bt l) K := by
  subst e
  have hlen : (catV encVar xs).length = xs.length * 3 := catV_len (sz := 3) (enc := encVar) (fun _ => rfl) xs
  have h1 : ((catV encVar xs).length + 1) * by_ ≤ ((catV encVar xs).length + 1) * 64 := Nat.mul_le_mul_left _ hby
  refine gr_app1 h (by omega) hbt rfl (by simp [encVar, oneV, er, oneA]) (by simp [mostCells]; omega) (by simp [mostCells]; omega) fun s' M' q1 q2 => hk s' M' (by rw [catV_snoc]; exact q1) q2
theorem OwS.lenV {v : V} {vs : List VarS} (h : OwS 3 v (catV encVar vs)) : lenF (er v) = some (.int .i64 (vs.length : Int)) := by
  have := catV_len (sz := 3) (enc := encVar) (fun _ => rfl) vs
  rcases h with ⟨h0, k, rfl⟩ | ⟨b, n, ex, rfl, h2⟩
  · rw [h0] at this
    have h9 : vs.length = 0 := by rw [List.length_nil] at this; omega
    rw [h9]; rfl
  · rw [show vs.length = n by omega]; rfl
theorem t_l2System {rb : Nat} {w : V} {code : List Int} {p most : Int} (hr : Rdr w code) (hm : M rb = some (rdC w p)) (h0 : 0 ≤ p) (h1 : p ≤ 600000) (hmo : most ≤ 400) :
    VCall Try.prog n_spec_l2System [.sc (.ptr (some (rb, 0))), .sc (.int .i64 most)] M (fun r M' => ∃ p' xv xr vs cells fp rl, r = .agg [xv, xr] ∧ SyO (M.set rb (rdC w p')) M' xv xr vs cells fp rl [] ∧ 1 ≤ vs.length ∧ p ≤ p' ∧ p' ≤ p + 13000) := by
  refine VCall.plain fun R hR => v_spec_l2System rfl ?_
  have rs0 := RS.start hm
  refine sS0 ?_
  intro b4 hb4 b5 hb5
  have n45 := (fresh_set hb5).1
  have m5 : Mem (M.set rb (rdC w p)) ((M.set b4 [nil1, nil1]).set b5 [nil1, nil1]) ((b5, [nil1, nil1]) :: (fpG nil1 (catV encVar []) ++ [(b4, [nil1, nil1])])) := by
    have q := ((Mem.nil rs0.sub).new1 (l := [nil1, nil1]) hb4).new1 (l := [nil1, nil1]) hb5
    simpa [fpG, blkV, nil1, catV] using q
  change VCall _ _ _ ((M.set b4 [nil1, nil1]).set b5 [nil1, nil1]) _
  generalize (M.set b4 [nil1, nil1]).set b5 [nil1, nil1] = M1 at *
  refine (t_pick hr m5.rs.at_ (by omega) (by omega)).mono ?_
  rintro _ M2 ⟨e2, k2, rfl, a2, b2, _⟩
  have b2 := b2 (by omega)
  have m2 := m5.rd' e2
  refine sS0 ?_
  refine loop_g (fun j e M' => ∃ (p' n : Int) (xv : V) (vs : List VarS), e 0 = .sc (.ptr (some (rb, 0))) ∧ e 1 = .sc (.int .i64 most) ∧ e 4 = .sc (.ptr (some (b4, 0))) ∧ e 5 = .sc (.ptr (some (b5, 0))) ∧ e 6 = .sc (.int .i64 n) ∧ e 7 = .sc (.int .i64 (j : Nat)) ∧ Mem (M.set rb (rdC w p')) M' ((b5, [xv, nil1]) :: (fpG xv (catV encVar vs) ++ [(b4, [nil1, nil1])])) ∧ OwS 3 xv (catV encVar vs) ∧ (∀ x ∈ vs, VarC x) ∧ vs.length + j ≤ 3 ∧ 1 ≤ n ∧ n ≤ 400 ∧ p ≤ p' ∧ p' + 3 * j ≤ p + 10) (1 + k2).toNat ?_ ?_
  · have e11 : (((1 + k2).toNat : Nat) : Int) = 1 + k2 := by omega
    exact ⟨p + 1, 1, nil1, [], sE0, sE0, sE0, sE0, sE0, sE1 @e11, m2, .inl ⟨rfl, 0, rfl⟩, fun x h => (by cases h), by simp; omega, by omega, by omega, by omega, by omega⟩
  · rintro j e M3 ⟨p3, n, xv, vs, q0, q1, q4, q5, q6, q7, hmem, hov, hvb, hc, n1, n2, d1, d2⟩ K hK
    have h5 := hmem.hd
    have ho := hov.one
    refine sS6 @q0 @q1 @q4 @q5 @q6 @q7 ?_
    refine cond_dec (fun hj => ?_) (fun hj => ?_)
    · refine sS6 @q0 @q1 @q4 @q5 @q6 @q7 ?_
      intro bn hbn
      refine (t_numL [2, 3, 2, 4, 5] hr hbn hmem.rs.at_ (by omega) (by omega) rfl rfl (by simp) (by simp)).mono ?_
      rintro _ M4 ⟨e4, sp, hsp, rfl⟩
      have sp1 : 2 ≤ sp ∧ sp ≤ 5 := by simp only [List.mem_cons, List.not_mem_nil, or_false] at hsp; omega
      have mem4 := hmem.rd' e4
      have hnl : 1 ≤ n * sp ∧ n * sp ≤ 2000 := by
        obtain ⟨s1, s2⟩ := sp1
        have : sp = 2 ∨ sp = 3 ∨ sp = 4 ∨ sp = 5 := by omega
        rcases this with rfl | rfl | rfl | rfl <;> omega
      refine sS6 @q0 @q1 @q4 @q5 @q6 @q7 ?_
      have ej : (j : Int) - 1 = ((j - 1 : Nat) : Int) := by omega
      refine cond_dec (fun hle => ?_) (fun hle => ?_)
      · refine sS6 @q0 @q1 @q4 @q5 @q6 @q7 ?_
        intro bl hbl
        refine (t_numL [0, 0, 0, -1, 2] hr hbl mem4.rs.at_ (by omega) (by omega) rfl rfl (by simp) (by simp)).mono ?_
        rintro _ M5 ⟨e5, lo, hlo, rfl⟩
        have lo1 : -1 ≤ lo ∧ lo ≤ 2 := by simp only [List.mem_cons, List.not_mem_nil, or_false] at hlo; omega
        have mem5 := mem4.rd' e5
        have h55 := mem5.hd
        refine sS1 @h55 ?_
        refine (t_pick hr mem5.rs.at_ (by omega) (by omega)).mono ?_
        rintro _ M6 ⟨e6, k6, rfl, a6, b6, _⟩
        have b6 := b6 (by omega)
        have mem6 := mem5.rd' e6
        have h66 := mem6.hd
        refine sS1 @h66 ?_
        intro bt hbt
        have m7 := mem6.perm List.perm_middle.symm
        refine app_var ⟨lo, lo + sp - 1, lo + k6⟩ (m7.gr hov) hbt rfl (by omega) (by omega) ?_
        intro s' M8 hg8 ho8
        have m8 := (m7.app hg8 ho8).perm List.perm_middle
        have h88 := m8.hd
        have o8 := hg8.one
        have o81 := o8.1
        have o82 := o8.2
        refine sS3 @h88 @o81 @o82 ?_
        refine hK (j - 1) _ _ (by omega) ⟨_, n * sp, s', _, sE0, sE0, sE0, sE0, sE0, sE1 @ej, m8.upd, hg8.own.sh.1, fun x hx => ?_, by simp; omega, by omega, by omega, by omega, by omega⟩
        rcases List.mem_append.1 hx with h' | h'
        · exact hvb x h'
        · rw [List.mem_singleton] at h'; subst h'
          exact ⟨by simp only; omega, by simp only; omega, by simp only; omega, by simp only; omega⟩
      · refine sS6 @q0 @q1 @q4 @q5 @q6 @q7 ?_
        exact hK (j - 1) _ _ (by omega) ⟨_, n, xv, vs, sE0, sE0, sE0, sE0, sE0, sE1 @ej, mem4, hov, hvb, by omega, by omega, by omega, by omega, by omega⟩
    · obtain rfl : j = 0 := by omega
      clear hK m2 e2 m5
      simp (maxSteps := 2000000) (disch := first | omega | assumption | exact idP rfl | exact idP (bL rfl)) only [go_sem, reduceIte, Nat.reduceEqDiff, wpV_kd, q0, q1, q4, q5, q6, q7]
      refine midQ (fun e' M' => ∃ (xv : V) (vs : List VarS), e' 0 = .sc (.ptr (some (rb, 0))) ∧ e' 4 = .sc (.ptr (some (b4, 0))) ∧ e' 5 = .sc (.ptr (some (b5, 0))) ∧ Mem (M.set rb (rdC w p3)) M' ((b5, [xv, nil1]) :: (fpG xv (catV encVar vs) ++ [(b4, [nil1, nil1])])) ∧ OwS 3 xv (catV encVar vs) ∧ (∀ x ∈ vs, VarC x) ∧ 1 ≤ vs.length ∧ vs.length ≤ 4) ?_ ?_
      · intro K' Q' hK'
        refine sS2 @h5 @hov.lenV ?_
        refine cond_dec (fun hz => ?_) (fun hz => ?_)
        · refine sS1 @h5 ?_
          intro bt hbt
          have m7 := hmem.perm List.perm_middle.symm
          refine app_var ⟨0, 1, 0⟩ (m7.gr hov) hbt rfl (by omega) (by omega) ?_
          intro s' M8 hg8 ho8
          have m8 := (m7.app hg8 ho8).perm List.perm_middle
          have h88 := m8.hd
          have o81 := hg8.one.1
          have o82 := hg8.one.2
          refine sS3 @h88 @o81 @o82 ?_
          refine hK' _ _ ⟨s', _, sE0, sE0, sE0, m8.upd, hg8.own.sh.1, fun x hx => ?_, by simp, by simp; omega⟩
          rcases List.mem_append.1 hx with h' | h'
          · exact hvb x h'
          · rw [List.mem_singleton] at h'; subst h'
            exact ⟨by simp only; omega, by simp only; omega, by simp only; omega, by simp only; omega⟩
        · refine sS0 ?_
          exact hK' _ _ ⟨xv, vs, sE0, sE0, sE0, hmem, hov, hvb, by omega, by omega⟩
      · clear hmem hov hvb hc h5 ho q0 q4 q5
        rintro e' M4 ⟨xv, vs, q0, q4, q5, hmem, hov, hvb, v1, v4⟩
        have h5 := hmem.hd
        refine sS4 @q0 @q4 @q5 @h5 ?_
        intro bn hbn
        refine (t_numL [1, 2, 3, 4, 2, 3, 0] hr hbn hmem.rs.at_ (by omega) (by omega) rfl rfl (by simp) (by simp)).mono ?_
        rintro _ M5 ⟨e5, my, hmy, rfl⟩
        obtain ⟨mn, rfl, hmn⟩ : ∃ mn : Nat, my = (mn : Int) ∧ mn ≤ 8 := ⟨my.toNat, by simp only [List.mem_cons, List.not_mem_nil, or_false] at hmy; omega, by simp only [List.mem_cons, List.not_mem_nil, or_false] at hmy; omega⟩
        have mem5 := hmem.rd' e5
        have h55 := mem5.hd
        refine sS4 @q0 @q4 @q5 @h55 ?_
        have m7 := mem5.perm List.perm_middle.symm
        have hgx := m7.gr hov
        refine (t_l2Rules hr mem5.rs.at_ (by omega) (by omega) hgx.own (fun e => by have := hgx.new rb e; rw [set_same] at this; cases this) (fun x hx => (hvb x hx).toB) v1 (by omega) hmn).mono ?_
        rintro xr M6 ⟨p6, cells, fp, rl, hmr, hor, hru, d3, d4, r8, rb8⟩
        have m8 := (mem5.rd (Y := rdC w p6)).add hmr
        have h66 := m8.hd
        have or1 := hor.one.1
        have or2 := hor.one.2
        refine sS5 @q4 @q5 @h66 @or1 @or2 ?_
        have m9 := m8.upd (l' := [xv, xr])
        have m10 : Mem (M.set rb (rdC w p6)) (M6.set b5 [xv, xr]) ((b4, [nil1, nil1]) :: (b5, [xv, xr]) :: (fpG xv (catV encVar vs) ++ (fpG xr cells ++ fp))) := by
          refine m9.perm ?_
          have e9 : (b5, [xv, xr]) :: (fpG xv (catV encVar vs) ++ [(b4, [nil1, nil1])]) ++ (fpG xr cells ++ fp) = (b5, [xv, xr]) :: (fpG xv (catV encVar vs) ++ (b4, [nil1, nil1]) :: (fpG xr cells ++ fp)) := by simp
          show ((b5, [xv, xr]) :: (fpG xv (catV encVar vs) ++ [(b4, [nil1, nil1])]) ++ (fpG xr cells ++ fp)).Perm _
          rw [e9]
          exact (List.Perm.cons _ List.perm_middle).trans (List.Perm.swap ..)
        have h9 := m9.hd
        have h4 := m10.hd
        have ov1 := hov.one.1
        have h4' : M6 b4 = some [nil1, nil1] := by rw [← h4, set_ne (Ne.symm n45)]
        refine sS3 @h4' @or1 @ov1 ?_
        have m11 := (m10.upd (l' := [xv, xr])).tail.tail
        exact hR _ _ ⟨p6, xv, xr, vs, cells, fp, rl, rfl, ⟨by simpa using m11, hov, hor, hru, hvb, v4, by omega, rb8⟩, v1, by omega, by omega⟩
end Go.M2

namespace Go.M2
open Go.Proofs
variable {M : MH}
def RuleN (N : Nat) (r : RuleS) : Prop := r.when_.length ≤ 81 ∧ r.sets.length ≤ N ∧ r.terms.length ≤ N ∧ ∀ ts ∈ r.terms, ts.length ≤ 81
theorem RuleN.mono {N N' : Nat} {r : RuleS} (h : RuleN N r) (hn : N ≤ N') : RuleN N' r := ⟨h.1, Nat.le_trans h.2.1 hn, Nat.le_trans h.2.2.1 hn, h.2.2.2⟩
theorem RuleB.toN {r : RuleS} (h : RuleB r) : RuleN 6 r := ⟨h.1, h.2.1, h.2.2.1, fun ts ht => Nat.le_trans (h.2.2.2 ts ht) (by omega)⟩
structure Sy5 (N : Nat) (B M : MH) (b4 b5 : Nat) (xv xr : V) (vs : List VarS) (cells : List V) (fp : List (Nat × List V)) (rl : List RuleS) : Prop where
  mem : Mem B M ((b4, [nil1, nil1]) :: (b5, [xv, xr]) :: (fpG xv (catV encVar vs) ++ (fpG xr cells ++ fp)))
  ov : OwS 3 xv (catV encVar vs)
  or : OwS 3 xr cells
  ru : RulesO cells fp rl
  vb : ∀ x ∈ vs, VarB x
  v4 : vs.length ≤ 4
  r8 : rl.length ≤ 8
  rb : ∀ r ∈ rl, RuleN N r
structure SyN (B M : MH) (xv xr : V) (vs : List VarS) (cells : List V) (fp : List (Nat × List V)) (rl : List RuleS) : Prop where
  mem : Mem B M (fpG xv (catV encVar vs) ++ (fpG xr cells ++ fp))
  ov : OwS 3 xv (catV encVar vs)
  or : OwS 3 xr cells
  ru : RulesO cells fp rl
  vb : ∀ x ∈ vs, VarB x
  v4 : vs.length ≤ 4
  r8 : rl.length ≤ 8
  rb : ∀ r ∈ rl, RuleN 7 r
section
variable {N : Nat} {B M M' : MH} {b4 b5 rb : Nat} {xv xr w : V} {vs : List VarS} {cells : List V} {fp : List (Nat × List V)} {rl : List RuleS} {q : Int} {X : List V}
theorem Sy5.rd' (h : Sy5 N (B.set rb X) M b4 b5 xv xr vs cells fp rl) (e : M' = M.set rb (rdC w q)) : Sy5 N (B.set rb (rdC w q)) M' b4 b5 xv xr vs cells fp rl := ⟨h.mem.rd' e, h.ov, h.or, h.ru, h.vb, h.v4, h.r8, h.rb⟩
theorem Sy5.at5 (h : Sy5 N B M b4 b5 xv xr vs cells fp rl) : M b5 = some [xv, xr] := h.mem.tail.hd
theorem Sy5.rs (h : Sy5 N (B.set rb (rdC w q)) M b4 b5 xv xr vs cells fp rl) : RS B rb w M q := h.mem.rs
theorem Sy5.vars (h : Sy5 N B M b4 b5 xv xr vs cells fp rl) (hl : 1 ≤ vs.length) : ∃ v0 tl bv n ex, vs = v0 :: tl ∧ xv = .sc (.sl (some (bv, 0)) n n ex 3) ∧ 1 ≤ n ∧ M bv = some (.sc (.int .i64 v0.low) :: .sc (.int .i64 v0.high) :: .sc (.int .i64 v0.first) :: catV encVar tl) ∧
    ∀ v1 : VarS, VarB v1 → Sy5 N B (M.set bv (.sc (.int .i64 v1.low) :: .sc (.int .i64 v1.high) :: .sc (.int .i64 v1.first) :: catV encVar tl)) b4 b5 xv xr (v1 :: tl) cells fp rl := by
  obtain ⟨v0, tl, rfl⟩ : ∃ v0 tl, vs = v0 :: tl := by
    cases vs with
    | nil => simp at hl
    | cons a b => exact ⟨a, b, rfl⟩
  obtain ⟨mem, ov, or, ru, vb, v4, r8, rb⟩ := h
  rcases ov with ⟨h0, _⟩ | ⟨bv, n, ex, rfl, h2⟩
  · simp [catV, encVar] at h0
  · have hcl := catV_len (sz := 3) (enc := encVar) (fun _ => rfl) (v0 :: tl)
    have hn : n = tl.length + 1 := by rw [h2] at hcl; simp at hcl; omega
    have m1 : Mem B M ((bv, catV encVar (v0 :: tl)) :: ((b4, [nil1, nil1]) :: (b5, [.sc (.sl (some (bv, 0)) n n ex 3), xr]) :: (fpG xr cells ++ fp))) := by
      refine mem.perm ?_
      rw [fpG_one (s := .sc (.sl (some (bv, 0)) n n ex 3)) rfl]
      exact (List.Perm.cons _ (List.Perm.swap ..)).trans (List.Perm.swap ..)
    refine ⟨v0, tl, bv, n, ex, rfl, rfl, by omega, m1.hd, fun v1 hv1 => ⟨?_, .inr ⟨bv, n, ex, rfl, ?_⟩, or, ru, fun x hx => ?_, by simpa using v4, r8, rb⟩⟩
    · have m2 := m1.upd (l' := catV encVar (v1 :: tl))
      refine m2.perm ?_
      rw [fpG_one (s := .sc (.sl (some (bv, 0)) n n ex 3)) rfl]
      exact ((List.Perm.cons _ (List.Perm.swap ..)).trans (List.Perm.swap ..)).symm
    · rw [catV_len (sz := 3) (enc := encVar) (fun _ => rfl) (v1 :: tl)]; simp; omega
    · rcases List.mem_cons.1 hx with rfl | hx
      · exact hv1
      · exact vb x (List.mem_cons_of_mem _ hx)
theorem Sy5.none (h : Sy5 N B M b4 b5 xv xr vs cells fp rl) : Sy5 N B (M.set b5 [nil1, xr]) b4 b5 nil1 xr [] cells fp rl := by
  have m1 := (h.mem.perm (List.Perm.swap ..)).upd (l' := [nil1, xr])
  refine ⟨?_, .inl ⟨rfl, 0, rfl⟩, h.or, h.ru, fun x hx => (by cases hx), by simp, h.r8, h.rb⟩
  have m2 := m1.perm (List.Perm.swap ..)
  have m3 : Mem B (M.set b5 [nil1, xr]) (fpG xv (catV encVar vs) ++ ((b4, [nil1, nil1]) :: (b5, [nil1, xr]) :: (fpG xr cells ++ fp))) := by
    refine m2.perm ?_
    exact (List.Perm.cons _ List.perm_middle.symm).trans List.perm_middle.symm
  simpa [fpG, blkV, nil1] using m3.right
structure Rl0 (N : Nat) (B M : MH) (b4 b5 : Nat) (xv : V) (vs : List VarS) (br n : Nat) (ex : Bool) (a a' b c : V) (cs : List V) (ints : List Int) (rows : List V) (ga fq : List (Nat × List V)) (ws : List TermS) (terms : List (List TermS)) (rt : List RuleS) : Prop where
  n1 : 1 ≤ n
  hn : (a :: b :: c :: cs).length = n * 3
  mem : Mem B M ((br, a :: b :: c :: cs) :: (b4, [nil1, nil1]) :: (b5, [xv, .sc (.sl (some (br, 0)) n n ex 3)]) :: (fpG xv (catV encVar vs) ++ (ga ++ (fpG b (ints.map vi) ++ (fpG c rows ++ fq)))))
  oa : One a
  ta : Tr [a] [a'] ga
  la : LT a' ws
  ob : OwS 1 b (ints.map vi)
  oc : OwS 1 c rows
  cc : Cs (fun ts u => LT u ts) rows terms
  ru : RulesO cs fq rt
  ov : OwS 3 xv (catV encVar vs)
  vb : ∀ x ∈ vs, VarB x
  v4 : vs.length ≤ 4
  r8 : rt.length + 1 ≤ 8
  rb0 : RuleN N ⟨ws, ints, terms⟩
  rb : ∀ r ∈ rt, RuleN N r
theorem Sy5.rules (h : Sy5 N B M b4 b5 xv xr vs cells fp rl) (hl : 0 < rl.length) : ∃ br n ex a a' b c cs ints rows ga fq ws terms rt, xr = .sc (.sl (some (br, 0)) n n ex 3) ∧ Rl0 N B M b4 b5 xv vs br n ex a a' b c cs ints rows ga fq ws terms rt := by
  obtain ⟨mem, ov, or, ru, vb, v4, r8, rb⟩ := h
  cases ru with
  | nil => simp at hl
  | @cons a a' b c ints rows cs ga fq ws terms rt h1 h0 h2 h3 h4 h5 h6 =>
    rcases or with ⟨hz, _⟩ | ⟨br, n, ex, rfl, hn⟩
    · simp at hz
    · refine ⟨br, n, ex, a, a', b, c, cs, ints, rows, ga, fq, ws, terms, rt, rfl, by simp at hn; omega, hn, ?_, h1, h0, h2, h3, h4, h5, h6, ov, vb, v4, by simpa using r8, rb _ (List.mem_cons_self ..), fun r hr => rb r (List.mem_cons_of_mem _ hr)⟩
      refine mem.perm ?_
      rw [fpG_one (s := .sc (.sl (some (br, 0)) n n ex 3)) rfl]
      exact (List.Perm.cons _ (List.Perm.cons _ List.perm_middle)).trans (List.perm_middle (l₁ := [_, _]))
variable {br n : Nat} {ex : Bool} {a a' b c : V} {cs : List V} {ints : List Int} {rows : List V} {ga fq : List (Nat × List V)} {ws : List TermS} {terms : List (List TermS)} {rt : List RuleS}
theorem Rl0.back (h : Rl0 N B M b4 b5 xv vs br n ex a a' b c cs ints rows ga fq ws terms rt) : Sy5 N B M b4 b5 xv (.sc (.sl (some (br, 0)) n n ex 3)) vs (a :: b :: c :: cs) (ga ++ (fpG b (ints.map vi) ++ (fpG c rows ++ fq))) (⟨ws, ints, terms⟩ :: rt) := by
  refine ⟨?_, h.ov, .inr ⟨br, n, ex, rfl, h.hn⟩, .cons h.oa h.ta h.la h.ob h.oc h.cc h.ru, h.vb, h.v4, by simpa using h.r8, fun r hr => ?_⟩
  · refine h.mem.perm ?_
    rw [fpG_one (s := .sc (.sl (some (br, 0)) n n ex 3)) rfl]
    exact ((List.Perm.cons _ (List.Perm.cons _ List.perm_middle)).trans (List.perm_middle (l₁ := [_, _]))).symm
  · rcases List.mem_cons.1 hr with rfl | hr
    · exact h.rb0
    · exact h.rb r hr
theorem Rl0.rd' {q : Int} {X : List V} (h : Rl0 N (B.set rb X) M b4 b5 xv vs br n ex a a' b c cs ints rows ga fq ws terms rt) (e : M' = M.set rb (rdC w q)) : Rl0 N (B.set rb (rdC w q)) M' b4 b5 xv vs br n ex a a' b c cs ints rows ga fq ws terms rt :=
  ⟨h.n1, h.hn, h.mem.rd' e, h.oa, h.ta, h.la, h.ob, h.oc, h.cc, h.ru, h.ov, h.vb, h.v4, h.r8, h.rb0, h.rb⟩
theorem Rl0.setA {bl m : Nat} {ex2 : Bool} {ts : List TermS} (h : Rl0 N B M b4 b5 xv vs br n ex a a' b c cs ints rows ga fq ws terms rt) (hbl : M bl = none) (hm : m = ts.length) (ht : ts.length ≤ 81) :
    Sy5 N B ((M.set bl (catV encT ts)).set br (.sc (.sl (some (bl, 0)) m m ex2 4) :: b :: c :: cs)) b4 b5 xv (.sc (.sl (some (br, 0)) n n ex 3)) vs (.sc (.sl (some (bl, 0)) m m ex2 4) :: b :: c :: cs) ([(bl, catV encT ts)] ++ (fpG b (ints.map vi) ++ (fpG c rows ++ fq))) (⟨ts, ints, terms⟩ :: rt) := by
  have hos : OwS 4 (.sc (.sl (some (bl, 0)) m m ex2 4)) (catV encT ts) := .inr ⟨bl, m, ex2, rfl, by rw [catV_len (sz := 4) (enc := encT) (fun _ => rfl) ts, hm]⟩
  obtain ⟨u, tu, fu⟩ := hos.tr (Tr.refl _)
  rw [List.append_nil] at tu
  refine Rl0.back (a' := u) ⟨h.n1, by simpa using h.hn, ?_, ⟨rfl, rfl⟩, tu, fu.lt, h.ob, h.oc, h.cc, h.ru, h.ov, h.vb, h.v4, h.r8, ⟨ht, h.rb0.2.1, h.rb0.2.2.1, h.rb0.2.2.2⟩, h.rb⟩
  have m1 := h.mem.new1 (l := catV encT ts) hbl
  have m2 := (m1.perm (List.Perm.swap ..)).upd (l' := .sc (.sl (some (bl, 0)) m m ex2 4) :: b :: c :: cs)
  -- the old condition is let go
  have m3 : Mem B ((M.set bl (catV encT ts)).set br (.sc (.sl (some (bl, 0)) m m ex2 4) :: b :: c :: cs)) (ga ++ ((br, .sc (.sl (some (bl, 0)) m m ex2 4) :: b :: c :: cs) :: (b4, [nil1, nil1]) :: (b5, [xv, .sc (.sl (some (br, 0)) n n ex 3)]) :: (fpG xv (catV encVar vs) ++ ([(bl, catV encT ts)] ++ (fpG b (ints.map vi) ++ (fpG c rows ++ fq)))))) := by
    refine m2.perm ?_
    have e1 : ∀ (x y z u : Nat × List V) (V1 V2 V3 : List (Nat × List V)), (x :: y :: z :: u :: (V1 ++ (V2 ++ V3))).Perm (V2 ++ (x :: z :: u :: (V1 ++ ([y] ++ V3)))) := fun x y z u V1 V2 V3 => by
      have s1 : (x :: y :: z :: u :: (V1 ++ (V2 ++ V3))).Perm (x :: z :: u :: y :: (V1 ++ (V2 ++ V3))) := List.Perm.cons _ ((List.Perm.swap ..).trans (List.Perm.cons _ (List.Perm.swap ..)))
      have s2 : (x :: z :: u :: y :: (V1 ++ (V2 ++ V3))).Perm (x :: z :: u :: (V1 ++ (V2 ++ (y :: V3)))) := by
        refine List.Perm.cons _ (List.Perm.cons _ (List.Perm.cons _ ?_))
        have := (List.perm_middle (a := y) (l₁ := V1 ++ V2) (l₂ := V3)).symm
        simpa using this
      have s3 : (x :: z :: u :: (V1 ++ (V2 ++ (y :: V3)))).Perm (V2 ++ (x :: z :: u :: (V1 ++ ([y] ++ V3)))) := by
        have := List.perm_append_comm_assoc (x :: z :: u :: V1) V2 (y :: V3)
        simpa using this
      exact s1.trans (s2.trans s3)
    exact e1 _ _ _ _ _ _ _
  have m4 := m3.right
  rw [fpG_one (s := .sc (.sl (some (bl, 0)) m m ex2 4)) rfl] at *
  exact m4
theorem Sy5.mono {N' : Nat} (h : Sy5 N B M b4 b5 xv xr vs cells fp rl) (hn : N ≤ N') : Sy5 N' B M b4 b5 xv xr vs cells fp rl := ⟨h.mem, h.ov, h.or, h.ru, h.vb, h.v4, h.r8, fun r hr => (h.rb r hr).mono hn⟩
variable {K : V → MH → Prop}
theorem perm5 {α : Type} (x y z : α) (V1 V2 F C : List α) : (x :: y :: z :: (V1 ++ (V2 ++ (F ++ C)))).Perm (F ++ (x :: y :: z :: (V1 ++ (V2 ++ C)))) := by
  have := List.perm_append_comm_assoc (x :: y :: z :: (V1 ++ V2)) F C
  simpa using this
theorem Rl0.pushB {by_ bt c' k : Nat} {ex' : Bool} {n0 : Int} (h : Rl0 N B M b4 b5 xv vs br n ex a a' b c cs ints rows ga fq ws terms rt) (hN : N ≤ 100) (hbt : M bt = none) (hby : by_ ≤ 16)
    (hk : ∀ s' M', M' br = some (a :: b :: c :: cs) → M' b5 = some [xv, .sc (.sl (some (br, 0)) n n ex 3)] → b5 ≠ br → One s' → Sy5 (N + 1) B (M'.set br (a :: s' :: c :: cs)) b4 b5 xv (.sc (.sl (some (br, 0)) n n ex 3)) vs (a :: s' :: c :: cs) (ga ++ (fpG s' ((ints ++ [n0]).map vi) ++ (fpG c rows ++ fq))) (⟨ws, ints ++ [n0], terms⟩ :: rt) → K s' M') :
    appV 1 by_ b (.sc (.sl (some (bt, 0)) 1 c' ex' k)) (M.set bt [.sc (.int .i64 n0)]) K := by
  have hi := h.rb0.2.1
  have m1 := h.mem.perm (perm5 _ _ _ _ _ _ _)
  simp only at hi
  refine app_int (m1.gr h.ob) hbt (by omega) hby fun s' M' h1 h2 => ?_
  have m2 := (m1.app h1 h2).perm (perm5 _ _ _ _ _ _ _).symm
  have m3 := m2.upd (l' := a :: s' :: c :: cs)
  refine hk s' M' m2.hd m2.tail.tail.hd (m2.ne _ (List.mem_cons_of_mem _ (List.mem_cons_self ..))) h1.one (Rl0.back ⟨h.n1, by simpa using h.hn, m3, h.oa, h.ta, h.la, h1.own.sh.1, h.oc, h.cc, h.ru, h.ov, h.vb, h.v4, h.r8, ⟨h.rb0.1, by simp; omega, Nat.le_trans h.rb0.2.2.1 (by omega), h.rb0.2.2.2⟩, fun r hr => (h.rb r hr).mono (by omega)⟩)
theorem Rl0.pushC {by_ bt bl m c' k : Nat} {ex' ex2 : Bool} {ts : List TermS} (h : Rl0 N B M b4 b5 xv vs br n ex a a' b c cs ints rows ga fq ws terms rt) (hN : N ≤ 100) (hbl : M bl = none) (hm : m = ts.length) (ht : ts.length ≤ 81) (hbt : (M.set bl (catV encT ts)) bt = none) (hby : by_ ≤ 32)
    (hk : ∀ s' M' u, M' br = some (a :: b :: c :: cs) → M' b5 = some [xv, .sc (.sl (some (br, 0)) n n ex 3)] → b5 ≠ br → One s' → Sy5 (N + 1) B (M'.set br (a :: b :: s' :: cs)) b4 b5 xv (.sc (.sl (some (br, 0)) n n ex 3)) vs (a :: b :: s' :: cs) (ga ++ (fpG b (ints.map vi) ++ (fpG s' (rows ++ [u]) ++ fq))) (⟨ws, ints, terms ++ [ts]⟩ :: rt) → K s' M') :
    appV 1 by_ c (.sc (.sl (some (bt, 0)) 1 c' ex' k)) ((M.set bl (catV encT ts)).set bt [.sc (.sl (some (bl, 0)) m m ex2 4)]) K := by
  have hi := h.rb0.2.2.1
  have hrt : rows.length = terms.length := h.cc.1
  simp only at hi
  have hs : Sub M (M.set bl (catV encT ts)) := (Sub.refl M).set' hbl
  have m0 := h.mem.more hs
  have p5 : ∀ {x y z : Nat × List V} {V1 V2 F1 F C : List (Nat × List V)}, (x :: y :: z :: (V1 ++ (V2 ++ (F1 ++ (F ++ C))))).Perm (F ++ (x :: y :: z :: (V1 ++ (V2 ++ (F1 ++ C))))) := fun {x y z V1 V2 F1 F C} => by
    have := perm5 x y z V1 (V2 ++ F1) F C
    simpa using this
  have m1 := m0.perm p5
  have hg := m1.gr h.oc
  have hrow : Gr 4 M (M.set bl (catV encT ts)) (.sc (.sl (some (bl, 0)) m m ex2 4)) (catV encT ts) := Gr.new' (Sub.refl M) hbl (by rw [catV_len (sz := 4) (enc := encT) (fun _ => rfl) ts, hm])
  have hgM := (h.mem.perm p5).gr h.oc
  have hne := hgM.ne hrow
  have hb1 : (rows.length + 1) * by_ ≤ (rows.length + 1) * 32 := Nat.mul_le_mul_left _ hby
  refine gr_appF hg (hrow.base h.mem.sub) hne hbt (by simp [mostCells]; omega) (by simp [mostCells]; omega) fun s' M' u h1 hu h2 => ?_
  have ho : Oth M M' c s' := fun i l hi hb => h2 i l (hs _ _ hi) hb (fun e => by simp only [blkV, Option.some.injEq] at e; subst e; rw [hbl] at hi; cases hi)
  have m2 := ((h.mem.perm p5).app h1 ho).perm p5.symm
  have m3 := m2.upd (l' := a :: b :: s' :: cs)
  refine hk s' M' u m2.hd m2.tail.tail.hd (m2.ne _ (List.mem_cons_of_mem _ (List.mem_cons_self ..))) h1.one (Rl0.back ⟨h.n1, by simpa using h.hn, m3, h.oa, h.ta, h.la, h.ob, h1.own.sh.1, h.cc.snoc hu.lt, h.ru, h.ov, h.vb, h.v4, h.r8, ⟨h.rb0.1, Nat.le_trans h.rb0.2.1 (by omega), by simp; omega, fun ts' hts => ?_⟩, fun r hr => (h.rb r hr).mono (by omega)⟩)
  rcases List.mem_append.1 hts with h' | h'
  · exact h.rb0.2.2.2 ts' h'
  · rw [List.mem_singleton] at h'; subst h'; exact ht
end
theorem midC {P : Program} {Q : PostV} {e : EnvV} {c : AV} {a b : IR} {K : EnvV → MH → Prop} (J : EnvV → MH → Prop) (h : ∀ (K' : EnvV → MH → Prop) (Q' : PostV), (∀ e' M', J e' M' → K' e' M') → condVV P c a b (thenQV K' Q') e M) (hk : ∀ e' M', J e' M' → K e' M') : condVV P c a b (thenQV K Q) e M := h K Q hk
theorem t_l2Any {rb : Nat} {w : V} {code : List Int} {p most : Int} (hr : Rdr w code) (hm : M rb = some (rdC w p)) (h0 : 0 ≤ p) (h1 : p ≤ 500000) (hmo : most ≤ 400) :
    VCall Try.prog n_spec_l2Any [.sc (.ptr (some (rb, 0))), .sc (.int .i64 most)] M (fun r M' => ∃ p' xv xr vs cells fp rl, r = .agg [xv, xr] ∧ SyN (M.set rb (rdC w p')) M' xv xr vs cells fp rl ∧ p ≤ p' ∧ p' ≤ p + 13010) := by
  refine VCall.plain fun R hR => v_spec_l2Any rfl ?_
  have rs0 := RS.start hm
  refine sS0 ?_
  intro b4 hb4
  have m4 : Mem (M.set rb (rdC w p)) (M.set b4 [nil1, nil1]) [(b4, [nil1, nil1])] := (Mem.nil rs0.sub).new1 hb4
  change VCall _ _ _ (M.set b4 [nil1, nil1]) _
  generalize M.set b4 [nil1, nil1] = M1 at *
  refine (t_l2System hr m4.rs.at_ (by omega) (by omega) hmo).mono ?_
  rintro _ M2 ⟨p2, xv, xr, vs, cells, fp, rl, rfl, sy, v1, d1, d2⟩
  have o1 := sy.ov.one.1
  have o2 := sy.or.one.1
  have hvc := sy.vb
  refine sS2 @o1 @o2 ?_
  intro b5 hb5
  have m5 := ((m4.rd (Y := rdC w p2)).add sy.mem).new1 (l := [xv, xr]) hb5
  have s5 : Sy5 6 (M.set rb (rdC w p2)) (M2.set b5 [xv, xr]) b4 b5 xv xr vs cells fp rl := ⟨by
    refine m5.perm ?_
    simpa using List.Perm.swap .., sy.ov, sy.or, sy.ru, fun x hx => (sy.vb x hx).toB, sy.v4, sy.r8, fun r hr => (sy.rb r hr).toN⟩
  generalize M2.set b5 [xv, xr] = M3 at *
  clear m5 m4
  refine (t_pick hr s5.rs.at_ (by omega) (by omega)).mono ?_
  rintro _ M4 ⟨e4, k4, rfl, _, _, _⟩
  have s4 := s5.rd' e4
  simp (maxSteps := 2000000) (disch := first | omega | assumption | exact idP rfl | exact idP (bL rfl)) only [go_sem, reduceIte, Nat.reduceEqDiff, wpV_kd]
  refine midC (fun e' M' => ∃ p' xv xr vs cells fp rl, e' 4 = .sc (.ptr (some (b4, 0))) ∧ e' 5 = .sc (.ptr (some (b5, 0))) ∧ Sy5 7 (M.set rb (rdC w p')) M' b4 b5 xv xr vs cells fp rl ∧ p ≤ p' ∧ p' ≤ p + 13010) ?_ ?_
  · intro K' Q' hK'
    refine cond_dec (fun hk => ?_) (fun hk => ?_)
    · have h5 := s4.at5
      refine sS0 ?_
      have z3 : Int.toNat 0 * 3 = 0 := rfl
      refine (t_pick hr s4.rs.at_ (by omega) (by omega)).mono ?_
      rintro _ M6 ⟨e6, k6, rfl, _, _, _⟩
      have s6 := s4.rd' e6
      have h6 := s6.at5
      obtain ⟨v0, tl, bv, nv, exv, rfl, rfl, hnv, hbv, upv⟩ := s6.vars v1
      refine sS0 ?_
      refine cond_dec (fun c0 => ?_) (fun c0 => ?_)
      · have hvb := s6.vb v0 (List.mem_cons_self ..)
        obtain ⟨y1, y2, y3, y4⟩ := hvb
        refine sS3 @h6 @hbv @z3 ?_
        exact hK' _ _ ⟨_, _, xr, _, cells, fp, rl, sE0, sE0, (upv ⟨v0.low, v0.high, v0.high + 1⟩ ⟨y1, y2, y3, y4⟩).mono (by omega), by omega, by omega⟩
      · refine sS0 ?_
        refine cond_dec (fun c1 => ?_) (fun c1 => ?_)
        · have hvb := s6.vb v0 (List.mem_cons_self ..)
          obtain ⟨y1, y2, y3, y4⟩ := hvb
          refine sS3 @h6 @hbv @z3 ?_
          intro bn hbn
          refine (t_numL [-1, 20, 19] hr hbn s6.rs.at_ (by omega) (by omega) rfl rfl (by simp) (by simp)).mono ?_
          rintro _ M7 ⟨e7, x7, hx7, rfl⟩
          have x71 : -1 ≤ x7 ∧ x7 ≤ 20 := by simp only [List.mem_cons, List.not_mem_nil, or_false] at hx7; omega
          have s7 := s6.rd' e7
          have h7 := s7.at5
          obtain ⟨v0', tl', bv', n', ex', g1, g2, hnv', hbv', upv'⟩ := s7.vars (by simp)
          cases g1
          cases g2
          refine sS3 @h7 @hbv' @z3 ?_
          obtain ⟨z1, z2, _, _⟩ := hvc v0 (List.mem_cons_self ..)
          exact hK' _ _ ⟨_, _, xr, _, cells, fp, rl, sE0, sE0, (upv' ⟨v0.low, v0.low + x7, v0.first⟩ ⟨by simp only; omega, by simp only; omega, by simp only; omega, by simp only; omega⟩).mono (by omega), by omega, by omega⟩
        · have hxl : lenF (er xr) = some (.int .i64 (rl.length : Int)) := by
            have hcl := s6.ru.len
            rcases s6.or with ⟨hz, q, rfl⟩ | ⟨br, n, ex, rfl, hn⟩
            · rw [hz] at hcl; have : rl.length = 0 := by rw [List.length_nil] at hcl; omega
              rw [this]; rfl
            · rw [show rl.length = n by omega]; rfl
          have z0 : decide (k6 = 0) = false := by simp [c0]
          have rest : ∀ e' : EnvV, e' 4 = .sc (.ptr (some (b4, 0))) → e' 5 = .sc (.ptr (some (b5, 0))) → K' e' M6 := fun e' h1 h2 => hK' _ _ ⟨_, _, _, _, cells, fp, rl, h1, h2, s6.mono (by omega), by omega, by omega⟩
          by_cases c2 : k6 = 2
          · have z2 : decide (k6 = 2) = true := by simp [c2]
            have y3 : decide (k6 = 3) = false := by simp [c2]
            have y4 : decide (k6 = 4) = false := by simp [c2]
            refine sS3 @z2 @h6 @hxl ?_
            refine cond_dec (fun cl => ?_) (fun cl => ?_)
            · obtain ⟨br, n, ex, a, a', b, c, cs, ints, rows, ga, fq, ws, terms, rt, rfl, r0⟩ := s6.rules (by omega)
              have hbr := r0.mem.hd
              have hn1 := r0.n1
              refine sS3 @h6 @hbr @z3 ?_
              refine t_l2Const.mono ?_
              rintro _ _ ⟨rfl, rfl⟩
              refine sS3 @h6 @hbr @z3 ?_
              intro bl hbl
              have nbr : br ≠ bl := fun e => by subst e; rw [hbl] at hbr; cases hbr
              refine sS2 @hbr @z3 ?_
              refine hK' _ _ ⟨_, _, _, _, _, _, _, sE0, sE0, (r0.setA (ts := [⟨0, 1, 0, 0⟩]) hbl rfl (by simp)).mono (by omega), by omega, by omega⟩
            · refine sS4 @y3 @y4 @h6 @hxl ?_
              refine cond_dec (fun cl2 => ?_) (fun cl2 => ?_)
              · omega
              · refine sS0 ?_
                exact rest _ (sE0) (sE0)
          · have z2 : decide (k6 = 2) = false := by simp [c2]
            by_cases c3 : k6 = 3
            · have z3' : decide (k6 = 3) = true := by simp [c3]
              have y4 : decide (k6 = 4) = false := by simp [c3]
              refine sS4 @z2 @z3' @h6 @hxl ?_
              refine cond_dec (fun cl => ?_) (fun cl => ?_)
              · obtain ⟨br, n, ex, a, a', b, c, cs, ints, rows, ga, fq, ws, terms, rt, rfl, r0⟩ := s6.rules (by omega)
                have hbr := r0.mem.hd
                have hn1 := r0.n1
                have hxv := s6.ov.lenV
                refine sS4 @h6 @hbr @z3 @hxv ?_
                intro bt hbt
                refine r0.pushB (by omega) hbt (by omega) ?_
                intro s' M8 hbr8 h58 n5r ho8 s8
                have o1 := ho8.1
                have o2 := ho8.2
                refine sS5 @h58 @hbr8 @o1 @o2 @z3 ?_
                exact hK' _ _ ⟨_, _, _, _, _, _, _, sE0, sE0, s8, by omega, by omega⟩
              · refine sS3 @y4 @h6 @hxl ?_
                refine cond_dec (fun cl2 => ?_) (fun cl2 => ?_)
                · omega
                · refine sS0 ?_
                  exact rest _ (sE0) (sE0)
            · have z3' : decide (k6 = 3) = false := by simp [c3]
              refine sS4 @z2 @z3' @h6 @hxl ?_
              refine cond_dec (fun c4 => ?_) (fun c4 => ?_)
              · refine sS1 @h6 ?_
                exact hK' _ _ ⟨_, _, _, _, cells, fp, rl, sE0, sE0, s6.none.mono (by omega), by omega, by omega⟩
              · refine sS2 @h6 @hxl ?_
                refine cond_dec (fun cl => ?_) (fun cl => ?_)
                · obtain ⟨br, n, ex, a, a', b, c, cs, ints, rows, ga, fq, ws, terms, rt, rfl, r0⟩ := s6.rules (by omega)
                  have hbr := r0.mem.hd
                  have hn1 := r0.n1
                  refine sS3 @h6 @hbr @z3 ?_
                  refine t_l2Const.mono ?_
                  rintro _ _ ⟨rfl, rfl⟩
                  refine sS3 @h6 @hbr @z3 ?_
                  intro bl hbl bt hbt
                  have nl1 : b5 ≠ bl := fun e => by subst e; rw [hbl] at h6; cases h6
                  have nl2 : br ≠ bl := fun e => by subst e; rw [hbl] at hbr; cases hbr
                  have hbt2 := (fresh_set hbt).2
                  have nl3 : b5 ≠ bt := fun e => by subst e; rw [hbt2] at h6; cases h6
                  have nl4 : br ≠ bt := fun e => by subst e; rw [hbt2] at hbr; cases hbr
                  refine sS3 @h6 @hbr @z3 ?_
                  refine r0.pushC (ts := [⟨0, 0, 0, 0⟩]) (by omega) hbl rfl (by simp) hbt (by omega) ?_
                  intro s' M8 u hbr8 h58 n5r ho8 s8
                  have o1 := ho8.1
                  have o2 := ho8.2
                  refine sS5 @h58 @hbr8 @o1 @o2 @z3 ?_
                  exact hK' _ _ ⟨_, _, _, _, _, _, _, sE0, sE0, s8, by omega, by omega⟩
                · refine sS0 ?_
                  exact rest _ (sE0) (sE0)
    · refine sS0 ?_
      exact hK' _ _ ⟨_, xv, xr, vs, cells, fp, rl, sE0, sE0, s4.mono (by omega), by omega, by omega⟩
  · rintro e' M5 ⟨p5, xv, xr, vs, cells, fp, rl, q4, q5, s5, d3, d4⟩
    have h5 := s5.at5
    have h4 := s5.mem.hd
    have o1 := s5.ov.one.1
    have o2 := s5.or.one.1
    refine sS6 @q4 @q5 @h5 @h4 @o1 @o2 ?_
    have m1 := (s5.mem.upd (l' := [xv, xr])).tail.tail
    exact hR _ _ ⟨p5, xv, xr, vs, cells, fp, rl, rfl, ⟨by simpa using m1, s5.ov, s5.or, s5.ru, s5.vb, s5.v4, s5.r8, s5.rb⟩, by omega, by omega⟩
end Go.M2

namespace Go.M2
open Go.Proofs
variable {M : MH}
structure SysDr (s : SysS) : Prop where
  v4 : s.vars.length ≤ 4
  vb : ∀ x ∈ s.vars, VarB x
  r8 : s.rules.length ≤ 8
  rb : ∀ r ∈ s.rules, RuleN 7 r
theorem SysDr.sz {s : SysS} (h : SysDr s) : SysSz s := ⟨by have := h.v4; omega, by have := h.r8; omega, fun r hr => by have := (h.rb r hr).2.1; omega⟩
theorem f_l2Any {rb : Nat} {w : V} {code : List Int} {p most : Int} (hr : Rdr w code) (hm : M rb = some (rdC w p)) (h0 : 0 ≤ p) (h1 : p ≤ 500000) (hmo : most ≤ 400) :
    VCall Try.prog n_spec_l2Any [.sc (.ptr (some (rb, 0))), .sc (.int .i64 most)] M (fun r M' => ∃ p' s, M' = M.set rb (rdC w p') ∧ p ≤ p' ∧ p' ≤ p + 13010 ∧ isSys s r ∧ SysDr s) := by
  refine VCall.frB (q := fun B r' => ∃ p' s, B = M.set rb (rdC w p') ∧ p ≤ p' ∧ p' ≤ p + 13010 ∧ isSys s r' ∧ SysDr s) ((t_l2Any hr hm h0 h1 hmo).mono ?_)
  rintro _ M' ⟨p', xv, xr, vs, cells, fp, rl, rfl, sy, d1, d2⟩
  obtain ⟨uv, tv, fv⟩ := sy.ov.tr (Tr.refl _)
  rw [List.append_nil] at tv
  obtain ⟨cells', tc, hc⟩ := sy.ru.tr
  obtain ⟨ur, tr, fr⟩ := sy.or.tr tc
  refine ⟨_, .agg [uv, ur], _, by simpa using Tr.agg (tv.append tr) .nil, sy.mem, p', ⟨vs, rl⟩, rfl, d1, d2, ⟨uv, ur, rfl, fv.lvar, fr.lc (by omega) (by rw [tc.len, sy.ru.len]) hc⟩, ⟨sy.v4, sy.vb, sy.r8, sy.rb⟩⟩
def NN (v : V) (xs : List Int) : Prop := 0 < xs.length → isNilF .sl (er v) = some false
theorem Fr.nn {v : V} {xs : List Int} (h : Fr 1 v (xs.map vi)) : NN v xs := fun hl => h.some (by simpa using hl)
theorem VCall.frI {P : Program} {f : FuncId} {args : List V} {rb : Nat} {w : V} {p d : Int} {n : Nat} (h : VCall P f args M (fun r M' => ∃ (p' : Int) (xs : List Int), Gr 1 (M.set rb (rdC w p')) M' r (xs.map vi) ∧ p ≤ p' ∧ p' ≤ p + d ∧ xs.length ≤ n)) :
    VCall P f args M (fun r M' => ∃ (p' : Int) (xs : List Int), M' = M.set rb (rdC w p') ∧ p ≤ p' ∧ p' ≤ p + d ∧ LI r xs ∧ NN r xs ∧ xs.length ≤ n) := by
  refine (VCall.frG (sz := 1) (q := fun B l => ∃ (p' : Int) (xs : List Int), B = M.set rb (rdC w p') ∧ p ≤ p' ∧ p' ≤ p + d ∧ l = xs.map vi ∧ xs.length ≤ n) (h.mono fun r M' ⟨p', xs, h1, h2, h3, h4⟩ => ⟨_, _, h1, p', xs, rfl, h2, h3, rfl, h4⟩)).mono ?_
  rintro r M' ⟨l, hf, p', xs, rfl, q1, q2, rfl, q3⟩
  exact ⟨p', xs, rfl, q1, q2, hf.li, hf.nn, q3⟩
theorem t_l4Some {rb : Nat} {w v : V} {code : List Int} {p : Int} {s : SysS} (hr : Rdr w code) (hm : M rb = some (rdC w p)) (h0 : 0 ≤ p) (h1 : p ≤ 500000) (hv : isSys s v) :
    VCall Try.prog n_spec_l4Some [.sc (.ptr (some (rb, 0))), v] M (fun r M' => ∃ (p' : Int) (xs : List Int), M' = M.set rb (rdC w p') ∧ p ≤ p' ∧ p' ≤ p + 410 ∧ LI r xs ∧ NN r xs ∧ xs.length ≤ 1000) := by
  refine VCall.frI (VCall.plain fun R hR => v_spec_l4Some rfl ?_)
  have rs0 := RS.start hm
  have hv0 := hv
  obtain ⟨a, b, rfl, ha, hb⟩ := hv
  have hsz := sizeB_bd s
  refine sS0 ?_
  intro b3 hb3
  have q3 : (M.set b3 [a, b]) b3 = some [a, b] := set_same
  have rs1 := rs0.more ((Sub.refl M).set' (l := [a, b]) hb3)
  generalize M.set b3 [a, b] = M1 at *
  intro b5 hb5
  have hg : Gr 1 (M.set rb (rdC w p)) (M1.set b5 []) (.sc (.sl (some (b5, 0)) 0 0 true 1)) (([] : List Int).map vi) := Gr.new' rs1.sub hb5 rfl
  have rs2 := rs1.more ((Sub.refl M1).set' (l := []) hb5)
  have q3' : (M1.set b5 []) b3 = some [a, b] := by rw [set_ne (fun e => by subst e; rw [hb5] at q3; cases q3)]; exact q3
  generalize M1.set b5 [] = M2 at *
  refine sS1 @q3' ?_
  refine (t_SizeOfB hv0).mono ?_
  rintro _ _ ⟨rfl, rfl⟩
  refine sS0 ?_
  intro bn hbn
  refine (t_numL [2, 3, 1, 5, 9] hr hbn rs2.at_ (by omega) (by omega) rfl rfl (by simp) (by simp)).mono ?_
  rintro _ M3 ⟨e3, k, hk, rfl⟩
  have rs3 := rs2.set' e3
  have hg3 := hg.rd' e3
  refine sS0 ?_
  refine loop_k (fun e M' => ∃ (i : Nat) (p' : Int) (xs : List Int), (i : Int) ≤ sizeB s ∧ e 0 = .sc (.ptr (some (rb, 0))) ∧ e 6 = .sc (.int .i64 (sizeB s)) ∧ e 7 = .sc (.int .i64 k) ∧ e 8 = .sc (.int .i64 (i : Int)) ∧ Gr 1 (M.set rb (rdC w p')) M' (e 5) (xs.map vi) ∧ xs.length ≤ i ∧ p ≤ p' ∧ p' ≤ p + 1 + i) (fun e _ => ctrV 400 (e 8)) ?_ ?_
  · exact ⟨0, p + 1, [], by omega, sE0, sE0, sE0, sE0, by refine sS0 ?_; exact hg3, by simp, by omega, by omega⟩
  · rintro e M4 ⟨i, p4, xs, hi, q0, q6, q7, q8, hg4, hxl, d1, d2⟩ K hK
    have rs4 : RS M rb w M4 p4 := ⟨hg4.sub _ _ set_same, hg4.sub⟩
    refine sS4 @q0 @q6 @q7 @q8 ?_
    refine cond_dec (fun h => ?_) (fun h => ?_)
    · refine sS4 @q0 @q6 @q7 @q8 ?_
      refine (t_pick hr rs4.at_ (by omega) (by omega)).mono ?_
      rintro _ M5 ⟨e5, k5, rfl, _, _, _⟩
      have hg5 := hg4.rd' e5
      refine sS4 @q0 @q6 @q7 @q8 ?_
      refine cond_dec (fun h2 => ?_) (fun h2 => ?_)
      · refine sS4 @q0 @q6 @q7 @q8 ?_
        intro bt hbt
        refine app_int hg5 hbt (by omega) (by omega) ?_
        intro s' M' hg' _
        refine sS0 ?_
        exact hK _ _ ⟨i + 1, _, _, by omega, sE0, sE0, sE0, sE0, by refine sS0 ?_; exact hg', by simp; omega, by omega, by omega⟩ (by refine sS2 @ctrV_int @q8 ?_; omega)
      · refine sS4 @q0 @q6 @q7 @q8 ?_
        exact hK _ _ ⟨i + 1, _, _, by omega, sE0, sE0, sE0, sE0, by refine sS0 ?_; exact hg5, by omega, by omega, by omega⟩ (by refine sS2 @ctrV_int @q8 ?_; omega)
    · refine sS1 @q0 ?_
      refine (t_pick hr rs4.at_ (by omega) (by omega)).mono ?_
      rintro _ M5 ⟨e5, k5, rfl, _, _, _⟩
      have hg5 := hg4.rd' e5
      have rs5 := rs4.set' e5
      refine sS0 ?_
      refine cond_dec (fun h2 => ?_) (fun h2 => ?_)
      · refine sS2 @q0 @q6 ?_
        intro bn2 hbn2
        refine (t_numL [sizeB s, 0, -1] hr hbn2 rs5.at_ (by omega) (by omega) rfl rfl (by simp) (by simp)).mono ?_
        rintro _ M6 ⟨e6, x6, _, rfl⟩
        have hg6 := hg5.rd' e6
        refine sS0 ?_
        intro bt hbt
        refine app_int hg6 hbt (by omega) (by omega) ?_
        intro s' M' hg' _
        refine sS0 ?_
        exact hR _ _ ⟨_, _, hg', by omega, by omega, by simp; omega⟩
      · refine sS0 ?_
        exact hR _ _ ⟨_, _, hg5, by omega, by omega, by omega⟩
end Go.M2

namespace Go.M2
open Go.Proofs
variable {M : MH}
def CapOk : V → Prop
  | .fs _ n c _ _ _ => n ≤ c
  | _ => True
theorem lu_take {v : V} {xs : List Int} (h : LU v xs) (hc : CapOk v) (hl : 2000 < xs.length) : ∃ u, slcV 1 none (some (.int .i64 2000)) none v = some u ∧ LU u (xs.take 2000) := by
  rcases h with ⟨rfl, k, rfl⟩ | ⟨A, c, ex, k, cs, rfl, h1, h2⟩
  · simp at hl
  · have hc : xs.length ≤ c := hc
    have e1 : (2000 : Int) ≤ (c : Int) := by omega
    have e2 : ¬ c = 0 := by omega
    have e3 : ¬ ((c = 0 ∧ ((none : Option AV).isNone = true ∧ ex = false)) ∨ (k ≠ 1 ∧ 0 ≠ 0)) := by omega
    refine ⟨.fs (some (A.b, A.o + 0 * 1)) (2000 - 0) (c - 0) (ex || false) k ((cs.drop (0 * 1)).take ((2000 - 0) * 1)), ?_, ?_⟩
    · simp only [slcV, slcF, bnds, natIn, Option.isSome_none, Bool.false_eq_true, if_false, e1, and_true, if_true]
      rw [if_pos (by omega)]
      simp only [Int.reduceToNat]
      rw [if_neg e3, if_neg e2]
      simp only
      rw [if_pos (by omega)]
    · refine .inr ⟨_, _, _, _, _, by rw [List.length_take]; congr 1; omega, by simp; omega, fun i hi => ?_⟩
      have hi2 : i < 2000 := by simp at hi; omega
      have hi3 : i < xs.length := by omega
      have h3 := h2 i hi3
      rw [List.getElem_take]
      have e4 : at1 (.fs (some (A.b, A.o + 0 * 1)) (2000 - 0) (c - 0) (ex || false) k ((cs.drop (0 * 1)).take ((2000 - 0) * 1))) i = at1 (.fs A xs.length c ex k cs) i := by
        simp [at1, List.getElem?_take, hi2]
      rw [e4]; exact h3
theorem t_l40Open {v : V} {xs : List Int} (hv : XU v xs) (hc : CapOk v) (hl : xs.length ≤ 1048576) :
    VCall Try.prog n_spec_l40Open [v] M (fun r M' => ∃ rb w code, r = .sc (.ptr (some (rb, 0))) ∧ M rb = none ∧ M' = M.set rb (rdC w 0) ∧ Rdr w code) := by
  refine VCall.plain fun R hR => v_spec_l40Open rfl ?_
  have hlen := hv.len fun _ _ h => h.len
  refine sS1 @hlen ?_
  refine cond_dec (fun h => ?_) (fun h => ?_)
  · obtain ⟨u, h1, h2⟩ := lu_take (hv.get (by omega)) hc (by omega)
    have hu := h2.one.2
    refine sS2 @h1 @hu ?_
    intro b hb
    exact hR _ _ ⟨b, u, _, rfl, hb, rfl, .inl h2, by simp; omega⟩
  · have hone : cellsV v = some [v] := by
      rcases hv with hv | ⟨rfl, _⟩
      · exact hv.one.2
      · rfl
    refine sS1 @hone ?_
    intro b hb
    exact hR _ _ ⟨b, v, _, rfl, hb, rfl, hv, by omega⟩
end Go.M2

namespace Go.M2
open Go.Proofs
variable {M : MH}
theorem isSys.two {s : SysS} {v : V} (h : isSys s v) : ∃ a b, v = .agg [a, b] ∧ oneV a = true ∧ oneV b = true := by
  obtain ⟨a, b, rfl, ha, hb⟩ := h
  exact ⟨a, b, rfl, ha.one.1, hb.one.1⟩
end Go.M2

namespace Go.M2
open Go.Proofs
variable {M : MH}
structure QO (tab : List (List Int)) (N : Nat) (st : Nat → Prop) (m : Nat → Bool) (row : List Int) : Prop where
  a : ∀ i, m i = true → i < N ∧ Rch tab st i
  b : ∀ i, st i → m i = true
  c : ∀ x ∈ row, 0 ≤ x ∧ m x.toNat = true
  d : ∀ i : Nat, m i = true → ¬ (i : Int) ∈ row → ∀ y ∈ tab.getD i [], m y.toNat = true
structure QI (tab : List (List Int)) (N : Nat) (st : Nat → Prop) (m : Nat → Bool) (row : List Int) (n j : Nat) : Prop where
  a : ∀ i, m i = true → i < N ∧ Rch tab st i
  b : ∀ i, st i → m i = true
  c : ∀ x ∈ row, 0 ≤ x ∧ m x.toNat = true
  d : ∀ i : Nat, m i = true → ¬ (i : Int) ∈ row → i ≠ n → ∀ y ∈ tab.getD i [], m y.toNat = true
  e : ∀ y ∈ (tab.getD n []).take j, m y.toNat = true
  n_ : m n = true
section
variable {tab : List (List Int)} {N : Nat} {st : Nat → Prop} {m : Nat → Bool} {row : List Int} {n j : Nat} {x : Int}
theorem QO.pop (h : QO tab N st m (x :: row)) : QI tab N st m row x.toNat 0 := by
  obtain ⟨hx0, hx1⟩ := h.c x (List.mem_cons_self ..)
  refine ⟨h.a, h.b, fun y hy => h.c y (List.mem_cons_of_mem _ hy), fun i hi hr hn => h.d i hi fun hm => ?_, fun y hy => by simp at hy, hx1⟩
  rcases List.mem_cons.1 hm with h1 | h1
  · omega
  · exact hr h1
theorem QI.done (h : QI tab N st m row n j) (hj : (tab.getD n []).length ≤ j) : QO tab N st m row := by
  refine ⟨h.a, h.b, h.c, fun i hi hr => ?_⟩
  by_cases e : i = n
  · subst e
    have := h.e
    rwa [List.take_of_length_le hj] at this
  · exact h.d i hi hr e
theorem QI.skip (h : QI tab N st m row n j) (hj : j < (tab.getD n []).length) (hm : m (tab.getD n [])[j].toNat = true) : QI tab N st m row n (j + 1) := by
  refine ⟨h.a, h.b, h.c, h.d, fun y hy => ?_, h.n_⟩
  rw [take_snoc hj, List.mem_append, List.mem_singleton] at hy
  rcases hy with h1 | rfl
  · exact h.e y h1
  · exact hm
theorem QI.push (h : QI tab N st m row n j) (hj : j < (tab.getD n []).length) (h0 : 0 ≤ (tab.getD n [])[j]) (hN : (tab.getD n [])[j].toNat < N) :
    QI tab N st (fun i => m i || decide (i = (tab.getD n [])[j].toNat)) (row ++ [(tab.getD n [])[j]]) n (j + 1) := by
  have up : ∀ i, m i = true → (m i || decide (i = (tab.getD n [])[j].toNat)) = true := fun i hi => by simp [hi]
  refine ⟨fun i hi => ?_, fun i hi => up i (h.b i hi), fun y hy => ?_, fun i hi hr hn y hy => ?_, fun y hy => ?_, up _ h.n_⟩
  · simp only [Bool.or_eq_true, decide_eq_true_eq] at hi
    rcases hi with h1 | rfl
    · exact h.a i h1
    · exact ⟨hN, .step (h.a n h.n_).2 (List.getElem_mem hj)⟩
  · rcases List.mem_append.1 hy with h1 | h1
    · exact ⟨(h.c y h1).1, up _ (h.c y h1).2⟩
    · rw [List.mem_singleton] at h1
      subst h1
      exact ⟨h0, by simp⟩
  · simp only [Bool.or_eq_true, decide_eq_true_eq] at hi
    rcases hi with h1 | h1
    · exact up _ (h.d i h1 (fun hm => hr (List.mem_append_left _ hm)) hn y hy)
    · exact absurd (List.mem_append_right _ (List.mem_singleton.2 (by omega))) hr
  · rw [take_snoc hj, List.mem_append, List.mem_singleton] at hy
    rcases hy with h1 | rfl
    · exact up _ (h.e y h1)
    · simp
theorem QO.final (h : QO tab N st m []) (i : Nat) : m i = rB tab st i := rB_closed h.b (fun i hi => (h.a i hi).2) (fun i hi => h.d i hi (by simp)) i
end
theorem Gr.wn {M0 M : MH} {v : V} {xs : List Int} (h : Gr 1 M0 M v (xs.map vi)) (h0 : 0 < xs.length) : Wn M0 M v xs := by
  rcases h.own with ⟨h1, _⟩ | ⟨b, n, ex, rfl, h1, h2⟩
  · have : xs = [] := by simpa using h1
    subst this; simp at h0
  · have hn : n = xs.length := by simp at h2; omega
    subst hn
    exact ⟨b, 0, ex, _, rfl, h1, by simp, by rw [List.drop_zero, List.take_of_length_le (by simp)], h.new b rfl, h.sub⟩
theorem Wn.base {M0 M1 M : MH} {v : V} {xs : List Int} (h : Wn M1 M v xs) (hs : Sub M0 M1) : Wn M0 M v xs := by
  obtain ⟨b, o, ex, l, rfl, h1, h2, h3, h4, h5⟩ := h
  exact ⟨b, o, ex, l, rfl, h1, h2, h3, hs.none h4, hs.trans h5⟩
end Go.M2

namespace Go.M2
open Go.Proofs
inductive Rk (tab : List (List Int)) (st : Nat → Prop) : Nat → Nat → Prop
  | zero {i : Nat} : st i → Rk tab st 0 i
  | succ {k i : Nat} {x : Int} : Rk tab st k i → x ∈ tab.getD i [] → Rk tab st (k + 1) x.toNat
open Classical in
noncomputable def dst (tab : List (List Int)) (st : Nat → Prop) (i : Nat) : Int := if ∃ k, Rk tab st k i then (leastOf fun k => Rk tab st k i : Nat) else -1
section
variable {tab : List (List Int)} {st : Nat → Prop} {i d : Nat}
theorem dst_of {k : Nat} (h : Rk tab st k i) : ∃ n : Nat, dst tab st i = (n : Int) ∧ Rk tab st n i ∧ n ≤ k := by
  have hs := leastOf_spec (p := fun k => Rk tab st k i) ⟨k, h⟩
  refine ⟨_, ?_, hs.1, hs.2 k h⟩
  unfold dst
  rw [if_pos ⟨k, h⟩]
theorem dst_ge (tab : List (List Int)) (st : Nat → Prop) (i : Nat) : -1 ≤ dst tab st i := by
  unfold dst
  split <;> omega
theorem dst_nat {n : Nat} (h : dst tab st i = (n : Int)) : Rk tab st n i ∧ ∀ k, Rk tab st k i → n ≤ k := by
  have hex : ∃ k, Rk tab st k i := by
    apply Classical.byContradiction
    intro hn
    unfold dst at h
    rw [if_neg hn] at h
    omega
  have hs := leastOf_spec (p := fun k => Rk tab st k i) hex
  have e : (leastOf fun k => Rk tab st k i) = n := by
    unfold dst at h
    rw [if_pos hex] at h
    omega
  rw [e] at hs
  exact hs
theorem dst_rch : 0 ≤ dst tab st i ↔ Rch tab st i := by
  constructor
  · intro h
    obtain ⟨n, hn⟩ : ∃ n : Nat, dst tab st i = (n : Int) := ⟨(dst tab st i).toNat, by omega⟩
    have h1 := (dst_nat hn).1
    clear hn h
    induction h1 with
    | zero h => exact .base h
    | succ _ hx ih => exact .step ih hx
  · intro h
    have : ∃ k, Rk tab st k i := by
      induction h with
      | base h => exact ⟨0, .zero h⟩
      | step _ hx ih => obtain ⟨k, hk⟩ := ih; exact ⟨k + 1, .succ hk hx⟩
    obtain ⟨k, hk⟩ := this
    obtain ⟨n, h1, _⟩ := dst_of hk
    omega
theorem dst_zero : dst tab st i = 0 ↔ st i := by
  constructor
  · intro h
    have h1 := (dst_nat (n := 0) h).1
    cases h1 with
    | zero h => exact h
  · intro h
    obtain ⟨n, h1, _, h2⟩ := dst_of (tab := tab) (.zero h)
    omega
theorem dst_pred (h : dst tab st i = ((d + 1 : Nat) : Int)) : ∃ (p : Nat) (x : Int), dst tab st p = (d : Int) ∧ x ∈ tab.getD p [] ∧ x.toNat = i := by
  obtain ⟨h1, h2⟩ := dst_nat h
  generalize hk : d + 1 = k at h1
  cases h1 with
  | zero h => omega
  | @succ k p x hp hx =>
    obtain ⟨n, q1, q2, q3⟩ := dst_of hp
    have := h2 _ (.succ q2 hx)
    exact ⟨p, x, by omega, hx, rfl⟩
theorem dst_next {x : Int} (h : dst tab st i = (d : Int)) (hx : x ∈ tab.getD i []) : 0 ≤ dst tab st x.toNat ∧ dst tab st x.toNat ≤ (d : Int) + 1 := by
  obtain ⟨n, q1, _, q2⟩ := dst_of (.succ (dst_nat h).1 hx)
  omega
theorem dst_all (h : ∀ i, dst tab st i ≠ ((d + 1 : Nat) : Int)) : ∀ i, dst tab st i ≤ (d : Int) := by
  have key : ∀ (n : Nat) (i : Nat), dst tab st i = ((d + 1 + n : Nat) : Int) → False := by
    intro n
    induction n with
    | zero => exact fun i hi => h i hi
    | succ n ih =>
      intro i hi
      obtain ⟨p, x, hp, _⟩ := dst_pred (d := d + 1 + n) hi
      exact ih p hp
  intro i
  rcases Int.lt_or_le (d : Int) (dst tab st i) with h1 | h1
  · exact (key ((dst tab st i).toNat - (d + 1)) i (by omega)).elim
  · exact h1
end
noncomputable def lv (tab : List (List Int)) (st : Nat → Prop) (d : Int) (i : Nat) : Int := if dst tab st i ≤ d then dst tab st i else -1
structure LvI (tab : List (List Int)) (N : Nat) (st : Nat → Prop) (d : Nat) (a : Nat → Bool) (n : Nat) : Prop where
  s : ∀ i, a i = true → i < N ∧ dst tab st i = ((d + 1 : Nat) : Int)
  c : ∀ p, p < n → dst tab st p = (d : Int) → ∀ y ∈ tab.getD p [], 0 ≤ lv tab st d y.toNat ∨ a y.toNat = true
noncomputable def lvA (tab : List (List Int)) (st : Nat → Prop) (d : Nat) (a : Nat → Bool) (i : Nat) : Int := if a i = true then (d : Int) + 1 else lv tab st d i
section
variable {tab : List (List Int)} {N : Nat} {st : Nat → Prop} {d n : Nat} {a : Nat → Bool}
theorem LvI.last (h : LvI tab N st d a N) (hst : ∀ i, Rch tab st i → i < N) (i : Nat) : lvA tab st d a i = lv tab st ((d : Int) + 1) i := by
  unfold lvA lv
  by_cases ha : a i = true
  · rw [if_pos ha, (h.s i ha).2, if_pos (by omega)]; omega
  · rw [if_neg ha]
    by_cases h1 : dst tab st i ≤ (d : Int)
    · rw [if_pos h1, if_pos (by omega)]
    · rw [if_neg h1]
      by_cases h2 : dst tab st i ≤ (d : Int) + 1
      · exfalso
        obtain ⟨p, x, hp, hx, rfl⟩ := dst_pred (d := d) (show dst tab st i = ((d + 1 : Nat) : Int) by omega)
        rcases h.c p (hst p (dst_rch.1 (by omega))) hp x hx with h3 | h3
        · unfold lv at h3
          rw [if_neg h1] at h3
          omega
        · exact ha h3
      · rw [if_neg h2]
theorem LvI.none (h : LvI tab N st d a N) (hst : ∀ i, Rch tab st i → i < N) (ha : ∀ i, a i = false) (i : Nat) : lvA tab st d a i = dst tab st i := by
  have hall := dst_all (tab := tab) (st := st) (d := d) fun j hj => by
    have h1 := h.last hst j
    unfold lvA lv at h1
    rw [ha j] at h1
    simp only [Bool.false_eq_true, if_false] at h1
    rw [if_neg (by omega), if_pos (by omega)] at h1
    omega
  unfold lvA lv
  rw [ha i, if_pos (hall i)]
  simp
theorem LvI.mono {a' : Nat → Bool} (h : LvI tab N st d a n) (h2 : ∀ i, a' i = true → i < N ∧ dst tab st i = ((d + 1 : Nat) : Int)) (h3 : ∀ i, a i = true → a' i = true) : LvI tab N st d a' n :=
  ⟨h2, fun p hp hd y hy => (h.c p hp hd y hy).imp id (h3 _)⟩
end
end Go.M2

namespace Go.M2
open Go.Proofs
variable {M : MH}
end Go.M2

namespace Go.M2
open Go.Proofs
variable {M : MH}
end Go.M2

namespace Go.M2
open Go.Proofs
variable {M : MH}
end Go.M2

namespace Go.M2
open Go.Proofs
variable {M : MH}
structure SO (tab : List (List Int)) (N : Nat) (st : Nat → Prop) (f : Nat → Int) (row : List Int) : Prop where
  a : ∀ i, 0 ≤ f i → i < N ∧ f i = dst tab st i
  m : ∀ i, f i < 0 → f i = -1
  b : ∀ i, st i → 0 ≤ f i
  c : ∀ x ∈ row, 0 ≤ x ∧ 0 ≤ f x.toNat
  d : ∀ i : Nat, 0 ≤ f i → ¬ (i : Int) ∈ row → ∀ y ∈ tab.getD i [], 0 ≤ f y.toNat
  srt : row.Pairwise fun x y => f x.toNat ≤ f y.toNat
  up : ∀ x t, row = x :: t → ∀ z ∈ t, f z.toNat ≤ f x.toNat + 1
structure SI (tab : List (List Int)) (N : Nat) (st : Nat → Prop) (f : Nat → Int) (row : List Int) (n j : Nat) : Prop where
  a : ∀ i, 0 ≤ f i → i < N ∧ f i = dst tab st i
  m : ∀ i, f i < 0 → f i = -1
  b : ∀ i, st i → 0 ≤ f i
  c : ∀ x ∈ row, 0 ≤ x ∧ 0 ≤ f x.toNat
  d : ∀ i : Nat, 0 ≤ f i → ¬ (i : Int) ∈ row → i ≠ n → ∀ y ∈ tab.getD i [], 0 ≤ f y.toNat
  e : ∀ y ∈ (tab.getD n []).take j, 0 ≤ f y.toNat
  n_ : 0 ≤ f n
  srt : row.Pairwise fun x y => f x.toNat ≤ f y.toNat
  lo : ∀ z ∈ row, f n ≤ f z.toNat
  up : ∀ z ∈ row, f z.toNat ≤ f n + 1
section
variable {tab : List (List Int)} {N : Nat} {st : Nat → Prop} {f : Nat → Int} {row : List Int} {n j : Nat} {x : Int}
theorem SO.pop (h : SO tab N st f (x :: row)) : SI tab N st f row x.toNat 0 := by
  obtain ⟨hx0, hx1⟩ := h.c x (List.mem_cons_self ..)
  obtain ⟨s1, s2⟩ := List.pairwise_cons.1 h.srt
  refine ⟨h.a, h.m, h.b, fun y hy => h.c y (List.mem_cons_of_mem _ hy), fun i hi hr hn => h.d i hi fun hm => ?_, fun y hy => by simp at hy, hx1, s2, s1, h.up x row rfl⟩
  rcases List.mem_cons.1 hm with h1 | h1
  · omega
  · exact hr h1
theorem SI.done (h : SI tab N st f row n j) (hj : (tab.getD n []).length ≤ j) : SO tab N st f row := by
  refine ⟨h.a, h.m, h.b, h.c, fun i hi hr => ?_, h.srt, fun y t ht z hz => ?_⟩
  · by_cases e : i = n
    · subst e
      have := h.e
      rwa [List.take_of_length_le hj] at this
    · exact h.d i hi hr e
  · have h1 := h.up z (by rw [ht]; exact List.mem_cons_of_mem _ hz)
    have h2 := h.lo y (by rw [ht]; exact List.mem_cons_self ..)
    omega
theorem SI.skip (h : SI tab N st f row n j) (hj : j < (tab.getD n []).length) (hm : 0 ≤ f (tab.getD n [])[j].toNat) : SI tab N st f row n (j + 1) := by
  refine ⟨h.a, h.m, h.b, h.c, h.d, fun y hy => ?_, h.n_, h.srt, h.lo, h.up⟩
  rw [take_snoc hj, List.mem_append, List.mem_singleton] at hy
  rcases hy with h1 | rfl
  · exact h.e y h1
  · exact hm
theorem SI.near (h : SI tab N st f row n j) : ∀ (k : Nat) (i : Nat), dst tab st i = (k : Int) → (k : Int) ≤ f n → 0 ≤ f i := by
  intro k
  induction k with
  | zero => exact fun i hi _ => h.b i (dst_zero.1 hi)
  | succ k ih =>
    intro i hi hk
    obtain ⟨p, y, hp, hy, rfl⟩ := dst_pred hi
    have h1 := ih p hp (by omega)
    have h2 := (h.a p h1).2
    exact h.d p h1 (fun hr => by have := h.lo _ hr; simp only [Int.toNat_natCast] at this; omega) (fun e => by subst e; omega) y hy
theorem SI.push (h : SI tab N st f row n j) (hj : j < (tab.getD n []).length) (h0 : 0 ≤ (tab.getD n [])[j]) (hN : (tab.getD n [])[j].toNat < N) (hneg : f (tab.getD n [])[j].toNat < 0) :
    SI tab N st (fun i => if i = (tab.getD n [])[j].toNat then f n + 1 else f i) (row ++ [(tab.getD n [])[j]]) n (j + 1) := by
  generalize hy : (tab.getD n [])[j] = y at *
  have hmem : y ∈ tab.getD n [] := by rw [← hy]; exact List.getElem_mem hj
  obtain ⟨hn1, hn2⟩ := h.a n h.n_
  obtain ⟨d, hd⟩ : ∃ d : Nat, f n = (d : Int) := ⟨(f n).toNat, by have := h.n_; omega⟩
  have hdn : dst tab st n = (d : Int) := by omega
  have hnx := dst_next hdn hmem
  have hdy : dst tab st y.toNat = f n + 1 := by
    by_cases hle : dst tab st y.toNat ≤ f n
    · have := h.near (dst tab st y.toNat).toNat y.toNat (by omega) (by omega)
      omega
    · omega
  have hny : n ≠ y.toNat := fun e => by have := h.n_; rw [e] at this; omega
  have hry : ∀ z ∈ row, z.toNat ≠ y.toNat := fun z hz e => by have := (h.c z hz).2; rw [e] at this; omega
  have hnn := h.n_
  have up : ∀ i, 0 ≤ f i → 0 ≤ (if i = y.toNat then f n + 1 else f i) := fun i hi => by split <;> omega
  have en : (if n = y.toNat then f n + 1 else f n) = f n := if_neg hny
  refine ⟨fun i hi => ?_, fun i hi => ?_, fun i hi => up i (h.b i hi), fun z hz => ?_, fun i hi hr hn z hz => ?_, fun z hz => ?_, up n h.n_, ?_, fun z hz => ?_, fun z hz => ?_⟩
  · by_cases e : i = y.toNat
    · subst e; rw [if_pos rfl]; exact ⟨hN, hdy.symm⟩
    · rw [if_neg e] at hi ⊢; exact h.a i hi
  · by_cases e : i = y.toNat
    · simp only [if_pos e] at hi; omega
    · simp only [if_neg e] at hi ⊢; exact h.m i hi
  · rcases List.mem_append.1 hz with h1 | h1
    · exact ⟨(h.c z h1).1, up _ (h.c z h1).2⟩
    · rw [List.mem_singleton] at h1
      subst h1
      exact ⟨h0, by simp only [if_true]; omega⟩
  · by_cases e : i = y.toNat
    · exact absurd (List.mem_append_right _ (List.mem_singleton.2 (by omega))) hr
    · simp only [if_neg e] at hi
      exact up _ (h.d i hi (fun hm => hr (List.mem_append_left _ hm)) hn z hz)
  · rw [take_snoc hj, List.mem_append, List.mem_singleton, hy] at hz
    rcases hz with h1 | rfl
    · exact up _ (h.e z h1)
    · simp only [if_true]; omega
  · rw [List.pairwise_append]
    refine ⟨h.srt.imp_of_mem fun {p q} hp hq hpq => ?_, List.pairwise_singleton .., fun p hp q hq => ?_⟩
    · simp only [if_neg (hry p hp), if_neg (hry q hq)]; exact hpq
    · rw [List.mem_singleton] at hq
      subst hq
      simp only [if_neg (hry p hp), if_true]
      exact h.up p hp
  · simp only [en]
    rcases List.mem_append.1 hz with h1 | h1
    · simp only [if_neg (hry z h1)]; exact h.lo z h1
    · rw [List.mem_singleton] at h1; subst h1; simp only [if_true]; omega
  · simp only [en]
    rcases List.mem_append.1 hz with h1 | h1
    · simp only [if_neg (hry z h1)]; exact h.up z h1
    · rw [List.mem_singleton] at h1; subst h1; simp only [if_true]; omega
theorem SO.final (h : SO tab N st f []) (i : Nat) : f i = dst tab st i := by
  have all : ∀ i, Rch tab st i → 0 ≤ f i := fun i hi => by
    induction hi with
    | base h1 => exact h.b _ h1
    | step _ hx ih => exact h.d _ ih (by simp) _ hx
  by_cases hi : 0 ≤ f i
  · exact (h.a i hi).2
  · have h1 := h.m i (by omega)
    have h2 := dst_ge tab st i
    have h3 : ¬ 0 ≤ dst tab st i := fun h4 => hi (all i (dst_rch.1 h4))
    omega
end
end Go.M2

namespace Go.M2
open Go.Proofs
variable {M : MH}
end Go.M2

namespace Go.M2
open Go.Proofs
variable {M : MH}
theorem Tr.inv1 {x : V} {l' : List V} {fp : List (Nat × List V)} (h : Tr [x] l' fp) : (l' = [x] ∧ fp = []) ∨ (∃ b o n c ex k cs cs' g, x = .sc (.sl (some (b, o)) n c ex k) ∧ l' = [.fs (some (b, o)) n c ex k (cs'.drop o)] ∧ Tr cs cs' g ∧ fp = (b, cs) :: g) ∨ (∃ a a', l' = [V.agg a'] ∧ x = .agg a) ∨ (∃ a a', l' = [V.tup a'] ∧ x = .tup a) := by
  cases h with
  | keep v h1 => cases h1; exact .inl ⟨rfl, rfl⟩
  | sl h1 h2 => cases h2; exact .inr (.inl ⟨_, _, _, _, _, _, _, _, _, rfl, rfl, h1, by simp⟩)
  | agg h1 h2 => cases h2; exact .inr (.inr (.inl ⟨_, _, rfl, rfl⟩))
  | tup h1 h2 => cases h2; exact .inr (.inr (.inr ⟨_, _, rfl, rfl⟩))
theorem Tr.uncons {x : V} {t l' : List V} {fp : List (Nat × List V)} (h : Tr (x :: t) l' fp) : ∃ x' t' f1 f2, l' = x' :: t' ∧ fp = f1 ++ f2 ∧ Tr [x] [x'] f1 ∧ Tr t t' f2 := by
  obtain ⟨a', b', f1, f2, rfl, rfl, h1, h2⟩ := Tr.split (a := [x]) (b := t) (b' := []) (by simpa using h)
  have := h1.len
  match a', this with
  | [x'], _ => exact ⟨x', b', f1, f2, rfl, rfl, h1, h2⟩
theorem take_one {cs : List V} {j : Nat} (h : j < cs.length) : cs.take (j + 1) = cs.take j ++ [cs[j]] := List.take_succ_eq_append_getElem h
structure OwnS (M0 M : MH) (s : SysS) (x y : V) (x' y' : V) (fp : List (Nat × List V)) : Prop where
  tr : Tr [x, y] [x', y'] fp
  mem : Mem M0 M fp
  fl : flatL [x, y]
  ff : ∀ q ∈ fp, flatL q.2
  lx : LVar x' s.vars
  ly : LR y' s.rules
end Go.M2

namespace Go.M2
open Go.Proofs
variable {M : MH}
theorem SysFit.sz {s : SysS} (h : SysFit s) : SysSz s := ⟨h.1, h.2.1, fun r hr => (h.2.2 r hr).2.1⟩
end Go.M2

namespace Go.M2
open Go.Proofs
variable {M : MH}
theorem o_over {v w : V} {tab : List (List Int)} {xs : List Int} (hv : LII v tab) (hw : LI w xs) (hn : tab.length ≤ 1048576) (hl : xs.length ≤ 1048576) (hin : ∀ x ∈ xs, 0 ≤ x ∧ x < (tab.length : Int))
    (htl : ∀ r ∈ tab, r.length ≤ 1048576 ∧ ∀ x ∈ r, 0 ≤ x ∧ x < (tab.length : Int)) :
    VCall Try.prog n_impl_over [v, w] M (fun r M' => Gr 1 M M' r ((selL tab.length (behB tab xs)).map vi)) := by
  refine VCall.plain fun R hR => v_impl_over rfl ?_
  refine sS1 @hv.len ?_
  refine mks3 (by omega) (by simp [mostCells]; omega) (by simp [mostCells]; omega) ?_
  intro b9 hb9
  simp (maxSteps := 2000000) (disch := first | omega | assumption | exact idP rfl | exact idP (bL rfl)) only [go_sem, reduceIte, Nat.reduceEqDiff, wpV_kd, wpV_tH, hw.len, zeros_vb, mkL_none]
  refine loop_k (fun e M' => ∃ i : Nat, i ≤ xs.length ∧ e 0 = v ∧ e 5 = .sc (.sl (some (b9, 0)) tab.length tab.length true 1) ∧ e 13 = w ∧ e 14 = .sc (.int .i64 xs.length) ∧ e 15 = .sc (.int .i64 i) ∧ Sub M M' ∧ M' b9 = some ((mkL tab.length (behB tab (xs.take i))).map vb)) (fun e _ => ctrV xs.length (e 15)) ?_ ?_
  · refine ⟨0, by omega, sT0, sT0, sT0, sT0, by refine sS0 ?_; rfl, (Sub.refl _).set hb9, ?_⟩
    refine sS0 ?_
    rw [mkL_ext]
    intro i hi; simp [behB]
  · rintro e M1 ⟨i, hi, e0, e5, e13, e14, e15, hsub, hm⟩ K hK
    refine sS5 @e0 @e5 @e13 @e14 @e15 ?_
    refine cond_dec (fun h => ?_) (fun h => ?_)
    · have hi' : i < xs.length := by omega
      have hxi := hin _ (List.getElem_mem hi')
      have hxt : xs[i].toNat < tab.length := by omega
      have hrow := hv.elt hxt
      have hrl := htl _ (List.getElem_mem hxt)
      simp (maxSteps := 2000000) (disch := first | omega | assumption | exact idP rfl | exact idP (bL rfl)) only [go_sem, reduceIte, Nat.reduceEqDiff, wpV_kd, wpV_tH, e0, e5, e13, e14, e15, hw.iaddr, hw.at hi', hv.iaddr, hrow.len]
      refine loop_k (fun e' M' => ∃ j : Nat, j ≤ tab[xs[i].toNat].length ∧ e' 0 = v ∧ e' 5 = .sc (.sl (some (b9, 0)) tab.length tab.length true 1) ∧ e' 13 = w ∧ e' 14 = .sc (.int .i64 xs.length) ∧ e' 15 = .sc (.int .i64 i) ∧ e' 22 = at1 v xs[i].toNat ∧ e' 23 = .sc (.int .i64 tab[xs[i].toNat].length) ∧ e' 24 = .sc (.int .i64 j) ∧ Sub M M' ∧ M' b9 = some ((mkL tab.length (fun q => behB tab (xs.take i) q || inL (tab[xs[i].toNat].take j) q)).map vb)) (fun e' _ => ctrV tab[xs[i].toNat].length (e' 24)) ?_ ?_
      · refine ⟨0, by omega, sT0, sT0, sT0, sT0, sT0, sT0, sT0, by refine sS0 ?_; rfl, hsub, ?_⟩
        rw [hm, mkL_ext (q := fun q => behB tab (xs.take i) q || inL (tab[xs[i].toNat].take 0) q)]
        intro i hi; simp [inL]
      · rintro e' M2 ⟨j, hj, f0, f5, f13, f14, f15, f22, f23, f24, hsub2, hm2⟩ K2 hK2
        refine sS8 @f0 @f5 @f13 @f14 @f15 @f22 @f23 @f24 ?_
        refine cond_dec (fun h => ?_) (fun h => ?_)
        · have hj' : j < tab[xs[i].toNat].length := by omega
          have hxj := hrl.2 _ (List.getElem_mem hj')
          have hso : tab[xs[i].toNat][j].toNat < ((mkL tab.length (fun q => behB tab (xs.take i) q || inL (tab[xs[i].toNat].take j) q)).map vb).length := by rw [len_vb', mkL_len]; omega
          simp (maxSteps := 2000000) (disch := first | omega | assumption | exact idP rfl | exact idP (bL rfl)) only [go_sem, reduceIte, Nat.reduceEqDiff, wpV_kd, wpV_tH, f0, f5, f13, f14, f15, f22, f23, f24, hrow.iaddr, hrow.at hj', hm2]
          refine hK2 _ _ ⟨j + 1, by omega, sT0, sT0, sT0, sT0, sT0, sT0, sT0, by refine sS0 ?_; rfl, hsub2.set hb9, ?_⟩ (by refine sS2 @ctrV_int @f24 ?_; omega)
          refine sS0 ?_
          rw [set_vb', mkL_set]
          intro q hq
          simp only [inL, take_snoc hj', List.mem_append, List.mem_singleton, Bool.decide_or, Bool.or_assoc]
          congr 2
          apply decide_eq_decide.2
          omega
        · obtain rfl : j = tab[xs[i].toNat].length := by omega
          rw [List.take_length] at hm2
          refine sS5 @f0 @f5 @f13 @f14 @f15 ?_
          refine hK _ _ ⟨i + 1, by omega, sT0, sT0, sT0, sT0, by refine sS0 ?_; rfl, hsub2, ?_⟩ (by refine sS3 @ctrV_int @e15 @f15 ?_; omega)
          rw [hm2, mkL_ext]
          intro q hq
          rw [behB_snoc hi']
          simp [inL, List.getD, hxt]
    · obtain rfl : i = xs.length := by omega
      rw [List.take_length] at hm
      refine sS1 @e5 ?_
      have hg : Gr 1 M M1 (.sc (.sl (some (b9, 0)) tab.length tab.length true 1)) ((mkL tab.length (behB tab xs)).map vb) := ⟨hsub, fun b' h' => by simp [blkV] at h'; subst h'; exact hb9, .inr ⟨b9, _, true, rfl, hm, by rw [len_vb', mkL_len]; omega⟩⟩
      refine (VCall.give0 hg fun u M2 hu hs2 => (t_listOf hu.lb hn).mono fun r M' hr => hr.base hs2).mono ?_
      rintro r M2 hg2
      refine sS0 ?_
      exact hR _ _ hg2
theorem Dn.nil1 {k : Nat} : Dn M M (.sc (.sl none 0 0 true k)) (fun u => LI u []) := ⟨_, [], .refl _, .nil (Sub.refl _), by simp [flat], fun q hq => (by cases hq), .nil⟩
theorem Dn.nilS {M' : MH} {k : Nat} (h : Sub M M') : Dn M M' (.sc (.sl none 0 0 true k)) (fun u => LI u []) := ⟨_, [], .refl _, .nil h, by simp [flat], fun q hq => (by cases hq), .nil⟩
theorem Gr.dnI {M' : MH} {v : V} {ys : List Int} (h : Gr 1 M M' v (ys.map vi)) : Dn M M' v (fun u => LI u ys) := h.dn (flatL_vi ys) fun u hu => hu.li
theorem o_impNextNumbers {v w : V} {s : SysS} {xs : List Int} (hv : isSys s v) (hz : SysSz s) (hw : LI w xs) (hl : xs.length ≤ 1048576) : VCall Try.prog n_impl_NextNumbers [v, w] M (fun r M' => Dn M M' r (fun u => LI u (nextN s xs))) := by
  refine VCall.plain fun R hR => v_impl_NextNumbers rfl ?_
  have hv0 := hv
  obtain ⟨a, b, rfl, ha, hb⟩ := hv
  (repeat' (first | ((with_reducible first | refine cond_dec (fun h => ?_) (fun h => ?_) | refine guardK_dec (fun h => ?_) (fun h => ?_) | refine guardD3_dec (fun h => ?_) (fun h => ?_)) <;> first | (exfalso; omega) | (simp (maxSteps := 2000000) (disch := first | omega | assumption | exact idP rfl | exact idP (bL rfl)) only [go_sem, reduceIte, Nat.reduceEqDiff, wpV_kd, wpV_tH, h]) | skip) | ((with_reducible first | refine cond_split (fun h => ?_) (fun h => ?_) | refine guardK_split (fun h => ?_) (fun h => ?_) | refine guardD3_split (fun h => ?_) (fun h => ?_)) <;> ((try simp only [Bool.not_eq_true', Bool.not_eq_false'] at h); first | (simp (maxSteps := 2000000) (disch := first | omega | assumption | exact idP rfl | exact idP (bL rfl)) only [go_sem, reduceIte, Nat.reduceEqDiff, wpV_kd, wpV_tH, h]) | skip)) | ((with_reducible refine (t_impSetValid hv0 hz hw hl).mono ?_); rintro _ _ ⟨rfl, rfl⟩) | (with_reducible intro bk hbk; try have hnk := (fresh_set hbk).1) | (simp (maxSteps := 2000000) (disch := first | omega | assumption | exact idP rfl | exact idP (bL rfl)) only [go_sem, reduceIte, Nat.reduceEqDiff, wpV_kd, wpV_tH])))
  · refine hR _ _ ?_
    unfold nextN
    rw [if_neg (by rw [h]; simp)]
    exact .nilS (sB)
  · obtain ⟨hs, hset⟩ := setV_iff.1 h
    have hsz := hs.sz
    have htl := tabF_len s
    have hin2 : ∀ x ∈ xs, 0 ≤ x ∧ x < ((tabF s).length : Int) := by rw [show ((tabF s).length : Int) = sizeF s.vars by omega]; exact hset.in
    refine (f_nexts hv0 hs).mono ?_
    rintro t _ ⟨rfl, ht⟩
    refine sS0 ?_
    refine (o_over ht hw (by omega) hl hin2 (tabF_in hs)).mono ?_
    rintro r M2 hg
    refine sS0 ?_
    refine hR _ _ ?_
    unfold nextN
    rw [if_pos h]
    exact (hg.base ((Sub.refl M).set' hbk)).dnI
end Go.M2

namespace Go.M2
open Go.Proofs
variable {M : MH}
theorem OwnS.more {M0 M M' : MH} {s : SysS} {x y x' y' : V} {fp : List (Nat × List V)} (h : OwnS M0 M s x y x' y' fp) (hs : Sub M M') : OwnS M0 M' s x y x' y' fp := ⟨h.tr, h.mem.more hs, h.fl, h.ff, h.lx, h.ly⟩
end Go.M2

namespace Go.M2
open Go.Proofs
variable {M : MH}
def aheadB (tab : List (List Int)) (m : Nat → Bool) (n : Nat) : Bool := (tab.getD n []).any fun y => m y.toNat
noncomputable def pastN (s : SysS) (xs : List Int) : List Int := if setV s xs = true then selL (tabF s).length (aheadB (tabF s) (inL xs)) else []
theorem pastN_len {s : SysS} {xs : List Int} : (pastN s xs).length ≤ 400 := by
  unfold pastN
  split
  · rename_i h
    have hs := (setV_iff.1 h).1
    have h1 := hs.sz
    have h2 := tabF_len s
    exact Nat.le_trans selL_len (by omega)
  · simp
end Go.M2

namespace Go.M2
open Go.Proofs
variable {M : MH}
theorem Mem.snoc1 {M0 M : MH} {b : Nat} {l : List V} {fp : List (Nat × List V)} (h : Mem M0 M fp) (hb : M0 b = none) (hm : M b = some l) (hn : ∀ p ∈ fp, p.1 ≠ b) : Mem M0 M (fp ++ [(b, l)]) := by
  refine ⟨h.sub, fun p hp => ?_, ?_, fun p hp => ?_⟩
  · rcases List.mem_append.1 hp with h1 | h1
    · exact h.new p h1
    · rw [List.mem_singleton] at h1; subst h1; exact hb
  · unfold Nd2
    rw [List.map_append, List.nodup_append]
    refine ⟨h.nd, by simp, fun a ha c hc e => ?_⟩
    obtain ⟨p, hp, rfl⟩ := List.mem_map.1 ha
    simp at hc
    exact hn p hp (by rw [e, hc])
  · rcases List.mem_append.1 hp with h1 | h1
    · exact h.at_ p h1
    · rw [List.mem_singleton] at h1; subst h1; exact hm
structure PT (M M' : MH) (b3 N : Nat) (us : List V) (mm : Nat → Int → Prop) (bd : Nat) : Prop where
  at3 : M' b3 = some us
  len : us.length = N
  sub : Sub M M'
  new : M b3 = none
  rows : ∀ (k : Nat) (u : V), us[k]? = some u → blkV u ≠ some b3 ∧ ∃ ys : List Int, Gr 1 M M' u (ys.map vi) ∧ ys.length ≤ bd ∧ ∀ x, x ∈ ys ↔ mm k x
  dis : ∀ (k k' : Nat) (u u' : V), us[k]? = some u → us[k']? = some u' → k ≠ k' → ∀ b, blkV u = some b → blkV u' ≠ some b
theorem PT.push {M1 M2 : MH} {b3 N k0 : Nat} {us : List V} {mm mm' : Nat → Int → Prop} {bd : Nat} {u s' : V} {ys : List Int} {x : Int} (h : PT M M1 b3 N us mm bd) (hu : us[k0]? = some u) (hys : ys.length ≤ bd) (hym : ∀ z, z ∈ ys ↔ mm k0 z)
    (hg : Gr 1 M M2 s' ((ys ++ [x]).map vi)) (ho : Oth M1 M2 u s') (h0 : ∀ z, mm' k0 z ↔ (mm k0 z ∨ z = x)) (h1 : ∀ k z, k ≠ k0 → (mm' k z ↔ mm k z)) :
    PT M (M2.set b3 (us.set k0 s')) b3 N (us.set k0 s') mm' (bd + 1) := by
  obtain ⟨o1, o2⟩ := ho b3 us h.at3 (h.rows k0 u hu).1
  have hk0 : k0 < us.length := (List.getElem?_eq_some_iff.1 hu).1
  refine ⟨set_same, by rw [List.length_set]; exact h.len, hg.sub.set h.new, h.new, fun k w hw => ?_, fun k k' w w' hw hw' hk => ?_⟩
  · by_cases e : k = k0
    · subst e
      rw [List.getElem?_set_self hk0] at hw
      cases hw
      refine ⟨o2, ys ++ [x], hg.setN h.new o2, by simp; omega, fun z => ?_⟩
      rw [List.mem_append, List.mem_singleton, hym, h0]
    · rw [List.getElem?_set_ne (fun e' => e e'.symm)] at hw
      obtain ⟨q1, zs, q2, q3, q4⟩ := h.rows k w hw
      obtain ⟨r1, r2⟩ := q2.oth (sz' := 1) ho (h.dis k k0 w u hw hu e) hg.sub
      exact ⟨q1, zs, r1.setN h.new q1, by omega, fun z => by rw [q4, h1 k z e]⟩
  · have key : ∀ (j : Nat) (v : V), us[j]? = some v → j ≠ k0 → (∀ b, blkV v = some b → blkV s' ≠ some b) := fun j v hv hj => by
      obtain ⟨q1, zs, q2, q3, q4⟩ := h.rows j v hv
      exact (q2.oth (sz' := 1) ho (h.dis j k0 v u hv hu hj) hg.sub).2
    by_cases e : k = k0
    · subst e
      rw [List.getElem?_set_self hk0] at hw
      cases hw
      rw [List.getElem?_set_ne (fun e' => hk e')] at hw'
      intro b hb hb'
      exact key k' w' hw' (fun e' => hk e'.symm) b hb' hb
    · rw [List.getElem?_set_ne (fun e' => e e'.symm)] at hw
      by_cases e2 : k' = k0
      · subst e2
        rw [List.getElem?_set_self hk0] at hw'
        cases hw'
        exact key k w hw e
      · rw [List.getElem?_set_ne (fun e' => e2 e'.symm)] at hw'
        exact h.dis k k' w w' hw hw' hk
theorem PT.tree {M1 : MH} {b3 N : Nat} {us : List V} {mm : Nat → Int → Prop} {bd : Nat} (h : PT M M1 b3 N us mm bd) : ∀ i, i ≤ N → ∃ us' fp tab', Tr (us.take i) us' fp ∧ Mem M M1 fp ∧ flatL (us.take i) ∧ (∀ q ∈ fp, flatL q.2) ∧ (∀ p ∈ fp, ∃ k u, k < i ∧ us[k]? = some u ∧ blkV u = some p.1) ∧ tab'.length = i ∧ Cs isL us' tab' ∧ ∀ k (hk : k < tab'.length), tab'[k].length ≤ bd ∧ ∀ x, x ∈ tab'[k] ↔ mm k x
  | 0, _ => ⟨[], [], [], .nil, .nil h.sub, by simp [flatL], fun q hq => (by cases hq), fun q hq => (by cases hq), rfl, .nil, fun k hk => (by simp at hk)⟩
  | i + 1, hi => by
    obtain ⟨us', fp, tab', t1, t2, t3, t4, t5, t6, t7, t8⟩ := PT.tree h i (by omega)
    have hiu : i < us.length := by rw [h.len]; omega
    obtain ⟨q1, ys, q2, q3, q4⟩ := h.rows i us[i] (List.getElem?_eq_getElem hiu)
    have hfl : flatL (us.take (i + 1)) := by
      rw [take_one hiu]
      exact flatL_all.2 fun w hw => by
        rcases List.mem_append.1 hw with h1 | h1
        · exact flatL_all.1 t3 w h1
        · rw [List.mem_singleton] at h1; subst h1; exact q2.own.flat
    have props : ∀ k (hk : k < (tab' ++ [ys]).length), (tab' ++ [ys])[k].length ≤ bd ∧ ∀ x, x ∈ (tab' ++ [ys])[k] ↔ mm k x := fun k hk => by
      by_cases e : k < tab'.length
      · rw [List.getElem_append_left e]; exact t8 k e
      · have hk2 : k = i := by simp at hk; omega
        subst hk2
        have hkt : tab'.length = k := t6
        simp only [List.getElem_append_right (show tab'.length ≤ k by omega), hkt, Nat.sub_self, List.getElem_cons_zero]
        exact ⟨q3, q4⟩
    have old : ∀ p ∈ fp, ∃ k u, k < i + 1 ∧ us[k]? = some u ∧ blkV u = some p.1 := fun p hp => by
      obtain ⟨k, u, h1, h2, h3⟩ := t5 p hp
      exact ⟨k, u, by omega, h2, h3⟩
    rcases q2.own with ⟨hy, kk, hu⟩ | ⟨b, n, ex, hu, hm, hl⟩
    · have hy0 : ys = [] := by simpa using hy
      refine ⟨us' ++ [us[i]], fp ++ [], tab' ++ [ys], ?_, by rw [List.append_nil]; exact t2, hfl, by rw [List.append_nil]; exact t4, by rw [List.append_nil]; exact old, by simp [t6], t7.snoc ?_, props⟩
      · rw [take_one hiu]; exact t1.append (.keep _ .nil)
      · rw [hu, hy0]; exact .inl ⟨rfl, kk, rfl⟩
    · have hne : ∀ p ∈ fp, p.1 ≠ b := fun p hp e => by
        obtain ⟨k, u, h1, h2, h3⟩ := t5 p hp
        exact h.dis k i u us[i] h2 (List.getElem?_eq_getElem hiu) (by omega) p.1 h3 (by rw [hu, e]; rfl)
      refine ⟨us' ++ [.fs (some (b, 0)) n n ex 1 ((ys.map vi).drop 0)], fp ++ ((b, ys.map vi) :: ([] ++ [])), tab' ++ [ys], ?_, by simpa using t2.snoc1 (q2.new b (by rw [hu]; rfl)) hm hne, hfl, fun q hq => ?_, fun p hp => ?_, by simp [t6], t7.snoc ?_, props⟩
      · rw [take_one hiu, hu]; exact t1.append (.sl (.refl _) .nil)
      · rcases List.mem_append.1 hq with h1 | h1
        · exact t4 q h1
        · simp at h1; subst h1; exact flatL_vi ys
      · rcases List.mem_append.1 hp with h1 | h1
        · exact old p h1
        · simp at h1; subst h1
          exact ⟨i, us[i], by omega, List.getElem?_eq_getElem hiu, by rw [hu]; rfl⟩
      · exact Fr.li (.inr ⟨_, _, _, _, _, by rw [List.drop_zero], by simpa using hl⟩)
end Go.M2

namespace Go.M2
open Go.Proofs
variable {M : MH}
theorem PT.conv {M1 : MH} {b3 N : Nat} {us : List V} {mm mm' : Nat → Int → Prop} {bd bd' : Nat} (h : PT M M1 b3 N us mm bd) (hb : bd ≤ bd') (hm : ∀ k z, mm' k z ↔ mm k z) : PT M M1 b3 N us mm' bd' :=
  ⟨h.at3, h.len, h.sub, h.new, fun k u hu => by
    obtain ⟨q1, ys, q2, q3, q4⟩ := h.rows k u hu
    exact ⟨q1, ys, q2, by omega, fun x => by rw [q4, hm]⟩, h.dis⟩
def mmP (tab : List (List Int)) (n j k : Nat) (x : Int) : Prop := (∃ q : Nat, q < n ∧ x = (q : Int) ∧ (k : Int) ∈ tab.getD q []) ∨ (x = (n : Int) ∧ (k : Int) ∈ (tab.getD n []).take j)
def isPast (tab tab' : List (List Int)) : Prop := tab'.length = tab.length ∧ ∀ k (hk : k < tab'.length), tab'[k].length ≤ tab.length * 8 ∧ ∀ x, x ∈ tab'[k] ↔ mmP tab tab.length 0 k x
theorem o_pasts {v : V} {tab : List (List Int)} (hv : LII v tab) (hN : tab.length ≤ 400) (htl : ∀ r ∈ tab, r.length ≤ 8 ∧ ∀ x ∈ r, 0 ≤ x ∧ x < (tab.length : Int)) :
    VCall Try.prog n_impl_pasts [v] M (fun r M' => ∃ us' fp tab', Tr [r] [us'] fp ∧ Mem M M' fp ∧ flat r ∧ (∀ q ∈ fp, flatL q.2) ∧ LII us' tab' ∧ isPast tab tab') := by
  refine VCall.plain fun R hR => v_impl_pasts rfl ?_
  obtain ⟨N, hNe⟩ : ∃ N, tab.length = N := ⟨_, rfl⟩
  have hvl := hv.len
  rw [hNe] at hvl hN htl
  refine sS1 @hvl ?_
  refine mks3 (by omega) (by simp [mostCells]; omega) (by simp [mostCells]; omega) ?_
  intro b3 hb3
  simp (maxSteps := 2000000) (disch := first | omega | assumption | exact idP rfl | exact idP (bL rfl)) only [go_sem, reduceIte, Nat.reduceEqDiff, wpV_kd, wpV_tH, zeros_nil, hvl]
  refine loop_k (fun e M' => ∃ (n : Nat) (us : List V), n ≤ N ∧ e 3 = .sc (.sl (some (b3, 0)) N N true 1) ∧ e 11 = v ∧ e 12 = .sc (.int .i64 N) ∧ e 13 = .sc (.int .i64 n) ∧ PT M M' b3 N us (mmP tab n 0) (n * 8)) (fun e _ => ctrV N (e 13)) ?_ ?_
  · refine ⟨0, List.replicate N nil1, by omega, sT0, sT0, sT0, by refine sS0 ?_; rfl, ⟨set_same, by simp, (Sub.refl M).set hb3, hb3, fun k u hu => ?_, fun k k' u u' hu hu' hk b hb => ?_⟩⟩
    · obtain ⟨h1, h2⟩ := List.getElem?_eq_some_iff.1 hu
      rw [List.getElem_replicate] at h2
      subst h2
      refine ⟨by simp [nil1, blkV], [], .nil ((Sub.refl M).set hb3), by simp, fun x => ⟨fun h => (by cases h), ?_⟩⟩
      rintro (⟨q, hq, _⟩ | ⟨_, h⟩)
      · omega
      · simp at h
    · obtain ⟨h1, h2⟩ := List.getElem?_eq_some_iff.1 hu
      rw [List.getElem_replicate] at h2
      subst h2
      simp [nil1, blkV] at hb
  · rintro e M1 ⟨n, us, hn, e3, e11, e12, e13, hpt⟩ K hK
    refine sS4 @e3 @e11 @e12 @e13 ?_
    refine cond_dec (fun h => ?_) (fun h => ?_)
    · have hnt : n < tab.length := by omega
      have hrow := hv.elt hnt
      have hri := htl _ (List.getElem_mem hnt)
      have hgd : tab.getD n [] = tab[n] := by simp [List.getD, hnt]
      refine sS6 @e3 @e11 @e12 @e13 @hv.iaddr @hrow.len ?_
      refine loop_k (fun e2 M' => ∃ (j : Nat) (us : List V), j ≤ tab[n].length ∧ e2 3 = .sc (.sl (some (b3, 0)) N N true 1) ∧ e2 4 = .sc (.int .i64 n) ∧ e2 11 = v ∧ e2 12 = .sc (.int .i64 N) ∧ e2 13 = .sc (.int .i64 n) ∧ e2 18 = at1 v n ∧ e2 19 = .sc (.int .i64 tab[n].length) ∧ e2 20 = .sc (.int .i64 j) ∧ PT M M' b3 N us (mmP tab n j) (n * 8 + j)) (fun e2 _ => ctrV tab[n].length (e2 20)) ?_ ?_
      · exact ⟨0, us, by omega, sT1 @e3, sT0, sT1 @e11, sT1 @e12, sT1 @e13, sT0, sT0, by refine sS0 ?_; rfl, hpt⟩
      · rintro e2 M2 ⟨j, us, hj, u3, u4, u11, u12, u13, u18, u19, u20, hp2⟩ K2 hK2
        refine sS8 @u3 @u4 @u11 @u12 @u13 @u18 @u19 @u20 ?_
        refine cond_dec (fun h2 => ?_) (fun h2 => ?_)
        · have hj' : j < tab[n].length := by omega
          have hyj := hri.2 _ (List.getElem_mem hj')
          obtain ⟨y, hy⟩ : ∃ y, tab[n][j] = y := ⟨_, rfl⟩
          rw [hy] at hyj
          have hyN : y.toNat < us.length := by rw [hp2.len]; omega
          have hu : us[y.toNat]? = some us[y.toNat] := List.getElem?_eq_getElem hyN
          obtain ⟨q1, ys, q2, q3, q4⟩ := hp2.rows _ _ hu
          have hat := hrow.at hj'
          rw [hy] at hat
          have hm := hp2.at3
          have ho1 := q2.one.1
          have ho2 := q2.one.2
          simp (maxSteps := 2000000) (disch := first | omega | assumption | exact idP rfl | exact idP (bL rfl)) only [go_sem, reduceIte, Nat.reduceEqDiff, wpV_kd, wpV_tH, u3, u4, u11, u12, u13, u18, u19, u20, hrow.iaddr, hat, hm, hu]
          intro bt hbt
          refine app_int q2 hbt (by omega) (by omega) ?_
          intro s' M' hg' hoth
          obtain ⟨g3', hne'⟩ := hoth b3 _ hm q1
          have ho3 := hg'.one.1
          have ho4 := hg'.one.2
          simp (maxSteps := 2000000) (disch := first | omega | assumption | exact idP rfl | exact idP (bL rfl)) only [go_sem, reduceIte, Nat.reduceEqDiff, wpV_kd, wpV_tH, u3, u4, u11, u12, u13, u18, u19, u20, g3', ho4]
          have hp3 := hp2.push (mm' := mmP tab n (j + 1)) hu q3 q4 hg' hoth (fun z => ?_) (fun k z hk => ?_)
          · refine hK2 _ _ ⟨j + 1, us.set y.toNat s', by omega, sT1 @u3, sT1 @u4, sT1 @u11, sT1 @u12, sT1 @u13, sT1 @u18, sT1 @u19, by refine sS1 @u20 ?_; rfl, by simpa [Nat.add_assoc] using hp3⟩ (by refine sS2 @ctrV_int @u20 ?_; omega)
          · unfold mmP
            rw [hgd, take_snoc hj', List.mem_append, List.mem_singleton, hy, Int.toNat_of_nonneg hyj.1]
            constructor
            · rintro (h3 | ⟨h3, h4 | h4⟩)
              · exact .inl (.inl h3)
              · exact .inl (.inr ⟨h3, h4⟩)
              · exact .inr h3
            · rintro ((h3 | h3) | h3)
              · exact .inl h3
              · exact .inr ⟨h3.1, .inl h3.2⟩
              · exact .inr ⟨h3, .inr rfl⟩
          · unfold mmP
            rw [hgd, take_snoc hj', List.mem_append, List.mem_singleton, hy]
            have : ¬ (k : Int) = y := fun e => hk (by omega)
            constructor
            · rintro (h3 | ⟨h3, h4 | h4⟩)
              · exact .inl h3
              · exact .inr ⟨h3, h4⟩
              · exact absurd h4 this
            · rintro (h3 | h3)
              · exact .inl h3
              · exact .inr ⟨h3.1, .inl h3.2⟩
        · obtain rfl : j = tab[n].length := by omega
          refine sS5 @u3 @u4 @u11 @u12 @u13 ?_
          refine hK _ _ ⟨n + 1, us, by omega, sT1 @u3, sT1 @u11, sT1 @u12, by refine sS1 @u13 ?_; rfl, hp2.conv (by omega) fun k z => ?_⟩ (by refine sS3 @ctrV_int @e13 @u13 ?_; omega)
          unfold mmP
          rw [hgd, List.take_length]
          constructor
          · rintro (⟨q, h3, h4, h5⟩ | ⟨_, h3⟩)
            · by_cases e : q = n
              · subst e; rw [hgd] at h5; exact .inr ⟨h4, h5⟩
              · exact .inl ⟨q, by omega, h4, h5⟩
            · simp at h3
          · rintro (⟨q, h3, h4, h5⟩ | ⟨h3, h4⟩)
            · exact .inl ⟨q, by omega, h4, h5⟩
            · exact .inl ⟨n, by omega, h3, by rw [hgd]; exact h4⟩
    · obtain rfl : n = N := by omega
      refine sS1 @e3 ?_
      obtain ⟨us', fp, tab', t1, t2, t3, t4, t5, t6, t7, t8⟩ := hpt.tree n (Nat.le_refl _)
      rw [List.take_of_length_le (by rw [hpt.len]; exact Nat.le_refl _)] at t1 t3
      have hne : ∀ p ∈ fp, p.1 ≠ b3 := fun p hp e => by
        obtain ⟨k, u, _, h2, h3⟩ := t5 p hp
        exact (hpt.rows k u h2).1 (by rw [h3, e])
      have hul := t1.len
      refine hR _ _ ⟨.fs (some (b3, 0)) n n true 1 (us'.drop 0), (b3, us) :: (fp ++ []), tab', .sl t1 .nil, ?_, by simp [flat], fun q hq => ?_, ?_, by rw [hNe]; exact t6, fun k hk => ?_⟩
      · rw [List.append_nil]
        exact (t2.snoc1 hpt.new hpt.at3 hne).perm (List.perm_append_comm)
      · rw [List.append_nil] at hq
        rcases List.mem_cons.1 hq with rfl | h1
        · exact t3
        · exact t4 q h1
      · exact Fr.lsC (us := us') (.inr ⟨_, _, _, _, _, by rw [List.drop_zero], by rw [hul, hpt.len, Nat.mul_one]⟩) t7
      · rw [hNe]; exact t8 k hk
theorem tabF_8 {s : SysS} (hs : SysOk s) : ∀ r ∈ tabF s, r.length ≤ 8 ∧ ∀ x ∈ r, 0 ≤ x ∧ x < ((tabF s).length : Int) := by
  intro r hr
  refine ⟨?_, (tabF_in hs r hr).2⟩
  obtain ⟨n, hn, rfl⟩ := List.mem_map.1 hr
  simp only [rowF, List.length_map]
  exact nextF_len hs _
theorem past_beh {tab tab' : List (List Int)} {xs : List Int} (hp : isPast tab tab') (hin : ∀ x ∈ xs, 0 ≤ x ∧ x < (tab.length : Int)) (htl : ∀ r ∈ tab, ∀ x ∈ r, 0 ≤ x ∧ x < (tab.length : Int)) {i : Nat} (hi : i < tab.length) : behB tab' xs i = aheadB tab (inL xs) i := by
  obtain ⟨h1, h2⟩ := hp
  have hgi : tab.getD i [] = tab[i] := by simp [List.getD, hi]
  unfold behB aheadB
  rw [Bool.eq_iff_iff, List.any_eq_true, List.any_eq_true]
  constructor
  · rintro ⟨x, hx, hd⟩
    have hxi := hin x hx
    have hxt : x.toNat < tab'.length := by omega
    have hgd : tab'.getD x.toNat [] = tab'[x.toNat] := by simp [List.getD, hxt]
    rw [decide_eq_true_eq, hgd, (h2 _ hxt).2] at hd
    rcases hd with ⟨q, h3, h4, h5⟩ | ⟨_, h3⟩
    · have : q = i := by omega
      subst this
      refine ⟨_, h5, ?_⟩
      simpa [inL, Int.toNat_of_nonneg hxi.1] using hx
    · simp at h3
  · rintro ⟨y, hy, hd⟩
    have hyi : 0 ≤ y ∧ y < (tab.length : Int) := htl _ (List.getElem_mem hi) y (by rw [← hgi]; exact hy)
    have hyx : y ∈ xs := by simpa [inL, Int.toNat_of_nonneg hyi.1] using hd
    have hyt : y.toNat < tab'.length := by omega
    have hgd : tab'.getD y.toNat [] = tab'[y.toNat] := by simp [List.getD, hyt]
    refine ⟨y, hyx, ?_⟩
    rw [decide_eq_true_eq, hgd, (h2 _ hyt).2]
    exact .inl ⟨i, hi, rfl, by rw [Int.toNat_of_nonneg hyi.1]; exact hy⟩
theorem o_impPastNumbers {v w : V} {s : SysS} {xs : List Int} (hv : isSys s v) (hz : SysSz s) (hw : LI w xs) (hl : xs.length ≤ 1048576) : VCall Try.prog n_impl_PastNumbers [v, w] M (fun r M' => Dn M M' r (fun u => LI u (pastN s xs))) := by
  refine VCall.plain fun R hR => v_impl_PastNumbers rfl ?_
  have hv0 := hv
  obtain ⟨a, b, rfl, ha, hb⟩ := hv
  (repeat' (first | ((with_reducible first | refine cond_dec (fun h => ?_) (fun h => ?_) | refine guardK_dec (fun h => ?_) (fun h => ?_) | refine guardD3_dec (fun h => ?_) (fun h => ?_)) <;> first | (exfalso; omega) | (simp (maxSteps := 2000000) (disch := first | omega | assumption | exact idP rfl | exact idP (bL rfl)) only [go_sem, reduceIte, Nat.reduceEqDiff, wpV_kd, wpV_tH, h]) | skip) | ((with_reducible first | refine cond_split (fun h => ?_) (fun h => ?_) | refine guardK_split (fun h => ?_) (fun h => ?_) | refine guardD3_split (fun h => ?_) (fun h => ?_)) <;> ((try simp only [Bool.not_eq_true', Bool.not_eq_false'] at h); first | (simp (maxSteps := 2000000) (disch := first | omega | assumption | exact idP rfl | exact idP (bL rfl)) only [go_sem, reduceIte, Nat.reduceEqDiff, wpV_kd, wpV_tH, h]) | skip)) | ((with_reducible refine (t_impSetValid hv0 hz hw hl).mono ?_); rintro _ _ ⟨rfl, rfl⟩) | (with_reducible intro bk hbk; try have hnk := (fresh_set hbk).1) | (simp (maxSteps := 2000000) (disch := first | omega | assumption | exact idP rfl | exact idP (bL rfl)) only [go_sem, reduceIte, Nat.reduceEqDiff, wpV_kd, wpV_tH])))
  · refine hR _ _ ?_
    unfold pastN
    rw [if_neg (by rw [h]; simp)]
    exact .nilS (sB)
  · obtain ⟨hs, hset⟩ := setV_iff.1 h
    have hsz := hs.sz
    have htl := tabF_len s
    have hin2 : ∀ x ∈ xs, 0 ≤ x ∧ x < ((tabF s).length : Int) := by rw [show ((tabF s).length : Int) = sizeF s.vars by omega]; exact hset.in
    refine (f_nexts hv0 hs).mono ?_
    rintro t _ ⟨rfl, ht⟩
    refine sS0 ?_
    have hpf : VCall Try.prog n_impl_pasts [t] (M.set bk [a, b]) (fun r M' => (M.set bk [a, b]) = M' ∧ ∃ tab', LII r tab' ∧ isPast (tabF s) tab') := VCall.frT ((o_pasts ht (by omega) (tabF_8 hs)).mono fun r M' ⟨us', fp, tab', q1, q2, q3, q4, q5, q6⟩ => ⟨us', fp, q1, q2, q3, q4, tab', q5, q6⟩)
    refine hpf.mono ?_
    rintro p _ ⟨rfl, tab', hp, hpp⟩
    have hpl := hpp.1
    refine sS0 ?_
    refine (o_over hp hw (by omega) hl (by rw [hpl]; exact hin2) (fun r hr => ?_)).mono ?_
    · obtain ⟨k, hk, rfl⟩ := List.getElem_of_mem hr
      obtain ⟨h1, h2⟩ := hpp.2 k hk
      refine ⟨by omega, fun x hx => ?_⟩
      rcases (h2 x).1 hx with ⟨q, h3, h4, _⟩ | ⟨_, h3⟩
      · omega
      · simp at h3
    · rintro r M2 hg
      refine sS0 ?_
      refine hR _ _ ?_
      unfold pastN
      rw [if_pos h]
      rw [hpl, selL_ext (q := aheadB (tabF s) (inL xs)) (fun i hi => past_beh hpp hin2 (fun r hr => (tabF_in hs r hr).2) hi)] at hg
      exact (hg.base ((Sub.refl M).set' hbk)).dnI
end Go.M2

namespace Go.M2
open Go.Proofs
variable {M : MH}
end Go.M2

namespace Go.M2
open Go.Proofs
variable {M : MH}
end Go.M2

namespace Go.M2
open Go.Proofs
variable {M : MH}
theorem mem_nextN {s : SysS} {xs : List Int} (hs : SysOk s) (h : SetOk (sizeF s.vars) xs) {y : Int} : y ∈ nextN s xs ↔ ∃ x ∈ xs, y ∈ (tabF s).getD x.toNat [] := by
  have hsz := hs.sz
  have htl := tabF_len s
  unfold nextN
  rw [if_pos (setV_iff.2 ⟨hs, h⟩), mem_selL]
  constructor
  · rintro ⟨i, hi, hp, rfl⟩
    obtain ⟨x, hx, hp⟩ := List.any_eq_true.1 hp
    exact ⟨x, hx, by simpa using hp⟩
  · rintro ⟨x, hx, hy⟩
    have hxi := h.in x hx
    have i3 : x.toNat < (tabF s).length := by omega
    have hgd : (tabF s).getD x.toNat [] = (tabF s)[x.toNat] := by simp [List.getD, i3]
    have hyi := (tabF_in hs _ (List.getElem_mem i3)).2 y (by rw [← hgd]; exact hy)
    refine ⟨y.toNat, by omega, ?_, by omega⟩
    exact List.any_eq_true.2 ⟨x, hx, by simpa [Int.toNat_of_nonneg hyi.1] using hy⟩
end Go.M2

namespace Go.M2
open Go.Proofs
def EV {α : Type} (E : α → List V → Prop) : Heap → α → List AV → Prop := fun H x cs => ∃ vs : List V, erl vs = cs ∧ okL H vs ∧ E x vs
theorem erl_len : ∀ l : List V, (erl l).length = l.length
  | [] => rfl
  | v :: t => by simp only [erl, List.length_cons, erl_len t]
theorem erl_app : ∀ a b : List V, erl (a ++ b) = erl a ++ erl b
  | [], b => rfl
  | v :: t, b => by simp only [List.cons_append, erl, erl_app t b]
theorem okL_app {H : Heap} : ∀ {a b : List V}, okL H a → okL H b → okL H (a ++ b)
  | [], b, _, h => h
  | v :: t, b, h, k => by
    simp only [List.cons_append, okL] at h ⊢
    exact ⟨h.1, okL_app h.2 k⟩
theorem lift_cells {α : Type} {E : α → List V → Prop} {H : Heap} {b sz : Nat} : ∀ {xs : List α} {o : Nat}, (∀ i (h : i < xs.length), ∃ cs, cs.length = sz ∧ Rd H b (o + i * sz) cs ∧ EV E H xs[i] cs) →
    ∃ vs : List V, vs.length = xs.length * sz ∧ Rd H b o (erl vs) ∧ okL H vs ∧ ∀ i (h : i < xs.length), E xs[i] ((vs.drop (i * sz)).take sz)
  | [], o, _ => ⟨[], by simp, Rd.nil _ _ _, by simp [okL], fun i h => by simp at h⟩
  | x :: t, o, h => by
    obtain ⟨cs, h1, h2, us, h3, h4, h5⟩ := h 0 (by simp)
    obtain ⟨vs, k1, k2, k3, k4⟩ := lift_cells (xs := t) (o := o + sz) (E := E) (H := H) (b := b) (sz := sz) (fun i hi => by
      obtain ⟨cs, q1, q2, q3⟩ := h (i + 1) (by simp; omega)
      exact ⟨cs, q1, by rw [show o + sz + i * sz = o + (i + 1) * sz by rw [Nat.succ_mul]; omega]; exact q2, by simpa using q3⟩)
    have hu : us.length = sz := by rw [← erl_len, h3]; exact h1
    refine ⟨us ++ vs, by simp [hu, k1, Nat.succ_mul]; omega, ?_, okL_app h4 k3, fun i hi => ?_⟩
    · intro i y hy
      rw [erl_app] at hy
      by_cases hlt : i < (erl us).length
      · rw [List.getElem?_append_left hlt, h3] at hy
        have := h2 i y hy
        simpa using this
      · rw [List.getElem?_append_right (by omega)] at hy
        have e1 : (erl us).length = sz := by rw [erl_len]; exact hu
        rw [e1] at hy hlt
        have := k2 (i - sz) y hy
        rwa [show o + sz + (i - sz) = o + i by omega] at this
    · cases i with
      | zero => simpa [List.take_left' hu] using h5
      | succ i =>
        have := k4 i (by simpa using hi)
        have e2 : (us ++ vs).drop ((i + 1) * sz) = vs.drop (i * sz) := by
          rw [show (i + 1) * sz = us.length + i * sz by rw [Nat.succ_mul, hu]; omega, List.drop_append]
          simp
        rw [e2]
        simpa using this
theorem lift_slice {α : Type} {E : α → List V → Prop} {H : Heap} {sz : Nat} {v : AV} {xs : List α} (h : InS sz (EV E) H v xs) : ∃ v', er v' = v ∧ okV H v' ∧ In (Lc sz E) v' xs := by
  rcases h with ⟨A, c, ex, k, rfl, h⟩ | ⟨rfl, rfl⟩
  · obtain ⟨vs, h1, h2, h3, h4⟩ := lift_cells h
    exact ⟨.fs A xs.length c ex k vs, rfl, by simp only [okV]; exact ⟨h2, h3⟩, .inl (.inr ⟨A, c, ex, k, vs, rfl, by omega, fun i hi => h4 i hi⟩)⟩
  · exact ⟨.sc .emp, rfl, by simp [okV], .inr ⟨rfl, rfl⟩⟩
def E1 {α : Type} (E : α → V → Prop) : α → List V → Prop := fun a cs => ∃ u, cs = [u] ∧ E a u
theorem lc1_ls {α : Type} {E : α → V → Prop} {v : V} {ys : List α} (h : Lc 1 (E1 E) v ys) : Ls E v ys := by
  rcases h with h | ⟨A, c, ex, k, xs, rfl, hl, h⟩
  · exact .inl h
  · refine .inr ⟨A, c, ex, k, xs, rfl, by omega, fun i hi => ?_⟩
    obtain ⟨u, h1, h2⟩ := h i hi
    have h3 : xs[i]? = some u := by
      have := congrArg (fun l => l[0]?) h1
      simpa [atN, List.getElem?_take, List.getElem?_drop] using this
    have h4 : at1 (.fs A ys.length c ex k xs) i = u := by
      simp [at1, List.getD_eq_getElem?_getD, h3]
    rw [h4]; exact h2
section
open Go.ChangeShapes Go.WideShapes Go.ChangeAt Go.RowKit
variable {HH : Type} {enc : TypeId × Value → HH} {P : Program} {W : World} {t e : TypeId} {fuel : Nat} {cs : List Value} {x : DataW HH × List MemPlace}
def LiftE {α : Type} (W : World) (E : α → List V → Prop) (a : α) (cs : List Value) : Prop := ∃ vs, erl vs = cs.map (avC W.heap.size) ∧ okL (heap0 W) vs ∧ E a vs
theorem in_list {α : Type} {E : α → List V → Prop} {good : α → Prop} {sz : Nat} (ht : P.underlying t = some (.slice e)) (hsz : P.cellsOf e = sz) (h0 : 0 < sz)
    (he : ∀ n cs x, DataW.trod enc P W 0 (fun _ => true) true n e cs = some x → ∃ a, LiftE W E a cs ∧ good a)
    (h : DataW.trod enc P W 0 (fun _ => true) true fuel t cs = some x) : ∃ xs : List α, LiftE W (E1 (fun (ys : List α) u => In (Lc sz E) u ys)) xs cs ∧ (xs.length ≤ 9223372036854775807 ∧ ∀ a ∈ xs, good a) := by
  obtain ⟨v, xs, rfl, h1, h2, h3⟩ := in_slice (E := EV E) (good := good) ht hsz h0 (fun n cs x hx => by
    obtain ⟨a, ⟨vs, h1, h2, h3⟩, h4⟩ := he n cs x hx
    exact ⟨a, ⟨vs, h1, h2, h3⟩, h4⟩) h
  obtain ⟨u, k1, k2, k3⟩ := lift_slice h1
  exact ⟨xs, ⟨[u], by simp [erl, k1], by simp only [okL]; exact ⟨k2, trivial⟩, u, rfl, k3⟩, h3, h2⟩
theorem in_list1 {α : Type} {E : α → V → Prop} {good : α → Prop} (ht : P.underlying t = some (.slice e)) (hsz : P.cellsOf e = 1)
    (he : ∀ n cs x, DataW.trod enc P W 0 (fun _ => true) true n e cs = some x → ∃ a, LiftE W (E1 E) a cs ∧ good a)
    (h : DataW.trod enc P W 0 (fun _ => true) true fuel t cs = some x) : ∃ xs : List α, LiftE W (E1 (fun (ys : List α) u => In (Ls E) u ys)) xs cs ∧ (xs.length ≤ 9223372036854775807 ∧ ∀ a ∈ xs, good a) := by
  obtain ⟨xs, ⟨vs, h1, h2, u, rfl, h3⟩, h4⟩ := in_list ht hsz (by omega) he h
  exact ⟨xs, ⟨[u], h1, h2, u, rfl, h3.imp lc1_ls id⟩, h4⟩
theorem LiftE.one {α : Type} {E : α → V → Prop} {a : α} {c : Value} (h : LiftE W (E1 E) a [c]) : ∃ u, er u = avC W.heap.size c ∧ okV (heap0 W) u ∧ E a u := by
  obtain ⟨vs, h1, h2, u, rfl, h3⟩ := h
  simp only [erl, List.map_cons, List.map_nil, List.cons.injEq, and_true] at h1
  simp only [okL] at h2
  exact ⟨u, h1, h2.1, h3⟩
end
theorem calls_of_vcall {P : Program} {f : FuncId} {vs : List Value} {vv : List V} {W : World} (h : VCall P f vv (fun _ => none) (fun r M' => (fun _ => none) = M' ∧ r = .sc (.bool true)))
    (he : vv.map er = vs.map (avT W.heap.size)) (ho : okL (heap0 W) vv) : Calls P f vs.toArray W (fun e w' => e = .returned (.bool true) ∧ Go.RowKit.Below W.heap.size W w') := by
  refine calls_of_acall ?_
  rw [← he]
  refine (h (heap0 W) (heap0 W) ⟨rfl, fun b _ => .inr rfl, fun b l hb => by cases hb⟩ ho).mono ?_
  rintro a H' ⟨r, M', F', rfl, _, _, _, _, rfl⟩
  rfl
end Go.M2

namespace Go.M2
open Go.Proofs
open Go.ChangeShapes Go.WideShapes Go.ChangeAt Go.RowKit
variable {HH : Type} {enc : TypeId × Value → HH} {W : World} {fuel : Nat} {cs : List Value} {x : DataW HH × List MemPlace}
end Go.M2

namespace Go.M2
open Go.Proofs
open Go.ChangeShapes Go.WideShapes Go.ChangeAt Go.RowKit
variable {M : MH}
variable {HH : Type} {enc : TypeId × Value → HH} {W : World} {fuel : Nat} {cs : List Value} {x : DataW HH × List MemPlace}
end Go.M2
