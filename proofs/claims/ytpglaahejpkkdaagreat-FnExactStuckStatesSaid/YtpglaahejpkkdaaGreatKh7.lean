/- Contracts: Always, the program's side; what one comes to, the reference's side. -/
import Derived.Test.YtpglaahejpkkdaaGreatKh6
set_option linter.unusedVariables false
set_option linter.unusedSimpArgs false
set_option maxRecDepth 10000
set_option maxHeartbeats 4000000
namespace Go.M2
open Go.Proofs
variable {M : MH}
abbrev stF (s : SysS) : Nat → Prop := fun i => (i : Int) ∈ [firstN s]
theorem t_reachOf {v : V} {s : SysS} (hv : isSys s v) (hs : SysOk s) : VCall Tryz.prog n_impl_reachOf [v] M (fun r M' => Gr 1 M M' r ((mkL (tabF s).length (rB (tabF s) (stF s))).map vb)) := by
  refine VCall.plain fun R hR => v_impl_reachOf rfl ?_
  have hv0 := hv
  obtain ⟨a, b, rfl, ha, hb⟩ := hv
  have hsz := hs.sz
  have htl := tabF_len s
  have hfb := firstN_bd hs
  (repeat' (first | ((first | with_reducible refine cond_dec (fun h => ?_) (fun h => ?_) | with_reducible refine guardK_dec (fun h => ?_) (fun h => ?_) | with_reducible refine guardD3_dec (fun h => ?_) (fun h => ?_)) <;> first | (exfalso; omega) | (simp (maxSteps := 2000000) (disch := first | omega | assumption | exact idP rfl | exact idP (bL rfl)) only [go_sem, reduceIte, Nat.reduceEqDiff, h]) | skip) | ((first | with_reducible refine cond_split (fun h => ?_) (fun h => ?_) | with_reducible refine guardK_split (fun h => ?_) (fun h => ?_) | with_reducible refine guardD3_split (fun h => ?_) (fun h => ?_)) <;> ((try simp only [Bool.not_eq_true', Bool.not_eq_false'] at h); first | (simp (maxSteps := 2000000) (disch := first | omega | assumption | exact idP rfl | exact idP (bL rfl)) only [go_sem, reduceIte, Nat.reduceEqDiff, h]) | skip)) | (with_reducible intro bk hbk; try have hnk := (fresh_set hbk).1) | (simp (maxSteps := 2000000) (disch := first | omega | assumption | exact idP rfl | exact idP (bL rfl)) only [go_sem, reduceIte, Nat.reduceEqDiff])))
  refine (f_nexts hv0 hs).mono ?_
  rintro t _ ⟨rfl, ht⟩
  simp (maxSteps := 2000000) (disch := first | omega | assumption | exact idP rfl | exact idP (bL rfl)) only [go_sem, reduceIte, Nat.reduceEqDiff]
  refine (t_first hv0 hs).mono ?_
  rintro f _ ⟨rfl, hf⟩
  simp (maxSteps := 2000000) (disch := first | omega | assumption | exact idP rfl | exact idP (bL rfl)) only [go_sem, reduceIte, Nat.reduceEqDiff]
  refine (t_number ha hf hs.vars hs.v5 (first_in hs)).mono ?_
  rintro _ _ ⟨rfl, rfl⟩
  have e9 : numF s.vars (firstF s) = firstN s := rfl
  simp (maxSteps := 2000000) (disch := first | omega | assumption | exact idP rfl | exact idP (bL rfl)) only [go_sem, reduceIte, Nat.reduceEqDiff, e9]
  intro b9 hb9
  have hg : Gr 1 M ((M.set bk [a, b]).set b9 [.sc (.int .i64 (firstN s))]) (.sc (.sl (some (b9, 0)) 1 1 true 1)) ([firstN s].map vi) := Gr.new' ((Sub.refl M).set' hbk) hb9 rfl
  refine (VCall.give1 hg fun u M2 hu hs2 => (t_reach ht hu.li (hu.some (by simp)) (by omega) (by simp) (by simp) (by intro x hx; rw [List.mem_singleton] at hx; subst hx; omega) (tabF_in hs)).mono fun r M' hr => hr.base hs2).mono ?_
  rintro r M' hr
  simp (maxSteps := 2000000) (disch := first | omega | assumption | exact idP rfl | exact idP (bL rfl)) only [go_sem, reduceIte, Nat.reduceEqDiff]
  exact hR _ _ hr
theorem t_l5First {v : V} {s : SysS} (hv : isSys s v) (hs : SysOk s) : VCall Tryz.prog n_spec_l5First [v] M (fun r M' => Gr 1 M M' r ((mkL (tabF s).length (inL [firstN s])).map vb)) := by
  refine VCall.plain fun R hR => v_spec_l5First rfl ?_
  have hv0 := hv
  obtain ⟨a, b, rfl, ha, hb⟩ := hv
  have hsz := hs.sz
  have htl := tabF_len s
  have hfb := firstN_bd hs
  (repeat' (first | ((first | with_reducible refine cond_dec (fun h => ?_) (fun h => ?_) | with_reducible refine guardK_dec (fun h => ?_) (fun h => ?_) | with_reducible refine guardD3_dec (fun h => ?_) (fun h => ?_)) <;> first | (exfalso; omega) | (simp (maxSteps := 2000000) (disch := first | omega | assumption | exact idP rfl | exact idP (bL rfl)) only [go_sem, reduceIte, Nat.reduceEqDiff, h]) | skip) | ((first | with_reducible refine cond_split (fun h => ?_) (fun h => ?_) | with_reducible refine guardK_split (fun h => ?_) (fun h => ?_) | with_reducible refine guardD3_split (fun h => ?_) (fun h => ?_)) <;> ((try simp only [Bool.not_eq_true', Bool.not_eq_false'] at h); first | (simp (maxSteps := 2000000) (disch := first | omega | assumption | exact idP rfl | exact idP (bL rfl)) only [go_sem, reduceIte, Nat.reduceEqDiff, h]) | skip)) | (with_reducible intro bk hbk; try have hnk := (fresh_set hbk).1) | (simp (maxSteps := 2000000) (disch := first | omega | assumption | exact idP rfl | exact idP (bL rfl)) only [go_sem, reduceIte, Nat.reduceEqDiff])))
  refine (VCall.fr1 (t_FirstState hv0 hs)).mono ?_
  rintro f _ ⟨rfl, hf⟩
  simp (maxSteps := 2000000) (disch := first | omega | assumption | exact idP rfl | exact idP (bL rfl)) only [go_sem, reduceIte, Nat.reduceEqDiff]
  refine (t_l4Number ha hf.li hs.vars hs.v5 (first_in hs)).mono ?_
  rintro _ _ ⟨rfl, rfl⟩
  have e9 : numF s.vars (firstF s) = firstN s := rfl
  simp (maxSteps := 2000000) (disch := first | omega | assumption | exact idP rfl | exact idP (bL rfl)) only [go_sem, reduceIte, Nat.reduceEqDiff, e9]
  refine (t_SizeOf hv0 hs).mono ?_
  rintro _ _ ⟨rfl, rfl⟩
  simp (maxSteps := 2000000) (disch := first | omega | assumption | exact idP rfl | exact idP (bL rfl)) only [go_sem, reduceIte, Nat.reduceEqDiff]
  intro b9 hb9
  have hg : Gr 1 M ((M.set bk [a, b]).set b9 [.sc (.int .i64 (firstN s))]) (.sc (.sl (some (b9, 0)) 1 1 true 1)) ([firstN s].map vi) := Gr.new' ((Sub.refl M).set' hbk) hb9 rfl
  have hle : sizeF s.vars = ((tabF s).length : Int) := by omega
  rw [hle]
  refine (VCall.give0 hg fun u M2 hu hs2 => (t_l4Marks hu.li (by omega) (by simp) (by intro x hx; rw [List.mem_singleton] at hx; subst hx; omega)).mono fun r M' hr => hr.base hs2).mono ?_
  rintro r M' hr
  simp (maxSteps := 2000000) (disch := first | omega | assumption | exact idP rfl | exact idP (bL rfl)) only [go_sem, reduceIte, Nat.reduceEqDiff]
  exact hR _ _ hr
theorem vi_at {n : Nat} {f : Nat → Int} {i : Nat} (h : i < n) : ((mkI n f).map vi)[i]? = some (.sc (.int .i64 (f i))) := by
  rw [List.getElem?_map, List.getElem?_eq_getElem (by rw [mkI_len]; exact h), mkI_get]; rfl
theorem set_vi' {bs : List Int} {i : Nat} {b : Int} : (bs.map vi).set i (.sc (.int .i64 b)) = (bs.set i b).map vi := by rw [List.map_set]; rfl
theorem t_l5Steps {v w : V} {tab : List (List Int)} {m0 : Nat → Bool} {st : Nat → Prop} (hv : LII v tab) (hw : LB w (mkL tab.length m0)) (hN : tab.length ≤ 1048576) (hm0 : ∀ i, i < tab.length → (m0 i = true ↔ st i)) (hst : ∀ i, Rch tab st i → i < tab.length)
    (htl : ∀ r ∈ tab, r.length ≤ 1048576 ∧ ∀ x ∈ r, 0 ≤ x ∧ x < (tab.length : Int)) :
    VCall Tryz.prog n_spec_l5Steps [v, w] M (fun r M' => Gr 1 M M' r ((mkI tab.length (dst tab st)).map vi)) := by
  refine VCall.plain fun R hR => v_spec_l5Steps rfl ?_
  obtain ⟨N, hNe⟩ : ∃ N, tab.length = N := ⟨_, rfl⟩
  have hvl := hv.len
  rw [hNe] at hvl hw hN hm0 hst htl hR
  have hlv0 : ∀ i, (st i → lv tab st (0 : Nat) i = 0) ∧ (¬ st i → lv tab st (0 : Nat) i = -1) := by
    intro i
    have hg := dst_ge tab st i
    unfold lv
    refine ⟨fun hs => ?_, fun hs => ?_⟩
    · rw [(dst_zero (tab := tab)).2 hs, if_pos (by omega)]
    · split
      · rename_i h
        have : dst tab st i ≠ 0 := fun h0 => hs (dst_zero.1 h0)
        omega
      · rfl
  simp (maxSteps := 2000000) (disch := first | omega | assumption | exact idP rfl | exact idP (bL rfl)) only [go_sem, reduceIte, Nat.reduceEqDiff]
  intro b5 hb5
  refine loop_k (fun e M' => ∃ i : Nat, i ≤ N ∧ e 0 = v ∧ e 1 = w ∧ e 6 = .sc (.int .i64 i) ∧ Gr 1 M M' (e 5) ((mkI i (lv tab st (0 : Nat))).map vi)) (fun e _ => ctrV N (e 6)) ?_ ?_
  · exact ⟨0, by omega, by simp (maxSteps := 2000000) (disch := first | omega | assumption | exact idP rfl | exact idP (bL rfl)) only [go_sem, reduceIte, Nat.reduceEqDiff], by simp (maxSteps := 2000000) (disch := first | omega | assumption | exact idP rfl | exact idP (bL rfl)) only [go_sem, reduceIte, Nat.reduceEqDiff], by simp (maxSteps := 2000000) (disch := first | omega | assumption | exact idP rfl | exact idP (bL rfl)) only [go_sem, reduceIte, Nat.reduceEqDiff]; rfl, by simp (maxSteps := 2000000) (disch := first | omega | assumption | exact idP rfl | exact idP (bL rfl)) only [go_sem, reduceIte, Nat.reduceEqDiff]; exact Gr.new' (Sub.refl _) hb5 rfl⟩
  · rintro e M1 ⟨i, hi, e0, e1, e6, hg⟩ K hK
    have hil : (mkI i (lv tab st (0 : Nat))).length = i := mkI_len
    simp (maxSteps := 2000000) (disch := first | omega | assumption | exact idP rfl | exact idP (bL rfl)) only [go_sem, reduceIte, Nat.reduceEqDiff, e0, e1, e6, hvl]
    refine cond_dec (fun h => ?_) (fun h => ?_)
    · have hi' : i < (mkL N m0).length := by rw [mkL_len]; omega
      simp (maxSteps := 2000000) (disch := first | omega | assumption | exact idP rfl | exact idP (bL rfl)) only [go_sem, reduceIte, Nat.reduceEqDiff, e0, e1, e6, hw.iaddr, hw.at hi', mkL_get]
      refine cond_split (fun h2 => ?_) (fun h2 => ?_)
      · simp (maxSteps := 2000000) (disch := first | omega | assumption | exact idP rfl | exact idP (bL rfl)) only [go_sem, reduceIte, Nat.reduceEqDiff, e0, e1, e6]
        intro bt hbt
        refine app_int hg hbt (by omega) (by omega) ?_
        intro s' M' hg' _
        simp (maxSteps := 2000000) (disch := first | omega | assumption | exact idP rfl | exact idP (bL rfl)) only [go_sem, reduceIte, Nat.reduceEqDiff, e0, e1, e6]
        refine hK _ _ ⟨i + 1, by omega, by simp (maxSteps := 2000000) (disch := first | omega | assumption | exact idP rfl | exact idP (bL rfl)) only [go_sem, reduceIte, Nat.reduceEqDiff, e0], by simp (maxSteps := 2000000) (disch := first | omega | assumption | exact idP rfl | exact idP (bL rfl)) only [go_sem, reduceIte, Nat.reduceEqDiff, e1], by simp (maxSteps := 2000000) (disch := first | omega | assumption | exact idP rfl | exact idP (bL rfl)) only [go_sem, reduceIte, Nat.reduceEqDiff, e6]; rfl, ?_⟩ (by simp (maxSteps := 2000000) (disch := first | omega | assumption | exact idP rfl | exact idP (bL rfl)) only [go_sem, reduceIte, Nat.reduceEqDiff, ctrV_int, e6]; omega)
        have hsi := (hm0 i (by omega)).1 h2
        have h3 := (hlv0 i).1 hsi
        simp (maxSteps := 2000000) (disch := first | omega | assumption | exact idP rfl | exact idP (bL rfl)) only [go_sem, reduceIte, Nat.reduceEqDiff]
        rw [mkI_succ, h3]; exact hg'
      · simp (maxSteps := 2000000) (disch := first | omega | assumption | exact idP rfl | exact idP (bL rfl)) only [go_sem, reduceIte, Nat.reduceEqDiff, e0, e1, e6]
        intro bt hbt
        refine app_int hg hbt (by omega) (by omega) ?_
        intro s' M' hg' _
        simp (maxSteps := 2000000) (disch := first | omega | assumption | exact idP rfl | exact idP (bL rfl)) only [go_sem, reduceIte, Nat.reduceEqDiff, e0, e1, e6]
        refine hK _ _ ⟨i + 1, by omega, by simp (maxSteps := 2000000) (disch := first | omega | assumption | exact idP rfl | exact idP (bL rfl)) only [go_sem, reduceIte, Nat.reduceEqDiff, e0], by simp (maxSteps := 2000000) (disch := first | omega | assumption | exact idP rfl | exact idP (bL rfl)) only [go_sem, reduceIte, Nat.reduceEqDiff, e1], by simp (maxSteps := 2000000) (disch := first | omega | assumption | exact idP rfl | exact idP (bL rfl)) only [go_sem, reduceIte, Nat.reduceEqDiff, e6]; rfl, ?_⟩ (by simp (maxSteps := 2000000) (disch := first | omega | assumption | exact idP rfl | exact idP (bL rfl)) only [go_sem, reduceIte, Nat.reduceEqDiff, ctrV_int, e6]; omega)
        have hsi : ¬ st i := fun hc => by rw [(hm0 i (by omega)).2 hc] at h2; cases h2
        have h3 := (hlv0 i).2 hsi
        simp (maxSteps := 2000000) (disch := first | omega | assumption | exact idP rfl | exact idP (bL rfl)) only [go_sem, reduceIte, Nat.reduceEqDiff]
        rw [mkI_succ, h3]; exact hg'
    · obtain rfl : i = N := by omega
      simp (maxSteps := 2000000) (disch := first | omega | assumption | exact idP rfl | exact idP (bL rfl)) only [go_sem, reduceIte, Nat.reduceEqDiff, e0, e1]
      refine loop_g (fun k e M' => ∃ (d : Nat) (t : Bool), e 0 = v ∧ e 7 = .sc (.bool t) ∧ e 8 = .sc (.int .i64 d) ∧ Gr 1 M M' (e 5) ((mkI i (if t = true then lv tab st d else dst tab st)).map vi) ∧
        2 * unm i (fun j => decide (0 ≤ lv tab st d j)) + (if t = true then 1 else 0) ≤ k ∧ (t = true → d + unm i (fun j => decide (0 ≤ lv tab st d j)) ≤ i)) (2 * i + 1) ?_ ?_
      · have hun : unm i (fun j => decide (0 ≤ lv tab st (0 : Nat) j)) ≤ i := by unfold unm; exact Nat.le_trans (List.length_filter_le ..) (by simp)
        exact ⟨0, true, by simp (maxSteps := 2000000) (disch := first | omega | assumption | exact idP rfl | exact idP (bL rfl)) only [go_sem, reduceIte, Nat.reduceEqDiff, e0], by simp (maxSteps := 2000000) (disch := first | omega | assumption | exact idP rfl | exact idP (bL rfl)) only [go_sem, reduceIte, Nat.reduceEqDiff], by simp (maxSteps := 2000000) (disch := first | omega | assumption | exact idP rfl | exact idP (bL rfl)) only [go_sem, reduceIte, Nat.reduceEqDiff]; rfl, by simp (maxSteps := 2000000) (disch := first | omega | assumption | exact idP rfl | exact idP (bL rfl)) only [go_sem, reduceIte, Nat.reduceEqDiff]; exact hg, by simp only [if_true]; omega, fun _ => by omega⟩
      · rintro k e M2 ⟨d, t, f0, f7, f8, fg, fk, fd⟩ K2 hK2
        cases t with
        | false =>
          simp (maxSteps := 2000000) (disch := first | omega | assumption | exact idP rfl | exact idP (bL rfl)) only [go_sem, reduceIte, Nat.reduceEqDiff, f7]
          simp only [Bool.false_eq_true, if_false] at fg
          exact hR _ _ fg
        | true =>
          simp only [if_true] at fg fk
          have fd := fd rfl
          simp (maxSteps := 2000000) (disch := first | omega | assumption | exact idP rfl | exact idP (bL rfl)) only [go_sem, reduceIte, Nat.reduceEqDiff, f7]
          refine loop_k (fun e' M' => ∃ (n : Nat) (a : Nat → Bool) (t : Bool), n ≤ i ∧ e' 0 = v ∧ e' 7 = .sc (.bool t) ∧ e' 8 = .sc (.int .i64 d) ∧ e' 9 = .sc (.int .i64 n) ∧ Gr 1 M M' (e' 5) ((mkI i (lvA tab st d a)).map vi) ∧ LvI tab i st d a n ∧ (t = true ↔ ∃ j, a j = true)) (fun e' _ => ctrV i (e' 9)) ?_ ?_
          · refine ⟨0, fun _ => false, false, by omega, by simp (maxSteps := 2000000) (disch := first | omega | assumption | exact idP rfl | exact idP (bL rfl)) only [go_sem, reduceIte, Nat.reduceEqDiff, f0], by simp (maxSteps := 2000000) (disch := first | omega | assumption | exact idP rfl | exact idP (bL rfl)) only [go_sem, reduceIte, Nat.reduceEqDiff], by simp (maxSteps := 2000000) (disch := first | omega | assumption | exact idP rfl | exact idP (bL rfl)) only [go_sem, reduceIte, Nat.reduceEqDiff, f8], by simp (maxSteps := 2000000) (disch := first | omega | assumption | exact idP rfl | exact idP (bL rfl)) only [go_sem, reduceIte, Nat.reduceEqDiff]; rfl, ?_, ⟨fun j hj => (by cases hj), fun p hp => (by omega)⟩, by simp⟩
            simp (maxSteps := 2000000) (disch := first | omega | assumption | exact idP rfl | exact idP (bL rfl)) only [go_sem, reduceIte, Nat.reduceEqDiff]
            rw [mkI_ext (g := lv tab st d) (fun j _ => by simp [lvA])]
            exact fg
          · rintro e' M3 ⟨n, a, t, hn, g0, g7, g8, g9, gg, gi, gt⟩ K3 hK3
            simp (maxSteps := 2000000) (disch := first | omega | assumption | exact idP rfl | exact idP (bL rfl)) only [go_sem, reduceIte, Nat.reduceEqDiff, g0, g7, g8, g9, hvl]
            refine cond_dec (fun hc => ?_) (fun hc => ?_)
            · have hnN : n < tab.length := by omega
              have hrow := hv.elt hnN
              have hri := htl _ (List.getElem_mem hnN)
              have hgd : tab.getD n [] = tab[n] := by simp [List.getD, hnN]
              simp (maxSteps := 2000000) (disch := first | omega | assumption | exact idP rfl | exact idP (bL rfl)) only [go_sem, reduceIte, Nat.reduceEqDiff, g0, g7, g8, g9]
              refine loop_k (fun e2 M' => ∃ (j : Nat) (a : Nat → Bool) (t : Bool), j ≤ tab[n].length ∧ e2 0 = v ∧ e2 7 = .sc (.bool t) ∧ e2 8 = .sc (.int .i64 d) ∧ e2 9 = .sc (.int .i64 n) ∧ e2 10 = .sc (.int .i64 j) ∧ Gr 1 M M' (e2 5) ((mkI i (lvA tab st d a)).map vi) ∧ LvI tab i st d a n ∧ (dst tab st n = (d : Int) → ∀ y ∈ tab[n].take j, 0 ≤ lv tab st d y.toNat ∨ a y.toNat = true) ∧ (t = true ↔ ∃ j, a j = true)) (fun e2 _ => ctrV tab[n].length (e2 10)) ?_ ?_
              · exact ⟨0, a, t, by omega, by simp (maxSteps := 2000000) (disch := first | omega | assumption | exact idP rfl | exact idP (bL rfl)) only [go_sem, reduceIte, Nat.reduceEqDiff, g0], by simp (maxSteps := 2000000) (disch := first | omega | assumption | exact idP rfl | exact idP (bL rfl)) only [go_sem, reduceIte, Nat.reduceEqDiff, g7], by simp (maxSteps := 2000000) (disch := first | omega | assumption | exact idP rfl | exact idP (bL rfl)) only [go_sem, reduceIte, Nat.reduceEqDiff, g8], by simp (maxSteps := 2000000) (disch := first | omega | assumption | exact idP rfl | exact idP (bL rfl)) only [go_sem, reduceIte, Nat.reduceEqDiff, g9], by simp (maxSteps := 2000000) (disch := first | omega | assumption | exact idP rfl | exact idP (bL rfl)) only [go_sem, reduceIte, Nat.reduceEqDiff]; rfl, by simp (maxSteps := 2000000) (disch := first | omega | assumption | exact idP rfl | exact idP (bL rfl)) only [go_sem, reduceIte, Nat.reduceEqDiff]; exact gg, gi, fun _ y hy => by simp at hy, gt⟩
              · rintro e2 M4 ⟨j, a, t, hj, u0, u7, u8, u9, u10, ug, ui, up, ut⟩ K4 hK4
                have ua := ug.at (by rw [List.length_map, mkI_len]; omega)
                have un := vi_at (n := i) (f := lvA tab st d a) (i := n) (by omega)
                have ui2 : (dst tab st n = (d : Int) → ∀ y ∈ tab[n], 0 ≤ lv tab st d y.toNat ∨ a y.toNat = true) → LvI tab i st d a (n + 1) := fun wp => ⟨ui.s, fun p hp hd => by
                  by_cases e : p = n
                  · subst e; rw [hgd]; exact wp hd
                  · exact ui.c p (by omega) hd⟩
                have fin : ∀ (e3 : EnvV) (M5 : MH), e3 0 = v → e3 7 = .sc (.bool t) → e3 8 = .sc (.int .i64 d) → e3 9 = .sc (.int .i64 ((n : Int) + 1)) → Gr 1 M M5 (e3 5) ((mkI i (lvA tab st d a)).map vi) → (dst tab st n = (d : Int) → ∀ y ∈ tab[n], 0 ≤ lv tab st d y.toNat ∨ a y.toNat = true) → K3 e3 M5 := fun e3 M5 w0 w7 w8 w9 wg wp =>
                  hK3 _ _ ⟨n + 1, a, t, by omega, w0, w7, w8, w9, wg, ui2 wp, ut⟩ (by rw [w9, g9]; simp (maxSteps := 2000000) (disch := first | omega | assumption | exact idP rfl | exact idP (bL rfl)) only [go_sem, reduceIte, Nat.reduceEqDiff, ctrV_int]; omega)
                simp (maxSteps := 2000000) (disch := first | omega | assumption | exact idP rfl | exact idP (bL rfl)) only [go_sem, reduceIte, Nat.reduceEqDiff, u0, u7, u8, u9, u10, hv.iaddr, hrow.len]
                have hia : ∀ {k : IntKind} {x : Int}, 0 ≤ x → x < (i : Int) → iaddrV 1 (e2 5) (.int k x) = some (.sc (.ptr (some (oB (e2 5), x.toNat)))) := fun q1 q2 => ug.own.iaddr q1 (by rw [len_vi, mkI_len]; exact q2)
                have vat : ∀ {q : Nat}, q < i → ((mkI i (lvA tab st d a)).map vi)[q]? = some (.sc (.int .i64 (lvA tab st d a q))) := fun h => vi_at h
                have dn : lvA tab st d a n = (d : Int) → dst tab st n = (d : Int) := fun hx => by
                  unfold lvA at hx
                  split at hx
                  · omega
                  · unfold lv at hx
                    split at hx <;> omega
                have dn2 : dst tab st n = (d : Int) → lvA tab st d a n = (d : Int) := fun hx => by
                  unfold lvA
                  split
                  · rename_i ha
                    have := (ui.s n ha).2
                    omega
                  · unfold lv
                    rw [if_pos (by omega)]; exact hx
                refine guardK_dec (fun hjl => ?_) (fun hjl => ?_)
                · have hj' : j < tab[n].length := by omega
                  have hyj := hri.2 _ (List.getElem_mem hj')
                  obtain ⟨y, hy⟩ : ∃ y, tab[n][j] = y := ⟨_, rfl⟩
                  rw [hy] at hyj
                  have hyi : y.toNat < i := by omega
                  simp (maxSteps := 2000000) (disch := first | omega | assumption | exact idP rfl | exact idP (bL rfl)) only [go_sem, reduceIte, Nat.reduceEqDiff, u0, u7, u8, u9, u10, hia, ua, vat, hjl]
                  refine cond_dec (fun hdn => ?_) (fun hdn => ?_)
                  · have hd := dn hdn
                    have hyt : y ∈ tab.getD n [] := by rw [hgd, ← hy]; exact List.getElem_mem hj'
                    have hnx := dst_next hd hyt
                    simp (maxSteps := 2000000) (disch := first | omega | assumption | exact idP rfl | exact idP (bL rfl)) only [go_sem, reduceIte, Nat.reduceEqDiff, u0, u7, u8, u9, u10, hv.iaddr, hrow.iaddr, hrow.at hj', hy, hia, ua, vat]
                    refine cond_dec (fun hneg => ?_) (fun hneg => ?_)
                    · have hay : a y.toNat = false := by
                        cases hq : a y.toNat with
                        | false => rfl
                        | true =>
                          unfold lvA at hneg
                          rw [if_pos hq] at hneg; omega
                      have hdy : dst tab st y.toNat = ((d + 1 : Nat) : Int) := by
                        unfold lvA at hneg
                        rw [hay] at hneg
                        simp only [Bool.false_eq_true, if_false] at hneg
                        unfold lv at hneg
                        split at hneg <;> omega
                      have hso : y.toNat < ((mkI i (lvA tab st d a)).map vi).length := by rw [len_vi, mkI_len]; exact hyi
                      simp (maxSteps := 2000000) (disch := first | omega | assumption | exact idP rfl | exact idP (bL rfl)) only [go_sem, reduceIte, Nat.reduceEqDiff, u0, u7, u8, u9, u10, hv.iaddr, hrow.iaddr, hrow.at hj', hy, hia, ua]
                      have hset := ug.setO (l' := (mkI i (lvA tab st d fun q => a q || decide (q = y.toNat))).map vi) (by rw [len_vi, mkI_len]; omega) (by simp [mkI_len])
                      have hlist : ((mkI i (lvA tab st d a)).map vi).set y.toNat (.sc (.int .i64 ((d : Int) + 1))) = (mkI i (lvA tab st d fun q => a q || decide (q = y.toNat))).map vi := by
                        rw [set_vi', mkI_set]
                        intro q hq
                        by_cases e : q = y.toNat
                        · subst e; simp [lvA]
                        · simp [lvA, e]
                      rw [hlist]
                      refine hK4 _ _ ⟨j + 1, fun q => a q || decide (q = y.toNat), true, by omega, by simp (maxSteps := 2000000) (disch := first | omega | assumption | exact idP rfl | exact idP (bL rfl)) only [go_sem, reduceIte, Nat.reduceEqDiff, u0], by simp (maxSteps := 2000000) (disch := first | omega | assumption | exact idP rfl | exact idP (bL rfl)) only [go_sem, reduceIte, Nat.reduceEqDiff], by simp (maxSteps := 2000000) (disch := first | omega | assumption | exact idP rfl | exact idP (bL rfl)) only [go_sem, reduceIte, Nat.reduceEqDiff, u8], by simp (maxSteps := 2000000) (disch := first | omega | assumption | exact idP rfl | exact idP (bL rfl)) only [go_sem, reduceIte, Nat.reduceEqDiff, u9], by simp (maxSteps := 2000000) (disch := first | omega | assumption | exact idP rfl | exact idP (bL rfl)) only [go_sem, reduceIte, Nat.reduceEqDiff, u10]; rfl, by simp (maxSteps := 2000000) (disch := first | omega | assumption | exact idP rfl | exact idP (bL rfl)) only [go_sem, reduceIte, Nat.reduceEqDiff]; exact hset, ui.mono (fun q hq => ?_) (fun q hq => by simp [hq]), fun _ z hz => ?_, ⟨fun _ => ⟨y.toNat, by simp⟩, fun _ => rfl⟩⟩ (by simp (maxSteps := 2000000) (disch := first | omega | assumption | exact idP rfl | exact idP (bL rfl)) only [go_sem, reduceIte, Nat.reduceEqDiff, ctrV_int, u10]; omega)
                      · simp only [Bool.or_eq_true, decide_eq_true_eq] at hq
                        rcases hq with h1 | rfl
                        · exact ui.s q h1
                        · exact ⟨hyi, hdy⟩
                      · rw [take_snoc hj', List.mem_append, List.mem_singleton, hy] at hz
                        rcases hz with h1 | rfl
                        · exact (up hd z h1).imp id fun h => by simp [h]
                        · exact .inr (by simp)
                    · simp (maxSteps := 2000000) (disch := first | omega | assumption | exact idP rfl | exact idP (bL rfl)) only [go_sem, reduceIte, Nat.reduceEqDiff, u0, u7, u8, u9, u10]
                      refine hK4 _ _ ⟨j + 1, a, t, by omega, by simp (maxSteps := 2000000) (disch := first | omega | assumption | exact idP rfl | exact idP (bL rfl)) only [go_sem, reduceIte, Nat.reduceEqDiff, u0], by simp (maxSteps := 2000000) (disch := first | omega | assumption | exact idP rfl | exact idP (bL rfl)) only [go_sem, reduceIte, Nat.reduceEqDiff, u7], by simp (maxSteps := 2000000) (disch := first | omega | assumption | exact idP rfl | exact idP (bL rfl)) only [go_sem, reduceIte, Nat.reduceEqDiff, u8], by simp (maxSteps := 2000000) (disch := first | omega | assumption | exact idP rfl | exact idP (bL rfl)) only [go_sem, reduceIte, Nat.reduceEqDiff, u9], by simp (maxSteps := 2000000) (disch := first | omega | assumption | exact idP rfl | exact idP (bL rfl)) only [go_sem, reduceIte, Nat.reduceEqDiff, u10]; rfl, by simp (maxSteps := 2000000) (disch := first | omega | assumption | exact idP rfl | exact idP (bL rfl)) only [go_sem, reduceIte, Nat.reduceEqDiff]; exact ug, ui, fun _ z hz => ?_, ut⟩ (by simp (maxSteps := 2000000) (disch := first | omega | assumption | exact idP rfl | exact idP (bL rfl)) only [go_sem, reduceIte, Nat.reduceEqDiff, ctrV_int, u10]; omega)
                      rw [take_snoc hj', List.mem_append, List.mem_singleton, hy] at hz
                      rcases hz with h1 | rfl
                      · exact up hd z h1
                      · unfold lvA at hneg
                        split at hneg
                        · rename_i ha; exact .inr ha
                        · exact .inl (by omega)
                  · simp (maxSteps := 2000000) (disch := first | omega | assumption | exact idP rfl | exact idP (bL rfl)) only [go_sem, reduceIte, Nat.reduceEqDiff, u0, u7, u8, u9]
                    exact fin _ _ (by simp (maxSteps := 2000000) (disch := first | omega | assumption | exact idP rfl | exact idP (bL rfl)) only [go_sem, reduceIte, Nat.reduceEqDiff, u0]) (by simp (maxSteps := 2000000) (disch := first | omega | assumption | exact idP rfl | exact idP (bL rfl)) only [go_sem, reduceIte, Nat.reduceEqDiff, u7]) (by simp (maxSteps := 2000000) (disch := first | omega | assumption | exact idP rfl | exact idP (bL rfl)) only [go_sem, reduceIte, Nat.reduceEqDiff, u8]) (by simp (maxSteps := 2000000) (disch := first | omega | assumption | exact idP rfl | exact idP (bL rfl)) only [go_sem, reduceIte, Nat.reduceEqDiff, u9]) (by simp (maxSteps := 2000000) (disch := first | omega | assumption | exact idP rfl | exact idP (bL rfl)) only [go_sem, reduceIte, Nat.reduceEqDiff]; exact ug) fun hd => absurd (dn2 hd) hdn
                · have hjl2 : j = tab[n].length := by omega
                  rw [hjl2, List.take_length] at up
                  simp (maxSteps := 2000000) (disch := first | omega | assumption | exact idP rfl | exact idP (bL rfl)) only [go_sem, reduceIte, Nat.reduceEqDiff, u0, u7, u8, u9, hjl]
                  exact fin _ _ (by simp (maxSteps := 2000000) (disch := first | omega | assumption | exact idP rfl | exact idP (bL rfl)) only [go_sem, reduceIte, Nat.reduceEqDiff, u0]) (by simp (maxSteps := 2000000) (disch := first | omega | assumption | exact idP rfl | exact idP (bL rfl)) only [go_sem, reduceIte, Nat.reduceEqDiff, u7]) (by simp (maxSteps := 2000000) (disch := first | omega | assumption | exact idP rfl | exact idP (bL rfl)) only [go_sem, reduceIte, Nat.reduceEqDiff, u8]) (by simp (maxSteps := 2000000) (disch := first | omega | assumption | exact idP rfl | exact idP (bL rfl)) only [go_sem, reduceIte, Nat.reduceEqDiff, u9]) (by simp (maxSteps := 2000000) (disch := first | omega | assumption | exact idP rfl | exact idP (bL rfl)) only [go_sem, reduceIte, Nat.reduceEqDiff]; exact ug) up
            · obtain rfl : n = i := by omega
              simp (maxSteps := 2000000) (disch := first | omega | assumption | exact idP rfl | exact idP (bL rfl)) only [go_sem, reduceIte, Nat.reduceEqDiff, g0, g7, g8]
              have hd1 : 0 ≤ (d : Int) + 1 ∧ (d : Int) + 1 ≤ 1048578 := by
                omega
              cases ht : t with
              | true =>
                subst ht
                obtain ⟨q, hq⟩ := gt.1 rfl
                obtain ⟨hq1, hq2⟩ := gi.s q hq
                have e1 : mkI n (lvA tab st d a) = mkI n (lv tab st ((d + 1 : Nat) : Int)) := mkI_ext fun j _ => by rw [gi.last hst j]; congr 1
                have hun := unm_lt (n := n) (m := fun j => decide (0 ≤ lv tab st d j)) (m' := fun j => decide (0 ≤ lv tab st ((d + 1 : Nat) : Int) j)) hq1 (by unfold lv; rw [if_neg (by omega)]; rfl) (by unfold lv; rw [if_pos (by omega)]; simp; omega) (fun j hj => by
                  simp only [decide_eq_true_eq] at hj ⊢
                  unfold lv at hj ⊢
                  split at hj
                  · rw [if_pos (by omega)]; exact hj
                  · omega)
                rw [e1] at gg
                refine hK2 (k - 1) _ _ (by omega) ⟨d + 1, true, by simp (maxSteps := 2000000) (disch := first | omega | assumption | exact idP rfl | exact idP (bL rfl)) only [go_sem, reduceIte, Nat.reduceEqDiff, g0], by simp (maxSteps := 2000000) (disch := first | omega | assumption | exact idP rfl | exact idP (bL rfl)) only [go_sem, reduceIte, Nat.reduceEqDiff, g7], by simp (maxSteps := 2000000) (disch := first | omega | assumption | exact idP rfl | exact idP (bL rfl)) only [go_sem, reduceIte, Nat.reduceEqDiff, g8]; rfl, by simp (maxSteps := 2000000) (disch := first | omega | assumption | exact idP rfl | exact idP (bL rfl)) only [go_sem, reduceIte, Nat.reduceEqDiff]; exact gg, by simp only [if_true]; omega, fun _ => by omega⟩
              | false =>
                subst ht
                have ha : ∀ j, a j = false := fun j => by
                  cases hq : a j with
                  | false => rfl
                  | true => have := gt.2 ⟨j, hq⟩; cases this
                have e1 : mkI n (lvA tab st d a) = mkI n (dst tab st) := mkI_ext fun j _ => gi.none hst ha j
                have e2 : unm n (fun j => decide (0 ≤ lv tab st ((d + 1 : Nat) : Int) j)) ≤ unm n (fun j => decide (0 ≤ lv tab st d j)) := by
                  refine filter_len_le (fun j hj => ?_) _
                  simp only [Bool.not_eq_true', decide_eq_false_iff_not] at hj ⊢
                  intro h2
                  refine hj ?_
                  unfold lv at h2 ⊢
                  split at h2
                  · rw [if_pos (by omega)]; exact h2
                  · omega
                rw [e1] at gg
                refine hK2 (k - 1) _ _ (by omega) ⟨d + 1, false, by simp (maxSteps := 2000000) (disch := first | omega | assumption | exact idP rfl | exact idP (bL rfl)) only [go_sem, reduceIte, Nat.reduceEqDiff, g0], by simp (maxSteps := 2000000) (disch := first | omega | assumption | exact idP rfl | exact idP (bL rfl)) only [go_sem, reduceIte, Nat.reduceEqDiff, g7], by simp (maxSteps := 2000000) (disch := first | omega | assumption | exact idP rfl | exact idP (bL rfl)) only [go_sem, reduceIte, Nat.reduceEqDiff, g8]; rfl, by simp (maxSteps := 2000000) (disch := first | omega | assumption | exact idP rfl | exact idP (bL rfl)) only [go_sem, reduceIte, Nat.reduceEqDiff]; exact gg, by simp only [Bool.false_eq_true, if_false]; omega, fun h => by cases h⟩
end Go.M2

namespace Go.M2
open Go.Proofs
variable {M : MH}
theorem rch_in {s : SysS} (hs : SysOk s) : ∀ i, Rch (tabF s) (stF s) i → i < (tabF s).length := by
  have hsz := hs.sz
  have htl := tabF_len s
  have hfb := firstN_bd hs
  intro i hi
  induction hi with
  | base h =>
    simp only [stF, List.mem_singleton] at h
    omega
  | @step i x _ hx ih =>
    have hgd : (tabF s).getD i [] = (tabF s)[i] := by simp [List.getD, ih]
    rw [hgd] at hx
    have := (tabF_in hs _ (List.getElem_mem ih)).2 x hx
    omega
noncomputable def stepsS (s : SysS) : List Int := if sysB s = true then mkI (tabF s).length (dst (tabF s) (stF s)) else []
theorem t_StepsTo {v : V} {s : SysS} (hv : isSys s v) : VCall Tryz.prog n_spec_StepsTo [v] M (fun r M' => M = M' ∧ LI r (stepsS s)) := by
  refine VCall.froz fun R hP hG => v_spec_StepsTo rfl ?_
  have hv0 := hv
  obtain ⟨a, b, rfl, ha, hb⟩ := hv
  (repeat' (first | ((first | with_reducible refine cond_dec (fun h => ?_) (fun h => ?_) | with_reducible refine guardK_dec (fun h => ?_) (fun h => ?_) | with_reducible refine guardD3_dec (fun h => ?_) (fun h => ?_)) <;> first | (exfalso; omega) | (simp (maxSteps := 2000000) (disch := first | omega | assumption | exact idP rfl | exact idP (bL rfl)) only [go_sem, reduceIte, Nat.reduceEqDiff, h]) | skip) | ((first | with_reducible refine cond_split (fun h => ?_) (fun h => ?_) | with_reducible refine guardK_split (fun h => ?_) (fun h => ?_) | with_reducible refine guardD3_split (fun h => ?_) (fun h => ?_)) <;> ((try simp only [Bool.not_eq_true', Bool.not_eq_false'] at h); first | (simp (maxSteps := 2000000) (disch := first | omega | assumption | exact idP rfl | exact idP (bL rfl)) only [go_sem, reduceIte, Nat.reduceEqDiff, h]) | skip)) | ((with_reducible refine (t_SystemValidS hv0).mono ?_); rintro _ _ ⟨rfl, rfl⟩) | (with_reducible intro bk hbk; try have hnk := (fresh_set hbk).1) | (simp (maxSteps := 2000000) (disch := first | omega | assumption | exact idP rfl | exact idP (bL rfl)) only [go_sem, reduceIte, Nat.reduceEqDiff])))
  · exact hP _ _ (by (repeat (first | exact Sub.refl _ | assumption | (refine Sub.set' ?_ (by assumption))))) (by unfold stepsS; rw [if_neg (by rw [h]; simp)]; exact .nil)
  · have hs := (sysB_iff s).1 h
    have hsz := hs.sz
    have htl := tabF_len s
    refine (f_l4Steps hv0 hs).mono ?_
    rintro t _ ⟨rfl, ht⟩
    simp (maxSteps := 2000000) (disch := first | omega | assumption | exact idP rfl | exact idP (bL rfl)) only [go_sem, reduceIte, Nat.reduceEqDiff]
    refine (VCall.fr1 (t_l5First hv0 hs)).mono ?_
    rintro m _ ⟨rfl, hm⟩
    simp (maxSteps := 2000000) (disch := first | omega | assumption | exact idP rfl | exact idP (bL rfl)) only [go_sem, reduceIte, Nat.reduceEqDiff]
    refine (t_l5Steps (st := stF s) ht hm.lb (by omega) (fun i _ => by simp [inL, stF]) (rch_in hs) (tabF_in hs)).mono ?_
    rintro r M2 hg
    simp (maxSteps := 2000000) (disch := first | omega | assumption | exact idP rfl | exact idP (bL rfl)) only [go_sem, reduceIte, Nat.reduceEqDiff]
    refine hG _ _ _ _ (hg.base ((Sub.refl M).set' hbk)) fun u hu => ?_
    unfold stepsS
    rw [if_pos h]
    exact hu.li
theorem t_l5Told {w : V} {n : Nat} {f : Nat → Int} (hw : LI w (mkI n f)) (hn : n ≤ 1048576) : VCall Tryz.prog n_spec_l5Told [w] M (fun r M' => M = M' ∧ LB r (mkL n fun i => decide (0 ≤ f i))) := by
  have hlen := hw.len
  rw [mkI_len] at hlen
  have key : VCall Tryz.prog n_spec_l5Told [w] M (fun r M' => Gr 1 M M' r ((mkL n fun i => decide (0 ≤ f i)).map vb)) := by
    refine VCall.plain fun R hR => v_spec_l5Told rfl ?_
    simp (maxSteps := 2000000) (disch := first | omega | assumption | exact idP rfl | exact idP (bL rfl)) only [go_sem, reduceIte, Nat.reduceEqDiff, hlen]
    refine mks3 (by omega) (by simp [mostCells]; omega) (by simp [mostCells]; omega) ?_
    intro b3 hb3
    simp (maxSteps := 2000000) (disch := first | omega | assumption | exact idP rfl | exact idP (bL rfl)) only [go_sem, reduceIte, Nat.reduceEqDiff, zeros_vb', mkL_none]
    refine loop_k (fun e M' => ∃ i : Nat, i ≤ n ∧ e 0 = w ∧ e 3 = .sc (.sl (some (b3, 0)) n n true 1) ∧ e 4 = .sc (.int .i64 i) ∧ Sub M M' ∧ M' b3 = some ((mkL n fun j => decide (j < i) && decide (0 ≤ f j)).map vb)) (fun e _ => ctrV n (e 4)) ?_ ?_
    · refine ⟨0, by omega, by simp (maxSteps := 2000000) (disch := first | omega | assumption | exact idP rfl | exact idP (bL rfl)) only [go_sem, reduceIte, Nat.reduceEqDiff], by simp (maxSteps := 2000000) (disch := first | omega | assumption | exact idP rfl | exact idP (bL rfl)) only [go_sem, reduceIte, Nat.reduceEqDiff], by simp (maxSteps := 2000000) (disch := first | omega | assumption | exact idP rfl | exact idP (bL rfl)) only [go_sem, reduceIte, Nat.reduceEqDiff]; rfl, (Sub.refl _).set hb3, ?_⟩
      simp (maxSteps := 2000000) (disch := first | omega | assumption | exact idP rfl | exact idP (bL rfl)) only [go_sem, reduceIte, Nat.reduceEqDiff]
      rw [mkL_ext]
      intro i hi; simp
    · rintro e M1 ⟨i, hi, e0, e3, e4, hsub, hm⟩ K hK
      simp (maxSteps := 2000000) (disch := first | omega | assumption | exact idP rfl | exact idP (bL rfl)) only [go_sem, reduceIte, Nat.reduceEqDiff, e0, e3, e4, hlen]
      refine cond_dec (fun h => ?_) (fun h => ?_)
      · have hi' : i < (mkI n f).length := by rw [mkI_len]; omega
        have hso : i < ((mkL n fun j => decide (j < i) && decide (0 ≤ f j)).map vb).length := by rw [len_vb', mkL_len]; omega
        have hia := hw.iaddr (k := .i64) (a := (i : Int)) (by omega) (by rw [mkI_len]; omega)
        simp (maxSteps := 2000000) (disch := first | omega | assumption | exact idP rfl | exact idP (bL rfl)) only [go_sem, reduceIte, Nat.reduceEqDiff, e0, e3, e4, hia, hw.at hi', mkI_get, hm]
        refine hK _ _ ⟨i + 1, by omega, by simp (maxSteps := 2000000) (disch := first | omega | assumption | exact idP rfl | exact idP (bL rfl)) only [go_sem, reduceIte, Nat.reduceEqDiff], by simp (maxSteps := 2000000) (disch := first | omega | assumption | exact idP rfl | exact idP (bL rfl)) only [go_sem, reduceIte, Nat.reduceEqDiff], by simp (maxSteps := 2000000) (disch := first | omega | assumption | exact idP rfl | exact idP (bL rfl)) only [go_sem, reduceIte, Nat.reduceEqDiff]; rfl, hsub.set hb3, ?_⟩ (by simp (maxSteps := 2000000) (disch := first | omega | assumption | exact idP rfl | exact idP (bL rfl)) only [go_sem, reduceIte, Nat.reduceEqDiff, ctrV_int, e4]; omega)
        simp (maxSteps := 2000000) (disch := first | omega | assumption | exact idP rfl | exact idP (bL rfl)) only [go_sem, reduceIte, Nat.reduceEqDiff]
        rw [set_vb', mkL_setB]
        intro j hj
        by_cases e : j = i
        · subst e; simp
        · rw [if_neg e]
          have : decide (j < i + 1) = decide (j < i) := decide_eq_decide.2 (by omega)
          rw [this]
      · obtain rfl : i = n := by omega
        simp (maxSteps := 2000000) (disch := first | omega | assumption | exact idP rfl | exact idP (bL rfl)) only [go_sem, reduceIte, Nat.reduceEqDiff, e3]
        rw [mkL_ext (q := fun j => decide (0 ≤ f j)) (fun j hj => by simp [hj])] at hm
        exact hR _ _ ⟨hsub, fun b' h' => by simp [blkV] at h'; subst h'; exact hb3, .inr ⟨b3, _, true, rfl, hm, by rw [len_vb', mkL_len]; omega⟩⟩
  exact (VCall.fr1 key).mono fun r M' ⟨h1, h2⟩ => ⟨h1, h2.lb⟩
noncomputable def reachS (s : SysS) : List Int := if sysB s = true then selL (tabF s).length (rB (tabF s) (stF s)) else []
theorem t_ReachOf {v : V} {s : SysS} (hv : isSys s v) : VCall Tryz.prog n_spec_ReachOf [v] M (fun r M' => M = M' ∧ LI r (reachS s)) := by
  refine VCall.froz fun R hP hG => v_spec_ReachOf rfl ?_
  have hv0 := hv
  obtain ⟨a, b, rfl, ha, hb⟩ := hv
  obtain ⟨n, f, e1, e2, e3⟩ : ∃ (n : Nat) (f : Nat → Int), stepsS s = mkI n f ∧ n ≤ 1048576 ∧ reachS s = selL n fun i => decide (0 ≤ f i) := by
    unfold stepsS reachS
    cases h : sysB s with
    | false => exact ⟨0, fun _ => 0, rfl, by omega, rfl⟩
    | true =>
      have hs := (sysB_iff s).1 h
      have hsz := hs.sz
      have htl := tabF_len s
      refine ⟨_, _, by rw [if_pos rfl], by omega, ?_⟩
      rw [if_pos rfl]
      refine selL_ext fun i _ => ?_
      rw [Bool.eq_iff_iff, rB_iff, decide_eq_true_eq, dst_rch]
  (repeat' (first | ((first | with_reducible refine cond_dec (fun h => ?_) (fun h => ?_) | with_reducible refine guardK_dec (fun h => ?_) (fun h => ?_) | with_reducible refine guardD3_dec (fun h => ?_) (fun h => ?_)) <;> first | (exfalso; omega) | (simp (maxSteps := 2000000) (disch := first | omega | assumption | exact idP rfl | exact idP (bL rfl)) only [go_sem, reduceIte, Nat.reduceEqDiff, h]) | skip) | ((first | with_reducible refine cond_split (fun h => ?_) (fun h => ?_) | with_reducible refine guardK_split (fun h => ?_) (fun h => ?_) | with_reducible refine guardD3_split (fun h => ?_) (fun h => ?_)) <;> ((try simp only [Bool.not_eq_true', Bool.not_eq_false'] at h); first | (simp (maxSteps := 2000000) (disch := first | omega | assumption | exact idP rfl | exact idP (bL rfl)) only [go_sem, reduceIte, Nat.reduceEqDiff, h]) | skip)) | (with_reducible intro bk hbk; try have hnk := (fresh_set hbk).1) | (simp (maxSteps := 2000000) (disch := first | omega | assumption | exact idP rfl | exact idP (bL rfl)) only [go_sem, reduceIte, Nat.reduceEqDiff])))
  refine (t_StepsTo hv0).mono ?_
  rintro q _ ⟨rfl, hq⟩
  rw [e1] at hq
  simp (maxSteps := 2000000) (disch := first | omega | assumption | exact idP rfl | exact idP (bL rfl)) only [go_sem, reduceIte, Nat.reduceEqDiff]
  refine (t_l5Told hq e2).mono ?_
  rintro q2 _ ⟨rfl, hq2⟩
  simp (maxSteps := 2000000) (disch := first | omega | assumption | exact idP rfl | exact idP (bL rfl)) only [go_sem, reduceIte, Nat.reduceEqDiff]
  refine (f_l4List hq2 e2).mono ?_
  rintro q3 _ ⟨rfl, hq3⟩
  simp (maxSteps := 2000000) (disch := first | omega | assumption | exact idP rfl | exact idP (bL rfl)) only [go_sem, reduceIte, Nat.reduceEqDiff]
  exact hP _ _ (by (repeat (first | exact Sub.refl _ | assumption | (refine Sub.set' ?_ (by assumption))))) (by rw [e3]; exact hq3)
theorem reachS_len (s : SysS) : (reachS s).length ≤ 400 := by
  unfold reachS
  split
  · rename_i h
    have := ((sysB_iff s).1 h).sz
    have htl := tabF_len s
    exact Nat.le_trans selL_len (by omega)
  · simp
end Go.M2

namespace Go.M2
open Go.Proofs
variable {M : MH}
theorem Mem.base {M0 M1 M : MH} {f : List (Nat × List V)} (h : Mem M1 M f) (hs : Sub M0 M1) : Mem M0 M f := ⟨hs.trans h.sub, fun p hp => hs.none (h.new p hp), h.nd, h.at_⟩
theorem Mem.tail {M0 M : MH} {p : Nat × List V} {f : List (Nat × List V)} (h : Mem M0 M (p :: f)) : Mem M0 M f := Mem.right (f := [p]) h
theorem Mem.hd {M0 M : MH} {b : Nat} {l : List V} {f : List (Nat × List V)} (h : Mem M0 M ((b, l) :: f)) : M b = some l := h.at_ _ (List.mem_cons_self ..)
def DnL (M0 M : MH) (l : List V) (p : List V → Prop) : Prop := ∃ l' fp, Tr l l' fp ∧ Mem M0 M fp ∧ flatL l ∧ (∀ q ∈ fp, flatL q.2) ∧ p l'
def One (v : V) : Prop := oneV v = true ∧ cellsV v = some [v]
theorem Ow.flat {sz : Nat} {M : MH} {v : V} {l : List V} (h : Ow sz M v l) : flat v := by
  rcases h with ⟨_, k, rfl⟩ | ⟨b, n, ex, rfl, _⟩ <;> simp [Go.M2.flat]
theorem catV_flat {α : Type} {enc : α → List V} (he : ∀ x, flatL (enc x)) : ∀ xs : List α, flatL (catV enc xs)
  | [] => by simp [catV, flatL]
  | x :: t => flatL_all.2 fun v hv => by
    have ih := catV_flat he t
    simp only [catV, List.map_cons, List.flatten_cons, List.mem_append] at hv
    rcases hv with h1 | h1
    · exact flatL_all.1 (he x) v h1
    · exact flatL_all.1 ih v h1
theorem encT_flat (x : TermS) : flatL (encT x) := by simp [encT, flatL, flat]
theorem encVar_flat (x : VarS) : flatL (encVar x) := by simp [encVar, flatL, flat]
theorem d_toTermS {v : V} {xs : List TermS} (hv : XT v xs) (hl : xs.length ≤ 1048576) : VCall Tryz.prog n_laws_toTermS [v] M (fun r M' => One r ∧ Dn M M' r (fun u => LT u xs)) :=
  (x_toTermS hv hl).mono fun r M' h => ⟨h.one, h.dn (catV_flat encT_flat xs) fun u hu => hu.lc (by omega) (catV_len (sz := 4) (enc := encT) (fun _ => rfl) xs) fun i hi => catV_at (sz := 4) (enc := encT) (fun _ => rfl) hi⟩
theorem d_toVarS {v : V} {xs : List VarS} (hv : XVar v xs) (hl : xs.length ≤ 1048576) : VCall Tryz.prog n_laws_toVarS [v] M (fun r M' => One r ∧ Dn M M' r (fun u => LVar u xs)) :=
  (x_toVarS hv hl).mono fun r M' h => ⟨h.one, h.dn (catV_flat encVar_flat xs) fun u hu => hu.lc (by omega) (catV_len (sz := 3) (enc := encVar) (fun _ => rfl) xs) fun i hi => catV_at (sz := 3) (enc := encVar) (fun _ => rfl) hi⟩
theorem d_toIntS {v : V} {xs : List Int} (hv : XI v xs) (hl : xs.length ≤ 1048576) : VCall Tryz.prog n_laws_toIntS [v] M (fun r M' => One r ∧ Dn M M' r (fun u => LI u xs)) :=
  (x_toIntS hv hl).mono fun r M' h => ⟨h.one, h.dn (flatL_vi xs) fun u hu => hu.li⟩
theorem d_toTermSS {v : V} {xs : List (List TermS)} (hv : XTT v xs) (hl : xs.length ≤ 1048576) (hx : ∀ ts ∈ xs, ts.length ≤ 1048576) : VCall Tryz.prog n_laws_toTermSS [v] M (fun r M' => One r ∧ Dn M M' r (fun u => LTT u xs)) := by
  refine VCall.plain fun R hR => v_laws_toTermSS rfl ?_
  have hlen := hv.len fun _ _ h => h.len
  simp (maxSteps := 2000000) (disch := first | omega | assumption | exact idP rfl | exact idP (bL rfl)) only [go_sem, reduceIte, Nat.reduceEqDiff, hlen]
  refine mks3 (by omega) (by simp [mostCells]; omega) (by simp [mostCells]; omega) ?_
  intro b3 hb3
  simp (maxSteps := 2000000) (disch := first | omega | assumption | exact idP rfl | exact idP (bL rfl)) only [go_sem, reduceIte, Nat.reduceEqDiff, zeros_nil]
  refine loop_k (fun e M' => ∃ (i : Nat) (us us' : List V) (fp : List (Nat × List V)), i ≤ xs.length ∧ e 0 = v ∧ e 3 = .sc (.sl (some (b3, 0)) xs.length xs.length true 1) ∧ e 4 = .sc (.int .i64 i) ∧ Tr us us' fp ∧ Mem M M' ((b3, us ++ List.replicate (xs.length - i) nil1) :: fp) ∧ flatL us ∧ (∀ q ∈ fp, flatL q.2) ∧ Cs (fun ts u => LT u ts) us' (xs.take i)) (fun e _ => ctrV xs.length (e 4)) ?_ ?_
  · exact ⟨0, [], [], [], by omega, by simp (maxSteps := 2000000) (disch := first | omega | assumption | exact idP rfl | exact idP (bL rfl)) only [go_sem, reduceIte, Nat.reduceEqDiff], by simp (maxSteps := 2000000) (disch := first | omega | assumption | exact idP rfl | exact idP (bL rfl)) only [go_sem, reduceIte, Nat.reduceEqDiff], by simp (maxSteps := 2000000) (disch := first | omega | assumption | exact idP rfl | exact idP (bL rfl)) only [go_sem, reduceIte, Nat.reduceEqDiff]; rfl, .nil, by simpa using (Mem.nil (Sub.refl M)).new1 hb3, by simp [flatL], fun q hq => (by cases hq), .nil⟩
  · rintro e M1 ⟨i, us, us', fp, hi, e0, e3, e4, htr, hmem, hfl, hff, hc⟩ K hK
    have hul : us.length = i := by have := hc.1; have h2 := htr.len; simp at this; omega
    have hm := hmem.hd
    simp (maxSteps := 2000000) (disch := first | omega | assumption | exact idP rfl | exact idP (bL rfl)) only [go_sem, reduceIte, Nat.reduceEqDiff, e0, e3, e4, hlen]
    refine cond_dec (fun h => ?_) (fun h => ?_)
    · have hi' : i < xs.length := by omega
      have hv' := hv.get (by omega)
      obtain ⟨q, hq⟩ : ∃ q, xs.length - i = q + 1 := ⟨xs.length - i - 1, by omega⟩
      rw [hq, List.replicate_succ] at hm hmem
      simp (maxSteps := 2000000) (disch := first | omega | assumption | exact idP rfl | exact idP (bL rfl)) only [go_sem, reduceIte, Nat.reduceEqDiff, e0, e3, e4, hv'.iaddr]
      refine (d_toTermS (hv'.elt hi') (hx _ (List.getElem_mem hi'))).mono ?_
      rintro r M2 ⟨⟨hr1, hr2⟩, r', g, t1, t2, t3, t4, hr⟩
      have hmem2 := hmem.add t2
      rw [List.cons_append] at hmem2
      have hm2 := hmem2.hd
      have hsm : (us ++ nil1 :: List.replicate q nil1).set i r = us ++ r :: List.replicate q nil1 := set_mid hul
      have hnl3 : i < (us ++ nil1 :: List.replicate q nil1).length := by simp; omega
      simp (maxSteps := 2000000) (disch := first | omega | assumption | exact idP rfl | exact idP (bL rfl)) only [go_sem, reduceIte, Nat.reduceEqDiff, e0, e3, e4, hm2, hr2, hsm]
      refine hK _ _ ⟨i + 1, us ++ [r], us' ++ [r'], fp ++ g, by omega, by simp (maxSteps := 2000000) (disch := first | omega | assumption | exact idP rfl | exact idP (bL rfl)) only [go_sem, reduceIte, Nat.reduceEqDiff], by simp (maxSteps := 2000000) (disch := first | omega | assumption | exact idP rfl | exact idP (bL rfl)) only [go_sem, reduceIte, Nat.reduceEqDiff], by simp (maxSteps := 2000000) (disch := first | omega | assumption | exact idP rfl | exact idP (bL rfl)) only [go_sem, reduceIte, Nat.reduceEqDiff]; rfl, htr.append t1, ?_, ?_, ?_, ?_⟩ (by simp (maxSteps := 2000000) (disch := first | omega | assumption | exact idP rfl | exact idP (bL rfl)) only [go_sem, reduceIte, Nat.reduceEqDiff, ctrV_int, e4]; omega)
      · have := hmem2.upd (l' := us ++ r :: List.replicate q nil1)
        simpa [show xs.length - (i + 1) = q by omega] using this
      · exact flatL_all.2 fun w hw => by
          rcases List.mem_append.1 hw with h1 | h1
          · exact flatL_all.1 hfl w h1
          · rw [List.mem_singleton] at h1; subst h1; exact t3
      · intro w hw
        rcases List.mem_append.1 hw with h1 | h1
        · exact hff w h1
        · exact t4 w h1
      · rw [take_snoc hi']
        exact hc.snoc hr
    · obtain rfl : i = xs.length := by omega
      rw [List.take_length] at hc
      simp (maxSteps := 2000000) (disch := first | omega | assumption | exact idP rfl | exact idP (bL rfl)) only [go_sem, reduceIte, Nat.reduceEqDiff, e3]
      simp only [Nat.sub_self, List.replicate_zero, List.append_nil] at hmem
      have hul' : us'.length = xs.length := hc.1
      refine hR _ _ ⟨⟨rfl, rfl⟩, .fs (some (b3, 0)) xs.length xs.length true 1 (us'.drop 0), (b3, us) :: (fp ++ []), .sl htr .nil, by simpa using hmem, by simp [flat], fun q hq => ?_, ?_⟩
      · simp only [List.append_nil, List.mem_cons] at hq
        rcases hq with rfl | h1
        · exact hfl
        · exact hff q h1
      · exact Fr.lsC (us := us') (.inr ⟨_, _, _, _, _, by rw [List.drop_zero], by omega⟩) hc
theorem d_toRule {cs : List V} {r : RuleS} (hv : isRuleX r cs) (hf : RuleFit r) : VCall Tryz.prog n_laws_toRule [.agg cs] M (fun r' M' => ∃ ds, r' = .agg ds ∧ ds.length = 3 ∧ ds.all oneV = true ∧ DnL M M' ds (isRule r)) := by
  refine VCall.plain fun R hR => v_laws_toRule rfl ?_
  obtain ⟨a, b, c, rfl, ha, hb, hc⟩ := hv
  obtain ⟨f1, f2, f3, f4⟩ := hf
  simp (maxSteps := 2000000) (disch := first | omega | assumption | exact idP rfl | exact idP (bL rfl)) only [go_sem, reduceIte, Nat.reduceEqDiff]
  intro b1 hb1
  try simp (maxSteps := 2000000) (disch := first | omega | assumption | exact idP rfl | exact idP (bL rfl)) only [go_sem, reduceIte, Nat.reduceEqDiff]
  intro b2 hb2
  try simp (maxSteps := 2000000) (disch := first | omega | assumption | exact idP rfl | exact idP (bL rfl)) only [go_sem, reduceIte, Nat.reduceEqDiff]
  intro b3 hb3
  have n21 := (fresh_set hb2).1
  have n32 := (fresh_set hb3).1
  have n31 := (fresh_set (fresh_set hb3).2).1
  have m0 := (((Mem.nil (Sub.refl M)).new1 hb1).new1 hb2).new1 (l := [.sc (.sl none 0 0 true 0), .sc (.sl none 0 0 true 0), .sc (.sl none 0 0 true 0)]) hb3
  simp (maxSteps := 2000000) (disch := first | omega | assumption | exact idP rfl | exact idP (bL rfl)) only [go_sem, reduceIte, Nat.reduceEqDiff]
  refine (d_toTermS ha f1).mono ?_
  rintro x M2 ⟨⟨hx1, hx2⟩, x', gx, tx, mx, fx, ffx, hx⟩
  have m1 := m0.add mx
  simp only [List.cons_append, List.nil_append] at m1
  have q1 := m1.hd
  have q2 := m1.tail.hd
  have q3 := m1.tail.tail.hd
  simp (maxSteps := 2000000) (disch := first | omega | assumption | exact idP rfl | exact idP (bL rfl)) only [go_sem, reduceIte, Nat.reduceEqDiff, q1, q2, q3, hx2]
  have m2 := m1.upd (l' := [x, nil1, nil1])
  simp only [nil1] at m2
  refine (d_toIntS hb f2).mono ?_
  rintro y M3 ⟨⟨hy1, hy2⟩, y', gy, ty, my, fy, ffy, hy⟩
  have m3 := m2.add my
  simp only [List.cons_append, List.nil_append] at m3
  have q1 := m3.hd
  have q2 := m3.tail.hd
  have q3 := m3.tail.tail.hd
  simp (maxSteps := 2000000) (disch := first | omega | assumption | exact idP rfl | exact idP (bL rfl)) only [go_sem, reduceIte, Nat.reduceEqDiff, q1, q2, q3, hy2]
  have m4 := m3.upd (l' := [x, y, nil1])
  simp only [nil1] at m4
  refine (d_toTermSS hc f3 f4).mono ?_
  rintro z M4 ⟨⟨hz1, hz2⟩, z', gz, tz, mz, fz, ffz, hz⟩
  have m5 := m4.add mz
  simp only [List.cons_append, List.nil_append] at m5
  have q1 := m5.hd
  have q2 := m5.tail.hd
  have q3 := m5.tail.tail.hd
  simp (maxSteps := 2000000) (disch := first | omega | assumption | exact idP rfl | exact idP (bL rfl)) only [go_sem, reduceIte, Nat.reduceEqDiff, q1, q2, q3, hz2]
  have m6 := (m5.upd (l' := [x, y, z])).perm (List.Perm.swap ..)
  have m7 := m6.upd (l' := [x, y, z])
  refine hR _ _ ⟨[x, y, z], rfl, rfl, by simp [hx1, hy1, hz1], [x', y', z'], gx ++ gy ++ gz, (tx.append ty).append tz, m7.tail.tail.tail, ?_, fun q hq => ?_, x', y', z', rfl, hx, hy, hz⟩
  · simp only [flatL]; exact ⟨fx, fy, fz, trivial⟩
  · rcases List.mem_append.1 hq with h1 | h1
    · rcases List.mem_append.1 h1 with h2 | h2
      · exact ffx q h2
      · exact ffy q h2
    · exact ffz q h1
theorem d_toRuleS {v : V} {xs : List RuleS} (hv : XR v xs) (hl : xs.length ≤ 1048576) (hx : ∀ r ∈ xs, RuleFit r) : VCall Tryz.prog n_laws_toRuleS [v] M (fun r M' => One r ∧ Dn M M' r (fun u => LR u xs)) := by
  refine VCall.plain fun R hR => v_laws_toRuleS rfl ?_
  have hlen := hv.len fun _ _ h => h.len
  have henc : ∀ x : T3, x.val.length = 3 := fun x => x.property
  simp (maxSteps := 2000000) (disch := first | omega | assumption | exact idP rfl | exact idP (bL rfl)) only [go_sem, reduceIte, Nat.reduceEqDiff, hlen]
  refine mks3 (by omega) (by simp [mostCells]; omega) (by simp [mostCells]; omega) ?_
  intro b3 hb3
  simp (maxSteps := 2000000) (disch := first | omega | assumption | exact idP rfl | exact idP (bL rfl)) only [go_sem, reduceIte, Nat.reduceEqDiff, zeros_cat (enc := fun x : T3 => x.val) (z := z3) (zs := [AV.sl none 0 0 true 0, AV.sl none 0 0 true 0, AV.sl none 0 0 true 0]) rfl]
  refine loop_k (fun e M' => ∃ (i : Nat) (us us' : List T3) (fp : List (Nat × List V)), i ≤ xs.length ∧ us.length = i ∧ us'.length = i ∧ e 0 = v ∧ e 3 = .sc (.sl (some (b3, 0)) xs.length xs.length true 3) ∧ e 4 = .sc (.int .i64 i) ∧ Tr (catV (fun x : T3 => x.val) us) (catV (fun x : T3 => x.val) us') fp ∧ Mem M M' ((b3, catV (fun x : T3 => x.val) us ++ catV (fun x : T3 => x.val) (List.replicate (xs.length - i) z3)) :: fp) ∧ flatL (catV (fun x : T3 => x.val) us) ∧ (∀ q ∈ fp, flatL q.2) ∧ ∀ j (h1 : j < xs.length) (h2 : j < us'.length), isRule xs[j] us'[j].val) (fun e _ => ctrV xs.length (e 4)) ?_ ?_
  · exact ⟨0, [], [], [], by omega, rfl, rfl, by simp (maxSteps := 2000000) (disch := first | omega | assumption | exact idP rfl | exact idP (bL rfl)) only [go_sem, reduceIte, Nat.reduceEqDiff], by simp (maxSteps := 2000000) (disch := first | omega | assumption | exact idP rfl | exact idP (bL rfl)) only [go_sem, reduceIte, Nat.reduceEqDiff], by simp (maxSteps := 2000000) (disch := first | omega | assumption | exact idP rfl | exact idP (bL rfl)) only [go_sem, reduceIte, Nat.reduceEqDiff]; rfl, .nil, by simpa [catV] using (Mem.nil (Sub.refl M)).new1 hb3, by simp [catV, flatL], fun q hq => (by cases hq), fun j _ h => by simp at h⟩
  · rintro e M1 ⟨i, us, us', fp, hi, hul, hul', e0, e3, e4, htr, hmem, hfl, hff, hc⟩ K hK
    have hm := hmem.hd
    simp (maxSteps := 2000000) (disch := first | omega | assumption | exact idP rfl | exact idP (bL rfl)) only [go_sem, reduceIte, Nat.reduceEqDiff, e0, e3, e4, hlen]
    refine cond_dec (fun h => ?_) (fun h => ?_)
    · have hi' : i < xs.length := by omega
      have hv' := hv.get (by omega)
      have hcs := hv'.elt hi'
      have hrule := hcs
      obtain ⟨c1, c2, c3, hat, _, _, _⟩ := hcs
      rw [hat] at hrule
      simp (maxSteps := 2000000) (disch := first | omega | assumption | exact idP rfl | exact idP (bL rfl)) only [go_sem, reduceIte, Nat.reduceEqDiff, e0, e3, e4, hv'.iaddr, hat]
      refine (d_toRule hrule (hx _ (List.getElem_mem hi'))).mono ?_
      rintro _ M2 ⟨ds, rfl, hd3, hd1, ds', g, t1, t2, t3, t4, hr⟩
      have hmem2 := hmem.add t2
      rw [List.cons_append] at hmem2
      have hm2 := hmem2.hd
      have hd3' : ds'.length = 3 := by rw [t1.len, hd3]
      simp (maxSteps := 2000000) (disch := first | omega | assumption | exact idP rfl | exact idP (bL rfl)) only [go_sem, reduceIte, Nat.reduceEqDiff, e0, e3, e4, hm2]
      refine ⟨hd3, hd1, ?_, ?_⟩
      · rw [List.length_append, catV_len henc, catV_len henc, hul, List.length_replicate]; omega
      rw [show xs.length - i = (xs.length - (i + 1)) + 1 by omega, cat_set (x := (⟨ds, hd3⟩ : T3)) henc (by rw [hul])]
      simp (maxSteps := 2000000) (disch := first | omega | assumption | exact idP rfl | exact idP (bL rfl)) only [go_sem, reduceIte, Nat.reduceEqDiff, e0, e3, e4]
      have hca : catV (fun x : T3 => x.val) (us ++ [⟨ds, hd3⟩]) = catV (fun x : T3 => x.val) us ++ ds := catV_snoc
      have hca' : catV (fun x : T3 => x.val) (us' ++ [⟨ds', hd3'⟩]) = catV (fun x : T3 => x.val) us' ++ ds' := catV_snoc
      refine hK _ _ ⟨i + 1, us ++ [⟨ds, hd3⟩], us' ++ [⟨ds', hd3'⟩], fp ++ g, by omega, by simp [hul], by simp [hul'], by simp (maxSteps := 2000000) (disch := first | omega | assumption | exact idP rfl | exact idP (bL rfl)) only [go_sem, reduceIte, Nat.reduceEqDiff], by simp (maxSteps := 2000000) (disch := first | omega | assumption | exact idP rfl | exact idP (bL rfl)) only [go_sem, reduceIte, Nat.reduceEqDiff], by simp (maxSteps := 2000000) (disch := first | omega | assumption | exact idP rfl | exact idP (bL rfl)) only [go_sem, reduceIte, Nat.reduceEqDiff]; rfl, ?_, ?_, ?_, ?_, fun j h1 h2 => ?_⟩ (by simp (maxSteps := 2000000) (disch := first | omega | assumption | exact idP rfl | exact idP (bL rfl)) only [go_sem, reduceIte, Nat.reduceEqDiff, ctrV_int, e4]; omega)
      · rw [hca, hca']; exact htr.append t1
      · exact hmem2.upd
      · rw [hca]
        exact flatL_all.2 fun w hw => by
          rcases List.mem_append.1 hw with h1 | h1
          · exact flatL_all.1 hfl w h1
          · exact flatL_all.1 t3 w h1
      · intro w hw
        rcases List.mem_append.1 hw with h1 | h1
        · exact hff w h1
        · exact t4 w h1
      · by_cases hj : j < us'.length
        · rw [List.getElem_append_left hj]; exact hc j h1 hj
        · obtain rfl : j = us'.length := by simp at h2; omega
          have e9 : us'.length = i := hul'
          simp only [List.getElem_append_right (Nat.le_refl _), Nat.sub_self, List.getElem_cons_zero]
          simp only [e9]
          exact hr
    · obtain rfl : i = xs.length := by omega
      simp (maxSteps := 2000000) (disch := first | omega | assumption | exact idP rfl | exact idP (bL rfl)) only [go_sem, reduceIte, Nat.reduceEqDiff, e3]
      have hcz : catV (fun x : T3 => x.val) (List.replicate (xs.length - xs.length) z3) = [] := by simp [catV]
      rw [hcz, List.append_nil] at hmem
      have hcl := catV_len henc us'
      refine hR _ _ ⟨⟨rfl, rfl⟩, .fs (some (b3, 0)) xs.length xs.length true 3 ((catV (fun x : T3 => x.val) us').drop 0), (b3, catV (fun x : T3 => x.val) us) :: (fp ++ []), .sl htr .nil, by simpa using hmem, by simp [flat], fun q hq => ?_, ?_⟩
      · simp only [List.append_nil, List.mem_cons] at hq
        rcases hq with rfl | h1
        · exact hfl
        · exact hff q h1
      · exact Fr.lc (l := catV (fun x : T3 => x.val) us') (.inr ⟨_, _, _, _, _, by rw [List.drop_zero], by rw [hcl, hul']⟩) (by omega) (by rw [hcl, hul']) fun j hj => by rw [catV_at henc (by omega)]; exact hc j hj (by omega)
theorem d_toSystem {v : V} {s : SysS} (hv : isSysX s v) (hf : SysFit s) : VCall Tryz.prog n_laws_toSystem [v] M (fun r' M' => ∃ x y, r' = .agg [x, y] ∧ One x ∧ One y ∧ DnL M M' [x, y] (fun l => ∃ x' y', l = [x', y'] ∧ LVar x' s.vars ∧ LR y' s.rules)) := by
  refine VCall.plain fun R hR => v_laws_toSystem rfl ?_
  obtain ⟨a, b, rfl, ha, hb⟩ := hv
  obtain ⟨f1, f2, f3⟩ := hf
  simp (maxSteps := 2000000) (disch := first | omega | assumption | exact idP rfl | exact idP (bL rfl)) only [go_sem, reduceIte, Nat.reduceEqDiff]
  intro b1 hb1
  try simp (maxSteps := 2000000) (disch := first | omega | assumption | exact idP rfl | exact idP (bL rfl)) only [go_sem, reduceIte, Nat.reduceEqDiff]
  intro b2 hb2
  try simp (maxSteps := 2000000) (disch := first | omega | assumption | exact idP rfl | exact idP (bL rfl)) only [go_sem, reduceIte, Nat.reduceEqDiff]
  intro b3 hb3
  have n21 := (fresh_set hb2).1
  have n32 := (fresh_set hb3).1
  have n31 := (fresh_set (fresh_set hb3).2).1
  have m0 := (((Mem.nil (Sub.refl M)).new1 hb1).new1 hb2).new1 (l := [.sc (.sl none 0 0 true 0), .sc (.sl none 0 0 true 0)]) hb3
  simp (maxSteps := 2000000) (disch := first | omega | assumption | exact idP rfl | exact idP (bL rfl)) only [go_sem, reduceIte, Nat.reduceEqDiff]
  refine (d_toVarS ha f1).mono ?_
  rintro x M2 ⟨⟨hx1, hx2⟩, x', gx, tx, mx, fx, ffx, hx⟩
  have m1 := m0.add mx
  simp only [List.cons_append, List.nil_append] at m1
  have q1 := m1.hd
  have q2 := m1.tail.hd
  have q3 := m1.tail.tail.hd
  simp (maxSteps := 2000000) (disch := first | omega | assumption | exact idP rfl | exact idP (bL rfl)) only [go_sem, reduceIte, Nat.reduceEqDiff, q1, q2, q3, hx2]
  have m2 := m1.upd (l' := [x, nil1])
  simp only [nil1] at m2
  refine (d_toRuleS hb f2 f3).mono ?_
  rintro y M3 ⟨⟨hy1, hy2⟩, y', gy, ty, my, fy, ffy, hy⟩
  have m3 := m2.add my
  simp only [List.cons_append, List.nil_append] at m3
  have q1 := m3.hd
  have q2 := m3.tail.hd
  have q3 := m3.tail.tail.hd
  simp (maxSteps := 2000000) (disch := first | omega | assumption | exact idP rfl | exact idP (bL rfl)) only [go_sem, reduceIte, Nat.reduceEqDiff, q1, q2, q3, hy2]
  have m6 := (m3.upd (l' := [x, y])).perm (List.Perm.swap ..)
  have m7 := m6.upd (l' := [x, y])
  refine hR _ _ ⟨x, y, rfl, ⟨hx1, hx2⟩, ⟨hy1, hy2⟩, [x', y'], gx ++ gy, tx.append ty, m7.tail.tail.tail, ?_, fun q hq => ?_, x', y', rfl, hx, hy⟩
  · simp only [flatL]; exact ⟨fx, fy, trivial⟩
  · rcases List.mem_append.1 hq with h2 | h2
    · exact ffx q h2
    · exact ffy q h2
end Go.M2

namespace Go.M2
open Go.Proofs
variable {M : MH}
def LfM (sz : Nat) (M : MH) (v : V) (ok : Nat → Prop) : Prop := (∃ q, v = .sc (.sl none 0 0 true q)) ∨ ∃ b o n c ex kk l, v = .sc (.sl (some (b, o)) n c ex kk) ∧ M b = some l ∧ (0 < n → o + n * sz ≤ l.length) ∧ n ≤ 1048576 ∧ ok b
def mkPost (M : MH) (k d : Int) (ok : Nat → Prop) : V → MH → Prop := fun r M' => ∃ k' : Int, r = .sc (.int .i64 k') ∧ k ≤ k' ∧ k' ≤ k + d ∧ ∀ q, ¬ ok q → M' q = M q
theorem t_markIntS {v : V} {k : Int} {ok : Nat → Prop} (hv : LfM 1 M v ok) (hk : 0 ≤ k) (hk2 : k ≤ 9000000000000000000) : VCall Tryz.prog n_laws_markIntS [v, .sc (.int .i64 k)] M (mkPost M k 1048576 ok) := by
  refine VCall.plain fun R hR => v_laws_markIntS rfl ?_
  rcases hv with ⟨q, rfl⟩ | ⟨b, o, n, c, ex, kk, l, rfl, hm, hl, hn, hok⟩
  · simp (maxSteps := 2000000) (disch := first | omega | assumption | exact idP rfl | exact idP (bL rfl)) only [go_sem, reduceIte, Nat.reduceEqDiff]
    refine loop_k (fun e M' => M' = M ∧ e 0 = .sc (.sl none 0 0 true q) ∧ e 1 = .sc (.int .i64 k) ∧ e 5 = .sc (.int .i64 0)) (fun e _ => 0) ⟨rfl, by simp (maxSteps := 2000000) (disch := first | omega | assumption | exact idP rfl | exact idP (bL rfl)) only [go_sem, reduceIte, Nat.reduceEqDiff], by simp (maxSteps := 2000000) (disch := first | omega | assumption | exact idP rfl | exact idP (bL rfl)) only [go_sem, reduceIte, Nat.reduceEqDiff], by simp (maxSteps := 2000000) (disch := first | omega | assumption | exact idP rfl | exact idP (bL rfl)) only [go_sem, reduceIte, Nat.reduceEqDiff]⟩ ?_
    rintro e _ ⟨rfl, e0, e1, e5⟩ K hK
    simp (maxSteps := 2000000) (disch := first | omega | assumption | exact idP rfl | exact idP (bL rfl)) only [go_sem, reduceIte, Nat.reduceEqDiff, e0, e1, e5]
    exact hR _ _ ⟨k, rfl, by omega, by omega, fun q _ => rfl⟩
  · simp (maxSteps := 2000000) (disch := first | omega | assumption | exact idP rfl | exact idP (bL rfl)) only [go_sem, reduceIte, Nat.reduceEqDiff]
    refine loop_k (fun e M' => ∃ (i : Nat) (l' : List V), i ≤ n ∧ e 0 = .sc (.sl (some (b, o)) n c ex kk) ∧ e 1 = .sc (.int .i64 (k + i)) ∧ e 5 = .sc (.int .i64 i) ∧ (∀ q, q ≠ b → M' q = M q) ∧ M' b = some l' ∧ l'.length = l.length) (fun e _ => ctrV n (e 5)) ?_ ?_
    · exact ⟨0, l, by omega, by simp (maxSteps := 2000000) (disch := first | omega | assumption | exact idP rfl | exact idP (bL rfl)) only [go_sem, reduceIte, Nat.reduceEqDiff], by simp (maxSteps := 2000000) (disch := first | omega | assumption | exact idP rfl | exact idP (bL rfl)) only [go_sem, reduceIte, Nat.reduceEqDiff]; simp, by simp (maxSteps := 2000000) (disch := first | omega | assumption | exact idP rfl | exact idP (bL rfl)) only [go_sem, reduceIte, Nat.reduceEqDiff]; rfl, fun _ _ => rfl, hm, rfl⟩
    · rintro e M1 ⟨i, l', hi, e0, e1, e5, hq, hm1, hl1⟩ K hK
      simp (maxSteps := 2000000) (disch := first | omega | assumption | exact idP rfl | exact idP (bL rfl)) only [go_sem, reduceIte, Nat.reduceEqDiff, e0, e1, e5]
      refine cond_dec (fun h => ?_) (fun h => ?_)
      · have hl := hl (by omega)
        have hso : o + i * 1 < l'.length := by omega
        have hso2 : o + i < l'.length := by omega
        simp (maxSteps := 2000000) (disch := first | omega | assumption | exact idP rfl | exact idP (bL rfl)) only [go_sem, reduceIte, Nat.reduceEqDiff, e0, e1, e5, hm1]
        exact hK _ _ ⟨i + 1, _, by omega, by simp (maxSteps := 2000000) (disch := first | omega | assumption | exact idP rfl | exact idP (bL rfl)) only [go_sem, reduceIte, Nat.reduceEqDiff, e0], by simp (maxSteps := 2000000) (disch := first | omega | assumption | exact idP rfl | exact idP (bL rfl)) only [go_sem, reduceIte, Nat.reduceEqDiff]; rw [Int.natCast_add, Int.add_assoc]; rfl, by simp (maxSteps := 2000000) (disch := first | omega | assumption | exact idP rfl | exact idP (bL rfl)) only [go_sem, reduceIte, Nat.reduceEqDiff]; rfl, fun q hqb => by rw [set_ne hqb]; exact hq q hqb, set_same, by simp [hl1]⟩ (by simp (maxSteps := 2000000) (disch := first | omega | assumption | exact idP rfl | exact idP (bL rfl)) only [go_sem, reduceIte, Nat.reduceEqDiff, ctrV_int, e5]; omega)
      · obtain rfl : i = n := by omega
        simp (maxSteps := 2000000) (disch := first | omega | assumption | exact idP rfl | exact idP (bL rfl)) only [go_sem, reduceIte, Nat.reduceEqDiff, e1]
        exact hR _ _ ⟨_, rfl, by omega, by omega, fun q hq1 => hq q fun e => hq1 (by rw [e]; exact hok)⟩
theorem t_markVarS {v : V} {k : Int} {ok : Nat → Prop} (hv : LfM 3 M v ok) (hk : 0 ≤ k) (hk2 : k ≤ 9000000000000000000) : VCall Tryz.prog n_laws_markVarS [v, .sc (.int .i64 k)] M (mkPost M k 3145728 ok) := by
  refine VCall.plain fun R hR => v_laws_markVarS rfl ?_
  rcases hv with ⟨q, rfl⟩ | ⟨b, o, n, c, ex, kk, l, rfl, hm, hl, hn, hok⟩
  · simp (maxSteps := 2000000) (disch := first | omega | assumption | exact idP rfl | exact idP (bL rfl)) only [go_sem, reduceIte, Nat.reduceEqDiff]
    refine loop_k (fun e M' => M' = M ∧ e 0 = .sc (.sl none 0 0 true q) ∧ e 1 = .sc (.int .i64 k) ∧ e 5 = .sc (.int .i64 0)) (fun e _ => 0) ⟨rfl, by simp (maxSteps := 2000000) (disch := first | omega | assumption | exact idP rfl | exact idP (bL rfl)) only [go_sem, reduceIte, Nat.reduceEqDiff], by simp (maxSteps := 2000000) (disch := first | omega | assumption | exact idP rfl | exact idP (bL rfl)) only [go_sem, reduceIte, Nat.reduceEqDiff], by simp (maxSteps := 2000000) (disch := first | omega | assumption | exact idP rfl | exact idP (bL rfl)) only [go_sem, reduceIte, Nat.reduceEqDiff]⟩ ?_
    rintro e _ ⟨rfl, e0, e1, e5⟩ K hK
    simp (maxSteps := 2000000) (disch := first | omega | assumption | exact idP rfl | exact idP (bL rfl)) only [go_sem, reduceIte, Nat.reduceEqDiff, e0, e1, e5]
    exact hR _ _ ⟨k, rfl, by omega, by omega, fun q _ => rfl⟩
  · simp (maxSteps := 2000000) (disch := first | omega | assumption | exact idP rfl | exact idP (bL rfl)) only [go_sem, reduceIte, Nat.reduceEqDiff]
    refine loop_k (fun e M' => ∃ (i : Nat) (l' : List V), i ≤ n ∧ e 0 = .sc (.sl (some (b, o)) n c ex kk) ∧ e 1 = .sc (.int .i64 (k + 3 * i)) ∧ e 5 = .sc (.int .i64 i) ∧ (∀ q, q ≠ b → M' q = M q) ∧ M' b = some l' ∧ l'.length = l.length) (fun e _ => ctrV n (e 5)) ?_ ?_
    · exact ⟨0, l, by omega, by simp (maxSteps := 2000000) (disch := first | omega | assumption | exact idP rfl | exact idP (bL rfl)) only [go_sem, reduceIte, Nat.reduceEqDiff], by simp (maxSteps := 2000000) (disch := first | omega | assumption | exact idP rfl | exact idP (bL rfl)) only [go_sem, reduceIte, Nat.reduceEqDiff]; simp, by simp (maxSteps := 2000000) (disch := first | omega | assumption | exact idP rfl | exact idP (bL rfl)) only [go_sem, reduceIte, Nat.reduceEqDiff]; rfl, fun _ _ => rfl, hm, rfl⟩
    · rintro e M1 ⟨i, l', hi, e0, e1, e5, hq, hm1, hl1⟩ K hK
      simp (maxSteps := 2000000) (disch := first | omega | assumption | exact idP rfl | exact idP (bL rfl)) only [go_sem, reduceIte, Nat.reduceEqDiff, e0, e1, e5]
      refine cond_dec (fun h => ?_) (fun h => ?_)
      · have hl := hl (by omega)
        have hso : o + i * 3 < l'.length := by omega
        have hso2 : ∀ x, o + i * 3 + 1 < (l'.set (o + i * 3) x).length := fun x => by rw [List.length_set]; omega
        have hso3 : ∀ x y, o + i * 3 + 2 < ((l'.set (o + i * 3) x).set (o + i * 3 + 1) y).length := fun x y => by rw [List.length_set, List.length_set]; omega
        have hs2 := hso2 (.sc (.int .i64 (k + 3 * (i : Int))))
        have hs3 := hso3 (.sc (.int .i64 (k + 3 * (i : Int)))) (.sc (.int .i64 (k + 3 * (i : Int) + 1)))
        simp (maxSteps := 2000000) (disch := first | omega | assumption | exact idP rfl | exact idP (bL rfl)) only [go_sem, reduceIte, Nat.reduceEqDiff, e0, e1, e5, hm1]
        exact hK _ _ ⟨i + 1, _, by omega, by simp (maxSteps := 2000000) (disch := first | omega | assumption | exact idP rfl | exact idP (bL rfl)) only [go_sem, reduceIte, Nat.reduceEqDiff, e0], by simp (maxSteps := 2000000) (disch := first | omega | assumption | exact idP rfl | exact idP (bL rfl)) only [go_sem, reduceIte, Nat.reduceEqDiff]; congr 2; omega, by simp (maxSteps := 2000000) (disch := first | omega | assumption | exact idP rfl | exact idP (bL rfl)) only [go_sem, reduceIte, Nat.reduceEqDiff]; rfl, fun q hqb => by simp only [MH.set, if_neg hqb]; exact hq q hqb, set_same, by simp [hl1]⟩ (by simp (maxSteps := 2000000) (disch := first | omega | assumption | exact idP rfl | exact idP (bL rfl)) only [go_sem, reduceIte, Nat.reduceEqDiff, ctrV_int, e5]; omega)
      · obtain rfl : i = n := by omega
        simp (maxSteps := 2000000) (disch := first | omega | assumption | exact idP rfl | exact idP (bL rfl)) only [go_sem, reduceIte, Nat.reduceEqDiff, e1]
        exact hR _ _ ⟨_, rfl, by omega, by omega, fun q hq1 => hq q fun e => hq1 (by rw [e]; exact hok)⟩
theorem t_markTermS {v : V} {k : Int} {ok : Nat → Prop} (hv : LfM 4 M v ok) (hk : 0 ≤ k) (hk2 : k ≤ 9000000000000000000) : VCall Tryz.prog n_laws_markTermS [v, .sc (.int .i64 k)] M (mkPost M k 4194304 ok) := by
  refine VCall.plain fun R hR => v_laws_markTermS rfl ?_
  rcases hv with ⟨q, rfl⟩ | ⟨b, o, n, c, ex, kk, l, rfl, hm, hl, hn, hok⟩
  · simp (maxSteps := 2000000) (disch := first | omega | assumption | exact idP rfl | exact idP (bL rfl)) only [go_sem, reduceIte, Nat.reduceEqDiff]
    refine loop_k (fun e M' => M' = M ∧ e 0 = .sc (.sl none 0 0 true q) ∧ e 1 = .sc (.int .i64 k) ∧ e 5 = .sc (.int .i64 0)) (fun e _ => 0) ⟨rfl, by simp (maxSteps := 2000000) (disch := first | omega | assumption | exact idP rfl | exact idP (bL rfl)) only [go_sem, reduceIte, Nat.reduceEqDiff], by simp (maxSteps := 2000000) (disch := first | omega | assumption | exact idP rfl | exact idP (bL rfl)) only [go_sem, reduceIte, Nat.reduceEqDiff], by simp (maxSteps := 2000000) (disch := first | omega | assumption | exact idP rfl | exact idP (bL rfl)) only [go_sem, reduceIte, Nat.reduceEqDiff]⟩ ?_
    rintro e _ ⟨rfl, e0, e1, e5⟩ K hK
    simp (maxSteps := 2000000) (disch := first | omega | assumption | exact idP rfl | exact idP (bL rfl)) only [go_sem, reduceIte, Nat.reduceEqDiff, e0, e1, e5]
    exact hR _ _ ⟨k, rfl, by omega, by omega, fun q _ => rfl⟩
  · simp (maxSteps := 2000000) (disch := first | omega | assumption | exact idP rfl | exact idP (bL rfl)) only [go_sem, reduceIte, Nat.reduceEqDiff]
    refine loop_k (fun e M' => ∃ (i : Nat) (l' : List V), i ≤ n ∧ e 0 = .sc (.sl (some (b, o)) n c ex kk) ∧ e 1 = .sc (.int .i64 (k + 4 * i)) ∧ e 5 = .sc (.int .i64 i) ∧ (∀ q, q ≠ b → M' q = M q) ∧ M' b = some l' ∧ l'.length = l.length) (fun e _ => ctrV n (e 5)) ?_ ?_
    · exact ⟨0, l, by omega, by simp (maxSteps := 2000000) (disch := first | omega | assumption | exact idP rfl | exact idP (bL rfl)) only [go_sem, reduceIte, Nat.reduceEqDiff], by simp (maxSteps := 2000000) (disch := first | omega | assumption | exact idP rfl | exact idP (bL rfl)) only [go_sem, reduceIte, Nat.reduceEqDiff]; simp, by simp (maxSteps := 2000000) (disch := first | omega | assumption | exact idP rfl | exact idP (bL rfl)) only [go_sem, reduceIte, Nat.reduceEqDiff]; rfl, fun _ _ => rfl, hm, rfl⟩
    · rintro e M1 ⟨i, l', hi, e0, e1, e5, hq, hm1, hl1⟩ K hK
      simp (maxSteps := 2000000) (disch := first | omega | assumption | exact idP rfl | exact idP (bL rfl)) only [go_sem, reduceIte, Nat.reduceEqDiff, e0, e1, e5]
      refine cond_dec (fun h => ?_) (fun h => ?_)
      · have hl := hl (by omega)
        have hso : o + i * 4 < l'.length := by omega
        have hso2 : ∀ x, o + i * 4 + 1 < (l'.set (o + i * 4) x).length := fun x => by rw [List.length_set]; omega
        have hso3 : ∀ x y, o + i * 4 + 2 < ((l'.set (o + i * 4) x).set (o + i * 4 + 1) y).length := fun x y => by rw [List.length_set, List.length_set]; omega
        have hso4 : ∀ x y z, o + i * 4 + 3 < (((l'.set (o + i * 4) x).set (o + i * 4 + 1) y).set (o + i * 4 + 2) z).length := fun x y z => by rw [List.length_set, List.length_set, List.length_set]; omega
        have hs2 := hso2 (.sc (.int .i64 (k + 4 * (i : Int))))
        have hs3 := hso3 (.sc (.int .i64 (k + 4 * (i : Int)))) (.sc (.int .i64 (k + 4 * (i : Int) + 1)))
        have hs4 := hso4 (.sc (.int .i64 (k + 4 * (i : Int)))) (.sc (.int .i64 (k + 4 * (i : Int) + 1))) (.sc (.int .i64 (k + 4 * (i : Int) + 1 + 1)))
        simp (maxSteps := 2000000) (disch := first | omega | assumption | exact idP rfl | exact idP (bL rfl)) only [go_sem, reduceIte, Nat.reduceEqDiff, e0, e1, e5, hm1]
        exact hK _ _ ⟨i + 1, _, by omega, by simp (maxSteps := 2000000) (disch := first | omega | assumption | exact idP rfl | exact idP (bL rfl)) only [go_sem, reduceIte, Nat.reduceEqDiff, e0], by simp (maxSteps := 2000000) (disch := first | omega | assumption | exact idP rfl | exact idP (bL rfl)) only [go_sem, reduceIte, Nat.reduceEqDiff]; congr 2; omega, by simp (maxSteps := 2000000) (disch := first | omega | assumption | exact idP rfl | exact idP (bL rfl)) only [go_sem, reduceIte, Nat.reduceEqDiff]; rfl, fun q hqb => by simp only [MH.set, if_neg hqb]; exact hq q hqb, set_same, by simp [hl1]⟩ (by simp (maxSteps := 2000000) (disch := first | omega | assumption | exact idP rfl | exact idP (bL rfl)) only [go_sem, reduceIte, Nat.reduceEqDiff, ctrV_int, e5]; omega)
      · obtain rfl : i = n := by omega
        simp (maxSteps := 2000000) (disch := first | omega | assumption | exact idP rfl | exact idP (bL rfl)) only [go_sem, reduceIte, Nat.reduceEqDiff, e1]
        exact hR _ _ ⟨_, rfl, by omega, by omega, fun q hq1 => hq q fun e => hq1 (by rw [e]; exact hok)⟩
end Go.M2

namespace Go.M2
open Go.Proofs
variable {M : MH}
theorem Tr.inv1 {x : V} {l' : List V} {fp : List (Nat × List V)} (h : Tr [x] l' fp) : (l' = [x] ∧ fp = []) ∨ (∃ b o n c ex k cs cs' g, x = .sc (.sl (some (b, o)) n c ex k) ∧ l' = [.fs (some (b, o)) n c ex k (cs'.drop o)] ∧ Tr cs cs' g ∧ fp = (b, cs) :: g) ∨ (∃ a a', l' = [V.agg a'] ∧ x = .agg a) ∨ (∃ a a', l' = [V.tup a'] ∧ x = .tup a) := by
  cases h with
  | keep v h1 => cases h1; exact .inl ⟨rfl, rfl⟩
  | sl h1 h2 => cases h2; exact .inr (.inl ⟨_, _, _, _, _, _, _, _, _, rfl, rfl, h1, by simp⟩)
  | agg h1 h2 => cases h2; exact .inr (.inr (.inl ⟨_, _, rfl, rfl⟩))
  | tup h1 h2 => cases h2; exact .inr (.inr (.inr ⟨_, _, rfl, rfl⟩))
theorem Tr.uncons {x : V} {t l' : List V} {fp : List (Nat × List V)} (h : Tr (x :: t) l' fp) : ∃ x' t' f1 f2, l' = x' :: t' ∧ fp = f1 ++ f2 ∧ Tr [x] [x'] f1 ∧ Tr t t' f2 := by
  obtain ⟨a', b', f1, f2, rfl, rfl, h1, h2⟩ := Tr.split (a := [x]) (b := t) (b' := []) (by simpa using h)
  have := h1.len
  match a', this with
  | [x'], _ => exact ⟨x', b', f1, f2, rfl, rfl, h1, h2⟩
theorem Tr.win {x x' : V} {fp : List (Nat × List V)} {sz : Nat} {α : Type} {E : α → List V → Prop} {ys : List α} (h : Tr [x] [x'] fp) (hf : flat x) (hx : Lc sz E x' ys) :
    (∃ q, x = .sc (.sl none 0 0 true q) ∧ ys = []) ∨ ∃ b o c ex k cs cs' g, x = .sc (.sl (some (b, o)) ys.length c ex k) ∧ Tr cs cs' g ∧ fp = (b, cs) :: g ∧ (0 < ys.length * sz → o + ys.length * sz ≤ cs.length) ∧ ∀ i (hi : i < ys.length), E ys[i] ((cs'.drop (o + i * sz)).take sz) := by
  rcases h.inv1 with ⟨h1, h2⟩ | ⟨b, o, n, c, ex, k, cs, cs', g, rfl, h1, h2, rfl⟩ | ⟨a, a', h1, rfl⟩ | ⟨a, a', h1, rfl⟩
  · rw [List.cons.injEq] at h1
    obtain ⟨rfl, _⟩ := h1
    rcases hx with ⟨rfl, q, rfl⟩ | ⟨A, c, ex, k, zs, rfl, _⟩
    · exact .inl ⟨q, rfl, rfl⟩
    · simp [flat] at hf
  · rw [List.cons.injEq] at h1
    obtain ⟨rfl, _⟩ := h1
    rcases hx with ⟨_, q, h3⟩ | ⟨A, c2, ex2, k2, zs, h3, h4, h5⟩
    · cases h3
    · injection h3 with e1 e2 e3 e4 e5 e6
      subst e2 e6
      refine .inr ⟨b, o, c, ex, k, cs, cs', g, rfl, h2, rfl, ?_, fun i hi => ?_⟩
      · have := h2.len
        rw [List.length_drop] at h4
        intro h0
        omega
      · have := h5 i hi
        simpa [atN, List.drop_drop, Nat.add_comm] using this
  · rw [List.cons.injEq] at h1
    obtain ⟨rfl, _⟩ := h1
    rcases hx with ⟨_, q, h3⟩ | ⟨A, c2, ex2, k2, zs, h3, _⟩ <;> cases h3
  · rw [List.cons.injEq] at h1
    obtain ⟨rfl, _⟩ := h1
    rcases hx with ⟨_, q, h3⟩ | ⟨A, c2, ex2, k2, zs, h3, _⟩ <;> cases h3
theorem ls_lc {α : Type} {E : α → V → Prop} {v : V} {ys : List α} (h : Ls E v ys) : Lc 1 (fun a cs => ∃ u, cs = [u] ∧ E a u) v ys := by
  rcases h with h | ⟨A, c, ex, k, xs, rfl, hl, h⟩
  · exact .inl h
  · refine .inr ⟨A, c, ex, k, xs, rfl, by omega, fun i hi => ?_⟩
    have h2 := h i hi
    have h3 : i < xs.length := by omega
    refine ⟨xs[i], ?_, by simpa [at1, List.getD, h3] using h2⟩
    simp only [atN, Nat.mul_one]
    rw [List.drop_eq_getElem_cons h3, List.take_succ_cons, List.take_zero]
theorem inF_mem {fp : List (Nat × List V)} {p : Nat × List V} (h : p ∈ fp) : inF fp p.1 = true := inF_iff.2 ⟨p.2, h⟩
theorem inF_append {f g : List (Nat × List V)} {q : Nat} : inF (f ++ g) q = (inF f q || inF g q) := by simp [inF]
theorem leaf_of {sz : Nat} {x x' : V} {fp : List (Nat × List V)} {α : Type} {E : α → List V → Prop} {ys : List α} {M : MH} (h : Tr [x] [x'] fp) (hf : flat x) (hx : Lc sz E x' ys) (hs : 0 < sz) (hl : ys.length ≤ 1048576) (hm : ∀ p ∈ fp, M p.1 = some p.2) : LfM sz M x (fun q => inF fp q = true) := by
  rcases h.win hf hx with ⟨q, rfl, _⟩ | ⟨b, o, c, ex, k, cs, cs', g, rfl, h2, rfl, h3, _⟩
  · exact .inl ⟨q, rfl⟩
  · exact .inr ⟨b, o, ys.length, c, ex, k, cs, rfl, hm (b, cs) (List.mem_cons_self ..), fun h0 => h3 (Nat.mul_pos h0 hs), hl, inF_mem (p := (b, cs)) (List.mem_cons_self ..)⟩
theorem nd_hd {b : Nat} {cs : List V} {g : List (Nat × List V)} (h : Nd2 ((b, cs) :: g)) : inF g b = false ∧ Nd2 g := by
  have hn : (b :: g.map (·.1)).Nodup := h
  obtain ⟨n1, n2⟩ := List.nodup_cons.1 hn
  refine ⟨?_, n2⟩
  cases hb : inF g b with
  | false => rfl
  | true =>
    obtain ⟨l, hl⟩ := inF_iff.1 hb
    exact absurd (List.mem_map_of_mem hl) n1
theorem nd_sep {f g : List (Nat × List V)} (h : Nd2 (f ++ g)) {p : Nat × List V} (hp : p ∈ g) : inF f p.1 = false := by
  cases hb : inF f p.1 with
  | false => rfl
  | true =>
    obtain ⟨l, hl⟩ := inF_iff.1 hb
    have h1 := (Nd2.append h).2.2 _ hl
    simp only at h1
    rw [inF_mem hp] at h1; cases h1
theorem take_one {cs : List V} {j : Nat} (h : j < cs.length) : cs.take (j + 1) = cs.take j ++ [cs[j]] := List.take_succ_eq_append_getElem h
theorem t_markTermSS {v v' : V} {fp : List (Nat × List V)} {tss : List (List TermS)} {k : Int} (ht : Tr [v] [v'] fp) (hf : flat v) (hff : ∀ q ∈ fp, flatL q.2) (hv : LTT v' tss) (hn : Nd2 fp) (hm : ∀ p ∈ fp, M p.1 = some p.2) (hl : tss.length ≤ 1048576) (hl2 : ∀ ts ∈ tss, ts.length ≤ 1048576) (hk : 0 ≤ k) (hk2 : k ≤ 8900000000000000000) :
    VCall Tryz.prog n_laws_markTermSS [v, .sc (.int .i64 k)] M (mkPost M k 4398046511104 (fun q => inF fp q = true)) := by
  refine VCall.plain fun R hR => v_laws_markTermSS rfl ?_
  rcases ht.win hf (ls_lc hv) with ⟨q, rfl, rfl⟩ | ⟨b, o, c, ex, kk, cs, cs', g, rfl, h2, rfl, h3, h4⟩
  · simp (maxSteps := 2000000) (disch := first | omega | assumption | exact idP rfl | exact idP (bL rfl)) only [go_sem, reduceIte, Nat.reduceEqDiff]
    refine loop_k (fun e M' => M' = M ∧ e 0 = .sc (.sl none 0 0 true q) ∧ e 1 = .sc (.int .i64 k) ∧ e 5 = .sc (.int .i64 0)) (fun e _ => 0) ⟨rfl, by simp (maxSteps := 2000000) (disch := first | omega | assumption | exact idP rfl | exact idP (bL rfl)) only [go_sem, reduceIte, Nat.reduceEqDiff], by simp (maxSteps := 2000000) (disch := first | omega | assumption | exact idP rfl | exact idP (bL rfl)) only [go_sem, reduceIte, Nat.reduceEqDiff], by simp (maxSteps := 2000000) (disch := first | omega | assumption | exact idP rfl | exact idP (bL rfl)) only [go_sem, reduceIte, Nat.reduceEqDiff]⟩ ?_
    rintro e _ ⟨rfl, e0, e1, e5⟩ K hK
    simp (maxSteps := 2000000) (disch := first | omega | assumption | exact idP rfl | exact idP (bL rfl)) only [go_sem, reduceIte, Nat.reduceEqDiff, e0, e1, e5]
    exact hR _ _ ⟨k, rfl, by omega, by omega, fun q _ => rfl⟩
  · obtain ⟨hbg, hng⟩ := nd_hd hn
    have hmb : M b = some cs := hm (b, cs) (List.mem_cons_self ..)
    have hmg : ∀ p ∈ g, M p.1 = some p.2 := fun p hp => hm p (List.mem_cons_of_mem _ hp)
    have hfc : flatL cs := hff (b, cs) (List.mem_cons_self ..)
    have hgo : ∀ q, inF g q = true → inF ((b, cs) :: g) q = true := fun q hq => by
      obtain ⟨l, hl⟩ := inF_iff.1 hq
      exact inF_iff.2 ⟨l, List.mem_cons_of_mem _ hl⟩
    simp (maxSteps := 2000000) (disch := first | omega | assumption | exact idP rfl | exact idP (bL rfl)) only [go_sem, reduceIte, Nat.reduceEqDiff]
    refine loop_k (fun e M' => ∃ (i : Nat) (k' : Int) (g1 g2 : List (Nat × List V)) (l1 l2 : List V), i ≤ tss.length ∧ e 0 = .sc (.sl (some (b, o)) tss.length c ex kk) ∧ e 1 = .sc (.int .i64 k') ∧ e 5 = .sc (.int .i64 i) ∧ k ≤ k' ∧ k' ≤ k + 4194304 * i ∧ Tr (cs.take (o + i)) l1 g1 ∧ Tr (cs.drop (o + i)) l2 g2 ∧ g = g1 ++ g2 ∧ cs' = l1 ++ l2 ∧ ∀ q, inF g1 q = false → M' q = M q) (fun e _ => ctrV tss.length (e 5)) ?_ ?_
    · obtain ⟨l1, l2, g1, g2, rfl, rfl, h5, h6⟩ := Tr.split (a := cs.take o) (b := cs.drop o) (b' := []) (by rw [List.take_append_drop]; exact h2)
      exact ⟨0, k, g1, g2, l1, l2, by omega, by simp (maxSteps := 2000000) (disch := first | omega | assumption | exact idP rfl | exact idP (bL rfl)) only [go_sem, reduceIte, Nat.reduceEqDiff], by simp (maxSteps := 2000000) (disch := first | omega | assumption | exact idP rfl | exact idP (bL rfl)) only [go_sem, reduceIte, Nat.reduceEqDiff], by simp (maxSteps := 2000000) (disch := first | omega | assumption | exact idP rfl | exact idP (bL rfl)) only [go_sem, reduceIte, Nat.reduceEqDiff]; rfl, by omega, by omega, h5, h6, rfl, rfl, fun _ _ => rfl⟩
    · rintro e M1 ⟨i, k', g1, g2, l1, l2, hi, e0, e1, e5, k1, k2, t1, t2, rfl, rfl, hq⟩ K hK
      simp (maxSteps := 2000000) (disch := first | omega | assumption | exact idP rfl | exact idP (bL rfl)) only [go_sem, reduceIte, Nat.reduceEqDiff, e0, e1, e5]
      refine cond_dec (fun h => ?_) (fun h => ?_)
      · have hi' : i < tss.length := by omega
        have h3 := h3 (by omega)
        have hj : o + i < cs.length := by omega
        have hcx : cs[o + i]? = some cs[o + i] := List.getElem?_eq_getElem hj
        have hcx2 : cs[o + i * 1]? = some cs[o + i] := by rw [Nat.mul_one]; exact hcx
        rw [List.drop_eq_getElem_cons hj] at t2
        obtain ⟨x', r', gx, gr, rfl, rfl, t3, t4⟩ := t2.uncons
        have hl1 : l1.length = o + i := by rw [t1.len, List.length_take]; omega
        obtain ⟨u, h5, h6⟩ := h4 i hi'
        rw [Nat.mul_one, List.drop_left' hl1, List.take_succ_cons, List.take_zero, List.cons.injEq] at h5
        obtain ⟨rfl, _⟩ := h5
        have hb1 : M1 b = some cs := by
          rw [hq b (by rw [inF_append] at hbg; simp only [Bool.or_eq_false_iff] at hbg; exact hbg.1)]; exact hmb
        simp (maxSteps := 2000000) (disch := first | omega | assumption | exact idP rfl | exact idP (bL rfl)) only [go_sem, reduceIte, Nat.reduceEqDiff, e0, e1, e5, hb1, hcx, hcx2]
        refine (t_markTermS (leaf_of t3 (flatL_all.1 hfc _ (List.getElem_mem hj)) h6 (by omega) (hl2 _ (List.getElem_mem hi')) (fun p hp => ?_)) (by omega) (by omega)).mono ?_
        · rw [hq p.1 (nd_sep hng (List.mem_append_left _ hp))]
          exact hmg p (List.mem_append_right _ (List.mem_append_left _ hp))
        · rintro _ M2 ⟨k3, rfl, p1, p2, p3⟩
          simp (maxSteps := 2000000) (disch := first | omega | assumption | exact idP rfl | exact idP (bL rfl)) only [go_sem, reduceIte, Nat.reduceEqDiff, e0, e1, e5]
          refine hK _ _ ⟨i + 1, k3, g1 ++ gx, gr, l1 ++ [x'], r', by omega, by simp (maxSteps := 2000000) (disch := first | omega | assumption | exact idP rfl | exact idP (bL rfl)) only [go_sem, reduceIte, Nat.reduceEqDiff, e0], by simp (maxSteps := 2000000) (disch := first | omega | assumption | exact idP rfl | exact idP (bL rfl)) only [go_sem, reduceIte, Nat.reduceEqDiff], by simp (maxSteps := 2000000) (disch := first | omega | assumption | exact idP rfl | exact idP (bL rfl)) only [go_sem, reduceIte, Nat.reduceEqDiff]; rfl, by omega, by omega, ?_, t4, by simp, by simp, fun q hq2 => ?_⟩ (by simp (maxSteps := 2000000) (disch := first | omega | assumption | exact idP rfl | exact idP (bL rfl)) only [go_sem, reduceIte, Nat.reduceEqDiff, ctrV_int, e5]; omega)
          · rw [← Nat.add_assoc, take_one hj]; exact t1.append t3
          · rw [inF_append, Bool.or_eq_false_iff] at hq2
            rw [p3 q (fun hc => by have hc : inF gx q = true := hc; rw [hq2.2] at hc; cases hc)]
            exact hq q hq2.1
      · obtain rfl : i = tss.length := by omega
        simp (maxSteps := 2000000) (disch := first | omega | assumption | exact idP rfl | exact idP (bL rfl)) only [go_sem, reduceIte, Nat.reduceEqDiff, e1]
        refine hR _ _ ⟨k', rfl, k1, by omega, fun q hq1 => hq q ?_⟩
        cases hc : inF g1 q with
        | false => rfl
        | true => exact absurd (hgo q (by rw [inF_append, hc]; rfl)) hq1
theorem t_markRuleS {v v' : V} {fp : List (Nat × List V)} {rs : List RuleS} {k : Int} (ht : Tr [v] [v'] fp) (hf : flat v) (hff : ∀ q ∈ fp, flatL q.2) (hv : LR v' rs) (hn : Nd2 fp) (hm : ∀ p ∈ fp, M p.1 = some p.2) (hl : rs.length ≤ 1048576) (hl2 : ∀ r ∈ rs, RuleFit r) (hk : 0 ≤ k) (hk2 : k ≤ 4000000000000000000) :
    VCall Tryz.prog n_laws_markRuleS [v, .sc (.int .i64 k)] M (mkPost M k 4700000000000000000 (fun q => inF fp q = true)) := by
  refine VCall.plain fun R hR => v_laws_markRuleS rfl ?_
  rcases ht.win hf hv with ⟨q, rfl, rfl⟩ | ⟨b, o, c, ex, kk, cs, cs', g, rfl, h2, rfl, h3, h4⟩
  · simp (maxSteps := 2000000) (disch := first | omega | assumption | exact idP rfl | exact idP (bL rfl)) only [go_sem, reduceIte, Nat.reduceEqDiff]
    refine loop_k (fun e M' => M' = M ∧ e 0 = .sc (.sl none 0 0 true q) ∧ e 1 = .sc (.int .i64 k) ∧ e 5 = .sc (.int .i64 0)) (fun e _ => 0) ⟨rfl, by simp (maxSteps := 2000000) (disch := first | omega | assumption | exact idP rfl | exact idP (bL rfl)) only [go_sem, reduceIte, Nat.reduceEqDiff], by simp (maxSteps := 2000000) (disch := first | omega | assumption | exact idP rfl | exact idP (bL rfl)) only [go_sem, reduceIte, Nat.reduceEqDiff], by simp (maxSteps := 2000000) (disch := first | omega | assumption | exact idP rfl | exact idP (bL rfl)) only [go_sem, reduceIte, Nat.reduceEqDiff]⟩ ?_
    rintro e _ ⟨rfl, e0, e1, e5⟩ K hK
    simp (maxSteps := 2000000) (disch := first | omega | assumption | exact idP rfl | exact idP (bL rfl)) only [go_sem, reduceIte, Nat.reduceEqDiff, e0, e1, e5]
    exact hR _ _ ⟨k, rfl, by omega, by omega, fun q _ => rfl⟩
  · obtain ⟨hbg, hng⟩ := nd_hd hn
    have hmb : M b = some cs := hm (b, cs) (List.mem_cons_self ..)
    have hmg : ∀ p ∈ g, M p.1 = some p.2 := fun p hp => hm p (List.mem_cons_of_mem _ hp)
    have hfc : flatL cs := hff (b, cs) (List.mem_cons_self ..)
    have hfg : ∀ q ∈ g, flatL q.2 := fun q hq => hff q (List.mem_cons_of_mem _ hq)
    have hgo : ∀ q, inF g q = true → inF ((b, cs) :: g) q = true := fun q hq => by
      obtain ⟨l, hl⟩ := inF_iff.1 hq
      exact inF_iff.2 ⟨l, List.mem_cons_of_mem _ hl⟩
    simp (maxSteps := 2000000) (disch := first | omega | assumption | exact idP rfl | exact idP (bL rfl)) only [go_sem, reduceIte, Nat.reduceEqDiff]
    refine loop_k (fun e M' => ∃ (i : Nat) (k' : Int) (g1 g2 : List (Nat × List V)) (l1 l2 : List V), i ≤ rs.length ∧ e 0 = .sc (.sl (some (b, o)) rs.length c ex kk) ∧ e 1 = .sc (.int .i64 k') ∧ e 5 = .sc (.int .i64 i) ∧ k ≤ k' ∧ k' ≤ k + 4398051753984 * i ∧ Tr (cs.take (o + i * 3)) l1 g1 ∧ Tr (cs.drop (o + i * 3)) l2 g2 ∧ g = g1 ++ g2 ∧ cs' = l1 ++ l2 ∧ ∀ q, inF g1 q = false → M' q = M q) (fun e _ => ctrV rs.length (e 5)) ?_ ?_
    · obtain ⟨l1, l2, g1, g2, rfl, rfl, h5, h6⟩ := Tr.split (a := cs.take o) (b := cs.drop o) (b' := []) (by rw [List.take_append_drop]; exact h2)
      exact ⟨0, k, g1, g2, l1, l2, by omega, by simp (maxSteps := 2000000) (disch := first | omega | assumption | exact idP rfl | exact idP (bL rfl)) only [go_sem, reduceIte, Nat.reduceEqDiff], by simp (maxSteps := 2000000) (disch := first | omega | assumption | exact idP rfl | exact idP (bL rfl)) only [go_sem, reduceIte, Nat.reduceEqDiff], by simp (maxSteps := 2000000) (disch := first | omega | assumption | exact idP rfl | exact idP (bL rfl)) only [go_sem, reduceIte, Nat.reduceEqDiff]; rfl, by omega, by omega, by simpa using h5, by simpa using h6, rfl, rfl, fun _ _ => rfl⟩
    · rintro e M1 ⟨i, k', g1, g2, l1, l2, hi, e0, e1, e5, k1, k2, t1, t2, rfl, rfl, hq⟩ K hK
      simp (maxSteps := 2000000) (disch := first | omega | assumption | exact idP rfl | exact idP (bL rfl)) only [go_sem, reduceIte, Nat.reduceEqDiff, e0, e1, e5]
      refine cond_dec (fun h => ?_) (fun h => ?_)
      · have hi' : i < rs.length := by omega
        have h3 := h3 (by omega)
        have j0 : o + i * 3 < cs.length := by omega
        have j1 : o + i * 3 + 1 < cs.length := by omega
        have j2 : o + i * 3 + 2 < cs.length := by omega
        have c0 : cs[o + i * 3]? = some cs[o + i * 3] := List.getElem?_eq_getElem j0
        have c00 : cs[o + i * 3 + 0]? = some cs[o + i * 3] := c0
        have c1 : cs[o + i * 3 + 1]? = some cs[o + i * 3 + 1] := List.getElem?_eq_getElem j1
        have c2 : cs[o + i * 3 + 2]? = some cs[o + i * 3 + 2] := List.getElem?_eq_getElem j2
        have hfl := hl2 _ (List.getElem_mem hi')
        obtain ⟨f1, f2, f3, f4⟩ := hfl
        rw [List.drop_eq_getElem_cons j0, List.drop_eq_getElem_cons j1, List.drop_eq_getElem_cons j2] at t2
        obtain ⟨x', r1, gx, w1, rfl, rfl, tx, t3⟩ := t2.uncons
        obtain ⟨y', r2, gy, w2, rfl, rfl, ty, t4⟩ := t3.uncons
        obtain ⟨z', r3, gz, w3, rfl, rfl, tz, t5⟩ := t4.uncons
        have hl1 : l1.length = o + i * 3 := by rw [t1.len, List.length_take]; omega
        obtain ⟨u1, u2, u3, h5, hx, hy, hz⟩ := h4 i hi'
        rw [List.drop_left' hl1] at h5
        simp only [List.take_succ_cons, List.take_zero, List.cons.injEq, and_true] at h5
        obtain ⟨rfl, rfl, rfl⟩ := h5
        have sep : ∀ p, p ∈ gx ++ (gy ++ (gz ++ w3)) → inF g1 p.1 = false := fun p hp => nd_sep hng hp
        have hn2 := (Nd2.append hng).2.1
        have hb1 : ∀ M2 : MH, (∀ q, inF (g1 ++ (gx ++ (gy ++ (gz ++ w3)))) q = false → M2 q = M q) → M2 b = some cs := fun M2 hM2 => by rw [hM2 b hbg]; exact hmb
        have i1 : ∀ q, inF (g1 ++ (gx ++ (gy ++ (gz ++ w3)))) q = false → M1 q = M q := fun q hq2 => hq q (by rw [inF_append, Bool.or_eq_false_iff] at hq2; exact hq2.1)
        have b1 := hb1 M1 i1
        simp (maxSteps := 2000000) (disch := first | omega | assumption | exact idP rfl | exact idP (bL rfl)) only [go_sem, reduceIte, Nat.reduceEqDiff, e0, e1, e5, b1, c0, c00, c1, c2]
        refine (t_markTermS (leaf_of tx (flatL_all.1 hfc _ (List.getElem_mem j0)) hx (by omega) f1 (fun p hp => ?_)) (by omega) (by omega)).mono ?_
        · rw [hq p.1 (sep p (List.mem_append_left _ hp))]
          exact hmg p (List.mem_append_right _ (List.mem_append_left _ hp))
        rintro _ M2 ⟨k3, rfl, p1, p2, p3⟩
        have m2 : ∀ q, inF gx q = false → M2 q = M1 q := fun q hq2 => p3 q (fun hc => by have hc : inF gx q = true := hc; rw [hq2] at hc; cases hc)
        have b2 := hb1 M2 fun q hq2 => by
          rw [m2 q (by simp only [inF_append, Bool.or_eq_false_iff] at hq2; exact hq2.2.1)]; exact i1 q hq2
        simp (maxSteps := 2000000) (disch := first | omega | assumption | exact idP rfl | exact idP (bL rfl)) only [go_sem, reduceIte, Nat.reduceEqDiff, e0, e1, e5, b2, c0, c00, c1, c2]
        refine (t_markIntS (leaf_of ty (flatL_all.1 hfc _ (List.getElem_mem j1)) (ls_lc hy) (by omega) f2 (fun p hp => ?_)) (by omega) (by omega)).mono ?_
        · rw [m2 p.1 (nd_sep hn2 (List.mem_append_left _ hp)), hq p.1 (sep p (List.mem_append_right _ (List.mem_append_left _ hp)))]
          exact hmg p (List.mem_append_right _ (List.mem_append_right _ (List.mem_append_left _ hp)))
        rintro _ M3 ⟨k4, rfl, p4, p5, p6⟩
        have m3 : ∀ q, inF gy q = false → M3 q = M2 q := fun q hq2 => p6 q (fun hc => by have hc : inF gy q = true := hc; rw [hq2] at hc; cases hc)
        have b3 := hb1 M3 fun q hq2 => by
          simp only [inF_append, Bool.or_eq_false_iff] at hq2
          rw [m3 q hq2.2.2.1, m2 q hq2.2.1]; exact hq q hq2.1
        simp (maxSteps := 2000000) (disch := first | omega | assumption | exact idP rfl | exact idP (bL rfl)) only [go_sem, reduceIte, Nat.reduceEqDiff, e0, e1, e5, b3, c0, c00, c1, c2]
        have hn3 := (Nd2.append hn2).2.1
        refine (t_markTermSS tz (flatL_all.1 hfc _ (List.getElem_mem j2)) (fun q hq2 => hfg q (List.mem_append_right _ (List.mem_append_right _ (List.mem_append_right _ (List.mem_append_left _ hq2))))) hz (Nd2.append (Nd2.append hn3).2.1).1 (fun p hp => ?_) f3 f4 (by omega) (by omega)).mono ?_
        · rw [m3 p.1 (nd_sep hn3 (List.mem_append_left _ hp)), m2 p.1 (nd_sep hn2 (List.mem_append_right _ (List.mem_append_left _ hp))), hq p.1 (sep p (List.mem_append_right _ (List.mem_append_right _ (List.mem_append_left _ hp))))]
          exact hmg p (List.mem_append_right _ (List.mem_append_right _ (List.mem_append_right _ (List.mem_append_left _ hp))))
        rintro _ M4 ⟨k5, rfl, p7, p8, p9⟩
        have m4 : ∀ q, inF gz q = false → M4 q = M3 q := fun q hq2 => p9 q (fun hc => by have hc : inF gz q = true := hc; rw [hq2] at hc; cases hc)
        simp (maxSteps := 2000000) (disch := first | omega | assumption | exact idP rfl | exact idP (bL rfl)) only [go_sem, reduceIte, Nat.reduceEqDiff, e0, e1, e5]
        refine hK _ _ ⟨i + 1, k5, g1 ++ (gx ++ (gy ++ gz)), w3, l1 ++ [x', y', z'], r3, by omega, by simp (maxSteps := 2000000) (disch := first | omega | assumption | exact idP rfl | exact idP (bL rfl)) only [go_sem, reduceIte, Nat.reduceEqDiff, e0], by simp (maxSteps := 2000000) (disch := first | omega | assumption | exact idP rfl | exact idP (bL rfl)) only [go_sem, reduceIte, Nat.reduceEqDiff], by simp (maxSteps := 2000000) (disch := first | omega | assumption | exact idP rfl | exact idP (bL rfl)) only [go_sem, reduceIte, Nat.reduceEqDiff]; rfl, by omega, by omega, ?_, ?_, by simp, by simp, fun q hq2 => ?_⟩ (by simp (maxSteps := 2000000) (disch := first | omega | assumption | exact idP rfl | exact idP (bL rfl)) only [go_sem, reduceIte, Nat.reduceEqDiff, ctrV_int, e5]; omega)
        · rw [show o + (i + 1) * 3 = o + i * 3 + 1 + 1 + 1 by omega, take_one j2, take_one j1, take_one j0, List.append_assoc, List.append_assoc]
          exact t1.append (tx.append (ty.append tz))
        · rw [show o + (i + 1) * 3 = o + i * 3 + 1 + 1 + 1 by omega]; exact t5
        · simp only [inF_append, Bool.or_eq_false_iff] at hq2
          rw [m4 q hq2.2.2.2, m3 q hq2.2.2.1, m2 q hq2.2.1]
          exact hq q hq2.1
      · obtain rfl : i = rs.length := by omega
        simp (maxSteps := 2000000) (disch := first | omega | assumption | exact idP rfl | exact idP (bL rfl)) only [go_sem, reduceIte, Nat.reduceEqDiff, e1]
        refine hR _ _ ⟨k', rfl, k1, by omega, fun q hq1 => hq q ?_⟩
        cases hc : inF g1 q with
        | false => rfl
        | true => exact absurd (hgo q (by rw [inF_append, hc]; rfl)) hq1
structure OwnS (M0 M : MH) (s : SysS) (x y : V) (x' y' : V) (fp : List (Nat × List V)) : Prop where
  tr : Tr [x, y] [x', y'] fp
  mem : Mem M0 M fp
  fl : flatL [x, y]
  ff : ∀ q ∈ fp, flatL q.2
  lx : LVar x' s.vars
  ly : LR y' s.rules
theorem OwnS.sys {M0 M : MH} {s : SysS} {x y x' y' : V} {fp : List (Nat × List V)} (h : OwnS M0 M s x y x' y' fp) : isSys s (.agg [x', y']) := ⟨x', y', rfl, h.lx, h.ly⟩
theorem o_toSystem {v : V} {s : SysS} (hv : isSysX s v) (hf : SysFit s) : VCall Tryz.prog n_laws_toSystem [v] M (fun r' M' => ∃ x y x' y' fp, r' = .agg [x, y] ∧ One x ∧ One y ∧ OwnS M M' s x y x' y' fp) :=
  (d_toSystem hv hf).mono fun r M' ⟨x, y, h1, h2, h3, l', fp, t1, t2, t3, t4, x', y', h4, h5, h6⟩ => ⟨x, y, x', y', fp, h1, h2, h3, by subst h4; exact ⟨t1, t2, t3, t4, h5, h6⟩⟩
theorem t_markSystem {M0 : MH} {s : SysS} {x y x' y' : V} {fp : List (Nat × List V)} {k : Int} (h : OwnS M0 M s x y x' y' fp) (hf : SysFit s) (hk : 0 ≤ k) (hk2 : k ≤ 3000000000000000000) :
    VCall Tryz.prog n_laws_markSystem [.agg [x, y], .sc (.int .i64 k)] M (fun r M' => ∃ k' : Int, r = .sc (.int .i64 k') ∧ k ≤ k' ∧ k' ≤ 7800000000000000000 ∧ Sub M0 M' ∧ ∀ q l, M q = some l → inF fp q = false → M' q = some l) := by
  refine VCall.plain fun R hR => v_laws_markSystem rfl ?_
  obtain ⟨f1, f2, f3⟩ := hf
  obtain ⟨u1, r1, gx, gr, e1, rfl, tx, t2⟩ := h.tr.uncons
  obtain ⟨u2, r2, gy, gr2, e2, rfl, ty, t3⟩ := t2.uncons
  rw [List.cons.injEq] at e1
  obtain ⟨rfl, rfl⟩ := e1
  rw [List.cons.injEq] at e2
  obtain ⟨rfl, rfl⟩ := e2
  cases t3
  have hfl := h.fl
  simp only [flatL] at hfl
  have hnd := h.mem.nd
  rw [List.append_nil] at hnd
  have hat := h.mem.at_
  have hff := h.ff
  simp only [List.append_nil] at hat hff
  simp (maxSteps := 2000000) (disch := first | omega | assumption | exact idP rfl | exact idP (bL rfl)) only [go_sem, reduceIte, Nat.reduceEqDiff]
  intro b2 hb2
  have hne : ∀ q l, M q = some l → q ≠ b2 := fun q l hq e => by subst e; rw [hb2] at hq; cases hq
  refine (t_markVarS (leaf_of tx hfl.1 h.lx (by omega) f1 (fun p hp => ?_)) hk (by omega)).mono ?_
  · rw [set_ne (hne _ _ (hat p (List.mem_append_left _ hp)))]; exact hat p (List.mem_append_left _ hp)
  rintro _ M2 ⟨k3, rfl, p1, p2, p3⟩
  have m2 : ∀ q, inF gx q = false → M2 q = (M.set b2 [x, y]) q := fun q hq2 => p3 q (fun hc => by have hc : inF gx q = true := hc; rw [hq2] at hc; cases hc)
  have hb2x : inF gx b2 = false := by
    cases hc : inF gx b2 with
    | false => rfl
    | true =>
      obtain ⟨l, hl⟩ := inF_iff.1 hc
      have := hat _ (List.mem_append_left _ hl)
      rw [hb2] at this; cases this
  have q2 : M2 b2 = some [x, y] := by rw [m2 b2 hb2x]; exact set_same
  simp (maxSteps := 2000000) (disch := first | omega | assumption | exact idP rfl | exact idP (bL rfl)) only [go_sem, reduceIte, Nat.reduceEqDiff, q2]
  refine (t_markRuleS ty hfl.2.1 (fun q hq => hff q (List.mem_append_right _ hq)) h.ly (Nd2.append hnd).2.1 (fun p hp => ?_) f2 f3 (by omega) (by omega)).mono ?_
  · rw [m2 p.1 (nd_sep hnd hp), set_ne (hne _ _ (hat p (List.mem_append_right _ hp)))]; exact hat p (List.mem_append_right _ hp)
  rintro _ M3 ⟨k4, rfl, p4, p5, p6⟩
  have m3 : ∀ q, inF gy q = false → M3 q = M2 q := fun q hq2 => p6 q (fun hc => by have hc : inF gy q = true := hc; rw [hq2] at hc; cases hc)
  simp (maxSteps := 2000000) (disch := first | omega | assumption | exact idP rfl | exact idP (bL rfl)) only [go_sem, reduceIte, Nat.reduceEqDiff]
  have keep : ∀ q l, M q = some l → inF (gx ++ gy) q = false → M3 q = some l := fun q l hq hn => by
    rw [inF_append, Bool.or_eq_false_iff] at hn
    rw [m3 q hn.2, m2 q hn.1, set_ne (hne q l hq)]; exact hq
  refine hR _ _ ⟨k4, rfl, by omega, by omega, fun q l hq => keep q l (h.mem.sub q l hq) ?_, fun q l hq hn => keep q l hq (by simpa using hn)⟩
  cases hc : inF (gx ++ gy) q with
  | false => rfl
  | true =>
    obtain ⟨l2, hl⟩ := inF_iff.1 hc
    have := h.mem.new _ (by simpa using hl)
    simp only at this
    rw [this] at hq; cases hq
end Go.M2

namespace Go.M2
open Go.Proofs
variable {M : MH}
theorem Dn.nil1 {k : Nat} : Dn M M (.sc (.sl none 0 0 true k)) (fun u => LI u []) := ⟨_, [], .refl _, .nil (Sub.refl _), by simp [flat], fun q hq => (by cases hq), .nil⟩
theorem Dn.nilS {M' : MH} {k : Nat} (h : Sub M M') : Dn M M' (.sc (.sl none 0 0 true k)) (fun u => LI u []) := ⟨_, [], .refl _, .nil h, by simp [flat], fun q hq => (by cases hq), .nil⟩
theorem Gr.dnI {M' : MH} {v : V} {ys : List Int} (h : Gr 1 M M' v (ys.map vi)) : Dn M M' v (fun u => LI u ys) := h.dn (flatL_vi ys) fun u hu => hu.li
def Hd (M : MH) (v : V) (n : Nat) (k : Int) : Prop := (n = 0 ∧ ∃ q, v = .sc (.sl none 0 0 true q)) ∨ ∃ b o c ex kk l, v = .sc (.sl (some (b, o)) n c ex kk) ∧ M b = some l ∧ ∀ i, i < n → l[o + i]? = some (.sc (.int .i64 (k + i)))
theorem t_heldIntS {v : V} {n : Nat} {k : Int} (hv : Hd M v n k) (hn : n ≤ 1048576) (hk : 0 ≤ k) (hk2 : k ≤ 9000000000000000000) : VCall Tryz.prog n_laws_heldIntS [v, .sc (.int .i64 k)] M (fun r M' => M = M' ∧ r = .sc (.int .i64 (k + n))) := by
  refine VCall.pure fun R hR => v_laws_heldIntS rfl ?_
  rcases hv with ⟨rfl, q, rfl⟩ | ⟨b, o, c, ex, kk, l, rfl, hm, hl⟩
  · simp (maxSteps := 2000000) (disch := first | omega | assumption | exact idP rfl | exact idP (bL rfl)) only [go_sem, reduceIte, Nat.reduceEqDiff]
    refine loop_k (fun e M' => M' = M ∧ e 0 = .sc (.sl none 0 0 true q) ∧ e 1 = .sc (.int .i64 k) ∧ e 5 = .sc (.int .i64 0)) (fun e _ => 0) ⟨rfl, by simp (maxSteps := 2000000) (disch := first | omega | assumption | exact idP rfl | exact idP (bL rfl)) only [go_sem, reduceIte, Nat.reduceEqDiff], by simp (maxSteps := 2000000) (disch := first | omega | assumption | exact idP rfl | exact idP (bL rfl)) only [go_sem, reduceIte, Nat.reduceEqDiff], by simp (maxSteps := 2000000) (disch := first | omega | assumption | exact idP rfl | exact idP (bL rfl)) only [go_sem, reduceIte, Nat.reduceEqDiff]⟩ ?_
    rintro e _ ⟨rfl, e0, e1, e5⟩ K hK
    simp (maxSteps := 2000000) (disch := first | omega | assumption | exact idP rfl | exact idP (bL rfl)) only [go_sem, reduceIte, Nat.reduceEqDiff, e0, e1, e5]
    exact hR _ _ (by (repeat (first | exact Sub.refl _ | assumption | (refine Sub.set' ?_ (by assumption))))) (by rw [Int.natCast_zero, Int.add_zero]; rfl)
  · simp (maxSteps := 2000000) (disch := first | omega | assumption | exact idP rfl | exact idP (bL rfl)) only [go_sem, reduceIte, Nat.reduceEqDiff]
    refine loop_k (fun e M' => M' = M ∧ ∃ i : Nat, i ≤ n ∧ e 0 = .sc (.sl (some (b, o)) n c ex kk) ∧ e 1 = .sc (.int .i64 (k + i)) ∧ e 5 = .sc (.int .i64 i)) (fun e _ => ctrV n (e 5)) ?_ ?_
    · exact ⟨rfl, 0, by omega, by simp (maxSteps := 2000000) (disch := first | omega | assumption | exact idP rfl | exact idP (bL rfl)) only [go_sem, reduceIte, Nat.reduceEqDiff], by simp (maxSteps := 2000000) (disch := first | omega | assumption | exact idP rfl | exact idP (bL rfl)) only [go_sem, reduceIte, Nat.reduceEqDiff]; simp, by simp (maxSteps := 2000000) (disch := first | omega | assumption | exact idP rfl | exact idP (bL rfl)) only [go_sem, reduceIte, Nat.reduceEqDiff]; rfl⟩
    · rintro e _ ⟨rfl, i, hi, e0, e1, e5⟩ K hK
      simp (maxSteps := 2000000) (disch := first | omega | assumption | exact idP rfl | exact idP (bL rfl)) only [go_sem, reduceIte, Nat.reduceEqDiff, e0, e1, e5]
      refine cond_dec (fun h => ?_) (fun h => ?_)
      · have h1 := hl i (by omega)
        have h2 : l[o + i * 1]? = some (.sc (.int .i64 (k + i))) := by rw [Nat.mul_one]; exact h1
        (repeat' (first | ((first | with_reducible refine cond_dec (fun h => ?_) (fun h => ?_) | with_reducible refine guardK_dec (fun h => ?_) (fun h => ?_) | with_reducible refine guardD3_dec (fun h => ?_) (fun h => ?_)) <;> first | (exfalso; omega) | (simp (maxSteps := 2000000) (disch := first | omega | assumption | exact idP rfl | exact idP (bL rfl)) only [go_sem, reduceIte, Nat.reduceEqDiff, h, e0, e1, e5, hm, h1, h2]) | skip) | ((first | with_reducible refine cond_split (fun h => ?_) (fun h => ?_) | with_reducible refine guardK_split (fun h => ?_) (fun h => ?_) | with_reducible refine guardD3_split (fun h => ?_) (fun h => ?_)) <;> ((try simp only [Bool.not_eq_true', Bool.not_eq_false'] at h); first | (simp (maxSteps := 2000000) (disch := first | omega | assumption | exact idP rfl | exact idP (bL rfl)) only [go_sem, reduceIte, Nat.reduceEqDiff, h, e0, e1, e5, hm, h1, h2]) | skip)) | (with_reducible intro bk hbk; try have hnk := (fresh_set hbk).1) | (simp (maxSteps := 2000000) (disch := first | omega | assumption | exact idP rfl | exact idP (bL rfl)) only [go_sem, reduceIte, Nat.reduceEqDiff, e0, e1, e5, hm, h1, h2])))
        exact hK _ _ ⟨rfl, i + 1, by omega, by simp (maxSteps := 2000000) (disch := first | omega | assumption | exact idP rfl | exact idP (bL rfl)) only [go_sem, reduceIte, Nat.reduceEqDiff, e0], by simp (maxSteps := 2000000) (disch := first | omega | assumption | exact idP rfl | exact idP (bL rfl)) only [go_sem, reduceIte, Nat.reduceEqDiff, e1]; rw [Int.natCast_add, Int.add_assoc]; rfl, by simp (maxSteps := 2000000) (disch := first | omega | assumption | exact idP rfl | exact idP (bL rfl)) only [go_sem, reduceIte, Nat.reduceEqDiff, e5]; rfl⟩ (by simp (maxSteps := 2000000) (disch := first | omega | assumption | exact idP rfl | exact idP (bL rfl)) only [go_sem, reduceIte, Nat.reduceEqDiff, ctrV_int, e5]; omega)
      · obtain rfl : i = n := by omega
        simp (maxSteps := 2000000) (disch := first | omega | assumption | exact idP rfl | exact idP (bL rfl)) only [go_sem, reduceIte, Nat.reduceEqDiff, e1]
        exact hR _ _ (by (repeat (first | exact Sub.refl _ | assumption | (refine Sub.set' ?_ (by assumption))))) rfl
theorem t_markR {v v' : V} {fp : List (Nat × List V)} {ys : List Int} (ht : Tr [v] [v'] fp) (hf : flat v) (hv : LI v' ys) (hm : ∀ p ∈ fp, M p.1 = some p.2) (hl : ys.length ≤ 1048576) :
    VCall Tryz.prog n_laws_markIntS [v, .sc (.int .i64 1)] M (fun r M' => r = .sc (.int .i64 (1 + ys.length)) ∧ Hd M' v ys.length 1 ∧ ∀ q, inF fp q = false → M' q = M q) := by
  refine VCall.plain fun R hR => v_laws_markIntS rfl ?_
  rcases ht.win hf (ls_lc hv) with ⟨q, rfl, rfl⟩ | ⟨b, o, c, ex, kk, cs, cs', g, rfl, h2, rfl, h3, h4⟩
  · simp (maxSteps := 2000000) (disch := first | omega | assumption | exact idP rfl | exact idP (bL rfl)) only [go_sem, reduceIte, Nat.reduceEqDiff]
    refine loop_k (fun e M' => M' = M ∧ e 0 = .sc (.sl none 0 0 true q) ∧ e 1 = .sc (.int .i64 1) ∧ e 5 = .sc (.int .i64 0)) (fun e _ => 0) ⟨rfl, by simp (maxSteps := 2000000) (disch := first | omega | assumption | exact idP rfl | exact idP (bL rfl)) only [go_sem, reduceIte, Nat.reduceEqDiff], by simp (maxSteps := 2000000) (disch := first | omega | assumption | exact idP rfl | exact idP (bL rfl)) only [go_sem, reduceIte, Nat.reduceEqDiff], by simp (maxSteps := 2000000) (disch := first | omega | assumption | exact idP rfl | exact idP (bL rfl)) only [go_sem, reduceIte, Nat.reduceEqDiff]⟩ ?_
    rintro e _ ⟨rfl, e0, e1, e5⟩ K hK
    simp (maxSteps := 2000000) (disch := first | omega | assumption | exact idP rfl | exact idP (bL rfl)) only [go_sem, reduceIte, Nat.reduceEqDiff, e0, e1, e5]
    exact hR _ _ ⟨rfl, .inl ⟨rfl, q, rfl⟩, fun q _ => rfl⟩
  · have hmb : M b = some cs := hm (b, cs) (List.mem_cons_self ..)
    simp (maxSteps := 2000000) (disch := first | omega | assumption | exact idP rfl | exact idP (bL rfl)) only [go_sem, reduceIte, Nat.reduceEqDiff]
    refine loop_k (fun e M' => ∃ (i : Nat) (l' : List V), i ≤ ys.length ∧ e 0 = .sc (.sl (some (b, o)) ys.length c ex kk) ∧ e 1 = .sc (.int .i64 (1 + i)) ∧ e 5 = .sc (.int .i64 i) ∧ (∀ q, q ≠ b → M' q = M q) ∧ M' b = some l' ∧ l'.length = cs.length ∧ ∀ j, j < i → l'[o + j]? = some (.sc (.int .i64 (1 + j)))) (fun e _ => ctrV ys.length (e 5)) ?_ ?_
    · exact ⟨0, cs, by omega, by simp (maxSteps := 2000000) (disch := first | omega | assumption | exact idP rfl | exact idP (bL rfl)) only [go_sem, reduceIte, Nat.reduceEqDiff], by simp (maxSteps := 2000000) (disch := first | omega | assumption | exact idP rfl | exact idP (bL rfl)) only [go_sem, reduceIte, Nat.reduceEqDiff]; simp, by simp (maxSteps := 2000000) (disch := first | omega | assumption | exact idP rfl | exact idP (bL rfl)) only [go_sem, reduceIte, Nat.reduceEqDiff]; rfl, fun _ _ => rfl, hmb, rfl, fun j hj => by omega⟩
    · rintro e M1 ⟨i, l', hi, e0, e1, e5, hq, hm1, hl1, hj⟩ K hK
      simp (maxSteps := 2000000) (disch := first | omega | assumption | exact idP rfl | exact idP (bL rfl)) only [go_sem, reduceIte, Nat.reduceEqDiff, e0, e1, e5]
      refine cond_dec (fun h => ?_) (fun h => ?_)
      · have h3 := h3 (by omega)
        have hso : o + i * 1 < l'.length := by omega
        have hso2 : o + i < l'.length := by omega
        simp (maxSteps := 2000000) (disch := first | omega | assumption | exact idP rfl | exact idP (bL rfl)) only [go_sem, reduceIte, Nat.reduceEqDiff, e0, e1, e5, hm1]
        refine hK _ _ ⟨i + 1, l'.set (o + i) (.sc (.int .i64 (1 + i))), by omega, by simp (maxSteps := 2000000) (disch := first | omega | assumption | exact idP rfl | exact idP (bL rfl)) only [go_sem, reduceIte, Nat.reduceEqDiff, e0], by simp (maxSteps := 2000000) (disch := first | omega | assumption | exact idP rfl | exact idP (bL rfl)) only [go_sem, reduceIte, Nat.reduceEqDiff]; rw [Int.natCast_add, Int.add_assoc]; rfl, by simp (maxSteps := 2000000) (disch := first | omega | assumption | exact idP rfl | exact idP (bL rfl)) only [go_sem, reduceIte, Nat.reduceEqDiff]; rfl, fun q hqb => by rw [set_ne hqb]; exact hq q hqb, by rw [set_same], by simp [hl1], fun j hj2 => ?_⟩ (by simp (maxSteps := 2000000) (disch := first | omega | assumption | exact idP rfl | exact idP (bL rfl)) only [go_sem, reduceIte, Nat.reduceEqDiff, ctrV_int, e5]; omega)
        by_cases e : j = i
        · subst e; rw [List.getElem?_set_self (by omega)]
        · rw [List.getElem?_set_ne (by omega)]; exact hj j (by omega)
      · obtain rfl : i = ys.length := by omega
        simp (maxSteps := 2000000) (disch := first | omega | assumption | exact idP rfl | exact idP (bL rfl)) only [go_sem, reduceIte, Nat.reduceEqDiff, e1]
        refine hR _ _ ⟨rfl, .inr ⟨b, o, c, ex, kk, l', rfl, hm1, hj⟩, fun q hq1 => hq q fun e => ?_⟩
        rw [e] at hq1
        have := inF_mem (fp := (b, cs) :: g) (p := (b, cs)) (List.mem_cons_self ..)
        simp only at this
        rw [this] at hq1; cases hq1
end Go.M2

namespace Go.M2
open Go.Proofs
variable {M : MH}
theorem flat_bool {b : Bool} : ∀ r : V, r = .sc (.bool b) → flat r := fun r h => by subst h; simp [flat]
theorem l_eqIntS {v v' w : V} {fp : List (Nat × List V)} {xs : List Int} (ht : Tr [v] [v'] fp) (hv : LI v' xs) (hm : ∀ p ∈ fp, M p.1 = some p.2) (hn : Nd2 fp) (hw : LI w xs) (hl : xs.length ≤ 1048576) : VCall Tryz.prog n_laws_eqIntS [v, w] M (fun r M' => M = M' ∧ r = .sc (.bool true)) := by
  have h2 : Tr [v, w] [v', w] (fp ++ []) := ht.append (.keep w .nil)
  rw [List.append_nil] at h2
  refine VCall.lendP h2 hm hn flat_bool fun M' => (x_eqIntS hv hw hl).mono fun r M'' ⟨h3, h4⟩ => ⟨h3, by rw [h4]; simp⟩
theorem OwnS.more {M0 M M' : MH} {s : SysS} {x y x' y' : V} {fp : List (Nat × List V)} (h : OwnS M0 M s x y x' y' fp) (hs : Sub M M') : OwnS M0 M' s x y x' y' fp := ⟨h.tr, h.mem.more hs, h.fl, h.ff, h.lx, h.ly⟩
theorem OwnS.arg {M0 M : MH} {s : SysS} {x y x' y' : V} {fp : List (Nat × List V)} (h : OwnS M0 M s x y x' y' fp) : Tr [.agg [x, y]] [.agg [x', y']] fp := by
  have := Tr.agg h.tr Tr.nil
  rwa [List.append_nil] at this
theorem l_eqSystem {M0 : MH} {s : SysS} {x y x' y' w : V} {fp : List (Nat × List V)} (h : OwnS M0 M s x y x' y' fp) (hw : isSys s w) (hf : SysFit s) : VCall Tryz.prog n_laws_eqSystem [.agg [x, y], w] M (fun r M' => M = M' ∧ r = .sc (.bool true)) := by
  have h2 : Tr [.agg [x, y], w] [.agg [x', y'], w] (fp ++ []) := h.arg.append (.keep w .nil)
  rw [List.append_nil] at h2
  exact VCall.lendP h2 h.mem.at_ h.mem.nd flat_bool fun M' => x_eqSystem h.sys hw hf
end Go.M2

namespace Go.M2
open Go.Proofs
variable {M : MH}
noncomputable def stuckS (s : SysS) : List Int := if sysB s = true then selL (tabF s).length (fun i => rB (tabF s) (stF s) i && decide (((tabF s).getD i []).length = 0)) else []
theorem stuckS_len (s : SysS) : (stuckS s).length ≤ 400 := by
  unfold stuckS
  split
  · rename_i h
    have := ((sysB_iff s).1 h).sz
    have htl := tabF_len s
    exact Nat.le_trans selL_len (by omega)
  · simp
theorem o_impStuckStates {v : V} {s : SysS} (hv : isSys s v) (hz : SysSz s) : VCall Tryz.prog n_impl_StuckStates [v] M (fun r M' => Dn M M' r (fun u => LI u (stuckS s))) := by
  refine VCall.plain fun R hR => v_impl_StuckStates rfl ?_
  have hv0 := hv
  obtain ⟨a, b, rfl, ha, hb⟩ := hv
  (repeat' (first | ((first | with_reducible refine cond_dec (fun h => ?_) (fun h => ?_) | with_reducible refine guardK_dec (fun h => ?_) (fun h => ?_) | with_reducible refine guardD3_dec (fun h => ?_) (fun h => ?_)) <;> first | (exfalso; omega) | (simp (maxSteps := 2000000) (disch := first | omega | assumption | exact idP rfl | exact idP (bL rfl)) only [go_sem, reduceIte, Nat.reduceEqDiff, h]) | skip) | ((first | with_reducible refine cond_split (fun h => ?_) (fun h => ?_) | with_reducible refine guardK_split (fun h => ?_) (fun h => ?_) | with_reducible refine guardD3_split (fun h => ?_) (fun h => ?_)) <;> ((try simp only [Bool.not_eq_true', Bool.not_eq_false'] at h); first | (simp (maxSteps := 2000000) (disch := first | omega | assumption | exact idP rfl | exact idP (bL rfl)) only [go_sem, reduceIte, Nat.reduceEqDiff, h]) | skip)) | ((with_reducible refine (t_impSystemValid hv0 hz).mono ?_); rintro _ _ ⟨rfl, rfl⟩) | (with_reducible intro bk hbk; try have hnk := (fresh_set hbk).1) | (simp (maxSteps := 2000000) (disch := first | omega | assumption | exact idP rfl | exact idP (bL rfl)) only [go_sem, reduceIte, Nat.reduceEqDiff])))
  · refine hR _ _ ?_
    unfold stuckS
    rw [if_neg (by rw [h]; simp)]
    exact .nilS (by (repeat (first | exact Sub.refl _ | assumption | (refine Sub.set' ?_ (by assumption)))))
  · have hs := (sysB_iff s).1 h
    have hsz := hs.sz
    have htl := tabF_len s
    obtain ⟨N, hNe⟩ : ∃ N, (tabF s).length = N := ⟨_, rfl⟩
    refine (t_reachOf hv0 hs).mono ?_
    rintro m M2 hg
    have hbk2 : M2 bk = some [a, b] := hg.sub bk _ set_same
    simp (maxSteps := 2000000) (disch := first | omega | assumption | exact idP rfl | exact idP (bL rfl)) only [go_sem, reduceIte, Nat.reduceEqDiff, hbk2]
    refine (f_nexts hv0 hs).mono ?_
    rintro t _ ⟨rfl, ht⟩
    have htlen := ht.len
    rw [hNe] at htlen hg
    simp (maxSteps := 2000000) (disch := first | omega | assumption | exact idP rfl | exact idP (bL rfl)) only [go_sem, reduceIte, Nat.reduceEqDiff, htlen]
    refine loop_k (fun e M' => ∃ i : Nat, i ≤ N ∧ e 3 = m ∧ e 12 = t ∧ e 13 = .sc (.int .i64 N) ∧ e 14 = .sc (.int .i64 i) ∧ Gr 1 (M.set bk [a, b]) M' m ((mkL N (fun j => rB (tabF s) (stF s) j && (decide (¬ j < i) || decide (((tabF s).getD j []).length = 0)))).map vb)) (fun e _ => ctrV N (e 14)) ?_ ?_
    · refine ⟨0, by omega, by simp (maxSteps := 2000000) (disch := first | omega | assumption | exact idP rfl | exact idP (bL rfl)) only [go_sem, reduceIte, Nat.reduceEqDiff], by simp (maxSteps := 2000000) (disch := first | omega | assumption | exact idP rfl | exact idP (bL rfl)) only [go_sem, reduceIte, Nat.reduceEqDiff], by simp (maxSteps := 2000000) (disch := first | omega | assumption | exact idP rfl | exact idP (bL rfl)) only [go_sem, reduceIte, Nat.reduceEqDiff], by simp (maxSteps := 2000000) (disch := first | omega | assumption | exact idP rfl | exact idP (bL rfl)) only [go_sem, reduceIte, Nat.reduceEqDiff]; rfl, ?_⟩
      rw [mkL_ext (q := rB (tabF s) (stF s)) (fun j _ => by simp)]
      exact hg
    · rintro e M3 ⟨i, hi, e3, e12, e13, e14, hg3⟩ K hK
      simp (maxSteps := 2000000) (disch := first | omega | assumption | exact idP rfl | exact idP (bL rfl)) only [go_sem, reduceIte, Nat.reduceEqDiff, e3, e12, e13, e14]
      refine cond_dec (fun hc => ?_) (fun hc => ?_)
      · have hi' : i < N := by omega
        have hit : i < (tabF s).length := by omega
        have hrow := ht.elt hit
        have hgd : (tabF s).getD i [] = (tabF s)[i] := by simp [List.getD, hit]
        have hia := hg3.own.iaddr (k := .i64) (a := (i : Int)) (by omega) (by rw [len_vb', mkL_len]; omega)
        have hat := hg3.at (by rw [len_vb', mkL_len]; omega)
        have hml : i < (mkL N (fun j => rB (tabF s) (stF s) j && (decide (¬ j < i) || decide (((tabF s).getD j []).length = 0)))).length := by rw [mkL_len]; omega
        have hget : ((mkL N (fun j => rB (tabF s) (stF s) j && (decide (¬ j < i) || decide (((tabF s).getD j []).length = 0)))).map vb)[i]? = some (.sc (.bool (rB (tabF s) (stF s) i))) := by
          rw [List.getElem?_map, List.getElem?_eq_getElem hml, mkL_get]; simp [vb]
        have hso : i < ((mkL N (fun j => rB (tabF s) (stF s) j && (decide (¬ j < i) || decide (((tabF s).getD j []).length = 0)))).map vb).length := by rw [len_vb']; exact hml
        have fin : ∀ bb : Bool, bb = (rB (tabF s) (stF s) i && decide (((tabF s).getD i []).length = 0)) → Gr 1 (M.set bk [a, b]) (M3.set (oB m) (((mkL N (fun j => rB (tabF s) (stF s) j && (decide (¬ j < i) || decide (((tabF s).getD j []).length = 0)))).map vb).set i (.sc (.bool bb)))) m ((mkL N (fun j => rB (tabF s) (stF s) j && (decide (¬ j < i + 1) || decide (((tabF s).getD j []).length = 0)))).map vb) := fun bb hbb => by
          have := hg3.setO (l' := (mkL N (fun j => rB (tabF s) (stF s) j && (decide (¬ j < i + 1) || decide (((tabF s).getD j []).length = 0)))).map vb) (by rw [len_vb', mkL_len]; omega) (by rw [len_vb', len_vb', mkL_len, mkL_len])
          have e9 : ((mkL N (fun j => rB (tabF s) (stF s) j && (decide (¬ j < i) || decide (((tabF s).getD j []).length = 0)))).map vb).set i (.sc (.bool bb)) = (mkL N (fun j => rB (tabF s) (stF s) j && (decide (¬ j < i + 1) || decide (((tabF s).getD j []).length = 0)))).map vb := by
            rw [set_vb', mkL_setB]
            intro j hj
            by_cases e : j = i
            · subst e; simp [hbb]
            · rw [if_neg e]
              have : decide (¬ j < i + 1) = decide (¬ j < i) := decide_eq_decide.2 (by omega)
              rw [this]
          rw [e9]; exact this
        cases hrb : rB (tabF s) (stF s) i with
        | false =>
          rw [hrb] at hget fin
          simp (maxSteps := 2000000) (disch := first | omega | assumption | exact idP rfl | exact idP (bL rfl)) only [go_sem, reduceIte, Nat.reduceEqDiff, e3, e12, e13, e14, ht.iaddr, hrow.len, hia, hat, hget]
          refine hK _ _ ⟨i + 1, by omega, by simp (maxSteps := 2000000) (disch := first | omega | assumption | exact idP rfl | exact idP (bL rfl)) only [go_sem, reduceIte, Nat.reduceEqDiff], by simp (maxSteps := 2000000) (disch := first | omega | assumption | exact idP rfl | exact idP (bL rfl)) only [go_sem, reduceIte, Nat.reduceEqDiff], by simp (maxSteps := 2000000) (disch := first | omega | assumption | exact idP rfl | exact idP (bL rfl)) only [go_sem, reduceIte, Nat.reduceEqDiff], by simp (maxSteps := 2000000) (disch := first | omega | assumption | exact idP rfl | exact idP (bL rfl)) only [go_sem, reduceIte, Nat.reduceEqDiff]; rfl, fin _ (by simp)⟩ (by simp (maxSteps := 2000000) (disch := first | omega | assumption | exact idP rfl | exact idP (bL rfl)) only [go_sem, reduceIte, Nat.reduceEqDiff, ctrV_int, e14]; omega)
        | true =>
          rw [hrb] at hget fin
          simp (maxSteps := 2000000) (disch := first | omega | assumption | exact idP rfl | exact idP (bL rfl)) only [go_sem, reduceIte, Nat.reduceEqDiff, e3, e12, e13, e14, ht.iaddr, hrow.len, hia, hat, hget]
          refine hK _ _ ⟨i + 1, by omega, by simp (maxSteps := 2000000) (disch := first | omega | assumption | exact idP rfl | exact idP (bL rfl)) only [go_sem, reduceIte, Nat.reduceEqDiff], by simp (maxSteps := 2000000) (disch := first | omega | assumption | exact idP rfl | exact idP (bL rfl)) only [go_sem, reduceIte, Nat.reduceEqDiff], by simp (maxSteps := 2000000) (disch := first | omega | assumption | exact idP rfl | exact idP (bL rfl)) only [go_sem, reduceIte, Nat.reduceEqDiff], by simp (maxSteps := 2000000) (disch := first | omega | assumption | exact idP rfl | exact idP (bL rfl)) only [go_sem, reduceIte, Nat.reduceEqDiff]; rfl, fin _ (by rw [hgd]; simp)⟩ (by simp (maxSteps := 2000000) (disch := first | omega | assumption | exact idP rfl | exact idP (bL rfl)) only [go_sem, reduceIte, Nat.reduceEqDiff, ctrV_int, e14]; omega)
      · obtain rfl : i = N := by omega
        simp (maxSteps := 2000000) (disch := first | omega | assumption | exact idP rfl | exact idP (bL rfl)) only [go_sem, reduceIte, Nat.reduceEqDiff, e3]
        rw [mkL_ext (q := fun j => rB (tabF s) (stF s) j && decide (((tabF s).getD j []).length = 0)) (fun j hj => by simp [hj])] at hg3
        refine (VCall.give0 hg3 fun u M4 hu hs2 => (t_listOf hu.lb (by omega)).mono fun r M' hr => hr.base hs2).mono ?_
        rintro r M4 hg2
        simp (maxSteps := 2000000) (disch := first | omega | assumption | exact idP rfl | exact idP (bL rfl)) only [go_sem, reduceIte, Nat.reduceEqDiff]
        refine hR _ _ ?_
        unfold stuckS
        rw [if_pos h, hNe]
        exact (hg2.base ((Sub.refl M).set' hbk)).dnI
end Go.M2

namespace Go.M2
open Go.Proofs
variable {M : MH}
theorem selL_filter {n : Nat} {p q : Nat → Bool} : (selL n p).filter (fun x => q x.toNat) = selL n (fun i => p i && q i) := by
  induction n with
  | zero => rfl
  | succ n ih =>
    rw [selL_succ, selL_succ]
    cases hp : p n with
    | false => simp [ih]
    | true =>
      cases hq : q n with
      | false => simp [List.filter_append, ih, hq]
      | true => simp [List.filter_append, ih, hq]
theorem filter_take {p : Int → Bool} {l : List Int} {i : Nat} (h : i < l.length) : (l.take (i + 1)).filter p = if p l[i] = true then (l.take i).filter p ++ [l[i]] else (l.take i).filter p := by
  rw [take_snoc h, List.filter_append]
  cases hp : p l[i] <;> simp [hp]
theorem t_StuckStates {v : V} {s : SysS} (hv : isSys s v) : VCall Tryz.prog n_spec_StuckStates [v] M (fun r M' => M = M' ∧ LI r (stuckS s)) := by
  refine VCall.froz fun R hP hG => v_spec_StuckStates rfl ?_
  have hv0 := hv
  obtain ⟨a, b, rfl, ha, hb⟩ := hv
  have hrl := reachS_len s
  simp (maxSteps := 2000000) (disch := first | omega | assumption | exact idP rfl | exact idP (bL rfl)) only [go_sem, reduceIte, Nat.reduceEqDiff]
  intro b1 hb1 b3 hb3
  have n31 := (fresh_set hb3).1
  simp (maxSteps := 2000000) (disch := first | omega | assumption | exact idP rfl | exact idP (bL rfl)) only [go_sem, reduceIte, Nat.reduceEqDiff]
  refine (t_ReachOf hv0).mono ?_
  rintro q _ ⟨rfl, hq⟩
  have hql := hq.len
  have fin : ∀ (r : V) (M' : MH), Gr 1 (M.set b1 [a, b]) M' r (((reachS s).filter fun x => decide (((tabF s).getD x.toNat []).length = 0)).map vi) → R r M' := fun r M' hg => hG _ _ _ _ (hg.base ((Sub.refl M).set' hb1)) fun u hu => by
    have h3 := hu.li
    have e : (reachS s).filter (fun x => decide (((tabF s).getD x.toNat []).length = 0)) = stuckS s := by
      unfold reachS stuckS
      split
      · exact selL_filter (q := fun i => decide (((tabF s).getD i []).length = 0))
      · rfl
    rw [e] at h3
    exact h3
  simp (maxSteps := 2000000) (disch := first | omega | assumption | exact idP rfl | exact idP (bL rfl)) only [go_sem, reduceIte, Nat.reduceEqDiff]
  refine loop_k (fun e M' => ∃ i : Nat, i ≤ (reachS s).length ∧ e 1 = .sc (.ptr (some (b1, 0))) ∧ e 4 = q ∧ e 5 = .sc (.int .i64 i) ∧ Gr 1 (M.set b1 [a, b]) M' (e 3) ((((reachS s).take i).filter fun x => decide (((tabF s).getD x.toNat []).length = 0)).map vi)) (fun e _ => ctrV (reachS s).length (e 5)) ?_ ?_
  · exact ⟨0, by omega, by simp (maxSteps := 2000000) (disch := first | omega | assumption | exact idP rfl | exact idP (bL rfl)) only [go_sem, reduceIte, Nat.reduceEqDiff], by simp (maxSteps := 2000000) (disch := first | omega | assumption | exact idP rfl | exact idP (bL rfl)) only [go_sem, reduceIte, Nat.reduceEqDiff], by simp (maxSteps := 2000000) (disch := first | omega | assumption | exact idP rfl | exact idP (bL rfl)) only [go_sem, reduceIte, Nat.reduceEqDiff]; rfl, by simp (maxSteps := 2000000) (disch := first | omega | assumption | exact idP rfl | exact idP (bL rfl)) only [go_sem, reduceIte, Nat.reduceEqDiff]; exact Gr.new' (Sub.refl _) hb3 rfl⟩
  · rintro e M1 ⟨i, hi, e1, e4, e5, hg⟩ K hK
    have hm := hg.sub b1 _ set_same
    have hfl : (((reachS s).take i).filter fun x => decide (((tabF s).getD x.toNat []).length = 0)).length ≤ i := Nat.le_trans (List.length_filter_le ..) (by simp; omega)
    simp (maxSteps := 2000000) (disch := first | omega | assumption | exact idP rfl | exact idP (bL rfl)) only [go_sem, reduceIte, Nat.reduceEqDiff, e1, e4, e5, hql]
    refine cond_dec (fun h => ?_) (fun h => ?_)
    · have hi' : i < (reachS s).length := by omega
      have hb : sysB s = true := by
        cases hs : sysB s with
        | true => rfl
        | false => unfold reachS at hi'; rw [hs] at hi'; simp at hi'
      have hs := (sysB_iff s).1 hb
      have hsz := hs.sz
      have htl := tabF_len s
      have hmem : (reachS s)[i] ∈ selL (tabF s).length (rB (tabF s) (stF s)) := by
        have e : reachS s = selL (tabF s).length (rB (tabF s) (stF s)) := by unfold reachS; rw [if_pos hb]
        rw [← e]
        exact List.getElem_mem hi'
      obtain ⟨j, hj, _, hje⟩ := mem_selL.1 hmem
      have hjt : (tabF s).getD j [] = rowF s j := by
        have hj2 : j < (sizeF s.vars).toNat := by omega
        simp [tabF, List.getD, hj2]
      simp (maxSteps := 2000000) (disch := first | omega | assumption | exact idP rfl | exact idP (bL rfl)) only [go_sem, reduceIte, Nat.reduceEqDiff, e1, e4, e5, hm, hq.iaddr, hq.at hi']
      rw [← hje]
      refine (f_l4State hv0 hs (n := (j : Int)) (by omega) (by omega)).mono ?_
      rintro st _ ⟨rfl, hst⟩
      simp (maxSteps := 2000000) (disch := first | omega | assumption | exact idP rfl | exact idP (bL rfl)) only [go_sem, reduceIte, Nat.reduceEqDiff, e1, e4, e5, hm]
      have hin : StIn s.vars (stGo s.vars (j : Int)) := stGo_in hs.vars
      refine (t_l2Next hv0 hs hst hin).mono ?_
      rintro nx _ ⟨rfl, hnx⟩
      have hnl := hnx.len
      have hjn : (j : Int).toNat = j := by simp
      have hll : ((tabF s).getD (reachS s)[i].toNat []).length = (nextF s (stGo s.vars (j : Int))).length := by
        rw [← hje, hjn, hjt]; simp [rowF]
      simp (maxSteps := 2000000) (disch := first | omega | assumption | exact idP rfl | exact idP (bL rfl)) only [go_sem, reduceIte, Nat.reduceEqDiff, hnl]
      refine cond_dec (fun h2 => ?_) (fun h2 => ?_)
      · simp (maxSteps := 2000000) (disch := first | omega | assumption | exact idP rfl | exact idP (bL rfl)) only [go_sem, reduceIte, Nat.reduceEqDiff, e1, e4, e5, hq.iaddr, hq.at hi']
        intro bt hbt
        refine app_int hg hbt (by omega) (by omega) ?_
        intro s' M' hg' _
        simp (maxSteps := 2000000) (disch := first | omega | assumption | exact idP rfl | exact idP (bL rfl)) only [go_sem, reduceIte, Nat.reduceEqDiff, e1, e4, e5]
        refine hK _ _ ⟨i + 1, by omega, by simp (maxSteps := 2000000) (disch := first | omega | assumption | exact idP rfl | exact idP (bL rfl)) only [go_sem, reduceIte, Nat.reduceEqDiff, e1], by simp (maxSteps := 2000000) (disch := first | omega | assumption | exact idP rfl | exact idP (bL rfl)) only [go_sem, reduceIte, Nat.reduceEqDiff, e4], by simp (maxSteps := 2000000) (disch := first | omega | assumption | exact idP rfl | exact idP (bL rfl)) only [go_sem, reduceIte, Nat.reduceEqDiff]; rfl, ?_⟩ (by simp (maxSteps := 2000000) (disch := first | omega | assumption | exact idP rfl | exact idP (bL rfl)) only [go_sem, reduceIte, Nat.reduceEqDiff, ctrV_int, e5]; omega)
        simp (maxSteps := 2000000) (disch := first | omega | assumption | exact idP rfl | exact idP (bL rfl)) only [go_sem, reduceIte, Nat.reduceEqDiff]
        rw [filter_take hi', if_pos (by rw [decide_eq_true_eq, hll]; omega)]
        exact hg'
      · simp (maxSteps := 2000000) (disch := first | omega | assumption | exact idP rfl | exact idP (bL rfl)) only [go_sem, reduceIte, Nat.reduceEqDiff, e1, e4, e5]
        refine hK _ _ ⟨i + 1, by omega, by simp (maxSteps := 2000000) (disch := first | omega | assumption | exact idP rfl | exact idP (bL rfl)) only [go_sem, reduceIte, Nat.reduceEqDiff, e1], by simp (maxSteps := 2000000) (disch := first | omega | assumption | exact idP rfl | exact idP (bL rfl)) only [go_sem, reduceIte, Nat.reduceEqDiff, e4], by simp (maxSteps := 2000000) (disch := first | omega | assumption | exact idP rfl | exact idP (bL rfl)) only [go_sem, reduceIte, Nat.reduceEqDiff]; rfl, ?_⟩ (by simp (maxSteps := 2000000) (disch := first | omega | assumption | exact idP rfl | exact idP (bL rfl)) only [go_sem, reduceIte, Nat.reduceEqDiff, ctrV_int, e5]; omega)
        simp (maxSteps := 2000000) (disch := first | omega | assumption | exact idP rfl | exact idP (bL rfl)) only [go_sem, reduceIte, Nat.reduceEqDiff]
        rw [filter_take hi', if_neg (by rw [decide_eq_true_eq, hll]; omega)]
        exact hg
    · obtain rfl : i = (reachS s).length := by omega
      rw [List.take_length] at hg
      simp (maxSteps := 2000000) (disch := first | omega | assumption | exact idP rfl | exact idP (bL rfl)) only [go_sem, reduceIte, Nat.reduceEqDiff]
      exact fin _ _ hg
end Go.M2

namespace Go.M2
open Go.Proofs
variable {M : MH}
theorem law_StuckStates {v : V} {s : SysS} (hv : isSysX s v) (hl : SysLen s) :
    VCall Tryz.prog n_laws_FnExactStuckStates [v] M (fun r M' => M = M' ∧ r = .sc (.bool true)) := by
  refine VCall.pure fun R hR => v_laws_FnExactStuckStates rfl ?_
  have hv0 := hv
  obtain ⟨a, b, rfl, ha, hb⟩ := hv
  (repeat' (first | ((first | with_reducible refine cond_dec (fun h => ?_) (fun h => ?_) | with_reducible refine guardK_dec (fun h => ?_) (fun h => ?_) | with_reducible refine guardD3_dec (fun h => ?_) (fun h => ?_)) <;> first | (exfalso; omega) | (simp (maxSteps := 2000000) (disch := first | omega | assumption | exact idP rfl | exact idP (bL rfl)) only [go_sem, reduceIte, Nat.reduceEqDiff, h]) | skip) | ((first | with_reducible refine cond_split (fun h => ?_) (fun h => ?_) | with_reducible refine guardK_split (fun h => ?_) (fun h => ?_) | with_reducible refine guardD3_split (fun h => ?_) (fun h => ?_)) <;> ((try simp only [Bool.not_eq_true', Bool.not_eq_false'] at h); first | (simp (maxSteps := 2000000) (disch := first | omega | assumption | exact idP rfl | exact idP (bL rfl)) only [go_sem, reduceIte, Nat.reduceEqDiff, h]) | skip)) | (with_reducible intro bk hbk; try have hnk := (fresh_set hbk).1) | (simp (maxSteps := 2000000) (disch := first | omega | assumption | exact idP rfl | exact idP (bL rfl)) only [go_sem, reduceIte, Nat.reduceEqDiff])))
  · refine (x_szSystem hv0 hl (by omega) (by omega)).mono ?_
    rintro _ _ ⟨rfl, k, rfl, hk1, hk⟩
    (repeat' (first | ((first | with_reducible refine cond_dec (fun h => ?_) (fun h => ?_) | with_reducible refine guardK_dec (fun h => ?_) (fun h => ?_) | with_reducible refine guardD3_dec (fun h => ?_) (fun h => ?_)) <;> first | (exfalso; omega) | (simp (maxSteps := 2000000) (disch := first | omega | assumption | exact idP rfl | exact idP (bL rfl)) only [go_sem, reduceIte, Nat.reduceEqDiff, h]) | skip) | ((first | with_reducible refine cond_split (fun h => ?_) (fun h => ?_) | with_reducible refine guardK_split (fun h => ?_) (fun h => ?_) | with_reducible refine guardD3_split (fun h => ?_) (fun h => ?_)) <;> ((try simp only [Bool.not_eq_true', Bool.not_eq_false'] at h); first | (simp (maxSteps := 2000000) (disch := first | omega | assumption | exact idP rfl | exact idP (bL rfl)) only [go_sem, reduceIte, Nat.reduceEqDiff, h]) | skip)) | (with_reducible intro bk hbk; try have hnk := (fresh_set hbk).1) | (simp (maxSteps := 2000000) (disch := first | omega | assumption | exact idP rfl | exact idP (bL rfl)) only [go_sem, reduceIte, Nat.reduceEqDiff])))
    · exact hR _ _ (by (repeat (first | exact Sub.refl _ | assumption | (refine Sub.set' ?_ (by assumption))))) rfl
    · have hf := hk (by omega)
      have hzl : (stuckS s).length ≤ 1048576 := Nat.le_trans (stuckS_len s) (by omega)
      generalize hz : stuckS s = zs at *
      refine (f_toSystem hv0 hf).mono ?_
      rintro s1 _ ⟨rfl, hs1⟩
      simp (maxSteps := 2000000) (disch := first | omega | assumption | exact idP rfl | exact idP (bL rfl)) only [go_sem, reduceIte, Nat.reduceEqDiff]
      refine (t_StuckStates hs1).mono ?_
      rintro w0 _ ⟨rfl, hw0⟩
      rw [hz] at hw0
      simp (maxSteps := 2000000) (disch := first | omega | assumption | exact idP rfl | exact idP (bL rfl)) only [go_sem, reduceIte, Nat.reduceEqDiff]
      have hsub0 : Sub M (M.set bk [a, b]) := (Sub.refl M).set' hbk
      refine (o_toSystem hv0 hf).mono ?_
      rintro _ M1 ⟨x, y, x', y', fp, rfl, ⟨ox1, ox2⟩, ⟨oy1, oy2⟩, hos⟩
      simp (maxSteps := 2000000) (disch := first | omega | assumption | exact idP rfl | exact idP (bL rfl)) only [go_sem, reduceIte, Nat.reduceEqDiff, ox1, ox2, oy1, oy2]
      intro b7 hb7
      have hs7 : Sub M1 (M1.set b7 [x, y]) := (Sub.refl M1).set' hb7
      have hbk1 : M1 bk = some [a, b] := hos.mem.sub bk _ set_same
      have nbk : bk ≠ b7 := fun e => by subst e; rw [hb7] at hbk1; cases hbk1
      have hos3 := hos.more hs7
      have hm7 : (M1.set b7 [x, y]) b7 = some [x, y] := set_same
      have hmk : (M1.set b7 [x, y]) bk = some [a, b] := hs7 bk _ hbk1
      have htr : Tr [.agg [x, y]] [.agg [x', y']] fp := hos.arg
      refine (VCall.lendD htr hos3.mem.at_ hos3.mem.nd fun M' => o_impStuckStates hos.sys hf.sz).mono ?_
      rintro g0 M4 ⟨g0', fg, tg, mg, flg, ffg, hg0⟩
      rw [hz] at hg0
      have hos4 := hos3.more mg.sub
      have hmk4 : M4 bk = some [a, b] := mg.sub bk _ hmk
      have hm74 : M4 b7 = some [x, y] := mg.sub b7 _ hm7
      simp (maxSteps := 2000000) (disch := first | omega | assumption | exact idP rfl | exact idP (bL rfl)) only [go_sem, reduceIte, Nat.reduceEqDiff]
      refine (l_eqIntS tg hg0 mg.at_ mg.nd hw0 hzl).mono ?_
      rintro _ _ ⟨rfl, rfl⟩
      simp (maxSteps := 2000000) (disch := first | omega | assumption | exact idP rfl | exact idP (bL rfl)) only [go_sem, reduceIte, Nat.reduceEqDiff, hmk4, hm74]
      refine (f_toSystem hv0 hf).mono ?_
      rintro s3 _ ⟨rfl, hs3⟩
      simp (maxSteps := 2000000) (disch := first | omega | assumption | exact idP rfl | exact idP (bL rfl)) only [go_sem, reduceIte, Nat.reduceEqDiff, hm74]
      refine (l_eqSystem hos4 hs3 hf).mono ?_
      rintro _ _ ⟨rfl, rfl⟩
      simp (maxSteps := 2000000) (disch := first | omega | assumption | exact idP rfl | exact idP (bL rfl)) only [go_sem, reduceIte, Nat.reduceEqDiff, hm74]
      refine (t_markSystem hos4 hf (by omega) (by omega)).mono ?_
      rintro _ M5 ⟨k5, rfl, k51, k52, sub5, keep5⟩
      have ng : ∀ p ∈ fg, inF fp p.1 = false := fun p hp => by
        cases hc : inF fp p.1 with
        | false => rfl
        | true =>
          obtain ⟨l, hl⟩ := inF_iff.1 hc
          have e1 := hos3.mem.at_ _ hl
          have e2 := mg.new p hp
          simp only at e1
          rw [e1] at e2; cases e2
      have hg5 : ∀ p ∈ fg, M5 p.1 = some p.2 := fun p hp => keep5 _ _ (mg.at_ p hp) (ng p hp)
      have hmk5 : M5 bk = some [a, b] := sub5 bk _ set_same
      simp (maxSteps := 2000000) (disch := first | omega | assumption | exact idP rfl | exact idP (bL rfl)) only [go_sem, reduceIte, Nat.reduceEqDiff]
      have hg6 := hg5
      have old : ∀ q l, (M.set bk [a, b]) q = some l → inF fg q = false := fun q l hq => by
        cases hc : inF fg q with
        | false => rfl
        | true =>
          obtain ⟨l2, hl⟩ := inF_iff.1 hc
          have e2 := mg.new _ hl
          have e1 := hos3.mem.sub q _ hq
          simp only at e2
          rw [e1] at e2; cases e2
      have hk6 : ¬ k5 < 0 := by omega
      simp (maxSteps := 2000000) (disch := first | omega | assumption | exact idP rfl | exact idP (bL rfl)) only [go_sem, reduceIte, Nat.reduceEqDiff, hk6]
      refine (l_eqIntS tg hg0 hg6 mg.nd hw0 hzl).mono ?_
      rintro _ _ ⟨rfl, rfl⟩
      simp (maxSteps := 2000000) (disch := first | omega | assumption | exact idP rfl | exact idP (bL rfl)) only [go_sem, reduceIte, Nat.reduceEqDiff]
      refine (t_markR tg flg hg0 hg6 hzl).mono ?_
      rintro _ M7 ⟨rfl, hd7, keep7⟩
      have sub7 : Sub (M.set bk [a, b]) M7 := fun q l hq => by
        rw [keep7 q (old q l hq)]; exact sub5 q l hq
      have hmk7 : M7 bk = some [a, b] := sub7 bk _ set_same
      simp (maxSteps := 2000000) (disch := first | omega | assumption | exact idP rfl | exact idP (bL rfl)) only [go_sem, reduceIte, Nat.reduceEqDiff]
      refine (t_heldIntS hd7 hzl (by omega) (by omega)).mono ?_
      rintro _ _ ⟨rfl, rfl⟩
      have hneg : ¬ (1 : Int) + (zs.length : Int) < 0 := by omega
      simp (maxSteps := 2000000) (disch := first | omega | assumption | exact idP rfl | exact idP (bL rfl)) only [go_sem, reduceIte, Nat.reduceEqDiff, hneg, hmk7]
      refine (f_toSystem hv0 hf).mono ?_
      rintro s4 _ ⟨rfl, hs4⟩
      simp (maxSteps := 2000000) (disch := first | omega | assumption | exact idP rfl | exact idP (bL rfl)) only [go_sem, reduceIte, Nat.reduceEqDiff]
      refine (VCall.frT (o_impStuckStates hs4 hf.sz)).mono ?_
      rintro h0 _ ⟨rfl, hh0⟩
      rw [hz] at hh0
      simp (maxSteps := 2000000) (disch := first | omega | assumption | exact idP rfl | exact idP (bL rfl)) only [go_sem, reduceIte, Nat.reduceEqDiff]
      refine (x_eqIntS hh0 hw0 hzl).mono ?_
      rintro _ _ ⟨rfl, rfl⟩
      have ei : decide (zs = zs) = true := by simp
      simp (maxSteps := 2000000) (disch := first | omega | assumption | exact idP rfl | exact idP (bL rfl)) only [go_sem, reduceIte, Nat.reduceEqDiff, ei]
      refine (t_heldIntS hd7 hzl (by omega) (by omega)).mono ?_
      rintro _ _ ⟨rfl, rfl⟩
      simp (maxSteps := 2000000) (disch := first | omega | assumption | exact idP rfl | exact idP (bL rfl)) only [go_sem, reduceIte, Nat.reduceEqDiff, hneg]
      exact hR _ _ (hsub0.trans sub7) rfl
end Go.M2
