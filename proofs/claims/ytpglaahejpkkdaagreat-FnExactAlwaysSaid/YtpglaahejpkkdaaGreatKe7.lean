/- Contracts: what one comes to, the program's side. -/
import Derived.Test.YtpglaahejpkkdaaGreatKe6
namespace Go.M2
open Go.Proofs
set_option linter.unusedVariables false
set_option linter.unusedSimpArgs false
set_option maxRecDepth 10000
set_option maxHeartbeats 4000000
variable {M : MH}
structure QO (tab : List (List Int)) (N : Nat) (st : Nat → Prop) (m : Nat → Bool) (row : List Int) : Prop where
  a : ∀ i, m i = true → i < N ∧ Rch tab st i
  b : ∀ i, st i → m i = true
  c : ∀ x ∈ row, 0 ≤ x ∧ m x.toNat = true
  d : ∀ i : Nat, m i = true → ¬ (i : Int) ∈ row → ∀ y ∈ tab.getD i [], m y.toNat = true
structure QI (tab : List (List Int)) (N : Nat) (st : Nat → Prop) (m : Nat → Bool) (row : List Int) (n j : Nat) : Prop where
  a : ∀ i, m i = true → i < N ∧ Rch tab st i
  b : ∀ i, st i → m i = true
  c : ∀ x ∈ row, 0 ≤ x ∧ m x.toNat = true
  d : ∀ i : Nat, m i = true → ¬ (i : Int) ∈ row → i ≠ n → ∀ y ∈ tab.getD i [], m y.toNat = true
  e : ∀ y ∈ (tab.getD n []).take j, m y.toNat = true
  n_ : m n = true
section
variable {tab : List (List Int)} {N : Nat} {st : Nat → Prop} {m : Nat → Bool} {row : List Int} {n j : Nat} {x : Int}
theorem QO.pop (h : QO tab N st m (x :: row)) : QI tab N st m row x.toNat 0 := by
  obtain ⟨hx0, hx1⟩ := h.c x (List.mem_cons_self ..)
  refine ⟨h.a, h.b, fun y hy => h.c y (List.mem_cons_of_mem _ hy), fun i hi hr hn => h.d i hi fun hm => ?_, fun y hy => by simp at hy, hx1⟩
  rcases List.mem_cons.1 hm with h1 | h1
  · omega
  · exact hr h1
theorem QI.done (h : QI tab N st m row n j) (hj : (tab.getD n []).length ≤ j) : QO tab N st m row := by
  refine ⟨h.a, h.b, h.c, fun i hi hr => ?_⟩
  by_cases e : i = n
  · subst e
    have := h.e
    rwa [List.take_of_length_le hj] at this
  · exact h.d i hi hr e
theorem QI.skip (h : QI tab N st m row n j) (hj : j < (tab.getD n []).length) (hm : m (tab.getD n [])[j].toNat = true) : QI tab N st m row n (j + 1) := by
  refine ⟨h.a, h.b, h.c, h.d, fun y hy => ?_, h.n_⟩
  rw [take_snoc hj, List.mem_append, List.mem_singleton] at hy
  rcases hy with h1 | rfl
  · exact h.e y h1
  · exact hm
theorem QI.push (h : QI tab N st m row n j) (hj : j < (tab.getD n []).length) (h0 : 0 ≤ (tab.getD n [])[j]) (hN : (tab.getD n [])[j].toNat < N) :
    QI tab N st (fun i => m i || decide (i = (tab.getD n [])[j].toNat)) (row ++ [(tab.getD n [])[j]]) n (j + 1) := by
  have up : ∀ i, m i = true → (m i || decide (i = (tab.getD n [])[j].toNat)) = true := fun i hi => by simp [hi]
  refine ⟨fun i hi => ?_, fun i hi => up i (h.b i hi), fun y hy => ?_, fun i hi hr hn y hy => ?_, fun y hy => ?_, up _ h.n_⟩
  · simp only [Bool.or_eq_true, decide_eq_true_eq] at hi
    rcases hi with h1 | rfl
    · exact h.a i h1
    · exact ⟨hN, .step (h.a n h.n_).2 (List.getElem_mem hj)⟩
  · rcases List.mem_append.1 hy with h1 | h1
    · exact ⟨(h.c y h1).1, up _ (h.c y h1).2⟩
    · rw [List.mem_singleton] at h1
      subst h1
      exact ⟨h0, by simp⟩
  · simp only [Bool.or_eq_true, decide_eq_true_eq] at hi
    rcases hi with h1 | h1
    · exact up _ (h.d i h1 (fun hm => hr (List.mem_append_left _ hm)) hn y hy)
    · exact absurd (List.mem_append_right _ (List.mem_singleton.2 (by omega))) hr
  · rw [take_snoc hj, List.mem_append, List.mem_singleton] at hy
    rcases hy with h1 | rfl
    · exact up _ (h.e y h1)
    · simp
theorem QO.final (h : QO tab N st m []) (i : Nat) : m i = rB tab st i := rB_closed h.b (fun i hi => (h.a i hi).2) (fun i hi => h.d i hi (by simp)) i
end
theorem t_Clone {v : V} {xs : List Int} (hv : LI v xs) (hn : isNilF .sl (er v) = some false) (hl : xs.length ≤ 1048576) : VCall Tryz.prog n_slices_Clone_Sint_int [v] M (fun r M' => Gr 1 M M' r (xs.map vi)) := by
  refine VCall.plain fun R hR => v_slices_Clone_Sint_int rfl ?_
  simp (maxSteps := 2000000) (disch := first | omega | assumption | exact idP rfl | exact idP (bL rfl)) only [go_sem, reduceIte, Nat.reduceEqDiff, hn]
  intro b0 hb0
  have hcs := hv.cells (M := M.set b0 [])
  refine gr_appS (Gr.new' (Sub.refl _) hb0 rfl) (by omega) hv.lenS hcs (by simp) (by simp [vi, oneV, er, oneA]) (by simp [mostCells]; omega) (by simp [mostCells]; omega) ?_
  intro s' M' hg _
  simp (maxSteps := 2000000) (disch := first | omega | assumption | exact idP rfl | exact idP (bL rfl)) only [go_sem, reduceIte, Nat.reduceEqDiff]
  exact hR _ _ hg
theorem Gr.wn {M0 M : MH} {v : V} {xs : List Int} (h : Gr 1 M0 M v (xs.map vi)) (h0 : 0 < xs.length) : Wn M0 M v xs := by
  rcases h.own with ⟨h1, _⟩ | ⟨b, n, ex, rfl, h1, h2⟩
  · have : xs = [] := by simpa using h1
    subst this; simp at h0
  · have hn : n = xs.length := by simp at h2; omega
    subst hn
    exact ⟨b, 0, ex, _, rfl, h1, by simp, by rw [List.drop_zero, List.take_of_length_le (by simp)], h.new b rfl, h.sub⟩
theorem Wn.base {M0 M1 M : MH} {v : V} {xs : List Int} (h : Wn M1 M v xs) (hs : Sub M0 M1) : Wn M0 M v xs := by
  obtain ⟨b, o, ex, l, rfl, h1, h2, h3, h4, h5⟩ := h
  exact ⟨b, o, ex, l, rfl, h1, h2, h3, hs.none h4, hs.trans h5⟩
theorem t_reach {v w : V} {tab : List (List Int)} {xs : List Int} (hv : LII v tab) (hw : LI w xs) (hnn : isNilF .sl (er w) = some false) (hN : tab.length ≤ 1048576) (hl : xs.length ≤ 1048576) (h0 : 0 < xs.length)
    (hin : ∀ x ∈ xs, 0 ≤ x ∧ x < (tab.length : Int)) (htl : ∀ r ∈ tab, r.length ≤ 1048576 ∧ ∀ x ∈ r, 0 ≤ x ∧ x < (tab.length : Int)) :
    VCall Tryz.prog n_impl_reach [v, w] M (fun r M' => Gr 1 M M' r ((mkL tab.length (rB tab fun i => (i : Int) ∈ xs)).map vb)) := by
  refine VCall.plain fun R hR => v_impl_reach rfl ?_
  simp (maxSteps := 2000000) (disch := first | omega | assumption | exact idP rfl | exact idP (bL rfl)) only [go_sem, reduceIte, Nat.reduceEqDiff, hv.len]
  refine mks3 (by omega) (by simp [mostCells]; omega) (by simp [mostCells]; omega) ?_
  intro b5 hb5
  simp (maxSteps := 2000000) (disch := first | omega | assumption | exact idP rfl | exact idP (bL rfl)) only [go_sem, reduceIte, Nat.reduceEqDiff, zeros_vb', mkL_none]
  refine (t_Clone hw hnn hl).mono ?_
  rintro q M1 hq
  have hqw := hq.wn h0
  have hm5 : M1 b5 = some ((mkL tab.length fun _ => false).map vb) := hq.sub _ _ set_same
  have hq5 : blkV q ≠ some b5 := fun e => by
    have := hq.new b5 e
    rw [set_same] at this; cases this
  have hs1 : Sub M (M.set b5 ((mkL tab.length fun _ => false).map vb)) := (Sub.refl M).set' hb5
  have hqw2 := hqw.base hs1
  simp (maxSteps := 2000000) (disch := first | omega | assumption | exact idP rfl | exact idP (bL rfl)) only [go_sem, reduceIte, Nat.reduceEqDiff, hw.len]
  refine loop_k (fun e M' => ∃ i : Nat, i ≤ xs.length ∧ e 0 = v ∧ e 5 = .sc (.sl (some (b5, 0)) tab.length tab.length true 1) ∧ e 6 = q ∧ e 17 = w ∧ e 18 = .sc (.int .i64 xs.length) ∧ e 19 = .sc (.int .i64 i) ∧ Wn M M' q xs ∧ M' b5 = some ((mkL tab.length (inL (xs.take i))).map vb)) (fun e _ => ctrV xs.length (e 19)) ?_ ?_
  · refine ⟨0, by omega, by simp (maxSteps := 2000000) (disch := first | omega | assumption | exact idP rfl | exact idP (bL rfl)) only [go_sem, reduceIte, Nat.reduceEqDiff], by simp (maxSteps := 2000000) (disch := first | omega | assumption | exact idP rfl | exact idP (bL rfl)) only [go_sem, reduceIte, Nat.reduceEqDiff], by simp (maxSteps := 2000000) (disch := first | omega | assumption | exact idP rfl | exact idP (bL rfl)) only [go_sem, reduceIte, Nat.reduceEqDiff], by simp (maxSteps := 2000000) (disch := first | omega | assumption | exact idP rfl | exact idP (bL rfl)) only [go_sem, reduceIte, Nat.reduceEqDiff], by simp (maxSteps := 2000000) (disch := first | omega | assumption | exact idP rfl | exact idP (bL rfl)) only [go_sem, reduceIte, Nat.reduceEqDiff], by simp (maxSteps := 2000000) (disch := first | omega | assumption | exact idP rfl | exact idP (bL rfl)) only [go_sem, reduceIte, Nat.reduceEqDiff]; rfl, hqw2, ?_⟩
    rw [hm5, mkL_ext]
    intro i hi; simp [inL]
  · rintro e M2 ⟨i, hi, e0, e5, e6, e17, e18, e19, hw2, hm⟩ K hK
    simp (maxSteps := 2000000) (disch := first | omega | assumption | exact idP rfl | exact idP (bL rfl)) only [go_sem, reduceIte, Nat.reduceEqDiff, e0, e5, e6, e17, e18, e19]
    refine cond_dec (fun h => ?_) (fun h => ?_)
    · have hi' : i < xs.length := by omega
      have hxi := hin _ (List.getElem_mem hi')
      have hso : xs[i].toNat < ((mkL tab.length (inL (xs.take i))).map vb).length := by rw [len_vb', mkL_len]; omega
      simp (maxSteps := 2000000) (disch := first | omega | assumption | exact idP rfl | exact idP (bL rfl)) only [go_sem, reduceIte, Nat.reduceEqDiff, e0, e5, e6, e17, e18, e19, hw.iaddr, hw.at hi', hm]
      refine hK _ _ ⟨i + 1, by omega, by simp (maxSteps := 2000000) (disch := first | omega | assumption | exact idP rfl | exact idP (bL rfl)) only [go_sem, reduceIte, Nat.reduceEqDiff], by simp (maxSteps := 2000000) (disch := first | omega | assumption | exact idP rfl | exact idP (bL rfl)) only [go_sem, reduceIte, Nat.reduceEqDiff], by simp (maxSteps := 2000000) (disch := first | omega | assumption | exact idP rfl | exact idP (bL rfl)) only [go_sem, reduceIte, Nat.reduceEqDiff], by simp (maxSteps := 2000000) (disch := first | omega | assumption | exact idP rfl | exact idP (bL rfl)) only [go_sem, reduceIte, Nat.reduceEqDiff], by simp (maxSteps := 2000000) (disch := first | omega | assumption | exact idP rfl | exact idP (bL rfl)) only [go_sem, reduceIte, Nat.reduceEqDiff], by simp (maxSteps := 2000000) (disch := first | omega | assumption | exact idP rfl | exact idP (bL rfl)) only [go_sem, reduceIte, Nat.reduceEqDiff]; rfl, hw2.oth hq5 hb5, ?_⟩ (by simp (maxSteps := 2000000) (disch := first | omega | assumption | exact idP rfl | exact idP (bL rfl)) only [go_sem, reduceIte, Nat.reduceEqDiff, ctrV_int, e19]; omega)
      simp (maxSteps := 2000000) (disch := first | omega | assumption | exact idP rfl | exact idP (bL rfl)) only [go_sem, reduceIte, Nat.reduceEqDiff]
      rw [set_vb', mkL_set]
      intro j hj
      simp only [inL, take_snoc hi', List.mem_append, List.mem_singleton, Bool.decide_or]
      congr 1
      apply decide_eq_decide.2
      omega
    · obtain rfl : i = xs.length := by omega
      rw [List.take_length] at hm
      simp (maxSteps := 2000000) (disch := first | omega | assumption | exact idP rfl | exact idP (bL rfl)) only [go_sem, reduceIte, Nat.reduceEqDiff, e0, e5, e6]
      have q0 : QO tab tab.length (fun i => (i : Int) ∈ xs) (inL xs) xs := by
        refine ⟨fun i hi => ?_, fun i hi => by simpa [inL] using hi, fun x hx => ?_, fun i hi hr => absurd (by simpa [inL] using hi) hr⟩
        · have hi : (i : Int) ∈ xs := by simpa [inL] using hi
          exact ⟨by have := hin _ hi; omega, .base hi⟩
        · have := hin x hx
          exact ⟨this.1, by simpa [inL, Int.toNat_of_nonneg this.1] using hx⟩
      refine loop_g (fun k e M' => e 0 = v ∧ e 5 = .sc (.sl (some (b5, 0)) tab.length tab.length true 1) ∧ ∃ (m : Nat → Bool) (row : List Int), blkV (e 6) ≠ some b5 ∧ Wn M M' (e 6) row ∧ M' b5 = some ((mkL tab.length m).map vb) ∧ QO tab tab.length (fun i => (i : Int) ∈ xs) m row ∧ row.length + unm tab.length m ≤ k ∧ k ≤ 2097152) (xs.length + tab.length) ?_ ?_
      · refine ⟨by simp (maxSteps := 2000000) (disch := first | omega | assumption | exact idP rfl | exact idP (bL rfl)) only [go_sem, reduceIte, Nat.reduceEqDiff], by simp (maxSteps := 2000000) (disch := first | omega | assumption | exact idP rfl | exact idP (bL rfl)) only [go_sem, reduceIte, Nat.reduceEqDiff], _, xs, by simp (maxSteps := 2000000) (disch := first | omega | assumption | exact idP rfl | exact idP (bL rfl)) only [go_sem, reduceIte, Nat.reduceEqDiff, e6]; exact hq5, by simp (maxSteps := 2000000) (disch := first | omega | assumption | exact idP rfl | exact idP (bL rfl)) only [go_sem, reduceIte, Nat.reduceEqDiff, e6]; exact hw2, hm, q0, ?_, by omega⟩
        have : unm tab.length (inL xs) ≤ tab.length := by unfold unm; exact Nat.le_trans (List.length_filter_le ..) (by simp)
        omega
      · rintro k e M3 ⟨e0, e5, m, row, g6, gw, gm, gq, gk, gk2⟩ K hK
        simp (maxSteps := 2000000) (disch := first | omega | assumption | exact idP rfl | exact idP (bL rfl)) only [go_sem, reduceIte, Nat.reduceEqDiff, gw.len]
        refine cond_dec (fun h => ?_) (fun h => ?_)
        · match row, gw, gq, gk, h with
          | [], _, _, _, h => simp at h
          | x :: row, gw, gq, gk, h =>
            obtain ⟨p, p1, p2⟩ := gw.head
            have qi := gq.pop
            have hxN := (gq.a _ qi.n_).1
            have hx0 := (gq.c x (List.mem_cons_self ..)).1
            have hgd : tab.getD x.toNat [] = tab[x.toNat] := by simp [List.getD, hxN]
            have hrow := hv.elt hxN
            have hri := htl _ (List.getElem_mem hxN)
            simp only [List.length_cons] at gk
            simp (maxSteps := 2000000) (disch := first | omega | assumption | exact idP rfl | exact idP (bL rfl)) only [go_sem, reduceIte, Nat.reduceEqDiff, p1, p2]
            refine wn_drop gw fun v' gw' hbv => ?_
            have g6' : blkV v' ≠ some b5 := by rw [hbv]; exact g6
            simp (maxSteps := 2000000) (disch := first | omega | assumption | exact idP rfl | exact idP (bL rfl)) only [go_sem, reduceIte, Nat.reduceEqDiff, e0, e5, hv.iaddr, hrow.len]
            refine loop_k (fun e' M' => ∃ j : Nat, j ≤ tab[x.toNat].length ∧ e' 0 = v ∧ e' 5 = .sc (.sl (some (b5, 0)) tab.length tab.length true 1) ∧ e' 38 = at1 v x.toNat ∧ e' 39 = .sc (.int .i64 tab[x.toNat].length) ∧ e' 40 = .sc (.int .i64 j) ∧ ∃ (m : Nat → Bool) (row : List Int), blkV (e' 6) ≠ some b5 ∧ Wn M M' (e' 6) row ∧ M' b5 = some ((mkL tab.length m).map vb) ∧ QI tab tab.length (fun i => (i : Int) ∈ xs) m row x.toNat j ∧ row.length + unm tab.length m + 1 ≤ k) (fun e' _ => ctrV tab[x.toNat].length (e' 40)) ?_ ?_
            · exact ⟨0, by omega, by simp (maxSteps := 2000000) (disch := first | omega | assumption | exact idP rfl | exact idP (bL rfl)) only [go_sem, reduceIte, Nat.reduceEqDiff, e0], by simp (maxSteps := 2000000) (disch := first | omega | assumption | exact idP rfl | exact idP (bL rfl)) only [go_sem, reduceIte, Nat.reduceEqDiff, e5], by simp (maxSteps := 2000000) (disch := first | omega | assumption | exact idP rfl | exact idP (bL rfl)) only [go_sem, reduceIte, Nat.reduceEqDiff], by simp (maxSteps := 2000000) (disch := first | omega | assumption | exact idP rfl | exact idP (bL rfl)) only [go_sem, reduceIte, Nat.reduceEqDiff], by simp (maxSteps := 2000000) (disch := first | omega | assumption | exact idP rfl | exact idP (bL rfl)) only [go_sem, reduceIte, Nat.reduceEqDiff]; rfl, m, row, by simp (maxSteps := 2000000) (disch := first | omega | assumption | exact idP rfl | exact idP (bL rfl)) only [go_sem, reduceIte, Nat.reduceEqDiff]; exact g6', by simp (maxSteps := 2000000) (disch := first | omega | assumption | exact idP rfl | exact idP (bL rfl)) only [go_sem, reduceIte, Nat.reduceEqDiff]; exact gw', gm, qi, by omega⟩
            · rintro e' M4 ⟨j, hj, f0, f5, f38, f39, f40, m, row, u6, uw, um, uq, uk⟩ K2 hK2
              simp (maxSteps := 2000000) (disch := first | omega | assumption | exact idP rfl | exact idP (bL rfl)) only [go_sem, reduceIte, Nat.reduceEqDiff, f0, f5, f38, f39, f40]
              refine cond_dec (fun h => ?_) (fun h => ?_)
              · have hj' : j < tab[x.toNat].length := by omega
                have hyj := hri.2 _ (List.getElem_mem hj')
                have hjd : j < (tab.getD x.toNat []).length := by rw [hgd]; exact hj'
                have hyd : (tab.getD x.toNat [])[j] = tab[x.toNat][j] := by simp only [hgd]
                have hym : tab[x.toNat][j].toNat < (mkL tab.length m).length := by rw [mkL_len]; omega
                have hyl : ((mkL tab.length m).map vb)[tab[x.toNat][j].toNat]? = some (vb (m tab[x.toNat][j].toNat)) := by
                  rw [List.getElem?_map, List.getElem?_eq_getElem hym, mkL_get]; rfl
                have hso : tab[x.toNat][j].toNat < ((mkL tab.length m).map vb).length := by rw [len_vb']; exact hym
                simp (maxSteps := 2000000) (disch := first | omega | assumption | exact idP rfl | exact idP (bL rfl)) only [go_sem, reduceIte, Nat.reduceEqDiff, f0, f5, f38, f39, f40, hrow.iaddr, hrow.at hj', um, hyl]
                cases hmy : m tab[x.toNat][j].toNat with
                | true =>
                  simp (maxSteps := 2000000) (disch := first | omega | assumption | exact idP rfl | exact idP (bL rfl)) only [go_sem, reduceIte, Nat.reduceEqDiff, vb, hmy, f0, f5, f38, f39, f40]
                  refine hK2 _ _ ⟨j + 1, by omega, by simp (maxSteps := 2000000) (disch := first | omega | assumption | exact idP rfl | exact idP (bL rfl)) only [go_sem, reduceIte, Nat.reduceEqDiff, f0], by simp (maxSteps := 2000000) (disch := first | omega | assumption | exact idP rfl | exact idP (bL rfl)) only [go_sem, reduceIte, Nat.reduceEqDiff, f5], by simp (maxSteps := 2000000) (disch := first | omega | assumption | exact idP rfl | exact idP (bL rfl)) only [go_sem, reduceIte, Nat.reduceEqDiff, f38], by simp (maxSteps := 2000000) (disch := first | omega | assumption | exact idP rfl | exact idP (bL rfl)) only [go_sem, reduceIte, Nat.reduceEqDiff, f39], by simp (maxSteps := 2000000) (disch := first | omega | assumption | exact idP rfl | exact idP (bL rfl)) only [go_sem, reduceIte, Nat.reduceEqDiff, f40]; rfl, m, row, by simp (maxSteps := 2000000) (disch := first | omega | assumption | exact idP rfl | exact idP (bL rfl)) only [go_sem, reduceIte, Nat.reduceEqDiff]; exact u6, by simp (maxSteps := 2000000) (disch := first | omega | assumption | exact idP rfl | exact idP (bL rfl)) only [go_sem, reduceIte, Nat.reduceEqDiff]; exact uw, um, uq.skip hjd (by rw [hyd]; exact hmy), uk⟩ (by simp (maxSteps := 2000000) (disch := first | omega | assumption | exact idP rfl | exact idP (bL rfl)) only [go_sem, reduceIte, Nat.reduceEqDiff, ctrV_int, f40]; omega)
                | false =>
                  simp (maxSteps := 2000000) (disch := first | omega | assumption | exact idP rfl | exact idP (bL rfl)) only [go_sem, reduceIte, Nat.reduceEqDiff, vb, f0, f5, f38, f39, f40, um]
                  intro bt hbt
                  have hbt5 := (fresh_set hbt)
                  have uw2 := uw.oth (l' := ((mkL tab.length m).map vb).set tab[x.toNat][j].toNat (.sc (.bool true))) u6 hb5
                  have hlen : row.length ≤ 2097152 := by omega
                  refine wn_app uw2 hbt (by omega) (by omega) ?_
                  intro v2 M5 gw5 ho5
                  simp (maxSteps := 2000000) (disch := first | omega | assumption | exact idP rfl | exact idP (bL rfl)) only [go_sem, reduceIte, Nat.reduceEqDiff, f0, f5, f38, f39, f40]
                  have q2 := uq.push hjd (by rw [hyd]; exact hyj.1) (by rw [hyd]; omega)
                  simp only [hyd] at q2
                  obtain ⟨r1, r2⟩ := ho5 b5 _ set_same u6
                  have hun := unm_lt (n := tab.length) (m := m) (m' := fun i => m i || decide (i = tab[x.toNat][j].toNat)) (k := tab[x.toNat][j].toNat) (by omega) hmy (by simp) (fun i hi => by simp [hi])
                  refine hK2 _ _ ⟨j + 1, by omega, by simp (maxSteps := 2000000) (disch := first | omega | assumption | exact idP rfl | exact idP (bL rfl)) only [go_sem, reduceIte, Nat.reduceEqDiff, f0], by simp (maxSteps := 2000000) (disch := first | omega | assumption | exact idP rfl | exact idP (bL rfl)) only [go_sem, reduceIte, Nat.reduceEqDiff, f5], by simp (maxSteps := 2000000) (disch := first | omega | assumption | exact idP rfl | exact idP (bL rfl)) only [go_sem, reduceIte, Nat.reduceEqDiff, f38], by simp (maxSteps := 2000000) (disch := first | omega | assumption | exact idP rfl | exact idP (bL rfl)) only [go_sem, reduceIte, Nat.reduceEqDiff, f39], by simp (maxSteps := 2000000) (disch := first | omega | assumption | exact idP rfl | exact idP (bL rfl)) only [go_sem, reduceIte, Nat.reduceEqDiff, f40]; rfl, _, _, by simp (maxSteps := 2000000) (disch := first | omega | assumption | exact idP rfl | exact idP (bL rfl)) only [go_sem, reduceIte, Nat.reduceEqDiff]; exact r2, by simp (maxSteps := 2000000) (disch := first | omega | assumption | exact idP rfl | exact idP (bL rfl)) only [go_sem, reduceIte, Nat.reduceEqDiff]; exact gw5, ?_, q2, by simp only [List.length_append, List.length_singleton]; omega⟩ (by simp (maxSteps := 2000000) (disch := first | omega | assumption | exact idP rfl | exact idP (bL rfl)) only [go_sem, reduceIte, Nat.reduceEqDiff, ctrV_int, f40]; omega)
                  rw [r1, set_vb', mkL_set]
                  intro i hi
                  rfl
              · obtain rfl : j = tab[x.toNat].length := by omega
                simp (maxSteps := 2000000) (disch := first | omega | assumption | exact idP rfl | exact idP (bL rfl)) only [go_sem, reduceIte, Nat.reduceEqDiff, f0, f5]
                exact hK (k - 1) _ _ (by omega) ⟨by simp (maxSteps := 2000000) (disch := first | omega | assumption | exact idP rfl | exact idP (bL rfl)) only [go_sem, reduceIte, Nat.reduceEqDiff, f0], by simp (maxSteps := 2000000) (disch := first | omega | assumption | exact idP rfl | exact idP (bL rfl)) only [go_sem, reduceIte, Nat.reduceEqDiff, f5], m, row, by simp (maxSteps := 2000000) (disch := first | omega | assumption | exact idP rfl | exact idP (bL rfl)) only [go_sem, reduceIte, Nat.reduceEqDiff]; exact u6, by simp (maxSteps := 2000000) (disch := first | omega | assumption | exact idP rfl | exact idP (bL rfl)) only [go_sem, reduceIte, Nat.reduceEqDiff]; exact uw, um, uq.done (by rw [hgd]; omega), by omega, by omega⟩
        · have hr0 : row = [] := List.eq_nil_of_length_eq_zero (by omega)
          subst hr0
          simp (maxSteps := 2000000) (disch := first | omega | assumption | exact idP rfl | exact idP (bL rfl)) only [go_sem, reduceIte, Nat.reduceEqDiff, e5]
          rw [mkL_ext (q := rB tab fun i => (i : Int) ∈ xs) (fun i _ => gq.final i)] at gm
          exact hR _ _ ⟨gw.sub, fun b' h' => by simp [blkV] at h'; subst h'; exact hb5, .inr ⟨b5, _, true, rfl, gm, by rw [len_vb', mkL_len]; omega⟩⟩
end Go.M2

namespace Go.M2
open Go.Proofs
set_option linter.unusedVariables false
set_option linter.unusedSimpArgs false
inductive Rk (tab : List (List Int)) (st : Nat → Prop) : Nat → Nat → Prop
  | zero {i : Nat} : st i → Rk tab st 0 i
  | succ {k i : Nat} {x : Int} : Rk tab st k i → x ∈ tab.getD i [] → Rk tab st (k + 1) x.toNat
open Classical in
noncomputable def dst (tab : List (List Int)) (st : Nat → Prop) (i : Nat) : Int := if ∃ k, Rk tab st k i then (leastOf fun k => Rk tab st k i : Nat) else -1
section
variable {tab : List (List Int)} {st : Nat → Prop} {i d : Nat}
theorem dst_of {k : Nat} (h : Rk tab st k i) : ∃ n : Nat, dst tab st i = (n : Int) ∧ Rk tab st n i ∧ n ≤ k := by
  have hs := leastOf_spec (p := fun k => Rk tab st k i) ⟨k, h⟩
  refine ⟨_, ?_, hs.1, hs.2 k h⟩
  unfold dst
  rw [if_pos ⟨k, h⟩]
theorem dst_ge (tab : List (List Int)) (st : Nat → Prop) (i : Nat) : -1 ≤ dst tab st i := by
  unfold dst
  split <;> omega
theorem dst_nat {n : Nat} (h : dst tab st i = (n : Int)) : Rk tab st n i ∧ ∀ k, Rk tab st k i → n ≤ k := by
  have hex : ∃ k, Rk tab st k i := by
    apply Classical.byContradiction
    intro hn
    unfold dst at h
    rw [if_neg hn] at h
    omega
  have hs := leastOf_spec (p := fun k => Rk tab st k i) hex
  have e : (leastOf fun k => Rk tab st k i) = n := by
    unfold dst at h
    rw [if_pos hex] at h
    omega
  rw [e] at hs
  exact hs
theorem dst_rch : 0 ≤ dst tab st i ↔ Rch tab st i := by
  constructor
  · intro h
    obtain ⟨n, hn⟩ : ∃ n : Nat, dst tab st i = (n : Int) := ⟨(dst tab st i).toNat, by omega⟩
    have h1 := (dst_nat hn).1
    clear hn h
    induction h1 with
    | zero h => exact .base h
    | succ _ hx ih => exact .step ih hx
  · intro h
    have : ∃ k, Rk tab st k i := by
      induction h with
      | base h => exact ⟨0, .zero h⟩
      | step _ hx ih => obtain ⟨k, hk⟩ := ih; exact ⟨k + 1, .succ hk hx⟩
    obtain ⟨k, hk⟩ := this
    obtain ⟨n, h1, _⟩ := dst_of hk
    omega
theorem dst_zero : dst tab st i = 0 ↔ st i := by
  constructor
  · intro h
    have h1 := (dst_nat (n := 0) h).1
    cases h1 with
    | zero h => exact h
  · intro h
    obtain ⟨n, h1, _, h2⟩ := dst_of (tab := tab) (.zero h)
    omega
theorem dst_pred (h : dst tab st i = ((d + 1 : Nat) : Int)) : ∃ (p : Nat) (x : Int), dst tab st p = (d : Int) ∧ x ∈ tab.getD p [] ∧ x.toNat = i := by
  obtain ⟨h1, h2⟩ := dst_nat h
  generalize hk : d + 1 = k at h1
  cases h1 with
  | zero h => omega
  | @succ k p x hp hx =>
    obtain ⟨n, q1, q2, q3⟩ := dst_of hp
    have := h2 _ (.succ q2 hx)
    exact ⟨p, x, by omega, hx, rfl⟩
theorem dst_next {x : Int} (h : dst tab st i = (d : Int)) (hx : x ∈ tab.getD i []) : 0 ≤ dst tab st x.toNat ∧ dst tab st x.toNat ≤ (d : Int) + 1 := by
  obtain ⟨n, q1, _, q2⟩ := dst_of (.succ (dst_nat h).1 hx)
  omega
theorem dst_all (h : ∀ i, dst tab st i ≠ ((d + 1 : Nat) : Int)) : ∀ i, dst tab st i ≤ (d : Int) := by
  have key : ∀ (n : Nat) (i : Nat), dst tab st i = ((d + 1 + n : Nat) : Int) → False := by
    intro n
    induction n with
    | zero => exact fun i hi => h i hi
    | succ n ih =>
      intro i hi
      obtain ⟨p, x, hp, _⟩ := dst_pred (d := d + 1 + n) hi
      exact ih p hp
  intro i
  rcases Int.lt_or_le (d : Int) (dst tab st i) with h1 | h1
  · exact (key ((dst tab st i).toNat - (d + 1)) i (by omega)).elim
  · exact h1
end
noncomputable def lv (tab : List (List Int)) (st : Nat → Prop) (d : Int) (i : Nat) : Int := if dst tab st i ≤ d then dst tab st i else -1
def mkI (n : Nat) (f : Nat → Int) : List Int := (List.range n).map f
theorem mkI_len {n : Nat} {f : Nat → Int} : (mkI n f).length = n := by simp [mkI]
theorem mkI_get {n : Nat} {f : Nat → Int} {i : Nat} (h : i < (mkI n f).length) : (mkI n f)[i] = f i := by simp [mkI]
theorem mkI_ext {n : Nat} {f g : Nat → Int} (h : ∀ i, i < n → f i = g i) : mkI n f = mkI n g := by
  unfold mkI
  exact List.map_congr_left fun i hi => h i (List.mem_range.1 hi)
theorem mkI_set {n k : Nat} {f g : Nat → Int} {x : Int} (h : ∀ i, i < n → g i = if i = k then x else f i) : (mkI n f).set k x = mkI n g := by
  apply List.ext_getElem
  · simp [mkI]
  · intro i h1 h2
    rw [List.getElem_set, mkI_get, mkI_get]
    rw [mkI_len] at h2
    rw [h i h2]
    by_cases e : k = i
    · subst e; simp
    · rw [if_neg e, if_neg (fun e' => e e'.symm)]
theorem mkI_succ {n : Nat} {f : Nat → Int} : mkI (n + 1) f = mkI n f ++ [f n] := by simp [mkI, List.range_succ]
structure LvI (tab : List (List Int)) (N : Nat) (st : Nat → Prop) (d : Nat) (a : Nat → Bool) (n : Nat) : Prop where
  s : ∀ i, a i = true → i < N ∧ dst tab st i = ((d + 1 : Nat) : Int)
  c : ∀ p, p < n → dst tab st p = (d : Int) → ∀ y ∈ tab.getD p [], 0 ≤ lv tab st d y.toNat ∨ a y.toNat = true
noncomputable def lvA (tab : List (List Int)) (st : Nat → Prop) (d : Nat) (a : Nat → Bool) (i : Nat) : Int := if a i = true then (d : Int) + 1 else lv tab st d i
section
variable {tab : List (List Int)} {N : Nat} {st : Nat → Prop} {d n : Nat} {a : Nat → Bool}
theorem LvI.last (h : LvI tab N st d a N) (hst : ∀ i, Rch tab st i → i < N) (i : Nat) : lvA tab st d a i = lv tab st ((d : Int) + 1) i := by
  unfold lvA lv
  by_cases ha : a i = true
  · rw [if_pos ha, (h.s i ha).2, if_pos (by omega)]; omega
  · rw [if_neg ha]
    by_cases h1 : dst tab st i ≤ (d : Int)
    · rw [if_pos h1, if_pos (by omega)]
    · rw [if_neg h1]
      by_cases h2 : dst tab st i ≤ (d : Int) + 1
      · exfalso
        obtain ⟨p, x, hp, hx, rfl⟩ := dst_pred (d := d) (show dst tab st i = ((d + 1 : Nat) : Int) by omega)
        rcases h.c p (hst p (dst_rch.1 (by omega))) hp x hx with h3 | h3
        · unfold lv at h3
          rw [if_neg h1] at h3
          omega
        · exact ha h3
      · rw [if_neg h2]
theorem LvI.none (h : LvI tab N st d a N) (hst : ∀ i, Rch tab st i → i < N) (ha : ∀ i, a i = false) (i : Nat) : lvA tab st d a i = dst tab st i := by
  have hall := dst_all (tab := tab) (st := st) (d := d) fun j hj => by
    have h1 := h.last hst j
    unfold lvA lv at h1
    rw [ha j] at h1
    simp only [Bool.false_eq_true, if_false] at h1
    rw [if_neg (by omega), if_pos (by omega)] at h1
    omega
  unfold lvA lv
  rw [ha i, if_pos (hall i)]
  simp
theorem LvI.mono {a' : Nat → Bool} (h : LvI tab N st d a n) (h2 : ∀ i, a' i = true → i < N ∧ dst tab st i = ((d + 1 : Nat) : Int)) (h3 : ∀ i, a i = true → a' i = true) : LvI tab N st d a' n :=
  ⟨h2, fun p hp hd y hy => (h.c p hp hd y hy).imp id (h3 _)⟩
end
end Go.M2

namespace Go.M2
open Go.Proofs
set_option linter.unusedVariables false
set_option linter.unusedSimpArgs false
set_option maxRecDepth 10000
set_option maxHeartbeats 4000000
variable {M : MH}
abbrev stF (s : SysS) : Nat → Prop := fun i => (i : Int) ∈ [firstN s]
theorem t_reachOf {v : V} {s : SysS} (hv : isSys s v) (hs : SysOk s) : VCall Tryz.prog n_impl_reachOf [v] M (fun r M' => Gr 1 M M' r ((mkL (tabF s).length (rB (tabF s) (stF s))).map vb)) := by
  refine VCall.plain fun R hR => v_impl_reachOf rfl ?_
  have hv0 := hv
  obtain ⟨a, b, rfl, ha, hb⟩ := hv
  have hsz := hs.sz
  have htl := tabF_len s
  have hfb := firstN_bd hs
  (repeat' (first | ((first | with_reducible refine cond_dec (fun h => ?_) (fun h => ?_) | with_reducible refine guardK_dec (fun h => ?_) (fun h => ?_) | with_reducible refine guardD3_dec (fun h => ?_) (fun h => ?_)) <;> first | (exfalso; omega) | (simp (maxSteps := 2000000) (disch := first | omega | assumption | exact idP rfl | exact idP (bL rfl)) only [go_sem, reduceIte, Nat.reduceEqDiff, h]) | skip) | ((first | with_reducible refine cond_split (fun h => ?_) (fun h => ?_) | with_reducible refine guardK_split (fun h => ?_) (fun h => ?_) | with_reducible refine guardD3_split (fun h => ?_) (fun h => ?_)) <;> ((try simp only [Bool.not_eq_true', Bool.not_eq_false'] at h); first | (simp (maxSteps := 2000000) (disch := first | omega | assumption | exact idP rfl | exact idP (bL rfl)) only [go_sem, reduceIte, Nat.reduceEqDiff, h]) | skip)) | (with_reducible intro bk hbk; try have hnk := (fresh_set hbk).1) | (simp (maxSteps := 2000000) (disch := first | omega | assumption | exact idP rfl | exact idP (bL rfl)) only [go_sem, reduceIte, Nat.reduceEqDiff])))
  refine (f_nexts hv0 hs).mono ?_
  rintro t _ ⟨rfl, ht⟩
  simp (maxSteps := 2000000) (disch := first | omega | assumption | exact idP rfl | exact idP (bL rfl)) only [go_sem, reduceIte, Nat.reduceEqDiff]
  refine (t_first hv0 hs).mono ?_
  rintro f _ ⟨rfl, hf⟩
  simp (maxSteps := 2000000) (disch := first | omega | assumption | exact idP rfl | exact idP (bL rfl)) only [go_sem, reduceIte, Nat.reduceEqDiff]
  refine (t_number ha hf hs.vars hs.v5 (first_in hs)).mono ?_
  rintro _ _ ⟨rfl, rfl⟩
  have e9 : numF s.vars (firstF s) = firstN s := rfl
  simp (maxSteps := 2000000) (disch := first | omega | assumption | exact idP rfl | exact idP (bL rfl)) only [go_sem, reduceIte, Nat.reduceEqDiff, e9]
  intro b9 hb9
  have hg : Gr 1 M ((M.set bk [a, b]).set b9 [.sc (.int .i64 (firstN s))]) (.sc (.sl (some (b9, 0)) 1 1 true 1)) ([firstN s].map vi) := Gr.new' ((Sub.refl M).set' hbk) hb9 rfl
  refine (VCall.give1 hg fun u M2 hu hs2 => (t_reach ht hu.li (hu.some (by simp)) (by omega) (by simp) (by simp) (by intro x hx; rw [List.mem_singleton] at hx; subst hx; omega) (tabF_in hs)).mono fun r M' hr => hr.base hs2).mono ?_
  rintro r M' hr
  simp (maxSteps := 2000000) (disch := first | omega | assumption | exact idP rfl | exact idP (bL rfl)) only [go_sem, reduceIte, Nat.reduceEqDiff]
  exact hR _ _ hr
theorem f_reachOf {v : V} {s : SysS} (hv : isSys s v) (hs : SysOk s) : VCall Tryz.prog n_impl_reachOf [v] M (fun r M' => M = M' ∧ LB r (mkL (tabF s).length (rB (tabF s) (stF s)))) :=
  (VCall.fr1 (t_reachOf hv hs)).mono fun r M' ⟨h1, h2⟩ => ⟨h1, h2.lb⟩
noncomputable def alwaysI (s : SysS) (ts : List TermS) : Bool := tOk s ts && allB (tabF s).length (rB (tabF s) (stF s)) (whB s ts)
theorem t_impAlways {v w : V} {s : SysS} {ts : List TermS} (hv : isSys s v) (hz : SysSz s) (hw : LT w ts) : VCall Tryz.prog n_impl_Always [v, w] M (fun r M' => M = M' ∧ r = .sc (.bool (alwaysI s ts))) := by
  refine VCall.pure fun R hR => v_impl_Always rfl ?_
  have hv0 := hv
  obtain ⟨a, b, rfl, ha, hb⟩ := hv
  (repeat' (first | ((first | with_reducible refine cond_dec (fun h => ?_) (fun h => ?_) | with_reducible refine guardK_dec (fun h => ?_) (fun h => ?_) | with_reducible refine guardD3_dec (fun h => ?_) (fun h => ?_)) <;> first | (exfalso; omega) | (simp (maxSteps := 2000000) (disch := first | omega | assumption | exact idP rfl | exact idP (bL rfl)) only [go_sem, reduceIte, Nat.reduceEqDiff, h]) | skip) | ((first | with_reducible refine cond_split (fun h => ?_) (fun h => ?_) | with_reducible refine guardK_split (fun h => ?_) (fun h => ?_) | with_reducible refine guardD3_split (fun h => ?_) (fun h => ?_)) <;> ((try simp only [Bool.not_eq_true', Bool.not_eq_false'] at h); first | (simp (maxSteps := 2000000) (disch := first | omega | assumption | exact idP rfl | exact idP (bL rfl)) only [go_sem, reduceIte, Nat.reduceEqDiff, h]) | skip)) | ((with_reducible refine (t_truthOf hv0 hz hw).mono ?_); rintro _ _ ⟨rfl, rfl⟩) | (with_reducible intro bk hbk; try have hnk := (fresh_set hbk).1) | (simp (maxSteps := 2000000) (disch := first | omega | assumption | exact idP rfl | exact idP (bL rfl)) only [go_sem, reduceIte, Nat.reduceEqDiff])))
  · obtain ⟨hs, hk⟩ := tOk_iff.1 h
    have hsz := hs.sz
    have htl := tabF_len s
    refine (f_reachOf hv0 hs).mono ?_
    rintro m _ ⟨rfl, hm⟩
    simp (maxSteps := 2000000) (disch := first | omega | assumption | exact idP rfl | exact idP (bL rfl)) only [go_sem, reduceIte, Nat.reduceEqDiff]
    refine (t_always hv0 hs hw hk (by omega) hm).mono ?_
    rintro _ _ ⟨rfl, rfl⟩
    simp (maxSteps := 2000000) (disch := first | omega | assumption | exact idP rfl | exact idP (bL rfl)) only [go_sem, reduceIte, Nat.reduceEqDiff]
    exact hR _ _ (by (repeat (first | exact Sub.refl _ | assumption | (refine Sub.set' ?_ (by assumption))))) (by simp [alwaysI, h])
  · exact hR _ _ (by (repeat (first | exact Sub.refl _ | assumption | (refine Sub.set' ?_ (by assumption))))) (by simp [alwaysI, h])
theorem t_l5First {v : V} {s : SysS} (hv : isSys s v) (hs : SysOk s) : VCall Tryz.prog n_spec_l5First [v] M (fun r M' => Gr 1 M M' r ((mkL (tabF s).length (inL [firstN s])).map vb)) := by
  refine VCall.plain fun R hR => v_spec_l5First rfl ?_
  have hv0 := hv
  obtain ⟨a, b, rfl, ha, hb⟩ := hv
  have hsz := hs.sz
  have htl := tabF_len s
  have hfb := firstN_bd hs
  (repeat' (first | ((first | with_reducible refine cond_dec (fun h => ?_) (fun h => ?_) | with_reducible refine guardK_dec (fun h => ?_) (fun h => ?_) | with_reducible refine guardD3_dec (fun h => ?_) (fun h => ?_)) <;> first | (exfalso; omega) | (simp (maxSteps := 2000000) (disch := first | omega | assumption | exact idP rfl | exact idP (bL rfl)) only [go_sem, reduceIte, Nat.reduceEqDiff, h]) | skip) | ((first | with_reducible refine cond_split (fun h => ?_) (fun h => ?_) | with_reducible refine guardK_split (fun h => ?_) (fun h => ?_) | with_reducible refine guardD3_split (fun h => ?_) (fun h => ?_)) <;> ((try simp only [Bool.not_eq_true', Bool.not_eq_false'] at h); first | (simp (maxSteps := 2000000) (disch := first | omega | assumption | exact idP rfl | exact idP (bL rfl)) only [go_sem, reduceIte, Nat.reduceEqDiff, h]) | skip)) | (with_reducible intro bk hbk; try have hnk := (fresh_set hbk).1) | (simp (maxSteps := 2000000) (disch := first | omega | assumption | exact idP rfl | exact idP (bL rfl)) only [go_sem, reduceIte, Nat.reduceEqDiff])))
  refine (VCall.fr1 (t_FirstState hv0 hs)).mono ?_
  rintro f _ ⟨rfl, hf⟩
  simp (maxSteps := 2000000) (disch := first | omega | assumption | exact idP rfl | exact idP (bL rfl)) only [go_sem, reduceIte, Nat.reduceEqDiff]
  refine (t_l4Number ha hf.li hs.vars hs.v5 (first_in hs)).mono ?_
  rintro _ _ ⟨rfl, rfl⟩
  have e9 : numF s.vars (firstF s) = firstN s := rfl
  simp (maxSteps := 2000000) (disch := first | omega | assumption | exact idP rfl | exact idP (bL rfl)) only [go_sem, reduceIte, Nat.reduceEqDiff, e9]
  refine (t_SizeOf hv0 hs).mono ?_
  rintro _ _ ⟨rfl, rfl⟩
  simp (maxSteps := 2000000) (disch := first | omega | assumption | exact idP rfl | exact idP (bL rfl)) only [go_sem, reduceIte, Nat.reduceEqDiff]
  intro b9 hb9
  have hg : Gr 1 M ((M.set bk [a, b]).set b9 [.sc (.int .i64 (firstN s))]) (.sc (.sl (some (b9, 0)) 1 1 true 1)) ([firstN s].map vi) := Gr.new' ((Sub.refl M).set' hbk) hb9 rfl
  have hle : sizeF s.vars = ((tabF s).length : Int) := by omega
  rw [hle]
  refine (VCall.give0 hg fun u M2 hu hs2 => (t_l4Marks hu.li (by omega) (by simp) (by intro x hx; rw [List.mem_singleton] at hx; subst hx; omega)).mono fun r M' hr => hr.base hs2).mono ?_
  rintro r M' hr
  simp (maxSteps := 2000000) (disch := first | omega | assumption | exact idP rfl | exact idP (bL rfl)) only [go_sem, reduceIte, Nat.reduceEqDiff]
  exact hR _ _ hr
theorem vi_at {n : Nat} {f : Nat → Int} {i : Nat} (h : i < n) : ((mkI n f).map vi)[i]? = some (.sc (.int .i64 (f i))) := by
  rw [List.getElem?_map, List.getElem?_eq_getElem (by rw [mkI_len]; exact h), mkI_get]; rfl
theorem set_vi' {bs : List Int} {i : Nat} {b : Int} : (bs.map vi).set i (.sc (.int .i64 b)) = (bs.set i b).map vi := by rw [List.map_set]; rfl
theorem t_l5Steps {v w : V} {tab : List (List Int)} {m0 : Nat → Bool} {st : Nat → Prop} (hv : LII v tab) (hw : LB w (mkL tab.length m0)) (hN : tab.length ≤ 1048576) (hm0 : ∀ i, i < tab.length → (m0 i = true ↔ st i)) (hst : ∀ i, Rch tab st i → i < tab.length)
    (htl : ∀ r ∈ tab, r.length ≤ 1048576 ∧ ∀ x ∈ r, 0 ≤ x ∧ x < (tab.length : Int)) :
    VCall Tryz.prog n_spec_l5Steps [v, w] M (fun r M' => Gr 1 M M' r ((mkI tab.length (dst tab st)).map vi)) := by
  refine VCall.plain fun R hR => v_spec_l5Steps rfl ?_
  obtain ⟨N, hNe⟩ : ∃ N, tab.length = N := ⟨_, rfl⟩
  have hvl := hv.len
  rw [hNe] at hvl hw hN hm0 hst htl hR
  have hlv0 : ∀ i, (st i → lv tab st (0 : Nat) i = 0) ∧ (¬ st i → lv tab st (0 : Nat) i = -1) := by
    intro i
    have hg := dst_ge tab st i
    unfold lv
    refine ⟨fun hs => ?_, fun hs => ?_⟩
    · rw [(dst_zero (tab := tab)).2 hs, if_pos (by omega)]
    · split
      · rename_i h
        have : dst tab st i ≠ 0 := fun h0 => hs (dst_zero.1 h0)
        omega
      · rfl
  simp (maxSteps := 2000000) (disch := first | omega | assumption | exact idP rfl | exact idP (bL rfl)) only [go_sem, reduceIte, Nat.reduceEqDiff]
  intro b5 hb5
  refine loop_k (fun e M' => ∃ i : Nat, i ≤ N ∧ e 0 = v ∧ e 1 = w ∧ e 6 = .sc (.int .i64 i) ∧ Gr 1 M M' (e 5) ((mkI i (lv tab st (0 : Nat))).map vi)) (fun e _ => ctrV N (e 6)) ?_ ?_
  · exact ⟨0, by omega, by simp (maxSteps := 2000000) (disch := first | omega | assumption | exact idP rfl | exact idP (bL rfl)) only [go_sem, reduceIte, Nat.reduceEqDiff], by simp (maxSteps := 2000000) (disch := first | omega | assumption | exact idP rfl | exact idP (bL rfl)) only [go_sem, reduceIte, Nat.reduceEqDiff], by simp (maxSteps := 2000000) (disch := first | omega | assumption | exact idP rfl | exact idP (bL rfl)) only [go_sem, reduceIte, Nat.reduceEqDiff]; rfl, by simp (maxSteps := 2000000) (disch := first | omega | assumption | exact idP rfl | exact idP (bL rfl)) only [go_sem, reduceIte, Nat.reduceEqDiff]; exact Gr.new' (Sub.refl _) hb5 rfl⟩
  · rintro e M1 ⟨i, hi, e0, e1, e6, hg⟩ K hK
    have hil : (mkI i (lv tab st (0 : Nat))).length = i := mkI_len
    simp (maxSteps := 2000000) (disch := first | omega | assumption | exact idP rfl | exact idP (bL rfl)) only [go_sem, reduceIte, Nat.reduceEqDiff, e0, e1, e6, hvl]
    refine cond_dec (fun h => ?_) (fun h => ?_)
    · have hi' : i < (mkL N m0).length := by rw [mkL_len]; omega
      simp (maxSteps := 2000000) (disch := first | omega | assumption | exact idP rfl | exact idP (bL rfl)) only [go_sem, reduceIte, Nat.reduceEqDiff, e0, e1, e6, hw.iaddr, hw.at hi', mkL_get]
      refine cond_split (fun h2 => ?_) (fun h2 => ?_)
      · simp (maxSteps := 2000000) (disch := first | omega | assumption | exact idP rfl | exact idP (bL rfl)) only [go_sem, reduceIte, Nat.reduceEqDiff, e0, e1, e6]
        intro bt hbt
        refine app_int hg hbt (by omega) (by omega) ?_
        intro s' M' hg' _
        simp (maxSteps := 2000000) (disch := first | omega | assumption | exact idP rfl | exact idP (bL rfl)) only [go_sem, reduceIte, Nat.reduceEqDiff, e0, e1, e6]
        refine hK _ _ ⟨i + 1, by omega, by simp (maxSteps := 2000000) (disch := first | omega | assumption | exact idP rfl | exact idP (bL rfl)) only [go_sem, reduceIte, Nat.reduceEqDiff, e0], by simp (maxSteps := 2000000) (disch := first | omega | assumption | exact idP rfl | exact idP (bL rfl)) only [go_sem, reduceIte, Nat.reduceEqDiff, e1], by simp (maxSteps := 2000000) (disch := first | omega | assumption | exact idP rfl | exact idP (bL rfl)) only [go_sem, reduceIte, Nat.reduceEqDiff, e6]; rfl, ?_⟩ (by simp (maxSteps := 2000000) (disch := first | omega | assumption | exact idP rfl | exact idP (bL rfl)) only [go_sem, reduceIte, Nat.reduceEqDiff, ctrV_int, e6]; omega)
        have hsi := (hm0 i (by omega)).1 h2
        have h3 := (hlv0 i).1 hsi
        simp (maxSteps := 2000000) (disch := first | omega | assumption | exact idP rfl | exact idP (bL rfl)) only [go_sem, reduceIte, Nat.reduceEqDiff]
        rw [mkI_succ, h3]; exact hg'
      · simp (maxSteps := 2000000) (disch := first | omega | assumption | exact idP rfl | exact idP (bL rfl)) only [go_sem, reduceIte, Nat.reduceEqDiff, e0, e1, e6]
        intro bt hbt
        refine app_int hg hbt (by omega) (by omega) ?_
        intro s' M' hg' _
        simp (maxSteps := 2000000) (disch := first | omega | assumption | exact idP rfl | exact idP (bL rfl)) only [go_sem, reduceIte, Nat.reduceEqDiff, e0, e1, e6]
        refine hK _ _ ⟨i + 1, by omega, by simp (maxSteps := 2000000) (disch := first | omega | assumption | exact idP rfl | exact idP (bL rfl)) only [go_sem, reduceIte, Nat.reduceEqDiff, e0], by simp (maxSteps := 2000000) (disch := first | omega | assumption | exact idP rfl | exact idP (bL rfl)) only [go_sem, reduceIte, Nat.reduceEqDiff, e1], by simp (maxSteps := 2000000) (disch := first | omega | assumption | exact idP rfl | exact idP (bL rfl)) only [go_sem, reduceIte, Nat.reduceEqDiff, e6]; rfl, ?_⟩ (by simp (maxSteps := 2000000) (disch := first | omega | assumption | exact idP rfl | exact idP (bL rfl)) only [go_sem, reduceIte, Nat.reduceEqDiff, ctrV_int, e6]; omega)
        have hsi : ¬ st i := fun hc => by rw [(hm0 i (by omega)).2 hc] at h2; cases h2
        have h3 := (hlv0 i).2 hsi
        simp (maxSteps := 2000000) (disch := first | omega | assumption | exact idP rfl | exact idP (bL rfl)) only [go_sem, reduceIte, Nat.reduceEqDiff]
        rw [mkI_succ, h3]; exact hg'
    · obtain rfl : i = N := by omega
      simp (maxSteps := 2000000) (disch := first | omega | assumption | exact idP rfl | exact idP (bL rfl)) only [go_sem, reduceIte, Nat.reduceEqDiff, e0, e1]
      refine loop_g (fun k e M' => ∃ (d : Nat) (t : Bool), e 0 = v ∧ e 7 = .sc (.bool t) ∧ e 8 = .sc (.int .i64 d) ∧ Gr 1 M M' (e 5) ((mkI i (if t = true then lv tab st d else dst tab st)).map vi) ∧
        2 * unm i (fun j => decide (0 ≤ lv tab st d j)) + (if t = true then 1 else 0) ≤ k ∧ (t = true → d + unm i (fun j => decide (0 ≤ lv tab st d j)) ≤ i)) (2 * i + 1) ?_ ?_
      · have hun : unm i (fun j => decide (0 ≤ lv tab st (0 : Nat) j)) ≤ i := by unfold unm; exact Nat.le_trans (List.length_filter_le ..) (by simp)
        exact ⟨0, true, by simp (maxSteps := 2000000) (disch := first | omega | assumption | exact idP rfl | exact idP (bL rfl)) only [go_sem, reduceIte, Nat.reduceEqDiff, e0], by simp (maxSteps := 2000000) (disch := first | omega | assumption | exact idP rfl | exact idP (bL rfl)) only [go_sem, reduceIte, Nat.reduceEqDiff], by simp (maxSteps := 2000000) (disch := first | omega | assumption | exact idP rfl | exact idP (bL rfl)) only [go_sem, reduceIte, Nat.reduceEqDiff]; rfl, by simp (maxSteps := 2000000) (disch := first | omega | assumption | exact idP rfl | exact idP (bL rfl)) only [go_sem, reduceIte, Nat.reduceEqDiff]; exact hg, by simp only [if_true]; omega, fun _ => by omega⟩
      · rintro k e M2 ⟨d, t, f0, f7, f8, fg, fk, fd⟩ K2 hK2
        cases t with
        | false =>
          simp (maxSteps := 2000000) (disch := first | omega | assumption | exact idP rfl | exact idP (bL rfl)) only [go_sem, reduceIte, Nat.reduceEqDiff, f7]
          simp only [Bool.false_eq_true, if_false] at fg
          exact hR _ _ fg
        | true =>
          simp only [if_true] at fg fk
          have fd := fd rfl
          simp (maxSteps := 2000000) (disch := first | omega | assumption | exact idP rfl | exact idP (bL rfl)) only [go_sem, reduceIte, Nat.reduceEqDiff, f7]
          refine loop_k (fun e' M' => ∃ (n : Nat) (a : Nat → Bool) (t : Bool), n ≤ i ∧ e' 0 = v ∧ e' 7 = .sc (.bool t) ∧ e' 8 = .sc (.int .i64 d) ∧ e' 9 = .sc (.int .i64 n) ∧ Gr 1 M M' (e' 5) ((mkI i (lvA tab st d a)).map vi) ∧ LvI tab i st d a n ∧ (t = true ↔ ∃ j, a j = true)) (fun e' _ => ctrV i (e' 9)) ?_ ?_
          · refine ⟨0, fun _ => false, false, by omega, by simp (maxSteps := 2000000) (disch := first | omega | assumption | exact idP rfl | exact idP (bL rfl)) only [go_sem, reduceIte, Nat.reduceEqDiff, f0], by simp (maxSteps := 2000000) (disch := first | omega | assumption | exact idP rfl | exact idP (bL rfl)) only [go_sem, reduceIte, Nat.reduceEqDiff], by simp (maxSteps := 2000000) (disch := first | omega | assumption | exact idP rfl | exact idP (bL rfl)) only [go_sem, reduceIte, Nat.reduceEqDiff, f8], by simp (maxSteps := 2000000) (disch := first | omega | assumption | exact idP rfl | exact idP (bL rfl)) only [go_sem, reduceIte, Nat.reduceEqDiff]; rfl, ?_, ⟨fun j hj => (by cases hj), fun p hp => (by omega)⟩, by simp⟩
            simp (maxSteps := 2000000) (disch := first | omega | assumption | exact idP rfl | exact idP (bL rfl)) only [go_sem, reduceIte, Nat.reduceEqDiff]
            rw [mkI_ext (g := lv tab st d) (fun j _ => by simp [lvA])]
            exact fg
          · rintro e' M3 ⟨n, a, t, hn, g0, g7, g8, g9, gg, gi, gt⟩ K3 hK3
            simp (maxSteps := 2000000) (disch := first | omega | assumption | exact idP rfl | exact idP (bL rfl)) only [go_sem, reduceIte, Nat.reduceEqDiff, g0, g7, g8, g9, hvl]
            refine cond_dec (fun hc => ?_) (fun hc => ?_)
            · have hnN : n < tab.length := by omega
              have hrow := hv.elt hnN
              have hri := htl _ (List.getElem_mem hnN)
              have hgd : tab.getD n [] = tab[n] := by simp [List.getD, hnN]
              simp (maxSteps := 2000000) (disch := first | omega | assumption | exact idP rfl | exact idP (bL rfl)) only [go_sem, reduceIte, Nat.reduceEqDiff, g0, g7, g8, g9]
              refine loop_k (fun e2 M' => ∃ (j : Nat) (a : Nat → Bool) (t : Bool), j ≤ tab[n].length ∧ e2 0 = v ∧ e2 7 = .sc (.bool t) ∧ e2 8 = .sc (.int .i64 d) ∧ e2 9 = .sc (.int .i64 n) ∧ e2 10 = .sc (.int .i64 j) ∧ Gr 1 M M' (e2 5) ((mkI i (lvA tab st d a)).map vi) ∧ LvI tab i st d a n ∧ (dst tab st n = (d : Int) → ∀ y ∈ tab[n].take j, 0 ≤ lv tab st d y.toNat ∨ a y.toNat = true) ∧ (t = true ↔ ∃ j, a j = true)) (fun e2 _ => ctrV tab[n].length (e2 10)) ?_ ?_
              · exact ⟨0, a, t, by omega, by simp (maxSteps := 2000000) (disch := first | omega | assumption | exact idP rfl | exact idP (bL rfl)) only [go_sem, reduceIte, Nat.reduceEqDiff, g0], by simp (maxSteps := 2000000) (disch := first | omega | assumption | exact idP rfl | exact idP (bL rfl)) only [go_sem, reduceIte, Nat.reduceEqDiff, g7], by simp (maxSteps := 2000000) (disch := first | omega | assumption | exact idP rfl | exact idP (bL rfl)) only [go_sem, reduceIte, Nat.reduceEqDiff, g8], by simp (maxSteps := 2000000) (disch := first | omega | assumption | exact idP rfl | exact idP (bL rfl)) only [go_sem, reduceIte, Nat.reduceEqDiff, g9], by simp (maxSteps := 2000000) (disch := first | omega | assumption | exact idP rfl | exact idP (bL rfl)) only [go_sem, reduceIte, Nat.reduceEqDiff]; rfl, by simp (maxSteps := 2000000) (disch := first | omega | assumption | exact idP rfl | exact idP (bL rfl)) only [go_sem, reduceIte, Nat.reduceEqDiff]; exact gg, gi, fun _ y hy => by simp at hy, gt⟩
              · rintro e2 M4 ⟨j, a, t, hj, u0, u7, u8, u9, u10, ug, ui, up, ut⟩ K4 hK4
                have ua := ug.at (by rw [List.length_map, mkI_len]; omega)
                have un := vi_at (n := i) (f := lvA tab st d a) (i := n) (by omega)
                have ui2 : (dst tab st n = (d : Int) → ∀ y ∈ tab[n], 0 ≤ lv tab st d y.toNat ∨ a y.toNat = true) → LvI tab i st d a (n + 1) := fun wp => ⟨ui.s, fun p hp hd => by
                  by_cases e : p = n
                  · subst e; rw [hgd]; exact wp hd
                  · exact ui.c p (by omega) hd⟩
                have fin : ∀ (e3 : EnvV) (M5 : MH), e3 0 = v → e3 7 = .sc (.bool t) → e3 8 = .sc (.int .i64 d) → e3 9 = .sc (.int .i64 ((n : Int) + 1)) → Gr 1 M M5 (e3 5) ((mkI i (lvA tab st d a)).map vi) → (dst tab st n = (d : Int) → ∀ y ∈ tab[n], 0 ≤ lv tab st d y.toNat ∨ a y.toNat = true) → K3 e3 M5 := fun e3 M5 w0 w7 w8 w9 wg wp =>
                  hK3 _ _ ⟨n + 1, a, t, by omega, w0, w7, w8, w9, wg, ui2 wp, ut⟩ (by rw [w9, g9]; simp (maxSteps := 2000000) (disch := first | omega | assumption | exact idP rfl | exact idP (bL rfl)) only [go_sem, reduceIte, Nat.reduceEqDiff, ctrV_int]; omega)
                simp (maxSteps := 2000000) (disch := first | omega | assumption | exact idP rfl | exact idP (bL rfl)) only [go_sem, reduceIte, Nat.reduceEqDiff, u0, u7, u8, u9, u10, hv.iaddr, hrow.len]
                have hia : ∀ {k : IntKind} {x : Int}, 0 ≤ x → x < (i : Int) → iaddrV 1 (e2 5) (.int k x) = some (.sc (.ptr (some (oB (e2 5), x.toNat)))) := fun q1 q2 => ug.own.iaddr q1 (by rw [len_vi, mkI_len]; exact q2)
                have vat : ∀ {q : Nat}, q < i → ((mkI i (lvA tab st d a)).map vi)[q]? = some (.sc (.int .i64 (lvA tab st d a q))) := fun h => vi_at h
                have dn : lvA tab st d a n = (d : Int) → dst tab st n = (d : Int) := fun hx => by
                  unfold lvA at hx
                  split at hx
                  · omega
                  · unfold lv at hx
                    split at hx <;> omega
                have dn2 : dst tab st n = (d : Int) → lvA tab st d a n = (d : Int) := fun hx => by
                  unfold lvA
                  split
                  · rename_i ha
                    have := (ui.s n ha).2
                    omega
                  · unfold lv
                    rw [if_pos (by omega)]; exact hx
                refine guardK_dec (fun hjl => ?_) (fun hjl => ?_)
                · have hj' : j < tab[n].length := by omega
                  have hyj := hri.2 _ (List.getElem_mem hj')
                  obtain ⟨y, hy⟩ : ∃ y, tab[n][j] = y := ⟨_, rfl⟩
                  rw [hy] at hyj
                  have hyi : y.toNat < i := by omega
                  simp (maxSteps := 2000000) (disch := first | omega | assumption | exact idP rfl | exact idP (bL rfl)) only [go_sem, reduceIte, Nat.reduceEqDiff, u0, u7, u8, u9, u10, hia, ua, vat, hjl]
                  refine cond_dec (fun hdn => ?_) (fun hdn => ?_)
                  · have hd := dn hdn
                    have hyt : y ∈ tab.getD n [] := by rw [hgd, ← hy]; exact List.getElem_mem hj'
                    have hnx := dst_next hd hyt
                    simp (maxSteps := 2000000) (disch := first | omega | assumption | exact idP rfl | exact idP (bL rfl)) only [go_sem, reduceIte, Nat.reduceEqDiff, u0, u7, u8, u9, u10, hv.iaddr, hrow.iaddr, hrow.at hj', hy, hia, ua, vat]
                    refine cond_dec (fun hneg => ?_) (fun hneg => ?_)
                    · have hay : a y.toNat = false := by
                        cases hq : a y.toNat with
                        | false => rfl
                        | true =>
                          unfold lvA at hneg
                          rw [if_pos hq] at hneg; omega
                      have hdy : dst tab st y.toNat = ((d + 1 : Nat) : Int) := by
                        unfold lvA at hneg
                        rw [hay] at hneg
                        simp only [Bool.false_eq_true, if_false] at hneg
                        unfold lv at hneg
                        split at hneg <;> omega
                      have hso : y.toNat < ((mkI i (lvA tab st d a)).map vi).length := by rw [len_vi, mkI_len]; exact hyi
                      simp (maxSteps := 2000000) (disch := first | omega | assumption | exact idP rfl | exact idP (bL rfl)) only [go_sem, reduceIte, Nat.reduceEqDiff, u0, u7, u8, u9, u10, hv.iaddr, hrow.iaddr, hrow.at hj', hy, hia, ua]
                      have hset := ug.setO (l' := (mkI i (lvA tab st d fun q => a q || decide (q = y.toNat))).map vi) (by rw [len_vi, mkI_len]; omega) (by simp [mkI_len])
                      have hlist : ((mkI i (lvA tab st d a)).map vi).set y.toNat (.sc (.int .i64 ((d : Int) + 1))) = (mkI i (lvA tab st d fun q => a q || decide (q = y.toNat))).map vi := by
                        rw [set_vi', mkI_set]
                        intro q hq
                        by_cases e : q = y.toNat
                        · subst e; simp [lvA]
                        · simp [lvA, e]
                      rw [hlist]
                      refine hK4 _ _ ⟨j + 1, fun q => a q || decide (q = y.toNat), true, by omega, by simp (maxSteps := 2000000) (disch := first | omega | assumption | exact idP rfl | exact idP (bL rfl)) only [go_sem, reduceIte, Nat.reduceEqDiff, u0], by simp (maxSteps := 2000000) (disch := first | omega | assumption | exact idP rfl | exact idP (bL rfl)) only [go_sem, reduceIte, Nat.reduceEqDiff], by simp (maxSteps := 2000000) (disch := first | omega | assumption | exact idP rfl | exact idP (bL rfl)) only [go_sem, reduceIte, Nat.reduceEqDiff, u8], by simp (maxSteps := 2000000) (disch := first | omega | assumption | exact idP rfl | exact idP (bL rfl)) only [go_sem, reduceIte, Nat.reduceEqDiff, u9], by simp (maxSteps := 2000000) (disch := first | omega | assumption | exact idP rfl | exact idP (bL rfl)) only [go_sem, reduceIte, Nat.reduceEqDiff, u10]; rfl, by simp (maxSteps := 2000000) (disch := first | omega | assumption | exact idP rfl | exact idP (bL rfl)) only [go_sem, reduceIte, Nat.reduceEqDiff]; exact hset, ui.mono (fun q hq => ?_) (fun q hq => by simp [hq]), fun _ z hz => ?_, ⟨fun _ => ⟨y.toNat, by simp⟩, fun _ => rfl⟩⟩ (by simp (maxSteps := 2000000) (disch := first | omega | assumption | exact idP rfl | exact idP (bL rfl)) only [go_sem, reduceIte, Nat.reduceEqDiff, ctrV_int, u10]; omega)
                      · simp only [Bool.or_eq_true, decide_eq_true_eq] at hq
                        rcases hq with h1 | rfl
                        · exact ui.s q h1
                        · exact ⟨hyi, hdy⟩
                      · rw [take_snoc hj', List.mem_append, List.mem_singleton, hy] at hz
                        rcases hz with h1 | rfl
                        · exact (up hd z h1).imp id fun h => by simp [h]
                        · exact .inr (by simp)
                    · simp (maxSteps := 2000000) (disch := first | omega | assumption | exact idP rfl | exact idP (bL rfl)) only [go_sem, reduceIte, Nat.reduceEqDiff, u0, u7, u8, u9, u10]
                      refine hK4 _ _ ⟨j + 1, a, t, by omega, by simp (maxSteps := 2000000) (disch := first | omega | assumption | exact idP rfl | exact idP (bL rfl)) only [go_sem, reduceIte, Nat.reduceEqDiff, u0], by simp (maxSteps := 2000000) (disch := first | omega | assumption | exact idP rfl | exact idP (bL rfl)) only [go_sem, reduceIte, Nat.reduceEqDiff, u7], by simp (maxSteps := 2000000) (disch := first | omega | assumption | exact idP rfl | exact idP (bL rfl)) only [go_sem, reduceIte, Nat.reduceEqDiff, u8], by simp (maxSteps := 2000000) (disch := first | omega | assumption | exact idP rfl | exact idP (bL rfl)) only [go_sem, reduceIte, Nat.reduceEqDiff, u9], by simp (maxSteps := 2000000) (disch := first | omega | assumption | exact idP rfl | exact idP (bL rfl)) only [go_sem, reduceIte, Nat.reduceEqDiff, u10]; rfl, by simp (maxSteps := 2000000) (disch := first | omega | assumption | exact idP rfl | exact idP (bL rfl)) only [go_sem, reduceIte, Nat.reduceEqDiff]; exact ug, ui, fun _ z hz => ?_, ut⟩ (by simp (maxSteps := 2000000) (disch := first | omega | assumption | exact idP rfl | exact idP (bL rfl)) only [go_sem, reduceIte, Nat.reduceEqDiff, ctrV_int, u10]; omega)
                      rw [take_snoc hj', List.mem_append, List.mem_singleton, hy] at hz
                      rcases hz with h1 | rfl
                      · exact up hd z h1
                      · unfold lvA at hneg
                        split at hneg
                        · rename_i ha; exact .inr ha
                        · exact .inl (by omega)
                  · simp (maxSteps := 2000000) (disch := first | omega | assumption | exact idP rfl | exact idP (bL rfl)) only [go_sem, reduceIte, Nat.reduceEqDiff, u0, u7, u8, u9]
                    exact fin _ _ (by simp (maxSteps := 2000000) (disch := first | omega | assumption | exact idP rfl | exact idP (bL rfl)) only [go_sem, reduceIte, Nat.reduceEqDiff, u0]) (by simp (maxSteps := 2000000) (disch := first | omega | assumption | exact idP rfl | exact idP (bL rfl)) only [go_sem, reduceIte, Nat.reduceEqDiff, u7]) (by simp (maxSteps := 2000000) (disch := first | omega | assumption | exact idP rfl | exact idP (bL rfl)) only [go_sem, reduceIte, Nat.reduceEqDiff, u8]) (by simp (maxSteps := 2000000) (disch := first | omega | assumption | exact idP rfl | exact idP (bL rfl)) only [go_sem, reduceIte, Nat.reduceEqDiff, u9]) (by simp (maxSteps := 2000000) (disch := first | omega | assumption | exact idP rfl | exact idP (bL rfl)) only [go_sem, reduceIte, Nat.reduceEqDiff]; exact ug) fun hd => absurd (dn2 hd) hdn
                · have hjl2 : j = tab[n].length := by omega
                  rw [hjl2, List.take_length] at up
                  simp (maxSteps := 2000000) (disch := first | omega | assumption | exact idP rfl | exact idP (bL rfl)) only [go_sem, reduceIte, Nat.reduceEqDiff, u0, u7, u8, u9, hjl]
                  exact fin _ _ (by simp (maxSteps := 2000000) (disch := first | omega | assumption | exact idP rfl | exact idP (bL rfl)) only [go_sem, reduceIte, Nat.reduceEqDiff, u0]) (by simp (maxSteps := 2000000) (disch := first | omega | assumption | exact idP rfl | exact idP (bL rfl)) only [go_sem, reduceIte, Nat.reduceEqDiff, u7]) (by simp (maxSteps := 2000000) (disch := first | omega | assumption | exact idP rfl | exact idP (bL rfl)) only [go_sem, reduceIte, Nat.reduceEqDiff, u8]) (by simp (maxSteps := 2000000) (disch := first | omega | assumption | exact idP rfl | exact idP (bL rfl)) only [go_sem, reduceIte, Nat.reduceEqDiff, u9]) (by simp (maxSteps := 2000000) (disch := first | omega | assumption | exact idP rfl | exact idP (bL rfl)) only [go_sem, reduceIte, Nat.reduceEqDiff]; exact ug) up
            · obtain rfl : n = i := by omega
              simp (maxSteps := 2000000) (disch := first | omega | assumption | exact idP rfl | exact idP (bL rfl)) only [go_sem, reduceIte, Nat.reduceEqDiff, g0, g7, g8]
              have hd1 : 0 ≤ (d : Int) + 1 ∧ (d : Int) + 1 ≤ 1048578 := by
                omega
              cases ht : t with
              | true =>
                subst ht
                obtain ⟨q, hq⟩ := gt.1 rfl
                obtain ⟨hq1, hq2⟩ := gi.s q hq
                have e1 : mkI n (lvA tab st d a) = mkI n (lv tab st ((d + 1 : Nat) : Int)) := mkI_ext fun j _ => by rw [gi.last hst j]; congr 1
                have hun := unm_lt (n := n) (m := fun j => decide (0 ≤ lv tab st d j)) (m' := fun j => decide (0 ≤ lv tab st ((d + 1 : Nat) : Int) j)) hq1 (by unfold lv; rw [if_neg (by omega)]; rfl) (by unfold lv; rw [if_pos (by omega)]; simp; omega) (fun j hj => by
                  simp only [decide_eq_true_eq] at hj ⊢
                  unfold lv at hj ⊢
                  split at hj
                  · rw [if_pos (by omega)]; exact hj
                  · omega)
                rw [e1] at gg
                refine hK2 (k - 1) _ _ (by omega) ⟨d + 1, true, by simp (maxSteps := 2000000) (disch := first | omega | assumption | exact idP rfl | exact idP (bL rfl)) only [go_sem, reduceIte, Nat.reduceEqDiff, g0], by simp (maxSteps := 2000000) (disch := first | omega | assumption | exact idP rfl | exact idP (bL rfl)) only [go_sem, reduceIte, Nat.reduceEqDiff, g7], by simp (maxSteps := 2000000) (disch := first | omega | assumption | exact idP rfl | exact idP (bL rfl)) only [go_sem, reduceIte, Nat.reduceEqDiff, g8]; rfl, by simp (maxSteps := 2000000) (disch := first | omega | assumption | exact idP rfl | exact idP (bL rfl)) only [go_sem, reduceIte, Nat.reduceEqDiff]; exact gg, by simp only [if_true]; omega, fun _ => by omega⟩
              | false =>
                subst ht
                have ha : ∀ j, a j = false := fun j => by
                  cases hq : a j with
                  | false => rfl
                  | true => have := gt.2 ⟨j, hq⟩; cases this
                have e1 : mkI n (lvA tab st d a) = mkI n (dst tab st) := mkI_ext fun j _ => gi.none hst ha j
                have e2 : unm n (fun j => decide (0 ≤ lv tab st ((d + 1 : Nat) : Int) j)) ≤ unm n (fun j => decide (0 ≤ lv tab st d j)) := by
                  refine filter_len_le (fun j hj => ?_) _
                  simp only [Bool.not_eq_true', decide_eq_false_iff_not] at hj ⊢
                  intro h2
                  refine hj ?_
                  unfold lv at h2 ⊢
                  split at h2
                  · rw [if_pos (by omega)]; exact h2
                  · omega
                rw [e1] at gg
                refine hK2 (k - 1) _ _ (by omega) ⟨d + 1, false, by simp (maxSteps := 2000000) (disch := first | omega | assumption | exact idP rfl | exact idP (bL rfl)) only [go_sem, reduceIte, Nat.reduceEqDiff, g0], by simp (maxSteps := 2000000) (disch := first | omega | assumption | exact idP rfl | exact idP (bL rfl)) only [go_sem, reduceIte, Nat.reduceEqDiff, g7], by simp (maxSteps := 2000000) (disch := first | omega | assumption | exact idP rfl | exact idP (bL rfl)) only [go_sem, reduceIte, Nat.reduceEqDiff, g8]; rfl, by simp (maxSteps := 2000000) (disch := first | omega | assumption | exact idP rfl | exact idP (bL rfl)) only [go_sem, reduceIte, Nat.reduceEqDiff]; exact gg, by simp only [Bool.false_eq_true, if_false]; omega, fun h => by cases h⟩
end Go.M2

namespace Go.M2
open Go.Proofs
set_option linter.unusedVariables false
set_option linter.unusedSimpArgs false
set_option maxRecDepth 10000
set_option maxHeartbeats 4000000
variable {M : MH}
theorem rch_in {s : SysS} (hs : SysOk s) : ∀ i, Rch (tabF s) (stF s) i → i < (tabF s).length := by
  have hsz := hs.sz
  have htl := tabF_len s
  have hfb := firstN_bd hs
  intro i hi
  induction hi with
  | base h =>
    simp only [stF, List.mem_singleton] at h
    omega
  | @step i x _ hx ih =>
    have hgd : (tabF s).getD i [] = (tabF s)[i] := by simp [List.getD, ih]
    rw [hgd] at hx
    have := (tabF_in hs _ (List.getElem_mem ih)).2 x hx
    omega
noncomputable def stepsS (s : SysS) : List Int := if sysB s = true then mkI (tabF s).length (dst (tabF s) (stF s)) else []
theorem t_StepsTo {v : V} {s : SysS} (hv : isSys s v) : VCall Tryz.prog n_spec_StepsTo [v] M (fun r M' => M = M' ∧ LI r (stepsS s)) := by
  refine VCall.froz fun R hP hG => v_spec_StepsTo rfl ?_
  have hv0 := hv
  obtain ⟨a, b, rfl, ha, hb⟩ := hv
  (repeat' (first | ((first | with_reducible refine cond_dec (fun h => ?_) (fun h => ?_) | with_reducible refine guardK_dec (fun h => ?_) (fun h => ?_) | with_reducible refine guardD3_dec (fun h => ?_) (fun h => ?_)) <;> first | (exfalso; omega) | (simp (maxSteps := 2000000) (disch := first | omega | assumption | exact idP rfl | exact idP (bL rfl)) only [go_sem, reduceIte, Nat.reduceEqDiff, h]) | skip) | ((first | with_reducible refine cond_split (fun h => ?_) (fun h => ?_) | with_reducible refine guardK_split (fun h => ?_) (fun h => ?_) | with_reducible refine guardD3_split (fun h => ?_) (fun h => ?_)) <;> ((try simp only [Bool.not_eq_true', Bool.not_eq_false'] at h); first | (simp (maxSteps := 2000000) (disch := first | omega | assumption | exact idP rfl | exact idP (bL rfl)) only [go_sem, reduceIte, Nat.reduceEqDiff, h]) | skip)) | ((with_reducible refine (t_SystemValidS hv0).mono ?_); rintro _ _ ⟨rfl, rfl⟩) | (with_reducible intro bk hbk; try have hnk := (fresh_set hbk).1) | (simp (maxSteps := 2000000) (disch := first | omega | assumption | exact idP rfl | exact idP (bL rfl)) only [go_sem, reduceIte, Nat.reduceEqDiff])))
  · exact hP _ _ (by (repeat (first | exact Sub.refl _ | assumption | (refine Sub.set' ?_ (by assumption))))) (by unfold stepsS; rw [if_neg (by rw [h]; simp)]; exact .nil)
  · have hs := (sysB_iff s).1 h
    have hsz := hs.sz
    have htl := tabF_len s
    refine (f_l4Steps hv0 hs).mono ?_
    rintro t _ ⟨rfl, ht⟩
    simp (maxSteps := 2000000) (disch := first | omega | assumption | exact idP rfl | exact idP (bL rfl)) only [go_sem, reduceIte, Nat.reduceEqDiff]
    refine (VCall.fr1 (t_l5First hv0 hs)).mono ?_
    rintro m _ ⟨rfl, hm⟩
    simp (maxSteps := 2000000) (disch := first | omega | assumption | exact idP rfl | exact idP (bL rfl)) only [go_sem, reduceIte, Nat.reduceEqDiff]
    refine (t_l5Steps (st := stF s) ht hm.lb (by omega) (fun i _ => by simp [inL, stF]) (rch_in hs) (tabF_in hs)).mono ?_
    rintro r M2 hg
    simp (maxSteps := 2000000) (disch := first | omega | assumption | exact idP rfl | exact idP (bL rfl)) only [go_sem, reduceIte, Nat.reduceEqDiff]
    refine hG _ _ _ _ (hg.base ((Sub.refl M).set' hbk)) fun u hu => ?_
    unfold stepsS
    rw [if_pos h]
    exact hu.li
theorem t_l5Told {w : V} {n : Nat} {f : Nat → Int} (hw : LI w (mkI n f)) (hn : n ≤ 1048576) : VCall Tryz.prog n_spec_l5Told [w] M (fun r M' => M = M' ∧ LB r (mkL n fun i => decide (0 ≤ f i))) := by
  have hlen := hw.len
  rw [mkI_len] at hlen
  have key : VCall Tryz.prog n_spec_l5Told [w] M (fun r M' => Gr 1 M M' r ((mkL n fun i => decide (0 ≤ f i)).map vb)) := by
    refine VCall.plain fun R hR => v_spec_l5Told rfl ?_
    simp (maxSteps := 2000000) (disch := first | omega | assumption | exact idP rfl | exact idP (bL rfl)) only [go_sem, reduceIte, Nat.reduceEqDiff, hlen]
    refine mks3 (by omega) (by simp [mostCells]; omega) (by simp [mostCells]; omega) ?_
    intro b3 hb3
    simp (maxSteps := 2000000) (disch := first | omega | assumption | exact idP rfl | exact idP (bL rfl)) only [go_sem, reduceIte, Nat.reduceEqDiff, zeros_vb', mkL_none]
    refine loop_k (fun e M' => ∃ i : Nat, i ≤ n ∧ e 0 = w ∧ e 3 = .sc (.sl (some (b3, 0)) n n true 1) ∧ e 4 = .sc (.int .i64 i) ∧ Sub M M' ∧ M' b3 = some ((mkL n fun j => decide (j < i) && decide (0 ≤ f j)).map vb)) (fun e _ => ctrV n (e 4)) ?_ ?_
    · refine ⟨0, by omega, by simp (maxSteps := 2000000) (disch := first | omega | assumption | exact idP rfl | exact idP (bL rfl)) only [go_sem, reduceIte, Nat.reduceEqDiff], by simp (maxSteps := 2000000) (disch := first | omega | assumption | exact idP rfl | exact idP (bL rfl)) only [go_sem, reduceIte, Nat.reduceEqDiff], by simp (maxSteps := 2000000) (disch := first | omega | assumption | exact idP rfl | exact idP (bL rfl)) only [go_sem, reduceIte, Nat.reduceEqDiff]; rfl, (Sub.refl _).set hb3, ?_⟩
      simp (maxSteps := 2000000) (disch := first | omega | assumption | exact idP rfl | exact idP (bL rfl)) only [go_sem, reduceIte, Nat.reduceEqDiff]
      rw [mkL_ext]
      intro i hi; simp
    · rintro e M1 ⟨i, hi, e0, e3, e4, hsub, hm⟩ K hK
      simp (maxSteps := 2000000) (disch := first | omega | assumption | exact idP rfl | exact idP (bL rfl)) only [go_sem, reduceIte, Nat.reduceEqDiff, e0, e3, e4, hlen]
      refine cond_dec (fun h => ?_) (fun h => ?_)
      · have hi' : i < (mkI n f).length := by rw [mkI_len]; omega
        have hso : i < ((mkL n fun j => decide (j < i) && decide (0 ≤ f j)).map vb).length := by rw [len_vb', mkL_len]; omega
        have hia := hw.iaddr (k := .i64) (a := (i : Int)) (by omega) (by rw [mkI_len]; omega)
        simp (maxSteps := 2000000) (disch := first | omega | assumption | exact idP rfl | exact idP (bL rfl)) only [go_sem, reduceIte, Nat.reduceEqDiff, e0, e3, e4, hia, hw.at hi', mkI_get, hm]
        refine hK _ _ ⟨i + 1, by omega, by simp (maxSteps := 2000000) (disch := first | omega | assumption | exact idP rfl | exact idP (bL rfl)) only [go_sem, reduceIte, Nat.reduceEqDiff], by simp (maxSteps := 2000000) (disch := first | omega | assumption | exact idP rfl | exact idP (bL rfl)) only [go_sem, reduceIte, Nat.reduceEqDiff], by simp (maxSteps := 2000000) (disch := first | omega | assumption | exact idP rfl | exact idP (bL rfl)) only [go_sem, reduceIte, Nat.reduceEqDiff]; rfl, hsub.set hb3, ?_⟩ (by simp (maxSteps := 2000000) (disch := first | omega | assumption | exact idP rfl | exact idP (bL rfl)) only [go_sem, reduceIte, Nat.reduceEqDiff, ctrV_int, e4]; omega)
        simp (maxSteps := 2000000) (disch := first | omega | assumption | exact idP rfl | exact idP (bL rfl)) only [go_sem, reduceIte, Nat.reduceEqDiff]
        rw [set_vb', mkL_setB]
        intro j hj
        by_cases e : j = i
        · subst e; simp
        · rw [if_neg e]
          have : decide (j < i + 1) = decide (j < i) := decide_eq_decide.2 (by omega)
          rw [this]
      · obtain rfl : i = n := by omega
        simp (maxSteps := 2000000) (disch := first | omega | assumption | exact idP rfl | exact idP (bL rfl)) only [go_sem, reduceIte, Nat.reduceEqDiff, e3]
        rw [mkL_ext (q := fun j => decide (0 ≤ f j)) (fun j hj => by simp [hj])] at hm
        exact hR _ _ ⟨hsub, fun b' h' => by simp [blkV] at h'; subst h'; exact hb3, .inr ⟨b3, _, true, rfl, hm, by rw [len_vb', mkL_len]; omega⟩⟩
  exact (VCall.fr1 key).mono fun r M' ⟨h1, h2⟩ => ⟨h1, h2.lb⟩
noncomputable def reachS (s : SysS) : List Int := if sysB s = true then selL (tabF s).length (rB (tabF s) (stF s)) else []
theorem t_ReachOf {v : V} {s : SysS} (hv : isSys s v) : VCall Tryz.prog n_spec_ReachOf [v] M (fun r M' => M = M' ∧ LI r (reachS s)) := by
  refine VCall.froz fun R hP hG => v_spec_ReachOf rfl ?_
  have hv0 := hv
  obtain ⟨a, b, rfl, ha, hb⟩ := hv
  obtain ⟨n, f, e1, e2, e3⟩ : ∃ (n : Nat) (f : Nat → Int), stepsS s = mkI n f ∧ n ≤ 1048576 ∧ reachS s = selL n fun i => decide (0 ≤ f i) := by
    unfold stepsS reachS
    cases h : sysB s with
    | false => exact ⟨0, fun _ => 0, rfl, by omega, rfl⟩
    | true =>
      have hs := (sysB_iff s).1 h
      have hsz := hs.sz
      have htl := tabF_len s
      refine ⟨_, _, by rw [if_pos rfl], by omega, ?_⟩
      rw [if_pos rfl]
      refine selL_ext fun i _ => ?_
      rw [Bool.eq_iff_iff, rB_iff, decide_eq_true_eq, dst_rch]
  (repeat' (first | ((first | with_reducible refine cond_dec (fun h => ?_) (fun h => ?_) | with_reducible refine guardK_dec (fun h => ?_) (fun h => ?_) | with_reducible refine guardD3_dec (fun h => ?_) (fun h => ?_)) <;> first | (exfalso; omega) | (simp (maxSteps := 2000000) (disch := first | omega | assumption | exact idP rfl | exact idP (bL rfl)) only [go_sem, reduceIte, Nat.reduceEqDiff, h]) | skip) | ((first | with_reducible refine cond_split (fun h => ?_) (fun h => ?_) | with_reducible refine guardK_split (fun h => ?_) (fun h => ?_) | with_reducible refine guardD3_split (fun h => ?_) (fun h => ?_)) <;> ((try simp only [Bool.not_eq_true', Bool.not_eq_false'] at h); first | (simp (maxSteps := 2000000) (disch := first | omega | assumption | exact idP rfl | exact idP (bL rfl)) only [go_sem, reduceIte, Nat.reduceEqDiff, h]) | skip)) | (with_reducible intro bk hbk; try have hnk := (fresh_set hbk).1) | (simp (maxSteps := 2000000) (disch := first | omega | assumption | exact idP rfl | exact idP (bL rfl)) only [go_sem, reduceIte, Nat.reduceEqDiff])))
  refine (t_StepsTo hv0).mono ?_
  rintro q _ ⟨rfl, hq⟩
  rw [e1] at hq
  simp (maxSteps := 2000000) (disch := first | omega | assumption | exact idP rfl | exact idP (bL rfl)) only [go_sem, reduceIte, Nat.reduceEqDiff]
  refine (t_l5Told hq e2).mono ?_
  rintro q2 _ ⟨rfl, hq2⟩
  simp (maxSteps := 2000000) (disch := first | omega | assumption | exact idP rfl | exact idP (bL rfl)) only [go_sem, reduceIte, Nat.reduceEqDiff]
  refine (f_l4List hq2 e2).mono ?_
  rintro q3 _ ⟨rfl, hq3⟩
  simp (maxSteps := 2000000) (disch := first | omega | assumption | exact idP rfl | exact idP (bL rfl)) only [go_sem, reduceIte, Nat.reduceEqDiff]
  exact hP _ _ (by (repeat (first | exact Sub.refl _ | assumption | (refine Sub.set' ?_ (by assumption))))) (by rw [e3]; exact hq3)
theorem reachS_len (s : SysS) : (reachS s).length ≤ 400 := by
  unfold reachS
  split
  · rename_i h
    have := ((sysB_iff s).1 h).sz
    have htl := tabF_len s
    exact Nat.le_trans selL_len (by omega)
  · simp
noncomputable def alwaysS (s : SysS) (ts : List TermS) : Bool := tOk s ts && decide ((woF (reachS s) (swF s ts)).length = 0)
theorem t_specAlways {v w : V} {s : SysS} {ts : List TermS} (hv : isSys s v) (hw : LT w ts) : VCall Tryz.prog n_spec_Always [v, w] M (fun r M' => M = M' ∧ r = .sc (.bool (alwaysS s ts))) := by
  refine VCall.pure fun R hR => v_spec_Always rfl ?_
  have hv0 := hv
  obtain ⟨a, b, rfl, ha, hb⟩ := hv
  have hsl := swF_len s ts
  have hrl := reachS_len s
  simp (maxSteps := 2000000) (disch := first | omega | assumption | exact idP rfl | exact idP (bL rfl)) only [go_sem, reduceIte, Nat.reduceEqDiff]
  intro b3 hb3
  refine (t_SystemValidS hv0).mono ?_
  rintro _ _ ⟨rfl, rfl⟩
  cases h1 : sysB s with
  | false =>
    (repeat' (first | ((first | with_reducible refine cond_dec (fun h => ?_) (fun h => ?_) | with_reducible refine guardK_dec (fun h => ?_) (fun h => ?_) | with_reducible refine guardD3_dec (fun h => ?_) (fun h => ?_)) <;> first | (exfalso; omega) | (simp (maxSteps := 2000000) (disch := first | omega | assumption | exact idP rfl | exact idP (bL rfl)) only [go_sem, reduceIte, Nat.reduceEqDiff, h, ha.len]) | skip) | ((first | with_reducible refine cond_split (fun h => ?_) (fun h => ?_) | with_reducible refine guardK_split (fun h => ?_) (fun h => ?_) | with_reducible refine guardD3_split (fun h => ?_) (fun h => ?_)) <;> ((try simp only [Bool.not_eq_true', Bool.not_eq_false'] at h); first | (simp (maxSteps := 2000000) (disch := first | omega | assumption | exact idP rfl | exact idP (bL rfl)) only [go_sem, reduceIte, Nat.reduceEqDiff, h, ha.len]) | skip)) | ((with_reducible refine (t_l2Is hw).mono ?_); rintro _ _ ⟨rfl, rfl⟩) | (with_reducible intro bk hbk; try have hnk := (fresh_set hbk).1) | (simp (maxSteps := 2000000) (disch := first | omega | assumption | exact idP rfl | exact idP (bL rfl)) only [go_sem, reduceIte, Nat.reduceEqDiff, ha.len])))
    all_goals exact hR _ _ (by (repeat (first | exact Sub.refl _ | assumption | (refine Sub.set' ?_ (by assumption))))) (by simp [alwaysS, tOk, h1])
  | true =>
    simp (maxSteps := 2000000) (disch := first | omega | assumption | exact idP rfl | exact idP (bL rfl)) only [go_sem, reduceIte, Nat.reduceEqDiff, ha.len]
    refine (t_l2Is hw).mono ?_
    rintro _ _ ⟨rfl, rfl⟩
    cases h2 : kindIs (s.vars.length : Int) 2 ts with
    | false =>
      simp (maxSteps := 2000000) (disch := first | omega | assumption | exact idP rfl | exact idP (bL rfl)) only [go_sem, reduceIte, Nat.reduceEqDiff]
      exact hR _ _ (by (repeat (first | exact Sub.refl _ | assumption | (refine Sub.set' ?_ (by assumption))))) (by simp [alwaysS, tOk, h2])
    | true =>
      simp (maxSteps := 2000000) (disch := first | omega | assumption | exact idP rfl | exact idP (bL rfl)) only [go_sem, reduceIte, Nat.reduceEqDiff]
      refine (t_ReachOf hv0).mono ?_
      rintro q1 _ ⟨rfl, hq1⟩
      simp (maxSteps := 2000000) (disch := first | omega | assumption | exact idP rfl | exact idP (bL rfl)) only [go_sem, reduceIte, Nat.reduceEqDiff]
      refine (t_StatesWhere hv0 hw).mono ?_
      rintro q2 _ ⟨rfl, hq2⟩
      simp (maxSteps := 2000000) (disch := first | omega | assumption | exact idP rfl | exact idP (bL rfl)) only [go_sem, reduceIte, Nat.reduceEqDiff]
      refine (t_SetWithout hq1 hq2 (by omega) (by omega)).mono ?_
      rintro d _ ⟨rfl, hd⟩
      simp (maxSteps := 2000000) (disch := first | omega | assumption | exact idP rfl | exact idP (bL rfl)) only [go_sem, reduceIte, Nat.reduceEqDiff, hd.len]
      exact hR _ _ (by (repeat (first | exact Sub.refl _ | assumption | (refine Sub.set' ?_ (by assumption))))) (by simp [alwaysS, tOk, h1, h2])
theorem inL_selL {n i : Nat} {p : Nat → Bool} (h : i < n) : inL (selL n p) i = p i := by
  rw [Bool.eq_iff_iff]
  simp only [inL, decide_eq_true_eq, mem_selL]
  constructor
  · rintro ⟨j, h1, h2, h3⟩
    obtain rfl : j = i := by omega
    exact h2
  · intro h2
    exact ⟨i, h, h2, rfl⟩
theorem allB_congr {n : Nat} {p p' q : Nat → Bool} (h : ∀ i, i < n → p i = p' i) : allB n p q = allB n p' q := by
  rw [Bool.eq_iff_iff, allB_iff, allB_iff]
  constructor
  · intro h1 i hi hp; exact h1 i hi (by rw [h i hi]; exact hp)
  · intro h1 i hi hp; exact h1 i hi (by rw [← h i hi]; exact hp)
theorem always_eq (s : SysS) (ts : List TermS) : alwaysS s ts = alwaysI s ts := by
  unfold alwaysS alwaysI
  cases hk : tOk s ts with
  | false => rfl
  | true =>
    have hs := (tOk_iff.1 hk).1
    have hb := (sysB_iff s).2 hs
    have hsz := hs.sz
    have htl := tabF_len s
    have hset : SetOk (sizeF s.vars) (reachS s) := by
      unfold reachS
      rw [if_pos hb]
      exact (selL_ok _).mono (by omega)
    rw [woF_all hk hset]
    unfold reachS
    rw [if_pos hb, htl]
    rw [allB_congr fun i hi => inL_selL hi]
end Go.M2

namespace Go.M2
open Go.Proofs
set_option linter.unusedVariables false
set_option linter.unusedSimpArgs false
set_option maxRecDepth 10000
set_option maxHeartbeats 4000000
variable {M : MH}
theorem law_Always {v w : V} {s : SysS} {ts : List TermS} (hv : isSysX s v) (hl : SysLen s) (hw : XT w ts) (htl : LenOk ts) :
    VCall Tryz.prog n_laws_FnExactAlways [v, w] M (fun r M' => M = M' ∧ r = .sc (.bool true)) := by
  refine VCall.pure fun R hR => v_laws_FnExactAlways rfl ?_
  have hv0 := hv
  obtain ⟨a, b, rfl, ha, hb⟩ := hv
  unfold LenOk at htl
  (repeat' (first | ((first | with_reducible refine cond_dec (fun h => ?_) (fun h => ?_) | with_reducible refine guardK_dec (fun h => ?_) (fun h => ?_) | with_reducible refine guardD3_dec (fun h => ?_) (fun h => ?_)) <;> first | (exfalso; omega) | (simp (maxSteps := 2000000) (disch := first | omega | assumption | exact idP rfl | exact idP (bL rfl)) only [go_sem, reduceIte, Nat.reduceEqDiff, h]) | skip) | ((first | with_reducible refine cond_split (fun h => ?_) (fun h => ?_) | with_reducible refine guardK_split (fun h => ?_) (fun h => ?_) | with_reducible refine guardD3_split (fun h => ?_) (fun h => ?_)) <;> ((try simp only [Bool.not_eq_true', Bool.not_eq_false'] at h); first | (simp (maxSteps := 2000000) (disch := first | omega | assumption | exact idP rfl | exact idP (bL rfl)) only [go_sem, reduceIte, Nat.reduceEqDiff, h]) | skip)) | (with_reducible intro bk hbk; try have hnk := (fresh_set hbk).1) | (simp (maxSteps := 2000000) (disch := first | omega | assumption | exact idP rfl | exact idP (bL rfl)) only [go_sem, reduceIte, Nat.reduceEqDiff])))
  refine (x_szSystem hv0 hl (by omega) (by omega)).mono ?_
  rintro _ _ ⟨rfl, k, rfl, hk1, hk⟩
  (repeat' (first | ((first | with_reducible refine cond_dec (fun h => ?_) (fun h => ?_) | with_reducible refine guardK_dec (fun h => ?_) (fun h => ?_) | with_reducible refine guardD3_dec (fun h => ?_) (fun h => ?_)) <;> first | (exfalso; omega) | (simp (maxSteps := 2000000) (disch := first | omega | assumption | exact idP rfl | exact idP (bL rfl)) only [go_sem, reduceIte, Nat.reduceEqDiff, h]) | skip) | ((first | with_reducible refine cond_split (fun h => ?_) (fun h => ?_) | with_reducible refine guardK_split (fun h => ?_) (fun h => ?_) | with_reducible refine guardD3_split (fun h => ?_) (fun h => ?_)) <;> ((try simp only [Bool.not_eq_true', Bool.not_eq_false'] at h); first | (simp (maxSteps := 2000000) (disch := first | omega | assumption | exact idP rfl | exact idP (bL rfl)) only [go_sem, reduceIte, Nat.reduceEqDiff, h]) | skip)) | (with_reducible intro bk hbk; try have hnk := (fresh_set hbk).1) | (simp (maxSteps := 2000000) (disch := first | omega | assumption | exact idP rfl | exact idP (bL rfl)) only [go_sem, reduceIte, Nat.reduceEqDiff])))
  · exact hR _ _ (by (repeat (first | exact Sub.refl _ | assumption | (refine Sub.set' ?_ (by assumption))))) rfl
  · have hf := hk (by omega)
    refine (x_szTermS hw htl (by omega) (by omega)).mono ?_
    rintro _ _ ⟨rfl, k2, rfl, hk3, hk4⟩
    (repeat' (first | ((first | with_reducible refine cond_dec (fun h => ?_) (fun h => ?_) | with_reducible refine guardK_dec (fun h => ?_) (fun h => ?_) | with_reducible refine guardD3_dec (fun h => ?_) (fun h => ?_)) <;> first | (exfalso; omega) | (simp (maxSteps := 2000000) (disch := first | omega | assumption | exact idP rfl | exact idP (bL rfl)) only [go_sem, reduceIte, Nat.reduceEqDiff, h]) | skip) | ((first | with_reducible refine cond_split (fun h => ?_) (fun h => ?_) | with_reducible refine guardK_split (fun h => ?_) (fun h => ?_) | with_reducible refine guardD3_split (fun h => ?_) (fun h => ?_)) <;> ((try simp only [Bool.not_eq_true', Bool.not_eq_false'] at h); first | (simp (maxSteps := 2000000) (disch := first | omega | assumption | exact idP rfl | exact idP (bL rfl)) only [go_sem, reduceIte, Nat.reduceEqDiff, h]) | skip)) | (with_reducible intro bk hbk; try have hnk := (fresh_set hbk).1) | (simp (maxSteps := 2000000) (disch := first | omega | assumption | exact idP rfl | exact idP (bL rfl)) only [go_sem, reduceIte, Nat.reduceEqDiff])))
    · exact hR _ _ (by (repeat (first | exact Sub.refl _ | assumption | (refine Sub.set' ?_ (by assumption))))) rfl
    · have hwl := hk4 (by omega)
      refine (f_toSystem hv0 hf).mono ?_
      rintro s1 _ ⟨rfl, hs1⟩
      simp (maxSteps := 2000000) (disch := first | omega | assumption | exact idP rfl | exact idP (bL rfl)) only [go_sem, reduceIte, Nat.reduceEqDiff]
      refine (f_toTermS hw hwl).mono ?_
      rintro w1 _ ⟨rfl, hw1⟩
      simp (maxSteps := 2000000) (disch := first | omega | assumption | exact idP rfl | exact idP (bL rfl)) only [go_sem, reduceIte, Nat.reduceEqDiff]
      refine (t_specAlways hs1 hw1).mono ?_
      rintro _ _ ⟨rfl, rfl⟩
      simp (maxSteps := 2000000) (disch := first | omega | assumption | exact idP rfl | exact idP (bL rfl)) only [go_sem, reduceIte, Nat.reduceEqDiff]
      refine (f_toSystem hv0 hf).mono ?_
      rintro s2 _ ⟨rfl, hs2⟩
      have hs20 := hs2
      obtain ⟨a2, b2, rfl, ha2, hb2⟩ := hs2
      simp (maxSteps := 2000000) (disch := first | omega | assumption | exact idP rfl | exact idP (bL rfl)) only [go_sem, reduceIte, Nat.reduceEqDiff, ha2.one.1, ha2.one.2, hb2.one.1, hb2.one.2]
      intro b7 hb7
      have n7 := (fresh_set hb7).1
      have o1 := ha2.one.1
      have o2 := hb2.one.1
      simp (maxSteps := 2000000) (disch := first | omega | assumption | exact idP rfl | exact idP (bL rfl)) only [go_sem, reduceIte, Nat.reduceEqDiff]
      refine (f_toTermS hw hwl).mono ?_
      rintro w2 _ ⟨rfl, hw2⟩
      simp (maxSteps := 2000000) (disch := first | omega | assumption | exact idP rfl | exact idP (bL rfl)) only [go_sem, reduceIte, Nat.reduceEqDiff]
      refine (t_impAlways hs20 hf.sz hw2).mono ?_
      rintro _ _ ⟨rfl, rfl⟩
      rw [always_eq]
      generalize alwaysI s ts = t
      cases t
      all_goals simp (maxSteps := 2000000) (disch := first | omega | assumption | exact idP rfl | exact idP (bL rfl)) only [go_sem, reduceIte, Nat.reduceEqDiff, beq_self_eq_true, Bool.not_true, BEq.rfl]
      all_goals refine (f_toSystem hv0 hf).mono ?_
      all_goals rintro s3 _ ⟨rfl, hs3⟩
      all_goals simp (maxSteps := 2000000) (disch := first | omega | assumption | exact idP rfl | exact idP (bL rfl)) only [go_sem, reduceIte, Nat.reduceEqDiff]
      all_goals refine (x_eqSystem hs20 hs3 hf).mono ?_
      all_goals rintro _ _ ⟨rfl, rfl⟩
      all_goals simp (maxSteps := 2000000) (disch := first | omega | assumption | exact idP rfl | exact idP (bL rfl)) only [go_sem, reduceIte, Nat.reduceEqDiff]
      all_goals refine (f_toTermS hw hwl).mono ?_
      all_goals rintro w3 _ ⟨rfl, hw3⟩
      all_goals simp (maxSteps := 2000000) (disch := first | omega | assumption | exact idP rfl | exact idP (bL rfl)) only [go_sem, reduceIte, Nat.reduceEqDiff]
      all_goals refine (x_eqTermS hw2 hw3 hwl).mono ?_
      all_goals rintro _ _ ⟨rfl, rfl⟩
      all_goals simp (maxSteps := 2000000) (disch := first | omega | assumption | exact idP rfl | exact idP (bL rfl)) only [go_sem, reduceIte, Nat.reduceEqDiff]
      all_goals exact hR _ _ (by (repeat (first | exact Sub.refl _ | assumption | (refine Sub.set' ?_ (by assumption))))) rfl
end Go.M2
