/- Contracts: marks that are written and held. -/
import Derived.Test.YthpjcfjemogbeaaTm5
set_option linter.unusedVariables false
set_option linter.unusedSimpArgs false
set_option maxRecDepth 10000
set_option maxHeartbeats 4000000
namespace Go.M2
open Go.Proofs
variable {H : Heap}
theorem Le.newBase {A H : Heap} (h : Le A H) {v : AV} (hn : newer A.size v) : Le A (base H v) := by
  unfold base
  split
  · exact h.killFresh hn
  · exact h
def marks (k : Int) (n : Nat) : List Int := (List.range n).map fun (i : Nat) => k + i
theorem marks_len {k : Int} {n : Nat} : (marks k n).length = n := by simp [marks]
theorem marks_at {k : Int} {n j : Nat} (h : j < n) : (marks k n)[j]? = some (k + j) := by simp [marks, h]
theorem s_markIntS {b n c : Nat} {ex : Bool} {zs : List Int} {k : Int} (hb : H.rwCells b = some (zs.map (AV.int .i64))) (hn : n = zs.length) (h0 : 0 ≤ k) (h1 : k + n ≤ 4611686018427387904) :
    ACall Try.prog n_laws_markIntS [.sl (some (b, 0)) n c ex 1, .int .i64 k] H (fun r H' => r = .int .i64 (k + n) ∧ H' = H.upd b (.cells ((marks k n).map (AV.int .i64)) true)) := by
  refine ACall.of fun R hR => a_laws_markIntS rfl ?_
  obtain ⟨hlt, hblk⟩ := Heap.rwCells_blk hb
  simp (maxSteps := 2000000) (disch := first | omega | assumption | exact idP rfl | exact idP (bL rfl) | (simp only [alloc_size, upd_size]; done) | (simp only [alloc_size, upd_size]; omega) | fail) only [go_sem, reduceIte, Nat.reduceEqDiff]
  refine wp_loop_k (fun e H' => ∃ (i : Nat) (L : List Int), i ≤ n ∧ e 0 = .sl (some (b, 0)) n c ex 1 ∧ e 1 = .int .i64 (k + i) ∧ e 5 = .int .i64 (i : Int) ∧ H' = H.upd b (.cells (L.map (AV.int .i64)) true) ∧ L.length = n ∧ ∀ j, j < i → L[j]? = some (k + j)) (fun e _ => ctr n (e 5)) ?_ ?_
  · exact ⟨0, zs, Nat.zero_le _, by simp (maxSteps := 2000000) (disch := first | omega | assumption | exact idP rfl | exact idP (bL rfl) | (simp only [alloc_size, upd_size]; done) | (simp only [alloc_size, upd_size]; omega) | fail) only [go_sem, reduceIte, Nat.reduceEqDiff], by simp (maxSteps := 2000000) (disch := first | omega | assumption | exact idP rfl | exact idP (bL rfl) | (simp only [alloc_size, upd_size]; done) | (simp only [alloc_size, upd_size]; omega) | fail) only [go_sem, reduceIte, Nat.reduceEqDiff]; rw [show k + ((0 : Nat) : Int) = k by omega], by simp (maxSteps := 2000000) (disch := first | omega | assumption | exact idP rfl | exact idP (bL rfl) | (simp only [alloc_size, upd_size]; done) | (simp only [alloc_size, upd_size]; omega) | fail) only [go_sem, reduceIte, Nat.reduceEqDiff]; rfl, (upd_self hblk).symm, hn.symm, fun j h => by omega⟩
  · rintro e H1 ⟨i, L, hi, e0, e1, e5, rfl, hL, hj⟩ K hK
    simp (maxSteps := 2000000) (disch := first | omega | assumption | exact idP rfl | exact idP (bL rfl) | (simp only [alloc_size, upd_size]; done) | (simp only [alloc_size, upd_size]; omega) | fail) only [go_sem, reduceIte, Nat.reduceEqDiff, e0, e5]
    refine condV_dec (fun h => ?_) (fun h => ?_)
    · have e5' := e5
      simp (maxSteps := 2000000) (disch := first | omega | assumption | exact idP rfl | exact idP (bL rfl) | (simp only [alloc_size, upd_size]; done) | (simp only [alloc_size, upd_size]; omega) | fail) only [go_sem, reduceIte, Nat.reduceEqDiff, e0, e1, e5, hlt]
      rw [stoK_1 rfl (by simp; omega)]
      simp (maxSteps := 2000000) (disch := first | omega | assumption | exact idP rfl | exact idP (bL rfl) | (simp only [alloc_size, upd_size]; done) | (simp only [alloc_size, upd_size]; omega) | fail) only [go_sem, reduceIte, Nat.reduceEqDiff, e1, e5]
      refine hK _ _ ⟨i + 1, L.set i (k + i), by omega, by simp (maxSteps := 2000000) (disch := first | omega | assumption | exact idP rfl | exact idP (bL rfl) | (simp only [alloc_size, upd_size]; done) | (simp only [alloc_size, upd_size]; omega) | fail) only [go_sem, reduceIte, Nat.reduceEqDiff, e0], by simp (maxSteps := 2000000) (disch := first | omega | assumption | exact idP rfl | exact idP (bL rfl) | (simp only [alloc_size, upd_size]; done) | (simp only [alloc_size, upd_size]; omega) | fail) only [go_sem, reduceIte, Nat.reduceEqDiff]; rw [show k + (i : Int) + 1 = k + ((i + 1 : Nat) : Int) by omega], by simp (maxSteps := 2000000) (disch := first | omega | assumption | exact idP rfl | exact idP (bL rfl) | (simp only [alloc_size, upd_size]; done) | (simp only [alloc_size, upd_size]; omega) | fail) only [go_sem, reduceIte, Nat.reduceEqDiff]; rfl, by rw [Heap.upd_upd, List.map_set], by simpa using hL, fun j hj2 => ?_⟩ (by simp (maxSteps := 2000000) (disch := first | omega | assumption | exact idP rfl | exact idP (bL rfl) | (simp only [alloc_size, upd_size]; done) | (simp only [alloc_size, upd_size]; omega) | fail) only [go_sem, reduceIte, Nat.reduceEqDiff, ctr_int, e5']; omega)
      by_cases hji : j = i
      · subst hji; rw [List.getElem?_set_self (by omega)]
      · rw [List.getElem?_set_ne (by omega)]; exact hj j (by omega)
    · obtain rfl : i = n := by omega
      simp (maxSteps := 2000000) (disch := first | omega | assumption | exact idP rfl | exact idP (bL rfl) | (simp only [alloc_size, upd_size]; done) | (simp only [alloc_size, upd_size]; omega) | fail) only [go_sem, reduceIte, Nat.reduceEqDiff, e1]
      refine hR _ _ ⟨rfl, ?_⟩
      congr 2
      congr 1
      apply List.ext_getElem?
      intro j
      by_cases hj' : j < i
      · rw [hj j hj', marks_at hj']
      · rw [List.getElem?_eq_none (by omega), List.getElem?_eq_none (by rw [marks_len]; omega)]
theorem s_markNil {k : Int} {kk : Nat} (h0 : 0 ≤ k) : ACall Try.prog n_laws_markIntS [.sl none 0 0 true kk, .int .i64 k] H (fun r H' => r = .int .i64 k ∧ H' = H) := by
  refine ACall.of fun R hR => a_laws_markIntS rfl ?_
  simp (maxSteps := 2000000) (disch := first | omega | assumption | exact idP rfl | exact idP (bL rfl) | (simp only [alloc_size, upd_size]; done) | (simp only [alloc_size, upd_size]; omega) | fail) only [go_sem, reduceIte, Nat.reduceEqDiff]
  refine wp_loop_k (fun e H' => H' = H ∧ e 0 = .sl none 0 0 true kk ∧ e 1 = .int .i64 k ∧ e 5 = .int .i64 0) (fun e _ => 0) ?_ ?_
  · exact ⟨rfl, by simp (maxSteps := 2000000) (disch := first | omega | assumption | exact idP rfl | exact idP (bL rfl) | (simp only [alloc_size, upd_size]; done) | (simp only [alloc_size, upd_size]; omega) | fail) only [go_sem, reduceIte, Nat.reduceEqDiff], by simp (maxSteps := 2000000) (disch := first | omega | assumption | exact idP rfl | exact idP (bL rfl) | (simp only [alloc_size, upd_size]; done) | (simp only [alloc_size, upd_size]; omega) | fail) only [go_sem, reduceIte, Nat.reduceEqDiff], by simp (maxSteps := 2000000) (disch := first | omega | assumption | exact idP rfl | exact idP (bL rfl) | (simp only [alloc_size, upd_size]; done) | (simp only [alloc_size, upd_size]; omega) | fail) only [go_sem, reduceIte, Nat.reduceEqDiff]⟩
  · rintro e H1 ⟨rfl, e0, e1, e5⟩ K hK
    simp (maxSteps := 2000000) (disch := first | omega | assumption | exact idP rfl | exact idP (bL rfl) | (simp only [alloc_size, upd_size]; done) | (simp only [alloc_size, upd_size]; omega) | fail) only [go_sem, reduceIte, Nat.reduceEqDiff, e0, e5]
    refine condV_dec (fun h => absurd h (by omega)) (fun h => ?_)
    simp (maxSteps := 2000000) (disch := first | omega | assumption | exact idP rfl | exact idP (bL rfl) | (simp only [alloc_size, upd_size]; done) | (simp only [alloc_size, upd_size]; omega) | fail) only [go_sem, reduceIte, Nat.reduceEqDiff, e1]
    exact hR _ _ ⟨rfl, rfl⟩
theorem s_markOwn {v : AV} {zs : List Int} {k : Int} (hv : Own 1 H v (zs.map (AV.int .i64))) (h0 : 0 ≤ k) (h1 : k + zs.length ≤ 4611686018427387904) :
    ACall Try.prog n_laws_markIntS [v, .int .i64 k] H (fun r H' => r = .int .i64 (k + zs.length) ∧ Own 1 H' v ((marks k zs.length).map (AV.int .i64)) ∧ Le (base H v) (base H' v)) := by
  obtain ⟨A, m, ex, kk, rfl, q1, q2, q3⟩ := hv
  have q1 : zs.length = m := by simpa using q1
  cases A with
  | none =>
    obtain ⟨rfl, rfl⟩ := q2 rfl
    refine (s_markNil h0).mono ?_
    rintro r H' ⟨rfl, rfl⟩
    refine ⟨by rw [q1]; simp, ?_, Le.refl _⟩
    rw [q1]; exact Own.nil
  | some p =>
    obtain ⟨b, o⟩ := p
    obtain ⟨rfl, rfl, q4, q5⟩ := q3 b o rfl
    refine (s_markIntS (zs := zs) (rwCells_of q4 q5) q1.symm h0 (by omega)).mono ?_
    rintro r H' ⟨rfl, rfl⟩
    refine ⟨by rw [q1], ⟨some (b, 0), m, ex, 1, rfl, by simp [marks_len, q1], fun h => (nomatch h), fun b' o e => ?_⟩, ?_⟩
    · cases e
      exact ⟨rfl, rfl, q4, by rw [upd_blk_same', q1]⟩
    · show Le (H.kill b) ((H.upd b _).kill b)
      rw [upd_kill]; exact Le.refl _
theorem s_heldIntS {v : AV} {n : Nat} {k : Int} (hv : IsI H v (marks k n)) (h0 : 0 ≤ k) (h1 : k + n ≤ 4611686018427387904) :
    ACall Try.prog n_laws_heldIntS [v, .int .i64 k] H (fun r H' => r = .int .i64 (k + n) ∧ H' = H) := by
  refine ACall.of fun R hR => a_laws_heldIntS rfl ?_
  obtain ⟨A, c, ex, kk, rfl, hr⟩ := hv.parts
  simp only [marks_len] at hr ⊢
  simp (maxSteps := 2000000) (disch := first | omega | assumption | exact idP rfl | exact idP (bL rfl) | (simp only [alloc_size, upd_size]; done) | (simp only [alloc_size, upd_size]; omega) | fail) only [go_sem, reduceIte, Nat.reduceEqDiff]
  refine wp_loop_k (fun e H' => H = H' ∧ ∃ (i : Nat), i ≤ n ∧ e 0 = .sl A n c ex kk ∧ e 1 = .int .i64 (k + i) ∧ e 5 = .int .i64 (i : Int)) (fun e _ => ctr n (e 5)) ?_ ?_
  · exact ⟨rfl, 0, Nat.zero_le _, by simp (maxSteps := 2000000) (disch := first | omega | assumption | exact idP rfl | exact idP (bL rfl) | (simp only [alloc_size, upd_size]; done) | (simp only [alloc_size, upd_size]; omega) | fail) only [go_sem, reduceIte, Nat.reduceEqDiff], by simp (maxSteps := 2000000) (disch := first | omega | assumption | exact idP rfl | exact idP (bL rfl) | (simp only [alloc_size, upd_size]; done) | (simp only [alloc_size, upd_size]; omega) | fail) only [go_sem, reduceIte, Nat.reduceEqDiff]; rw [show k + ((0 : Nat) : Int) = k by omega], by simp (maxSteps := 2000000) (disch := first | omega | assumption | exact idP rfl | exact idP (bL rfl) | (simp only [alloc_size, upd_size]; done) | (simp only [alloc_size, upd_size]; omega) | fail) only [go_sem, reduceIte, Nat.reduceEqDiff]; rfl⟩
  · rintro e H1 ⟨rfl, i, hi, e0, e1, e5⟩ K hK
    simp (maxSteps := 2000000) (disch := first | omega | assumption | exact idP rfl | exact idP (bL rfl) | (simp only [alloc_size, upd_size]; done) | (simp only [alloc_size, upd_size]; omega) | fail) only [go_sem, reduceIte, Nat.reduceEqDiff, e0, e5]
    refine condV_dec (fun h => ?_) (fun h => ?_)
    · have e5' := e5
      have hg := hr i (by omega)
      have hm : (marks k n)[i]'(by rw [marks_len]; omega) = k + i := by
        have := marks_at (k := k) (n := n) (j := i) (by omega)
        rw [List.getElem?_eq_getElem (by rw [marks_len]; omega)] at this
        exact Option.some.inj this
      rw [Nat.mul_one, hm] at hg
      have hne : ¬ (k + (i : Int) ≠ k + (i : Int)) := fun h => h rfl
      simp (maxSteps := 2000000) (disch := first | omega | assumption | exact idP rfl | exact idP (bL rfl) | (simp only [alloc_size, upd_size]; done) | (simp only [alloc_size, upd_size]; omega) | fail) only [go_sem, reduceIte, Nat.reduceEqDiff, e0, e1, e5, hg]
      refine hK _ _ ⟨rfl, i + 1, by omega, by simp (maxSteps := 2000000) (disch := first | omega | assumption | exact idP rfl | exact idP (bL rfl) | (simp only [alloc_size, upd_size]; done) | (simp only [alloc_size, upd_size]; omega) | fail) only [go_sem, reduceIte, Nat.reduceEqDiff, e0], by simp (maxSteps := 2000000) (disch := first | omega | assumption | exact idP rfl | exact idP (bL rfl) | (simp only [alloc_size, upd_size]; done) | (simp only [alloc_size, upd_size]; omega) | fail) only [go_sem, reduceIte, Nat.reduceEqDiff]; rw [show k + (i : Int) + 1 = k + ((i + 1 : Nat) : Int) by omega], by simp (maxSteps := 2000000) (disch := first | omega | assumption | exact idP rfl | exact idP (bL rfl) | (simp only [alloc_size, upd_size]; done) | (simp only [alloc_size, upd_size]; omega) | fail) only [go_sem, reduceIte, Nat.reduceEqDiff]; rfl⟩ (by simp (maxSteps := 2000000) (disch := first | omega | assumption | exact idP rfl | exact idP (bL rfl) | (simp only [alloc_size, upd_size]; done) | (simp only [alloc_size, upd_size]; omega) | fail) only [go_sem, reduceIte, Nat.reduceEqDiff, ctr_int, e5']; omega)
    · obtain rfl : i = n := by omega
      simp (maxSteps := 2000000) (disch := first | omega | assumption | exact idP rfl | exact idP (bL rfl) | (simp only [alloc_size, upd_size]; done) | (simp only [alloc_size, upd_size]; omega) | fail) only [go_sem, reduceIte, Nat.reduceEqDiff, e1]
      exact hR _ _ ⟨rfl, rfl⟩
def Heap.gap (H : Heap) (lo hi : Nat) : Heap := ⟨H.size, fun b => if lo ≤ b ∧ b < hi then .dead else H.blk b⟩
theorem gap_le (H : Heap) (lo hi : Nat) : Le (H.gap lo hi) H := ⟨Nat.le_refl _, fun b hb => by
  simp only [Heap.gap]
  split
  · exact .inl rfl
  · exact .inr rfl⟩
theorem Le.gapLow {H H' : Heap} (h : Le H H') {lo hi : Nat} (hl : H.size ≤ lo) : Le H (H'.gap lo hi) := ⟨h.1, fun b hb => by
  simp only [Heap.gap]
  rw [if_neg (by omega)]
  exact h.2 b hb⟩
theorem later_gap (H : Heap) {lo hi n : Nat} (h : hi ≤ n) : Le (H.later n) (H.gap lo hi) := ⟨Nat.le_refl _, fun b hb => by
  simp only [Heap.later, Heap.gap]
  by_cases h1 : b < n
  · rw [if_pos h1]; exact .inl rfl
  · rw [if_neg h1, if_neg (by omega)]; exact .inr rfl⟩
theorem gap_upd {H : Heap} {lo hi b : Nat} {x : Blk} (h1 : lo ≤ b) (h2 : b < hi) : (H.upd b x).gap lo hi = H.gap lo hi := by
  unfold Heap.gap Heap.upd
  simp only [Heap.mk.injEq, true_and]
  funext i
  by_cases h : lo ≤ i ∧ i < hi
  · rw [if_pos h, if_pos h]
  · rw [if_neg h, if_neg h, if_neg (by omega)]
theorem s_markIntSS {r : AV} {lo hi : Nat} {xss : List (List Int)} (ht : Tree H lo hi r xss) (hl : xss.length ≤ 1048576) (hxl : ∀ xs ∈ xss, xs.length ≤ 1048576) :
    ACall Try.prog n_laws_markIntSS [r, .int .i64 1] H (fun r' H' => ∃ k : Int, r' = .int .i64 k ∧ 0 ≤ k ∧ k ≤ 1 + (xss.length : Int) * 1048576 ∧ H'.size = H.size ∧ H'.gap lo hi = H.gap lo hi) := by
  refine ACall.of fun R hR => a_laws_markIntSS rfl ?_
  obtain ⟨b, l, rfl, q1, q2, q3, q4, q5, q6⟩ := ht
  simp (maxSteps := 2000000) (disch := first | omega | assumption | exact idP rfl | exact idP (bL rfl) | (simp only [alloc_size, upd_size]; done) | (simp only [alloc_size, upd_size]; omega) | fail) only [go_sem, reduceIte, Nat.reduceEqDiff]
  refine wp_loop_k (fun e H' => ∃ (i : Nat) (k : Int), i ≤ xss.length ∧ e 0 = .sl (some (b, 0)) xss.length xss.length true 1 ∧ e 1 = .int .i64 k ∧ e 5 = .int .i64 (i : Int) ∧ 0 ≤ k ∧ k ≤ 1 + (i : Int) * 1048576 ∧ H'.size = H.size ∧ H'.gap lo hi = H.gap lo hi ∧ H'.blk b = .cells l true ∧
    ∀ j (hj : j < xss.length), ∃ bj, l[j]? = some (.sl (some (bj, 0)) xss[j].length xss[j].length true 1) ∧ lo ≤ bj ∧ bj < hi ∧ bj ≠ b ∧ bj < H.size ∧ ∃ zs : List Int, zs.length = xss[j].length ∧ H'.blk bj = .cells (zs.map (AV.int .i64)) true) (fun e _ => ctr xss.length (e 5)) ?_ ?_
  · exact ⟨0, 1, Nat.zero_le _, by simp (maxSteps := 2000000) (disch := first | omega | assumption | exact idP rfl | exact idP (bL rfl) | (simp only [alloc_size, upd_size]; done) | (simp only [alloc_size, upd_size]; omega) | fail) only [go_sem, reduceIte, Nat.reduceEqDiff], by simp (maxSteps := 2000000) (disch := first | omega | assumption | exact idP rfl | exact idP (bL rfl) | (simp only [alloc_size, upd_size]; done) | (simp only [alloc_size, upd_size]; omega) | fail) only [go_sem, reduceIte, Nat.reduceEqDiff], by simp (maxSteps := 2000000) (disch := first | omega | assumption | exact idP rfl | exact idP (bL rfl) | (simp only [alloc_size, upd_size]; done) | (simp only [alloc_size, upd_size]; omega) | fail) only [go_sem, reduceIte, Nat.reduceEqDiff]; rfl, by omega, by omega, rfl, rfl, q4, q6⟩
  · rintro e H1 ⟨i, k, hi', e0, e1, e5, k0, k1, hsz, hgap, hbl, hj⟩ K hK
    simp (maxSteps := 2000000) (disch := first | omega | assumption | exact idP rfl | exact idP (bL rfl) | (simp only [alloc_size, upd_size]; done) | (simp only [alloc_size, upd_size]; omega) | fail) only [go_sem, reduceIte, Nat.reduceEqDiff, e0, e5]
    refine condV_dec (fun h => ?_) (fun h => ?_)
    · have e5' := e5
      have hi2 : i < xss.length := by omega
      obtain ⟨bj, r1, r2, r3, r4, r5, zs, r6, r7⟩ := hj i hi2
      have hxi := hxl _ (List.getElem_mem hi2)
      have hg : H1.get b i = some (.sl (some (bj, 0)) xss[i].length xss[i].length true 1) := by
        have := Rd.blk (by omega) hbl i _ r1
        simpa using this
      simp (maxSteps := 2000000) (disch := first | omega | assumption | exact idP rfl | exact idP (bL rfl) | (simp only [alloc_size, upd_size]; done) | (simp only [alloc_size, upd_size]; omega) | fail) only [go_sem, reduceIte, Nat.reduceEqDiff, e0, e1, e5, hg]
      refine (s_markIntS (zs := zs) (rwCells_of (by omega) r7) r6.symm k0 (by omega)).mono ?_
      rintro r H2 ⟨rfl, rfl⟩
      simp (maxSteps := 2000000) (disch := first | omega | assumption | exact idP rfl | exact idP (bL rfl) | (simp only [alloc_size, upd_size]; done) | (simp only [alloc_size, upd_size]; omega) | fail) only [go_sem, reduceIte, Nat.reduceEqDiff, e5]
      refine hK _ _ ⟨i + 1, k + (xss[i].length : Int), by omega, by simp (maxSteps := 2000000) (disch := first | omega | assumption | exact idP rfl | exact idP (bL rfl) | (simp only [alloc_size, upd_size]; done) | (simp only [alloc_size, upd_size]; omega) | fail) only [go_sem, reduceIte, Nat.reduceEqDiff, e0], by simp (maxSteps := 2000000) (disch := first | omega | assumption | exact idP rfl | exact idP (bL rfl) | (simp only [alloc_size, upd_size]; done) | (simp only [alloc_size, upd_size]; omega) | fail) only [go_sem, reduceIte, Nat.reduceEqDiff], by simp (maxSteps := 2000000) (disch := first | omega | assumption | exact idP rfl | exact idP (bL rfl) | (simp only [alloc_size, upd_size]; done) | (simp only [alloc_size, upd_size]; omega) | fail) only [go_sem, reduceIte, Nat.reduceEqDiff]; rfl, by omega, by omega, hsz, by rw [gap_upd r2 r3]; exact hgap, by rw [upd_blk_ne (fun e => r4 e.symm)]; exact hbl, fun j hjj => ?_⟩ (by simp (maxSteps := 2000000) (disch := first | omega | assumption | exact idP rfl | exact idP (bL rfl) | (simp only [alloc_size, upd_size]; done) | (simp only [alloc_size, upd_size]; omega) | fail) only [go_sem, reduceIte, Nat.reduceEqDiff, ctr_int, e5']; omega)
      obtain ⟨bk, s1, s2, s3, s4, s5, zs', s6, s7⟩ := hj j hjj
      refine ⟨bk, s1, s2, s3, s4, s5, ?_⟩
      by_cases hbk : bk = bj
      · subst hbk
        rw [r7] at s7
        simp only [Blk.cells.injEq, and_true] at s7
        have hzz : zs.length = zs'.length := by simpa using congrArg List.length s7
        exact ⟨_, by rw [marks_len]; omega, upd_blk_same'⟩
      · exact ⟨zs', s6, by rw [upd_blk_ne hbk]; exact s7⟩
    · simp (maxSteps := 2000000) (disch := first | omega | assumption | exact idP rfl | exact idP (bL rfl) | (simp only [alloc_size, upd_size]; done) | (simp only [alloc_size, upd_size]; omega) | fail) only [go_sem, reduceIte, Nat.reduceEqDiff, e1]
      exact hR _ _ ⟨k, rfl, k0, by omega, hsz, hgap⟩
theorem s_markClauses {w : AV} {n : Int} {lo hi : Nat} {xss : List (List Int)} (ht : Tree H lo hi w xss) (hhi : hi ≤ H.size) (hl : xss.length ≤ 1048576) (hxl : ∀ xs ∈ xss, xs.length ≤ 1048576) :
    ACall Try.prog n_laws_markClauses [.agg [.int .i64 n, w], .int .i64 1] H (fun r' H' => ∃ k : Int, r' = .int .i64 k ∧ 0 ≤ k ∧ k ≤ 1 + (xss.length : Int) * 1048576 ∧ Le (H.gap lo hi) (H'.gap lo hi)) := by
  refine ACall.of fun R hR => a_laws_markClauses rfl ?_
  simp (maxSteps := 2000000) (disch := first | omega | assumption | exact idP rfl | exact idP (bL rfl) | (simp only [alloc_size, upd_size]; done) | (simp only [alloc_size, upd_size]; omega) | fail) only [go_sem, reduceIte, Nat.reduceEqDiff]
  refine (s_markIntSS (ht.le (Le.alloc H [.int .i64 n, w]) (Nat.le_refl _) (Nat.le_refl _)) hl hxl).mono ?_
  rintro r H1 ⟨k, rfl, k0, k1, hsz, hgap⟩
  simp (maxSteps := 2000000) (disch := first | omega | assumption | exact idP rfl | exact idP (bL rfl) | (simp only [alloc_size, upd_size]; done) | (simp only [alloc_size, upd_size]; omega) | fail) only [go_sem, reduceIte, Nat.reduceEqDiff]
  refine hR _ _ ⟨k, rfl, k0, k1, ?_⟩
  rw [hgap]
  exact ⟨Nat.le_succ _, fun b hb => by
    have hb : b < H.size := hb
    simp only [Heap.gap]
    split
    · exact .inl rfl
    · rw [alloc_old (by omega)]; exact .inr rfl⟩
end Go.M2

namespace Go.M2
open Go.Proofs
theorem take_snocO {α : Type} {l : List α} {i : Nat} (h : i < l.length) : l.take (i + 1) = l.take i ++ [l[i]] := List.take_succ_eq_append_getElem h
def compF : List Int → List Int
  | [] => []
  | x :: t => match t with
    | [] => [x]
    | y :: _ => if x = y then compF t else x :: compF t
theorem compF_snoc : ∀ {l : List Int} {y x : Int}, compF (l ++ [y] ++ [x]) = if y = x then compF (l ++ [y]) else compF (l ++ [y]) ++ [x]
  | [], y, x => by
    simp only [List.nil_append, List.singleton_append, compF]
    split
    · rename_i e; rw [e]
    · rfl
  | [a], y, x => by
    simp only [List.singleton_append, List.cons_append, List.nil_append, compF]
    repeat' split
    all_goals (try subst_vars; rfl)
  | a :: b :: t, y, x => by
    have ih := compF_snoc (l := b :: t) (y := y) (x := x)
    simp only [List.cons_append] at ih ⊢
    rw [compF, compF, ih]
    split <;> split <;> simp
theorem compF_take {l : List Int} {m : Nat} (hm : 0 < m) (h : m < l.length) : compF (l.take (m + 1)) = if l[m] = l[m - 1] then compF (l.take m) else compF (l.take m) ++ [l[m]] := by
  obtain ⟨k, rfl⟩ : ∃ k, m = k + 1 := ⟨m - 1, by omega⟩
  have e1 : l.take (k + 1) = l.take k ++ [l[k]] := take_snocO (by omega)
  have e2 : l.take (k + 1 + 1) = l.take (k + 1) ++ [l[k + 1]] := take_snocO h
  rw [e2, e1, compF_snoc]
  simp only [Nat.add_sub_cancel]
  by_cases e : l[k] = l[k + 1]
  · rw [if_pos e, if_pos e.symm]
  · rw [if_neg e, if_neg (fun h => e h.symm)]
theorem compF_id {l : List Int} : ∀ {m : Nat}, m ≤ l.length → (∀ i (h : i < l.length), 0 < i → i < m → l[i] ≠ l[i - 1]) → compF (l.take m) = l.take m
  | 0, _, _ => by simp [compF]
  | 1, h, _ => by rw [take_snocO (by omega)]; simp [compF]
  | m + 2, h, hk => by
    rw [compF_take (by omega) (by omega), if_neg (by have := hk (m + 1) (by omega) (by omega) (by omega); simpa using this), compF_id (by omega) fun i h1 h2 h3 => hk i h1 h2 (by omega), take_snocO (i := m + 1) (by omega)]
theorem compF_len {l : List Int} : (compF l).length ≤ l.length := by
  induction l with
  | nil => simp [compF]
  | cons x t ih =>
    cases t with
    | nil => simp [compF]
    | cons y t =>
      rw [compF]
      split
      · simp at ih ⊢; omega
      · simp at ih ⊢; omega
theorem mem_compF {l : List Int} {x : Int} : x ∈ compF l ↔ x ∈ l := by
  induction l with
  | nil => simp [compF]
  | cons y t ih =>
    cases t with
    | nil => simp [compF]
    | cons z t =>
      rw [compF]
      split
      · rename_i e; subst e; rw [ih]; simp
      · rw [List.mem_cons, ih]
        exact List.mem_cons.symm
def ltK (x y : Int) : Prop := x.natAbs < y.natAbs ∨ (x.natAbs = y.natAbs ∧ x < y)
def leK (x y : Int) : Prop := x.natAbs < y.natAbs ∨ (x.natAbs = y.natAbs ∧ x ≤ y)
theorem compF_ltK {l : List Int} (h : l.Pairwise leK) : (compF l).Pairwise ltK := by
  induction l with
  | nil => simp [compF]
  | cons y t ih =>
    have h2 := List.pairwise_cons.1 h
    cases t with
    | nil => simp [compF]
    | cons z t =>
      rw [compF]
      split
      · exact ih h2.2
      · rename_i hne
        refine List.pairwise_cons.2 ⟨fun b hb => ?_, ih h2.2⟩
        rw [mem_compF] at hb
        have h3 := h2.1 z (List.mem_cons_self ..)
        have h4 := h2.1 b hb
        rcases List.mem_cons.1 hb with rfl | hb
        · unfold leK at h3; unfold ltK; omega
        · have h5 := (List.pairwise_cons.1 h2.2).1 b hb
          unfold leK at h3 h4 h5; unfold ltK
          omega
theorem asc_same : ∀ {a b : List Int}, Asc a → Asc b → (∀ x, x ∈ a ↔ x ∈ b) → a = b
  | [], [], _, _, _ => rfl
  | [], y :: t, _, _, h => absurd ((h y).2 (by simp)) (by simp)
  | x :: t, [], _, _, h => absurd ((h x).1 (by simp)) (by simp)
  | x :: t, y :: u, ha, hb, h => by
    have ha' := List.pairwise_cons.1 ha
    have hb' := List.pairwise_cons.1 hb
    have hxy : x = y := by
      rcases List.mem_cons.1 ((h x).1 (by simp)) with e | e
      · exact e
      · rcases List.mem_cons.1 ((h y).2 (by simp)) with e2 | e2
        · exact e2.symm
        · have := ha'.1 y e2
          have := hb'.1 x e
          omega
    subst hxy
    refine congrArg (x :: ·) (asc_same ha'.2 hb'.2 fun z => ?_)
    constructor
    · intro hz
      rcases List.mem_cons.1 ((h z).1 (List.mem_cons_of_mem _ hz)) with rfl | e
      · exact absurd (ha'.1 z hz) (by omega)
      · exact e
    · intro hz
      rcases List.mem_cons.1 ((h z).2 (List.mem_cons_of_mem _ hz)) with rfl | e
      · exact absurd (hb'.1 z hz) (by omega)
      · exact e
def Opp (xs : List Int) : Prop := ∃ x ∈ xs, -x ∈ xs
theorem givenF_mem : ∀ {xs m : List Int} {a : Nat} {y : Int}, (givenF xs m).getD a 0 = y → y ≠ 0 → m.getD a 0 = y ∨ (y ∈ xs ∧ y.natAbs = a)
  | [], m, a, y, h, _ => .inl h
  | x :: t, m, a, y, h, h0 => by
    rcases givenF_mem (xs := t) (m := m.set x.natAbs x) (a := a) (y := y) h h0 with h1 | ⟨h1, h2⟩
    · by_cases hx : x.natAbs = a
      · subst hx
        by_cases hl : x.natAbs < m.length
        · simp [List.getD, hl] at h1
          subst h1
          exact .inr ⟨by simp, rfl⟩
        · rw [List.set_eq_of_length_le (by omega)] at h1; exact .inl h1
      · rw [show (m.set x.natAbs x).getD a 0 = m.getD a 0 by simp [List.getD, List.getElem?_set_ne hx]] at h1
        exact .inl h1
    · exact .inr ⟨List.mem_cons_of_mem _ h1, h2⟩
theorem givenF_last : ∀ {xs m : List Int} {x : Int}, x ∈ xs → x.natAbs < m.length → ∃ y ∈ xs, y.natAbs = x.natAbs ∧ (givenF xs m).getD x.natAbs 0 = y
  | [], m, x, h, _ => by simp at h
  | z :: t, m, x, h, hl => by
    have hrec : x ∈ t → ∃ y ∈ z :: t, y.natAbs = x.natAbs ∧ (givenF (z :: t) m).getD x.natAbs 0 = y := fun ht => by
      obtain ⟨y, h1, h2, h3⟩ := givenF_last (xs := t) (m := m.set z.natAbs z) ht (by simpa using hl)
      exact ⟨y, List.mem_cons_of_mem _ h1, h2, h3⟩
    by_cases ht : x ∈ t
    · exact hrec ht
    · obtain rfl : x = z := by rcases List.mem_cons.1 h with h | h; exact h; exact absurd h ht
      by_cases hex : ∃ w ∈ t, w.natAbs = x.natAbs
      · obtain ⟨w, hw, he⟩ := hex
        obtain ⟨y, h1, h2, h3⟩ := givenF_last (xs := t) (m := m.set x.natAbs x) hw (by simp; omega)
        exact ⟨y, List.mem_cons_of_mem _ h1, by omega, by rw [← he]; exact h3⟩
      · refine ⟨x, by simp, rfl, ?_⟩
        show (givenF t (m.set x.natAbs x)).getD x.natAbs 0 = x
        rw [givenF_getD fun w hw e => hex ⟨w, hw, e⟩]
        simp [List.getD, hl]
theorem contr_opp {n : Nat} {xs : List Int} (hx : Lits n xs) : Contr n xs ↔ Opp xs := by
  constructor
  · rintro ⟨i, hi, h1, h2⟩
    rcases givenF_mem rfl h1 with h3 | ⟨h3, h4⟩
    · rw [zero_getD] at h3; exact absurd h3.symm h1
    · refine ⟨xs[i], List.getElem_mem hi, ?_⟩
      have : (givenF (xs.take i) (List.replicate (n + 1) 0)).getD xs[i].natAbs 0 = -xs[i] := by omega
      rw [this] at h3
      exact List.mem_of_mem_take h3
  · rintro ⟨x, h1, h2⟩
    have hpq : ∃ j, ∃ hj : j < xs.length, ∃ i, ∃ hi : i < j, xs[i]'(by omega) = -xs[j] := by
      obtain ⟨p, hp, rfl⟩ := List.getElem_of_mem h1
      obtain ⟨q, hq, e⟩ := List.getElem_of_mem h2
      have h0 := (hx _ h1).1
      rcases Nat.lt_trichotomy p q with h | h | h
      · exact ⟨q, hq, p, h, by omega⟩
      · subst h; omega
      · exact ⟨p, hp, q, h, e⟩
    obtain ⟨j, ⟨hj, i, hi, he⟩, hmin⟩ := exists_least hpq
    have hxj := hx _ (List.getElem_mem hj)
    refine ⟨j, hj, ?_⟩
    have hit : xs[i]'(by omega) ∈ xs.take j := by
      rw [List.mem_take_iff_getElem]
      exact ⟨i, by omega, rfl⟩
    obtain ⟨y, h3, h4, h5⟩ := givenF_last (m := List.replicate (n + 1) (0 : Int)) hit (by rw [he]; simp; omega)
    have hab : (xs[i]'(by omega)).natAbs = xs[j].natAbs := by rw [he]; omega
    rw [hab] at h4 h5
    rw [h5]
    have hyj : y ≠ xs[j] := by
      intro e
      -- y and xs[i] are contrary, both ahead of j
      obtain ⟨q, hq, e2⟩ := List.mem_take_iff_getElem.1 h3
      have hq1 : q < j := by omega
      rcases Nat.lt_trichotomy i q with h | h | h
      · exact absurd (hmin q ⟨by omega, i, h, by omega⟩) (by omega)
      · subst h; omega
      · exact absurd (hmin i ⟨by omega, q, h, by omega⟩) (by omega)
    exact ⟨by omega, hyj⟩
theorem mem_marked {n : Nat} {xs : List Int} (hx : Lits n xs) (ho : ¬ Opp xs) (x : Int) : x ∈ marked (given n xs) ↔ x ∈ xs := by
  unfold marked
  rw [List.mem_filter, List.mem_iff_getElem]
  constructor
  · rintro ⟨⟨i, hi, rfl⟩, h2⟩
    have h2 : ((given n xs).drop 1)[i] ≠ 0 := by simpa using h2
    have e : (given n xs).getD (1 + i) 0 = ((given n xs).drop 1)[i] := by
      simp at hi
      rw [List.getElem_drop]
      simp only [List.getD]
      rw [List.getElem?_eq_getElem (by omega)]
      rfl
    rcases givenF_mem e h2 with h3 | ⟨h3, _⟩
    · rw [zero_getD] at h3; exact absurd h3.symm h2
    · exact h3
  · intro h
    have hxx := hx x h
    obtain ⟨y, h1, h2, h3⟩ := givenF_last (m := List.replicate (n + 1) (0 : Int)) h (by simp; omega)
    have hyx : y = x := by
      apply Classical.byContradiction
      intro hne
      exact ho ⟨x, h, by rw [show -x = y by omega]; exact h1⟩
    subst hyx
    refine ⟨⟨y.natAbs - 1, by rw [List.length_drop, given_len]; omega, ?_⟩, by simpa using hxx.1⟩
    have hl : y.natAbs < (given n xs).length := by rw [given_len]; omega
    have h3 : (given n xs).getD y.natAbs 0 = y := h3
    simp only [List.getD, List.getElem?_eq_getElem hl, Option.getD_some] at h3
    rw [List.getElem_drop]
    have key : ∀ (k : Nat) (hk : k < (given n xs).length), k = y.natAbs → (given n xs)[k] = y := by
      rintro k hk rfl; exact h3
    exact key _ _ (by omega)
theorem marked_asc {n : Nat} {xs : List Int} : Asc (marked (given n xs)) := by
  have hmk : Mk (given n xs) := by
    have : ∀ {xs m : List Int}, Mk m → Mk (givenF xs m) := by
      intro xs
      induction xs with
      | nil => intro m h; exact h
      | cons x t ih => intro m h; exact ih h.set
    exact this fun a h => .inl (by simp)
  unfold marked Asc
  rw [List.pairwise_filter]
  rw [List.pairwise_iff_getElem]
  intro i j hi hj hij h1 h2
  simp only [List.getElem_drop] at h1 h2 ⊢
  have a1 := (hmk (1 + i) (by simp at hi; omega)).resolve_left (by simpa using h1)
  have a2 := (hmk (1 + j) (by simp at hj; omega)).resolve_left (by simpa using h2)
  omega
theorem comp_marked {n : Nat} {xs ys : List Int} (hx : Lits n xs) (ho : ¬ Opp xs) (hs : ys.Pairwise leK) (hm : ∀ x, x ∈ ys ↔ x ∈ xs) : compF ys = marked (given n xs) := by
  refine asc_same ?_ marked_asc fun x => by rw [mem_compF, hm, mem_marked hx ho]
  refine List.Pairwise.imp_of_mem ?_ (compF_ltK hs)
  intro a b ha hb h
  rw [mem_compF, hm] at ha hb
  rcases h with h | ⟨h1, h2⟩
  · exact h
  · exact absurd ⟨a, ha, by rw [show -a = b by omega]; exact hb⟩ ho
theorem opp_next {ys : List Int} (h0 : ∀ x ∈ ys, x ≠ 0) (hs : ys.Pairwise ltK) : Opp ys ↔ ∃ i, ∃ h : i < ys.length, 0 < i ∧ ys[i] = -(ys[i - 1]'(by omega)) := by
  constructor
  · rintro ⟨x, h1, h2⟩
    have key : ∀ (p q : Nat) (hp : p < ys.length) (hq : q < ys.length), p < q → ys[q] = -ys[p] → ∃ i, ∃ h : i < ys.length, 0 < i ∧ ys[i] = -(ys[i - 1]'(by omega)) := by
      intro p q hp hq hpq e
      refine ⟨q, hq, by omega, ?_⟩
      have hpq1 : p = q - 1 := by
        apply Classical.byContradiction
        intro hne
        have l1 := List.pairwise_iff_getElem.1 hs p (q - 1) hp (by omega) (by omega)
        have l2 := List.pairwise_iff_getElem.1 hs (q - 1) q (by omega) hq (by omega)
        unfold ltK at l1 l2
        omega
      subst hpq1; exact e
    obtain ⟨p, hp, rfl⟩ := List.getElem_of_mem h1
    obtain ⟨q, hq, e⟩ := List.getElem_of_mem h2
    have := h0 _ h1
    rcases Nat.lt_trichotomy p q with h | h | h
    · exact key p q hp hq h e
    · subst h; omega
    · exact key q p hq hp h (by omega)
  · rintro ⟨i, hi, hp, e⟩
    exact ⟨ys[i - 1]'(by omega), List.getElem_mem _, by rw [← e]; exact List.getElem_mem _⟩
theorem sortS_sorted {zs : List LitS} : ((sortS zs).map (·.1)).Pairwise leK := by
  rw [List.pairwise_map]
  have h : (sortS zs).Pairwise fun x y => !(ltOf cfL) y x := List.pairwise_mergeSort (le := fun x y => !(ltOf cfL) y x) (fun a b c h1 h2 => by
    simp only [Bool.not_eq_true', ltL_false] at h1 h2 ⊢; omega) (fun a b => by
    simp only [Bool.or_eq_true, Bool.not_eq_true', ltL_false]; omega) zs
  refine h.imp fun {a b} hab => ?_
  simp only [Bool.not_eq_true', ltL_false] at hab
  unfold leK; omega
theorem mem_sortS {zs : List LitS} {x : Int} : x ∈ (sortS zs).map (·.1) ↔ x ∈ zs.map (·.1) := by
  simp only [List.mem_map, sortS, List.mem_mergeSort]
end Go.M2

namespace Go.M2
open Go.Proofs
variable {H : Heap}
theorem slcF_lo {b o n c : Nat} {ex : Bool} {k : IntKind} {a : Int} (h0 : 0 ≤ a) (h1 : a ≤ (n : Int)) (hc : a < (c : Int)) (hn : n ≤ c) :
    slcF 1 (some (.int k a)) none none (.sl (some (b, o)) n c ex 1) = some (.sl (some (b, o + a.toNat)) (n - a.toNat) (c - a.toNat) ex 1) := by
  simp only [slcF, bnds, natIn, Option.isSome_none, Bool.false_eq_true, if_false, h0, h1, and_self, if_true]
  rw [if_neg (by intro h; rcases h with h | h <;> omega), if_neg (by omega)]
  simp
theorem slcF_hi {b o n c kk : Nat} {ex : Bool} {k : IntKind} {a : Int} (h0 : 0 ≤ a) (h1 : a ≤ (c : Int)) (hc : 0 < c) :
    slcF 1 none (some (.int k a)) none (.sl (some (b, o)) n c ex kk) = some (.sl (some (b, o)) a.toNat c ex kk) := by
  simp only [slcF, bnds, natIn, Option.isSome_none, Bool.false_eq_true, if_false, h0, h1, and_self, if_true]
  rw [if_neg (by intro h; rcases h with h | h <;> omega), if_neg (by omega)]
  simp
theorem setAt_len : ∀ {c l : List AV} {o : Nat}, (setAt l o c).length = l.length
  | [], l, o => rfl
  | x :: t, l, o => by rw [setAt, setAt_len]; simp
theorem setAt_lo : ∀ {c l : List AV} {o i : Nat}, i < o → (setAt l o c)[i]? = l[i]?
  | [], l, o, i, _ => rfl
  | x :: t, l, o, i, h => by rw [setAt, setAt_lo (by omega), List.getElem?_set_ne (by omega)]
set_option maxHeartbeats 4000000 in
theorem s_Compact {b n : Nat} {ex : Bool} {zs : List Int} (hb : H.rwCells b = some (zs.map (AV.int .i64))) (hn : zs.length = n) (hl : n ≤ 1048576) :
    ACall Try.prog n_slices_Compact_Sint_int [.sl (some (b, 0)) n n ex 1] H (fun r H' => ∃ rest, r = .sl (some (b, 0)) (compF zs).length n ex 1 ∧ H' = H.upd b (.cells ((compF zs).map (AV.int .i64) ++ rest) true)) := by
  refine ACall.of fun R hR => a_slices_Compact_Sint_int rfl ?_
  obtain ⟨hlt, hblk⟩ := Heap.rwCells_blk hb
  have idm : H.upd b (.cells (zs.map (AV.int .i64)) true) = H := upd_self hblk
  have same : compF zs = zs → R (.sl (some (b, 0)) n n ex 1) H := fun h => hR _ _ ⟨[], by rw [h, hn], by rw [h, List.append_nil, idm]⟩
  have rdz : ∀ i (h : i < zs.length), H.get b i = some (.int .i64 zs[i]) := fun i h => by
    have := Rd.blk hlt hblk i (.int .i64 zs[i]) (by simp [h])
    simpa using this
  simp (maxSteps := 2000000) (disch := first | omega | assumption | exact idP rfl | exact idP (bL rfl) | (simp only [alloc_size, upd_size]; done) | (simp only [alloc_size, upd_size]; omega) | fail) only [go_sem, reduceIte, Nat.reduceEqDiff]
  refine condV_dec (fun h => ?_) (fun h => ?_)
  · simp (maxSteps := 2000000) (disch := first | omega | assumption | exact idP rfl | exact idP (bL rfl) | (simp only [alloc_size, upd_size]; done) | (simp only [alloc_size, upd_size]; omega) | fail) only [go_sem, reduceIte, Nat.reduceEqDiff]
    refine same ?_
    have := compF_id (l := zs) (m := zs.length) (Nat.le_refl _) fun i h1 h2 h3 => by omega
    rwa [List.take_length] at this
  · simp (maxSteps := 2000000) (disch := first | omega | assumption | exact idP rfl | exact idP (bL rfl) | (simp only [alloc_size, upd_size]; done) | (simp only [alloc_size, upd_size]; omega) | fail) only [go_sem, reduceIte, Nat.reduceEqDiff]
    refine wp_loop_k (fun e H' => H = H' ∧ ∃ k : Nat, 1 ≤ k ∧ k ≤ n ∧ e 0 = .sl (some (b, 0)) n n ex 1 ∧ e 3 = .int .i64 (k : Int) ∧ ∀ i (h : i < zs.length), 0 < i → i < k → zs[i] ≠ zs[i - 1]) (fun e _ => ctr n (e 3)) ?_ ?_
    · exact ⟨rfl, 1, by omega, by omega, by simp (maxSteps := 2000000) (disch := first | omega | assumption | exact idP rfl | exact idP (bL rfl) | (simp only [alloc_size, upd_size]; done) | (simp only [alloc_size, upd_size]; omega) | fail) only [go_sem, reduceIte, Nat.reduceEqDiff], by simp (maxSteps := 2000000) (disch := first | omega | assumption | exact idP rfl | exact idP (bL rfl) | (simp only [alloc_size, upd_size]; done) | (simp only [alloc_size, upd_size]; omega) | fail) only [go_sem, reduceIte, Nat.reduceEqDiff]; rfl, fun i h1 h2 h3 => by omega⟩
    · rintro e H1 ⟨rfl, k, hk1, hk, e0, e3, hne⟩ K hK
      simp (maxSteps := 2000000) (disch := first | omega | assumption | exact idP rfl | exact idP (bL rfl) | (simp only [alloc_size, upd_size]; done) | (simp only [alloc_size, upd_size]; omega) | fail) only [go_sem, reduceIte, Nat.reduceEqDiff, e0, e3]
      refine condV_dec (fun h => ?_) (fun h => ?_)
      · have h1 : k < zs.length := by omega
        have h2 : k - 1 < zs.length := by omega
        have et : ((k : Int) - 1).toNat = k - 1 := by omega
        have g1 := rdz k h1
        have g2 := rdz (k - 1) h2
        have e3' := e3
        simp (maxSteps := 2000000) (disch := first | omega | assumption | exact idP rfl | exact idP (bL rfl) | (simp only [alloc_size, upd_size]; done) | (simp only [alloc_size, upd_size]; omega) | fail) only [go_sem, reduceIte, Nat.reduceEqDiff, e0, e3, et, g1, g2]
        refine condV_dec (fun heq => ?_) (fun heq => ?_)
        · have hs1 : slcF 1 (some (.int .i64 (k : Int))) none none (.sl (some (b, 0)) n n ex 1) = some (.sl (some (b, k)) (n - k) (n - k) ex 1) := by
            rw [slcF_lo (by omega) (by omega) (by omega) (by omega)]; simp
          have hbase : compF (zs.take (k + 1)) = zs.take k := by
            rw [compF_take hk1 h1, if_pos heq]
            exact compF_id (by omega) fun i q1 q2 q3 => hne i q1 q2 (by omega)
          simp (maxSteps := 2000000) (disch := first | omega | assumption | exact idP rfl | exact idP (bL rfl) | (simp only [alloc_size, upd_size]; done) | (simp only [alloc_size, upd_size]; omega) | fail) only [go_sem, reduceIte, Nat.reduceEqDiff, e0, e3, hs1]
          refine wp_loop_k (fun e H' => ∃ (j kc : Nat) (L : List AV), 1 ≤ j ∧ k + j ≤ n ∧ e 0 = .sl (some (b, 0)) n n ex 1 ∧ e 3 = .int .i64 (kc : Int) ∧ e 4 = .sl (some (b, k)) (n - k) (n - k) ex 1 ∧ e 5 = .int .i64 (j : Int) ∧ H' = H.upd b (.cells L true) ∧ L.length = n ∧
            kc = (compF (zs.take (k + j))).length ∧ kc < k + j ∧ L.take kc = (compF (zs.take (k + j))).map (AV.int .i64) ∧ ∀ i, k + j ≤ i + 1 → L[i]? = (zs.map (AV.int .i64))[i]?) (fun e _ => ctr (n - k) (e 5)) ?_ ?_
          · refine ⟨1, k, zs.map (AV.int .i64), by omega, by omega, by simp (maxSteps := 2000000) (disch := first | omega | assumption | exact idP rfl | exact idP (bL rfl) | (simp only [alloc_size, upd_size]; done) | (simp only [alloc_size, upd_size]; omega) | fail) only [go_sem, reduceIte, Nat.reduceEqDiff, e0], by simp (maxSteps := 2000000) (disch := first | omega | assumption | exact idP rfl | exact idP (bL rfl) | (simp only [alloc_size, upd_size]; done) | (simp only [alloc_size, upd_size]; omega) | fail) only [go_sem, reduceIte, Nat.reduceEqDiff, e3], by simp (maxSteps := 2000000) (disch := first | omega | assumption | exact idP rfl | exact idP (bL rfl) | (simp only [alloc_size, upd_size]; done) | (simp only [alloc_size, upd_size]; omega) | fail) only [go_sem, reduceIte, Nat.reduceEqDiff], by simp (maxSteps := 2000000) (disch := first | omega | assumption | exact idP rfl | exact idP (bL rfl) | (simp only [alloc_size, upd_size]; done) | (simp only [alloc_size, upd_size]; omega) | fail) only [go_sem, reduceIte, Nat.reduceEqDiff]; rfl, idm.symm, by simp; omega, by rw [hbase]; simp; omega, by omega, by rw [hbase, List.map_take], fun i hi => rfl⟩
          · rintro e H2 ⟨j, kc, L, hj1, hj, e0, e3, e4, e5, rfl, hL, hkc, hkj, hT, hD⟩ K2 hK2
            have hmb : (H.upd b (.cells L true)).rwCells b = some L := rw_upd_same hlt
            have hgb : ∀ i x, L[i]? = some x → (H.upd b (.cells L true)).get b i = some x := fun i x h => by rw [get_upd_same hlt]; exact h
            have e5' := e5
            simp (maxSteps := 2000000) (disch := first | omega | assumption | exact idP rfl | exact idP (bL rfl) | (simp only [alloc_size, upd_size]; done) | (simp only [alloc_size, upd_size]; omega) | fail) only [go_sem, reduceIte, Nat.reduceEqDiff, e0, e3, e4, e5]
            refine condV_dec (fun h => ?_) (fun h => ?_)
            · have q1 : k + j < zs.length := by omega
              have q2 : k + j - 1 < zs.length := by omega
              have r1 := hgb (k + j) (.int .i64 zs[k + j]) (by rw [hD _ (by omega)]; simp [q1])
              have r2 := hgb (k + (j - 1)) (.int .i64 zs[k + j - 1]) (by rw [show k + (j - 1) = k + j - 1 by omega, hD _ (by omega)]; simp [q2])
              have et2 : ((j : Int) - 1).toNat = j - 1 := by omega
              have ct := compF_take (l := zs) (m := k + j) (by omega) q1
              simp (maxSteps := 2000000) (disch := first | omega | assumption | exact idP rfl | exact idP (bL rfl) | (simp only [alloc_size, upd_size]; done) | (simp only [alloc_size, upd_size]; omega) | fail) only [go_sem, reduceIte, Nat.reduceEqDiff, e0, e3, e4, e5, et2, r1, r2]
              refine condV_dec (fun hq => ?_) (fun hq => ?_)
              · rw [if_neg hq] at ct
                simp (maxSteps := 2000000) (disch := first | omega | assumption | exact idP rfl | exact idP (bL rfl) | (simp only [alloc_size, upd_size]; done) | (simp only [alloc_size, upd_size]; omega) | fail) only [go_sem, reduceIte, Nat.reduceEqDiff, e0, e3, e4, e5, r1, hmb, hL]
                rw [Heap.upd_upd]
                refine hK2 _ _ ⟨j + 1, kc + 1, L.set kc (.int .i64 zs[k + j]), by omega, by omega, by simp (maxSteps := 2000000) (disch := first | omega | assumption | exact idP rfl | exact idP (bL rfl) | (simp only [alloc_size, upd_size]; done) | (simp only [alloc_size, upd_size]; omega) | fail) only [go_sem, reduceIte, Nat.reduceEqDiff, e0], by simp (maxSteps := 2000000) (disch := first | omega | assumption | exact idP rfl | exact idP (bL rfl) | (simp only [alloc_size, upd_size]; done) | (simp only [alloc_size, upd_size]; omega) | fail) only [go_sem, reduceIte, Nat.reduceEqDiff]; rfl, by simp (maxSteps := 2000000) (disch := first | omega | assumption | exact idP rfl | exact idP (bL rfl) | (simp only [alloc_size, upd_size]; done) | (simp only [alloc_size, upd_size]; omega) | fail) only [go_sem, reduceIte, Nat.reduceEqDiff, e4], by simp (maxSteps := 2000000) (disch := first | omega | assumption | exact idP rfl | exact idP (bL rfl) | (simp only [alloc_size, upd_size]; done) | (simp only [alloc_size, upd_size]; omega) | fail) only [go_sem, reduceIte, Nat.reduceEqDiff]; rfl, rfl, by simp [hL], ?_, by omega, ?_, fun i hi => ?_⟩ (by simp (maxSteps := 2000000) (disch := first | omega | assumption | exact idP rfl | exact idP (bL rfl) | (simp only [alloc_size, upd_size]; done) | (simp only [alloc_size, upd_size]; omega) | fail) only [go_sem, reduceIte, Nat.reduceEqDiff, ctr_int, e5']; omega)
                · rw [← Nat.add_assoc, ct, List.length_append, ← hkc]; rfl
                · rw [← Nat.add_assoc, ct, take_snocO (by rw [List.length_set]; omega), List.take_set_of_le (Nat.le_refl _), hT, List.getElem_set_self, List.map_append]; rfl
                · rw [List.getElem?_set_ne (by omega)]; exact hD i (by omega)
              · have hq := Decidable.not_not.1 hq
                rw [if_pos hq] at ct
                simp (maxSteps := 2000000) (disch := first | omega | assumption | exact idP rfl | exact idP (bL rfl) | (simp only [alloc_size, upd_size]; done) | (simp only [alloc_size, upd_size]; omega) | fail) only [go_sem, reduceIte, Nat.reduceEqDiff, e0, e3, e4, e5]
                refine hK2 _ _ ⟨j + 1, kc, L, by omega, by omega, by simp (maxSteps := 2000000) (disch := first | omega | assumption | exact idP rfl | exact idP (bL rfl) | (simp only [alloc_size, upd_size]; done) | (simp only [alloc_size, upd_size]; omega) | fail) only [go_sem, reduceIte, Nat.reduceEqDiff, e0], by simp (maxSteps := 2000000) (disch := first | omega | assumption | exact idP rfl | exact idP (bL rfl) | (simp only [alloc_size, upd_size]; done) | (simp only [alloc_size, upd_size]; omega) | fail) only [go_sem, reduceIte, Nat.reduceEqDiff, e3], by simp (maxSteps := 2000000) (disch := first | omega | assumption | exact idP rfl | exact idP (bL rfl) | (simp only [alloc_size, upd_size]; done) | (simp only [alloc_size, upd_size]; omega) | fail) only [go_sem, reduceIte, Nat.reduceEqDiff, e4], by simp (maxSteps := 2000000) (disch := first | omega | assumption | exact idP rfl | exact idP (bL rfl) | (simp only [alloc_size, upd_size]; done) | (simp only [alloc_size, upd_size]; omega) | fail) only [go_sem, reduceIte, Nat.reduceEqDiff]; rfl, rfl, hL, ?_, by omega, ?_, fun i hi => hD i (by omega)⟩ (by simp (maxSteps := 2000000) (disch := first | omega | assumption | exact idP rfl | exact idP (bL rfl) | (simp only [alloc_size, upd_size]; done) | (simp only [alloc_size, upd_size]; omega) | fail) only [go_sem, reduceIte, Nat.reduceEqDiff, ctr_int, e5']; omega)
                · rw [← Nat.add_assoc, ct]; exact hkc
                · rw [← Nat.add_assoc, ct]; exact hT
            · obtain rfl : j = n - k := by omega
              have ej : k + (n - k) = zs.length := by omega
              rw [ej, List.take_length] at hT hkc
              have hs2 : slcF 1 (some (.int .i64 (kc : Int))) none none (.sl (some (b, 0)) n n ex 1) = some (.sl (some (b, kc)) (n - kc) (n - kc) ex 1) := by
                rw [slcF_lo (by omega) (by omega) (by omega) (by omega)]; simp
              have hs3 : slcF 1 none (some (.int .i64 (kc : Int))) none (.sl (some (b, 0)) n n ex 1) = some (.sl (some (b, 0)) kc n ex 1) := by
                rw [slcF_hi (by omega) (by omega) (by omega)]; simp
              simp (maxSteps := 2000000) (disch := first | omega | assumption | exact idP rfl | exact idP (bL rfl) | (simp only [alloc_size, upd_size]; done) | (simp only [alloc_size, upd_size]; omega) | fail) only [go_sem, reduceIte, Nat.reduceEqDiff, e0, e3, hs2]
              simp only [clearP, AA.b_some, AA.o_some, hmb]
              rw [if_neg (by omega)]
              refine ⟨rfl, by simp; omega, ?_⟩
              simp (maxSteps := 2000000) (disch := first | omega | assumption | exact idP rfl | exact idP (bL rfl) | (simp only [alloc_size, upd_size]; done) | (simp only [alloc_size, upd_size]; omega) | fail) only [go_sem, reduceIte, Nat.reduceEqDiff, e0, e3, hs3]
              refine hR _ _ ⟨(setAt L kc (zeros [AV.int .i64 0] (n - kc))).drop kc, by rw [hkc], ?_⟩
              rw [Heap.upd_upd]
              congr 2
              rw [← hT]
              apply List.ext_getElem?
              intro i
              by_cases hi : i < kc
              · rw [setAt_lo hi, List.getElem?_append_left (by simp; omega), List.getElem?_take, if_pos hi]
              · rw [List.getElem?_append_right (by simp; omega), List.getElem?_drop, List.length_take, Nat.min_eq_left (by omega), show kc + (i - kc) = i by omega]
        · simp (maxSteps := 2000000) (disch := first | omega | assumption | exact idP rfl | exact idP (bL rfl) | (simp only [alloc_size, upd_size]; done) | (simp only [alloc_size, upd_size]; omega) | fail) only [go_sem, reduceIte, Nat.reduceEqDiff, e0, e3]
          refine hK _ _ ⟨rfl, k + 1, by omega, by omega, by simp (maxSteps := 2000000) (disch := first | omega | assumption | exact idP rfl | exact idP (bL rfl) | (simp only [alloc_size, upd_size]; done) | (simp only [alloc_size, upd_size]; omega) | fail) only [go_sem, reduceIte, Nat.reduceEqDiff, e0], by simp (maxSteps := 2000000) (disch := first | omega | assumption | exact idP rfl | exact idP (bL rfl) | (simp only [alloc_size, upd_size]; done) | (simp only [alloc_size, upd_size]; omega) | fail) only [go_sem, reduceIte, Nat.reduceEqDiff]; rfl, fun i q1 q2 q3 => ?_⟩ (by simp (maxSteps := 2000000) (disch := first | omega | assumption | exact idP rfl | exact idP (bL rfl) | (simp only [alloc_size, upd_size]; done) | (simp only [alloc_size, upd_size]; omega) | fail) only [go_sem, reduceIte, Nat.reduceEqDiff, ctr_int, e3']; omega)
          by_cases e : i = k
          · subst e; exact heq
          · exact hne i q1 q2 (by omega)
      · obtain rfl : k = n := by omega
        simp (maxSteps := 2000000) (disch := first | omega | assumption | exact idP rfl | exact idP (bL rfl) | (simp only [alloc_size, upd_size]; done) | (simp only [alloc_size, upd_size]; omega) | fail) only [go_sem, reduceIte, Nat.reduceEqDiff, e0]
        refine same ?_
        have := compF_id (l := zs) (m := zs.length) (Nat.le_refl _) fun i h1 h2 h3 => hne i h1 h2 (by omega)
        rwa [List.take_length] at this
end Go.M2

namespace Go.M2
open Go.Proofs
variable {H : Heap}
theorem s_SortG {v : AV} {xs : List Int} {n : Nat} (hv : Own 1 H v (xs.map (AV.int .i64))) (hl : xs.length ≤ 1048576) (hn : n ≤ 700) (hx : Lits n xs) :
    ACall Try.prog n_slices_SortFunc_Sint_int [v, .fn n_impl_clauseOf_1 []] H (fun r H' => r = .tup [] ∧ ∃ ys : List Int, ys.Pairwise leK ∧ (∀ x, x ∈ ys ↔ x ∈ xs) ∧ ys.length = xs.length ∧ Own 1 H' v (ys.map (AV.int .i64)) ∧ Le (base H v) (base H' v)) := by
  have hv' := hv
  obtain ⟨A, m, ex, k, rfl, h1, h2, h3⟩ := hv'
  have h1 : xs.length = m := by simpa using h1
  cases A with
  | none =>
    obtain ⟨rfl, rfl⟩ := h2 rfl
    have : xs = [] := List.eq_nil_of_length_eq_zero h1
    subst this
    refine s_SortLitsNone.mono ?_
    rintro r H' ⟨rfl, rfl⟩
    exact ⟨rfl, [], List.Pairwise.nil, fun x => Iff.rfl, rfl, hv, Le.refl _⟩
  | some p =>
    obtain ⟨b, o⟩ := p
    obtain ⟨rfl, rfl, h4, h5⟩ := h3 b o rfl
    have hr : ∀ x ∈ xs, -9223372036854775808 < x ∧ x ≤ 9223372036854775807 := fun x hx' => by have := hx x hx'; omega
    have ez : (xs.pmap LitS.mk hr : List LitS).map eaL = xs.map (AV.int .i64) := by
      rw [List.map_pmap]
      exact List.pmap_eq_map (f := AV.int .i64) _
    have ez1 : (xs.pmap LitS.mk hr : List LitS).map (·.1) = xs := by
      rw [List.map_pmap]
      exact (List.pmap_eq_map (f := id) _).trans (List.map_id _)
    refine (s_SortLits (zs := xs.pmap LitS.mk hr) (rest := []) (by rw [ez, List.append_nil]; exact rwCells_of h4 h5) (by simp [h1]) (by simp; omega)).mono ?_
    rintro r H' ⟨rfl, rfl⟩
    have ey : (sortS (xs.pmap LitS.mk hr)).map eaL = ((sortS (xs.pmap LitS.mk hr)).map (·.1)).map (AV.int .i64) := by rw [List.map_map]; rfl
    refine ⟨rfl, (sortS (xs.pmap LitS.mk hr)).map (·.1), sortS_sorted, fun x => by rw [mem_sortS, ez1], by simp [sortS_len], ?_, ?_⟩
    · rw [List.append_nil, ey]
      refine ⟨some (b, 0), m, ex, 1, rfl, by simp [sortS_len, h1], fun h => (nomatch h), fun b' o e => ?_⟩
      cases e
      exact ⟨rfl, rfl, h4, upd_blk_same'⟩
    · show Le (H.kill b) ((H.upd b _).kill b)
      rw [upd_kill]; exact Le.refl _
theorem s_CompactG {v : AV} {ys : List Int} (hv : Own 1 H v (ys.map (AV.int .i64))) (hl : ys.length ≤ 1048576) :
    ACall Try.prog n_slices_Compact_Sint_int [v] H (fun r H' => IsI H' r (compF ys) ∧ Le (base H v) (base H' v)) := by
  have hv' := hv
  obtain ⟨A, m, ex, k, rfl, h1, h2, h3⟩ := hv'
  have h1 : ys.length = m := by simpa using h1
  cases A with
  | none =>
    obtain ⟨rfl, rfl⟩ := h2 rfl
    have : ys = [] := List.eq_nil_of_length_eq_zero h1
    subst this
    refine (s_CompactId hv.isI hl fun i h => by simp at h).mono ?_
    rintro r H' ⟨rfl, rfl⟩
    exact ⟨by simpa [compF] using hv.isI, Le.refl _⟩
  | some p =>
    obtain ⟨b, o⟩ := p
    obtain ⟨rfl, rfl, h4, h5⟩ := h3 b o rfl
    refine (s_Compact (rwCells_of h4 h5) h1 (by omega)).mono ?_
    rintro r H' ⟨rest, rfl, rfl⟩
    refine ⟨⟨some (b, 0), m, ex, 1, rfl, fun i hi => ⟨[.int .i64 (compF ys)[i]], rfl, fun j z hj => ?_, rfl⟩⟩, ?_⟩
    · cases j with
      | zero =>
        simp at hj; subst hj
        have := Rd.blk (H := H.upd b (.cells ((compF ys).map (AV.int .i64) ++ rest) true)) h4 upd_blk_same' i (.int .i64 (compF ys)[i]) (by rw [List.getElem?_append_left (by simpa using hi)]; simp [hi])
        simpa using this
      | succ j => simp at hj
    · show Le (H.kill b) ((H.upd b _).kill b)
      rw [upd_kill]; exact Le.refl _
theorem s_clauseOfG {A : AA} {m c k : Nat} {ex : Bool} {xs : List Int} {n : Nat} (hv : IsI H (.sl A m c ex k) xs) (hA : A = none → xs = []) (hl : xs.length ≤ 1048576) (hn : n ≤ 700) (hx : Lits n xs) :
    ACall Try.prog n_impl_clauseOf [.sl A m c ex k] H (fun r H' => (Opp xs → r = .tup [.sl none 0 0 true 0, .bool false] ∧ Le H H') ∧
      (¬ Opp xs → ∃ u, r = .tup [u, .bool true] ∧ Own 1 H' u ((marked (given n xs)).map (AV.int .i64)) ∧ Le H (base H' u) ∧ newer H.size u)) := by
  refine ACall.of fun R hR => a_impl_clauseOf rfl ?_
  simp (maxSteps := 2000000) (disch := first | omega | assumption | exact idP rfl | exact idP (bL rfl) | (simp only [alloc_size, upd_size]; done) | (simp only [alloc_size, upd_size]; omega) | fail) only [go_sem, reduceIte, Nat.reduceEqDiff]
  refine (s_Clone hv hl hA).mono ?_
  rintro v1 H1 ⟨ho1, hle1, hn1⟩
  simp (maxSteps := 2000000) (disch := first | omega | assumption | exact idP rfl | exact idP (bL rfl) | (simp only [alloc_size, upd_size]; done) | (simp only [alloc_size, upd_size]; omega) | fail) only [go_sem, reduceIte, Nat.reduceEqDiff]
  refine (s_SortG ho1 hl hn hx).mono ?_
  rintro r H2 ⟨rfl, ys, hys, hym, hyl, ho2, hle2⟩
  simp (maxSteps := 2000000) (disch := first | omega | assumption | exact idP rfl | exact idP (bL rfl) | (simp only [alloc_size, upd_size]; done) | (simp only [alloc_size, upd_size]; omega) | fail) only [go_sem, reduceIte, Nat.reduceEqDiff]
  refine (s_CompactG ho2 (by omega)).mono ?_
  rintro r H3 ⟨hv1, hle3⟩
  have hH3 : Le H H3 := (hle1.trans (hle2.trans hle3)).trans (base_le _ _)
  have hcm : ∀ x, x ∈ compF ys ↔ x ∈ xs := fun x => by rw [mem_compF, hym]
  have hck := compF_ltK hys
  have hc0 : ∀ x ∈ compF ys, x ≠ 0 := fun x h => (hx x ((hcm x).1 h)).1
  have hopp : Opp (compF ys) ↔ Opp xs := by simp only [Opp, hcm]
  have hnx := opp_next hc0 hck
  have hcl : (compF ys).length ≤ 1048576 := Nat.le_trans compF_len (by omega)
  obtain ⟨A', c', ex', k', rfl, hr⟩ := hv1.parts
  simp (maxSteps := 2000000) (disch := first | omega | assumption | exact idP rfl | exact idP (bL rfl) | (simp only [alloc_size, upd_size]; done) | (simp only [alloc_size, upd_size]; omega) | fail) only [go_sem, reduceIte, Nat.reduceEqDiff]
  refine wp_loop_k (fun e H' => H3 = H' ∧ ∃ i : Nat, 1 ≤ i ∧ (i ≤ (compF ys).length ∨ i = 1) ∧ e 4 = .sl A' (compF ys).length c' ex' k' ∧ e 5 = .int .i64 (i : Int) ∧ ∀ j (h : j < (compF ys).length), 0 < j → j < i → (compF ys)[j] ≠ -((compF ys)[j - 1]'(by omega))) (fun e _ => ctr (compF ys).length (e 5)) ?_ ?_
  · exact ⟨rfl, 1, by omega, .inr rfl, by simp (maxSteps := 2000000) (disch := first | omega | assumption | exact idP rfl | exact idP (bL rfl) | (simp only [alloc_size, upd_size]; done) | (simp only [alloc_size, upd_size]; omega) | fail) only [go_sem, reduceIte, Nat.reduceEqDiff], by simp (maxSteps := 2000000) (disch := first | omega | assumption | exact idP rfl | exact idP (bL rfl) | (simp only [alloc_size, upd_size]; done) | (simp only [alloc_size, upd_size]; omega) | fail) only [go_sem, reduceIte, Nat.reduceEqDiff]; rfl, fun j h1 h2 h3 => by omega⟩
  · rintro e H4 ⟨rfl, i, hi1, hi, e4, e5, hno⟩ K hK
    simp (maxSteps := 2000000) (disch := first | omega | assumption | exact idP rfl | exact idP (bL rfl) | (simp only [alloc_size, upd_size]; done) | (simp only [alloc_size, upd_size]; omega) | fail) only [go_sem, reduceIte, Nat.reduceEqDiff, e4, e5]
    refine condV_dec (fun h => ?_) (fun h => ?_)
    · have hi' : i < (compF ys).length := by omega
      have hg := hr i hi'
      have hg2 := hr (i - 1) (by omega)
      rw [Nat.mul_one] at hg hg2
      have hsub : ((i : Int) - 1).toNat = i - 1 := by omega
      have hb := hx _ ((hcm _).1 (List.getElem_mem (show i - 1 < (compF ys).length by omega)))
      have e5' := e5
      simp (maxSteps := 2000000) (disch := first | omega | assumption | exact idP rfl | exact idP (bL rfl) | (simp only [alloc_size, upd_size]; done) | (simp only [alloc_size, upd_size]; omega) | fail) only [go_sem, reduceIte, Nat.reduceEqDiff, e4, e5, hg, hsub, hg2]
      refine condV_dec (fun heq => ?_) (fun heq => ?_)
      · simp (maxSteps := 2000000) (disch := first | omega | assumption | exact idP rfl | exact idP (bL rfl) | (simp only [alloc_size, upd_size]; done) | (simp only [alloc_size, upd_size]; omega) | fail) only [go_sem, reduceIte, Nat.reduceEqDiff]
        have hO : Opp xs := hopp.1 (hnx.2 ⟨i, hi', by omega, by omega⟩)
        exact hR _ _ ⟨fun _ => ⟨rfl, hH3⟩, fun h => absurd hO h⟩
      · simp (maxSteps := 2000000) (disch := first | omega | assumption | exact idP rfl | exact idP (bL rfl) | (simp only [alloc_size, upd_size]; done) | (simp only [alloc_size, upd_size]; omega) | fail) only [go_sem, reduceIte, Nat.reduceEqDiff, e4, e5]
        refine hK _ _ ⟨rfl, i + 1, by omega, .inl (by omega), by simp (maxSteps := 2000000) (disch := first | omega | assumption | exact idP rfl | exact idP (bL rfl) | (simp only [alloc_size, upd_size]; done) | (simp only [alloc_size, upd_size]; omega) | fail) only [go_sem, reduceIte, Nat.reduceEqDiff, e4], by simp (maxSteps := 2000000) (disch := first | omega | assumption | exact idP rfl | exact idP (bL rfl) | (simp only [alloc_size, upd_size]; done) | (simp only [alloc_size, upd_size]; omega) | fail) only [go_sem, reduceIte, Nat.reduceEqDiff]; rfl, fun j q1 q2 q3 => ?_⟩ (by simp (maxSteps := 2000000) (disch := first | omega | assumption | exact idP rfl | exact idP (bL rfl) | (simp only [alloc_size, upd_size]; done) | (simp only [alloc_size, upd_size]; omega) | fail) only [go_sem, reduceIte, Nat.reduceEqDiff, ctr_int, e5']; omega)
        by_cases e : j = i
        · subst e; omega
        · exact hno j q1 q2 (by omega)
    · have hnO : ¬ Opp xs := fun hO => by
        obtain ⟨j, q1, q2, q3⟩ := hnx.1 (hopp.2 hO)
        exact hno j q1 q2 (by omega) q3
      simp (maxSteps := 2000000) (disch := first | omega | assumption | exact idP rfl | exact idP (bL rfl) | (simp only [alloc_size, upd_size]; done) | (simp only [alloc_size, upd_size]; omega) | fail) only [go_sem, reduceIte, Nat.reduceEqDiff, e4]
      refine (s_implClone hv1 hcl).mono ?_
      rintro u H5 ⟨ho5, hle5, hn5⟩
      simp (maxSteps := 2000000) (disch := first | omega | assumption | exact idP rfl | exact idP (bL rfl) | (simp only [alloc_size, upd_size]; done) | (simp only [alloc_size, upd_size]; omega) | fail) only [go_sem, reduceIte, Nat.reduceEqDiff]
      rw [comp_marked hx hnO hys hym] at ho5
      exact hR _ _ ⟨fun h => absurd h hnO, fun _ => ⟨u, rfl, ho5, hH3.trans hle5, hn5.mono hH3.1⟩⟩
theorem marked_short {n : Nat} {xs : List Int} : (marked (given n xs)).length ≤ n := by
  unfold marked
  refine Nat.le_trans (List.length_filter_le _ _) ?_
  rw [List.length_drop, given_len]; omega
theorem s_l2Has {v : AV} {xs : List Int} {p : Int} (hv : IsI H v xs) (hl : xs.length ≤ 1048576) : ACall Try.prog n_spec_l2Has [v, .int .i64 p] H (fun r H' => H' = H ∧ ∃ b, r = .bool b ∧ (b = true ↔ p ∈ xs)) := by
  refine ACall.of fun R hR => a_spec_l2Has rfl ?_
  obtain ⟨A, c, ex, k, rfl, hr⟩ := hv.parts
  simp (maxSteps := 2000000) (disch := first | omega | assumption | exact idP rfl | exact idP (bL rfl) | (simp only [alloc_size, upd_size]; done) | (simp only [alloc_size, upd_size]; omega) | fail) only [go_sem, reduceIte, Nat.reduceEqDiff]
  refine wp_loop_k (fun e H' => H = H' ∧ ∃ i : Nat, i ≤ xs.length ∧ e 0 = .sl A xs.length c ex k ∧ e 1 = .int .i64 p ∧ e 5 = .int .i64 (i : Int) ∧ ∀ j (h : j < xs.length), j < i → xs[j] ≠ p) (fun e _ => ctr xs.length (e 5)) ?_ ?_
  · exact ⟨rfl, 0, Nat.zero_le _, by simp (maxSteps := 2000000) (disch := first | omega | assumption | exact idP rfl | exact idP (bL rfl) | (simp only [alloc_size, upd_size]; done) | (simp only [alloc_size, upd_size]; omega) | fail) only [go_sem, reduceIte, Nat.reduceEqDiff], by simp (maxSteps := 2000000) (disch := first | omega | assumption | exact idP rfl | exact idP (bL rfl) | (simp only [alloc_size, upd_size]; done) | (simp only [alloc_size, upd_size]; omega) | fail) only [go_sem, reduceIte, Nat.reduceEqDiff], by simp (maxSteps := 2000000) (disch := first | omega | assumption | exact idP rfl | exact idP (bL rfl) | (simp only [alloc_size, upd_size]; done) | (simp only [alloc_size, upd_size]; omega) | fail) only [go_sem, reduceIte, Nat.reduceEqDiff]; rfl, fun j _ h => by omega⟩
  · rintro e H1 ⟨rfl, i, hi, e0, e1, e5, hj⟩ K hK
    simp (maxSteps := 2000000) (disch := first | omega | assumption | exact idP rfl | exact idP (bL rfl) | (simp only [alloc_size, upd_size]; done) | (simp only [alloc_size, upd_size]; omega) | fail) only [go_sem, reduceIte, Nat.reduceEqDiff, e0, e1, e5]
    refine condV_dec (fun h => ?_) (fun h => ?_)
    · have hi' : i < xs.length := by omega
      have hg := hr i hi'
      rw [Nat.mul_one] at hg
      have e5' := e5
      simp (maxSteps := 2000000) (disch := first | omega | assumption | exact idP rfl | exact idP (bL rfl) | (simp only [alloc_size, upd_size]; done) | (simp only [alloc_size, upd_size]; omega) | fail) only [go_sem, reduceIte, Nat.reduceEqDiff, e0, e1, e5, hg]
      refine condV_dec (fun h0 => ?_) (fun h0 => ?_)
      · simp (maxSteps := 2000000) (disch := first | omega | assumption | exact idP rfl | exact idP (bL rfl) | (simp only [alloc_size, upd_size]; done) | (simp only [alloc_size, upd_size]; omega) | fail) only [go_sem, reduceIte, Nat.reduceEqDiff]
        exact hR _ _ ⟨rfl, true, rfl, by simp; exact h0 ▸ List.getElem_mem hi'⟩
      · simp (maxSteps := 2000000) (disch := first | omega | assumption | exact idP rfl | exact idP (bL rfl) | (simp only [alloc_size, upd_size]; done) | (simp only [alloc_size, upd_size]; omega) | fail) only [go_sem, reduceIte, Nat.reduceEqDiff, e5]
        refine hK _ _ ⟨rfl, i + 1, by omega, by simp (maxSteps := 2000000) (disch := first | omega | assumption | exact idP rfl | exact idP (bL rfl) | (simp only [alloc_size, upd_size]; done) | (simp only [alloc_size, upd_size]; omega) | fail) only [go_sem, reduceIte, Nat.reduceEqDiff, e0], by simp (maxSteps := 2000000) (disch := first | omega | assumption | exact idP rfl | exact idP (bL rfl) | (simp only [alloc_size, upd_size]; done) | (simp only [alloc_size, upd_size]; omega) | fail) only [go_sem, reduceIte, Nat.reduceEqDiff, e1], by simp (maxSteps := 2000000) (disch := first | omega | assumption | exact idP rfl | exact idP (bL rfl) | (simp only [alloc_size, upd_size]; done) | (simp only [alloc_size, upd_size]; omega) | fail) only [go_sem, reduceIte, Nat.reduceEqDiff]; rfl, fun j q1 q2 => ?_⟩ (by simp (maxSteps := 2000000) (disch := first | omega | assumption | exact idP rfl | exact idP (bL rfl) | (simp only [alloc_size, upd_size]; done) | (simp only [alloc_size, upd_size]; omega) | fail) only [go_sem, reduceIte, Nat.reduceEqDiff, ctr_int, e5']; omega)
        by_cases e : j = i
        · subst e; exact h0
        · exact hj j q1 (by omega)
    · simp (maxSteps := 2000000) (disch := first | omega | assumption | exact idP rfl | exact idP (bL rfl) | (simp only [alloc_size, upd_size]; done) | (simp only [alloc_size, upd_size]; omega) | fail) only [go_sem, reduceIte, Nat.reduceEqDiff]
      refine hR _ _ ⟨rfl, false, rfl, ?_⟩
      simp only [Bool.false_eq_true, false_iff]
      intro hm
      obtain ⟨j, q1, q2⟩ := List.getElem_of_mem hm
      exact hj j q1 (by omega) q2
theorem s_Index {v : AV} {xs : List Int} {p : Int} (hv : IsI H v xs) (hl : xs.length ≤ 1048576) : ACall Try.prog n_slices_Index_Sint_int [v, .int .i64 p] H (fun r H' => H' = H ∧ ∃ j : Int, r = .int .i64 j ∧ (0 ≤ j ↔ p ∈ xs)) := by
  refine ACall.of fun R hR => a_slices_Index_Sint_int rfl ?_
  obtain ⟨A, c, ex, k, rfl, hr⟩ := hv.parts
  simp (maxSteps := 2000000) (disch := first | omega | assumption | exact idP rfl | exact idP (bL rfl) | (simp only [alloc_size, upd_size]; done) | (simp only [alloc_size, upd_size]; omega) | fail) only [go_sem, reduceIte, Nat.reduceEqDiff]
  refine wp_loop_k (fun e H' => H = H' ∧ ∃ i : Nat, i ≤ xs.length ∧ e 0 = .sl A xs.length c ex k ∧ e 1 = .int .i64 p ∧ e 7 = .int .i64 (xs.length : Int) ∧ e 8 = .int .i64 (i : Int) ∧ ∀ j (h : j < xs.length), j < i → xs[j] ≠ p) (fun e _ => ctr xs.length (e 8)) ?_ ?_
  · exact ⟨rfl, 0, Nat.zero_le _, by simp (maxSteps := 2000000) (disch := first | omega | assumption | exact idP rfl | exact idP (bL rfl) | (simp only [alloc_size, upd_size]; done) | (simp only [alloc_size, upd_size]; omega) | fail) only [go_sem, reduceIte, Nat.reduceEqDiff], by simp (maxSteps := 2000000) (disch := first | omega | assumption | exact idP rfl | exact idP (bL rfl) | (simp only [alloc_size, upd_size]; done) | (simp only [alloc_size, upd_size]; omega) | fail) only [go_sem, reduceIte, Nat.reduceEqDiff], by simp (maxSteps := 2000000) (disch := first | omega | assumption | exact idP rfl | exact idP (bL rfl) | (simp only [alloc_size, upd_size]; done) | (simp only [alloc_size, upd_size]; omega) | fail) only [go_sem, reduceIte, Nat.reduceEqDiff], by simp (maxSteps := 2000000) (disch := first | omega | assumption | exact idP rfl | exact idP (bL rfl) | (simp only [alloc_size, upd_size]; done) | (simp only [alloc_size, upd_size]; omega) | fail) only [go_sem, reduceIte, Nat.reduceEqDiff]; rfl, fun j _ h => by omega⟩
  · rintro e H1 ⟨rfl, i, hi, e0, e1, e7, e8, hj⟩ K hK
    simp (maxSteps := 2000000) (disch := first | omega | assumption | exact idP rfl | exact idP (bL rfl) | (simp only [alloc_size, upd_size]; done) | (simp only [alloc_size, upd_size]; omega) | fail) only [go_sem, reduceIte, Nat.reduceEqDiff, e7, e8]
    refine condV_dec (fun h => ?_) (fun h => ?_)
    · have hi' : i < xs.length := by omega
      have hg := hr i hi'
      rw [Nat.mul_one] at hg
      have e8' := e8
      simp (maxSteps := 2000000) (disch := first | omega | assumption | exact idP rfl | exact idP (bL rfl) | (simp only [alloc_size, upd_size]; done) | (simp only [alloc_size, upd_size]; omega) | fail) only [go_sem, reduceIte, Nat.reduceEqDiff, e0, e1, e8, hg]
      refine condV_dec (fun h0 => ?_) (fun h0 => ?_)
      · simp (maxSteps := 2000000) (disch := first | omega | assumption | exact idP rfl | exact idP (bL rfl) | (simp only [alloc_size, upd_size]; done) | (simp only [alloc_size, upd_size]; omega) | fail) only [go_sem, reduceIte, Nat.reduceEqDiff]
        refine hR _ _ ⟨rfl, (i : Int), rfl, ⟨fun _ => h0 ▸ List.getElem_mem hi', fun _ => by omega⟩⟩
      · simp (maxSteps := 2000000) (disch := first | omega | assumption | exact idP rfl | exact idP (bL rfl) | (simp only [alloc_size, upd_size]; done) | (simp only [alloc_size, upd_size]; omega) | fail) only [go_sem, reduceIte, Nat.reduceEqDiff, e8]
        refine hK _ _ ⟨rfl, i + 1, by omega, by simp (maxSteps := 2000000) (disch := first | omega | assumption | exact idP rfl | exact idP (bL rfl) | (simp only [alloc_size, upd_size]; done) | (simp only [alloc_size, upd_size]; omega) | fail) only [go_sem, reduceIte, Nat.reduceEqDiff, e0], by simp (maxSteps := 2000000) (disch := first | omega | assumption | exact idP rfl | exact idP (bL rfl) | (simp only [alloc_size, upd_size]; done) | (simp only [alloc_size, upd_size]; omega) | fail) only [go_sem, reduceIte, Nat.reduceEqDiff, e1], by simp (maxSteps := 2000000) (disch := first | omega | assumption | exact idP rfl | exact idP (bL rfl) | (simp only [alloc_size, upd_size]; done) | (simp only [alloc_size, upd_size]; omega) | fail) only [go_sem, reduceIte, Nat.reduceEqDiff, e7], by simp (maxSteps := 2000000) (disch := first | omega | assumption | exact idP rfl | exact idP (bL rfl) | (simp only [alloc_size, upd_size]; done) | (simp only [alloc_size, upd_size]; omega) | fail) only [go_sem, reduceIte, Nat.reduceEqDiff]; rfl, fun j q1 q2 => ?_⟩ (by simp (maxSteps := 2000000) (disch := first | omega | assumption | exact idP rfl | exact idP (bL rfl) | (simp only [alloc_size, upd_size]; done) | (simp only [alloc_size, upd_size]; omega) | fail) only [go_sem, reduceIte, Nat.reduceEqDiff, ctr_int, e8']; omega)
        by_cases e : j = i
        · subst e; exact fun h => h0 h.symm
        · exact hj j q1 (by omega)
    · simp (maxSteps := 2000000) (disch := first | omega | assumption | exact idP rfl | exact idP (bL rfl) | (simp only [alloc_size, upd_size]; done) | (simp only [alloc_size, upd_size]; omega) | fail) only [go_sem, reduceIte, Nat.reduceEqDiff]
      refine hR _ _ ⟨rfl, -1, rfl, ⟨fun h => by omega, fun hm => ?_⟩⟩
      obtain ⟨j, q1, q2⟩ := List.getElem_of_mem hm
      exact absurd q2 (hj j q1 (by omega))
theorem s_Contains {v : AV} {xs : List Int} {p : Int} (hv : IsI H v xs) (hl : xs.length ≤ 1048576) : ACall Try.prog n_slices_Contains_Sint_int [v, .int .i64 p] H (fun r H' => H' = H ∧ ∃ b, r = .bool b ∧ (b = true ↔ p ∈ xs)) := by
  refine ACall.of fun R hR => a_slices_Contains_Sint_int rfl ?_
  simp (maxSteps := 2000000) (disch := first | omega | assumption | exact idP rfl | exact idP (bL rfl) | (simp only [alloc_size, upd_size]; done) | (simp only [alloc_size, upd_size]; omega) | fail) only [go_sem, reduceIte, Nat.reduceEqDiff]
  refine (s_Index hv hl).mono ?_
  rintro r H1 ⟨rfl, j, rfl, hj⟩
  simp (maxSteps := 2000000) (disch := first | omega | assumption | exact idP rfl | exact idP (bL rfl) | (simp only [alloc_size, upd_size]; done) | (simp only [alloc_size, upd_size]; omega) | fail) only [go_sem, reduceIte, Nat.reduceEqDiff]
  exact hR _ _ ⟨rfl, _, rfl, by simpa using hj⟩
end Go.M2

namespace Go.M2
open Go.Proofs
variable {H : Heap}
theorem filter_take {xs : List Int} {p : Int} {i : Nat} (h : i < xs.length) : (xs.take (i + 1)).filter (· ≠ p) = (xs.take i).filter (· ≠ p) ++ (if xs[i] = p then [] else [xs[i]]) := by
  rw [List.take_succ_eq_append_getElem h, List.filter_append]
  congr 1
  by_cases e : xs[i] = p <;> simp [e]
theorem filter_short {xs : List Int} {q : Int → Bool} : (xs.filter q).length ≤ xs.length := List.length_filter_le _ _
theorem s_l11Without {v : AV} {xs : List Int} {p : Int} (hv : IsI H v xs) (hl : xs.length ≤ 1048576) :
    ACall Try.prog n_spec_l11Without [v, .int .i64 p] H (fun r H' => Own 1 H' r ((xs.filter (· ≠ p)).map (AV.int .i64)) ∧ Le H (base H' r) ∧ newer H.size r) := by
  refine ACall.of fun R hR => a_spec_l11Without rfl ?_
  obtain ⟨A, c, ex, k, rfl, hr⟩ := hv.parts
  simp (maxSteps := 2000000) (disch := first | omega | assumption | exact idP rfl | exact idP (bL rfl) | (simp only [alloc_size, upd_size]; done) | (simp only [alloc_size, upd_size]; omega) | fail) only [go_sem, reduceIte, Nat.reduceEqDiff]
  refine wp_loop_k (fun e H' => ∃ i : Nat, i ≤ xs.length ∧ e 0 = .sl A xs.length c ex k ∧ e 1 = .int .i64 p ∧ e 6 = .int .i64 (i : Int) ∧ Own 1 H' (e 5) (((xs.take i).filter (· ≠ p)).map (AV.int .i64)) ∧ Le H (base H' (e 5)) ∧ newer H.size (e 5)) (fun e _ => ctr xs.length (e 6)) ?_ ?_
  · exact ⟨0, Nat.zero_le _, by simp (maxSteps := 2000000) (disch := first | omega | assumption | exact idP rfl | exact idP (bL rfl) | (simp only [alloc_size, upd_size]; done) | (simp only [alloc_size, upd_size]; omega) | fail) only [go_sem, reduceIte, Nat.reduceEqDiff], by simp (maxSteps := 2000000) (disch := first | omega | assumption | exact idP rfl | exact idP (bL rfl) | (simp only [alloc_size, upd_size]; done) | (simp only [alloc_size, upd_size]; omega) | fail) only [go_sem, reduceIte, Nat.reduceEqDiff], by simp (maxSteps := 2000000) (disch := first | omega | assumption | exact idP rfl | exact idP (bL rfl) | (simp only [alloc_size, upd_size]; done) | (simp only [alloc_size, upd_size]; omega) | fail) only [go_sem, reduceIte, Nat.reduceEqDiff]; rfl, by simp (maxSteps := 2000000) (disch := first | omega | assumption | exact idP rfl | exact idP (bL rfl) | (simp only [alloc_size, upd_size]; done) | (simp only [alloc_size, upd_size]; omega) | fail) only [go_sem, reduceIte, Nat.reduceEqDiff]; exact Own.new rfl, by simp (maxSteps := 2000000) (disch := first | omega | assumption | exact idP rfl | exact idP (bL rfl) | (simp only [alloc_size, upd_size]; done) | (simp only [alloc_size, upd_size]; omega) | fail) only [go_sem, reduceIte, Nat.reduceEqDiff]; exact (Le.alloc _ _).killFresh (Nat.le_refl _), by simp (maxSteps := 2000000) (disch := first | omega | assumption | exact idP rfl | exact idP (bL rfl) | (simp only [alloc_size, upd_size]; done) | (simp only [alloc_size, upd_size]; omega) | fail) only [go_sem, reduceIte, Nat.reduceEqDiff]; exact Nat.le_refl _⟩
  · rintro e H1 ⟨i, hi, e0, e1, e6, ho, hle, hnew⟩ K hK
    simp (maxSteps := 2000000) (disch := first | omega | assumption | exact idP rfl | exact idP (bL rfl) | (simp only [alloc_size, upd_size]; done) | (simp only [alloc_size, upd_size]; omega) | fail) only [go_sem, reduceIte, Nat.reduceEqDiff, e0, e6]
    refine condV_dec (fun h => ?_) (fun h => ?_)
    · have hi' : i < xs.length := by omega
      have hg := (hle.trans (base_le _ _)).get (hr i hi')
      rw [Nat.mul_one] at hg
      have e6' := e6
      have hft := filter_take (p := p) hi'
      have hfl := filter_short (xs := xs.take i) (q := (· ≠ p))
      simp only [List.length_take] at hfl
      simp (maxSteps := 2000000) (disch := first | omega | assumption | exact idP rfl | exact idP (bL rfl) | (simp only [alloc_size, upd_size]; done) | (simp only [alloc_size, upd_size]; omega) | fail) only [go_sem, reduceIte, Nat.reduceEqDiff, e0, e1, e6, hg]
      refine condV_dec (fun h0 => ?_) (fun h0 => ?_)
      · rw [if_neg h0] at hft
        simp (maxSteps := 2000000) (disch := first | omega | assumption | exact idP rfl | exact idP (bL rfl) | (simp only [alloc_size, upd_size]; done) | (simp only [alloc_size, upd_size]; omega) | fail) only [go_sem, reduceIte, Nat.reduceEqDiff, e0, e1, e6, hg]
        refine app1 ho hle hnew rfl (by simp only [List.length_map]; omega) (by omega) ?_
        intro s H2 hs hle2 hn2 _
        simp (maxSteps := 2000000) (disch := first | omega | assumption | exact idP rfl | exact idP (bL rfl) | (simp only [alloc_size, upd_size]; done) | (simp only [alloc_size, upd_size]; omega) | fail) only [go_sem, reduceIte, Nat.reduceEqDiff, e6]
        refine hK _ _ ⟨i + 1, by omega, by simp (maxSteps := 2000000) (disch := first | omega | assumption | exact idP rfl | exact idP (bL rfl) | (simp only [alloc_size, upd_size]; done) | (simp only [alloc_size, upd_size]; omega) | fail) only [go_sem, reduceIte, Nat.reduceEqDiff, e0], by simp (maxSteps := 2000000) (disch := first | omega | assumption | exact idP rfl | exact idP (bL rfl) | (simp only [alloc_size, upd_size]; done) | (simp only [alloc_size, upd_size]; omega) | fail) only [go_sem, reduceIte, Nat.reduceEqDiff, e1], by simp (maxSteps := 2000000) (disch := first | omega | assumption | exact idP rfl | exact idP (bL rfl) | (simp only [alloc_size, upd_size]; done) | (simp only [alloc_size, upd_size]; omega) | fail) only [go_sem, reduceIte, Nat.reduceEqDiff]; rfl, ?_, by simp (maxSteps := 2000000) (disch := first | omega | assumption | exact idP rfl | exact idP (bL rfl) | (simp only [alloc_size, upd_size]; done) | (simp only [alloc_size, upd_size]; omega) | fail) only [go_sem, reduceIte, Nat.reduceEqDiff]; exact hle2, by simp (maxSteps := 2000000) (disch := first | omega | assumption | exact idP rfl | exact idP (bL rfl) | (simp only [alloc_size, upd_size]; done) | (simp only [alloc_size, upd_size]; omega) | fail) only [go_sem, reduceIte, Nat.reduceEqDiff]; exact hn2⟩ (by simp (maxSteps := 2000000) (disch := first | omega | assumption | exact idP rfl | exact idP (bL rfl) | (simp only [alloc_size, upd_size]; done) | (simp only [alloc_size, upd_size]; omega) | fail) only [go_sem, reduceIte, Nat.reduceEqDiff, ctr_int, e6']; omega)
        simp (maxSteps := 2000000) (disch := first | omega | assumption | exact idP rfl | exact idP (bL rfl) | (simp only [alloc_size, upd_size]; done) | (simp only [alloc_size, upd_size]; omega) | fail) only [go_sem, reduceIte, Nat.reduceEqDiff]
        rw [hft, List.map_append]; exact hs
      · rw [if_pos (Decidable.not_not.1 h0), List.append_nil] at hft
        simp (maxSteps := 2000000) (disch := first | omega | assumption | exact idP rfl | exact idP (bL rfl) | (simp only [alloc_size, upd_size]; done) | (simp only [alloc_size, upd_size]; omega) | fail) only [go_sem, reduceIte, Nat.reduceEqDiff, e6]
        refine hK _ _ ⟨i + 1, by omega, by simp (maxSteps := 2000000) (disch := first | omega | assumption | exact idP rfl | exact idP (bL rfl) | (simp only [alloc_size, upd_size]; done) | (simp only [alloc_size, upd_size]; omega) | fail) only [go_sem, reduceIte, Nat.reduceEqDiff, e0], by simp (maxSteps := 2000000) (disch := first | omega | assumption | exact idP rfl | exact idP (bL rfl) | (simp only [alloc_size, upd_size]; done) | (simp only [alloc_size, upd_size]; omega) | fail) only [go_sem, reduceIte, Nat.reduceEqDiff, e1], by simp (maxSteps := 2000000) (disch := first | omega | assumption | exact idP rfl | exact idP (bL rfl) | (simp only [alloc_size, upd_size]; done) | (simp only [alloc_size, upd_size]; omega) | fail) only [go_sem, reduceIte, Nat.reduceEqDiff]; rfl, ?_, by simp (maxSteps := 2000000) (disch := first | omega | assumption | exact idP rfl | exact idP (bL rfl) | (simp only [alloc_size, upd_size]; done) | (simp only [alloc_size, upd_size]; omega) | fail) only [go_sem, reduceIte, Nat.reduceEqDiff]; exact hle, by simp (maxSteps := 2000000) (disch := first | omega | assumption | exact idP rfl | exact idP (bL rfl) | (simp only [alloc_size, upd_size]; done) | (simp only [alloc_size, upd_size]; omega) | fail) only [go_sem, reduceIte, Nat.reduceEqDiff]; exact hnew⟩ (by simp (maxSteps := 2000000) (disch := first | omega | assumption | exact idP rfl | exact idP (bL rfl) | (simp only [alloc_size, upd_size]; done) | (simp only [alloc_size, upd_size]; omega) | fail) only [go_sem, reduceIte, Nat.reduceEqDiff, ctr_int, e6']; omega)
        simp (maxSteps := 2000000) (disch := first | omega | assumption | exact idP rfl | exact idP (bL rfl) | (simp only [alloc_size, upd_size]; done) | (simp only [alloc_size, upd_size]; omega) | fail) only [go_sem, reduceIte, Nat.reduceEqDiff]
        rw [hft]; exact ho
    · simp (maxSteps := 2000000) (disch := first | omega | assumption | exact idP rfl | exact idP (bL rfl) | (simp only [alloc_size, upd_size]; done) | (simp only [alloc_size, upd_size]; omega) | fail) only [go_sem, reduceIte, Nat.reduceEqDiff]
      obtain rfl : i = xs.length := by omega
      rw [List.take_length] at ho
      exact hR _ _ ⟨ho, hle, hnew⟩
theorem s_l11Join {u v : AV} {xs ys : List Int} (hu : IsI H u xs) (hv : IsI H v ys) (hl : xs.length ≤ 1048576) (hl2 : ys.length ≤ 1048576) :
    ACall Try.prog n_spec_l11Join [u, v] H (fun r H' => Own 1 H' r ((xs ++ ys).map (AV.int .i64)) ∧ Le H (base H' r) ∧ newer H.size r) := by
  refine ACall.of fun R hR => a_spec_l11Join rfl ?_
  obtain ⟨A, c, ex, k, rfl, hr⟩ := hv.parts
  simp (maxSteps := 2000000) (disch := first | omega | assumption | exact idP rfl | exact idP (bL rfl) | (simp only [alloc_size, upd_size]; done) | (simp only [alloc_size, upd_size]; omega) | fail) only [go_sem, reduceIte, Nat.reduceEqDiff]
  refine (s_l3Copy hu hl).mono ?_
  rintro s0 H0 ⟨ho0, hle0, hn0⟩
  simp (maxSteps := 2000000) (disch := first | omega | assumption | exact idP rfl | exact idP (bL rfl) | (simp only [alloc_size, upd_size]; done) | (simp only [alloc_size, upd_size]; omega) | fail) only [go_sem, reduceIte, Nat.reduceEqDiff]
  refine wp_loop_k (fun e H' => ∃ i : Nat, i ≤ ys.length ∧ e 1 = .sl A ys.length c ex k ∧ e 6 = .int .i64 (i : Int) ∧ Own 1 H' (e 5) ((xs ++ ys.take i).map (AV.int .i64)) ∧ Le H (base H' (e 5)) ∧ newer H.size (e 5)) (fun e _ => ctr ys.length (e 6)) ?_ ?_
  · exact ⟨0, Nat.zero_le _, by simp (maxSteps := 2000000) (disch := first | omega | assumption | exact idP rfl | exact idP (bL rfl) | (simp only [alloc_size, upd_size]; done) | (simp only [alloc_size, upd_size]; omega) | fail) only [go_sem, reduceIte, Nat.reduceEqDiff], by simp (maxSteps := 2000000) (disch := first | omega | assumption | exact idP rfl | exact idP (bL rfl) | (simp only [alloc_size, upd_size]; done) | (simp only [alloc_size, upd_size]; omega) | fail) only [go_sem, reduceIte, Nat.reduceEqDiff]; rfl, by simp (maxSteps := 2000000) (disch := first | omega | assumption | exact idP rfl | exact idP (bL rfl) | (simp only [alloc_size, upd_size]; done) | (simp only [alloc_size, upd_size]; omega) | fail) only [go_sem, reduceIte, Nat.reduceEqDiff]; simpa using ho0, by simp (maxSteps := 2000000) (disch := first | omega | assumption | exact idP rfl | exact idP (bL rfl) | (simp only [alloc_size, upd_size]; done) | (simp only [alloc_size, upd_size]; omega) | fail) only [go_sem, reduceIte, Nat.reduceEqDiff]; exact hle0, by simp (maxSteps := 2000000) (disch := first | omega | assumption | exact idP rfl | exact idP (bL rfl) | (simp only [alloc_size, upd_size]; done) | (simp only [alloc_size, upd_size]; omega) | fail) only [go_sem, reduceIte, Nat.reduceEqDiff]; exact hn0⟩
  · rintro e H1 ⟨i, hi, e1, e6, ho, hle, hnew⟩ K hK
    simp (maxSteps := 2000000) (disch := first | omega | assumption | exact idP rfl | exact idP (bL rfl) | (simp only [alloc_size, upd_size]; done) | (simp only [alloc_size, upd_size]; omega) | fail) only [go_sem, reduceIte, Nat.reduceEqDiff, e1, e6]
    refine condV_dec (fun h => ?_) (fun h => ?_)
    · have hi' : i < ys.length := by omega
      have hg := (hle.trans (base_le _ _)).get (hr i hi')
      rw [Nat.mul_one] at hg
      have e6' := e6
      simp (maxSteps := 2000000) (disch := first | omega | assumption | exact idP rfl | exact idP (bL rfl) | (simp only [alloc_size, upd_size]; done) | (simp only [alloc_size, upd_size]; omega) | fail) only [go_sem, reduceIte, Nat.reduceEqDiff, e1, e6, hg]
      refine app1 ho hle hnew rfl (by simp; omega) (by omega) ?_
      intro s H2 hs hle2 hn2 _
      simp (maxSteps := 2000000) (disch := first | omega | assumption | exact idP rfl | exact idP (bL rfl) | (simp only [alloc_size, upd_size]; done) | (simp only [alloc_size, upd_size]; omega) | fail) only [go_sem, reduceIte, Nat.reduceEqDiff, e6]
      refine hK _ _ ⟨i + 1, by omega, by simp (maxSteps := 2000000) (disch := first | omega | assumption | exact idP rfl | exact idP (bL rfl) | (simp only [alloc_size, upd_size]; done) | (simp only [alloc_size, upd_size]; omega) | fail) only [go_sem, reduceIte, Nat.reduceEqDiff, e1], by simp (maxSteps := 2000000) (disch := first | omega | assumption | exact idP rfl | exact idP (bL rfl) | (simp only [alloc_size, upd_size]; done) | (simp only [alloc_size, upd_size]; omega) | fail) only [go_sem, reduceIte, Nat.reduceEqDiff]; rfl, ?_, by simp (maxSteps := 2000000) (disch := first | omega | assumption | exact idP rfl | exact idP (bL rfl) | (simp only [alloc_size, upd_size]; done) | (simp only [alloc_size, upd_size]; omega) | fail) only [go_sem, reduceIte, Nat.reduceEqDiff]; exact hle2, by simp (maxSteps := 2000000) (disch := first | omega | assumption | exact idP rfl | exact idP (bL rfl) | (simp only [alloc_size, upd_size]; done) | (simp only [alloc_size, upd_size]; omega) | fail) only [go_sem, reduceIte, Nat.reduceEqDiff]; exact hn2⟩ (by simp (maxSteps := 2000000) (disch := first | omega | assumption | exact idP rfl | exact idP (bL rfl) | (simp only [alloc_size, upd_size]; done) | (simp only [alloc_size, upd_size]; omega) | fail) only [go_sem, reduceIte, Nat.reduceEqDiff, ctr_int, e6']; omega)
      simp (maxSteps := 2000000) (disch := first | omega | assumption | exact idP rfl | exact idP (bL rfl) | (simp only [alloc_size, upd_size]; done) | (simp only [alloc_size, upd_size]; omega) | fail) only [go_sem, reduceIte, Nat.reduceEqDiff]
      rw [List.take_succ_eq_append_getElem hi', ← List.append_assoc, List.map_append]; exact hs
    · simp (maxSteps := 2000000) (disch := first | omega | assumption | exact idP rfl | exact idP (bL rfl) | (simp only [alloc_size, upd_size]; done) | (simp only [alloc_size, upd_size]; omega) | fail) only [go_sem, reduceIte, Nat.reduceEqDiff]
      obtain rfl : i = ys.length := by omega
      rw [List.take_length] at ho
      exact hR _ _ ⟨ho, hle, hnew⟩
structure ResOk (xs ys : List Int) (p : Int) : Prop where
  a : ClOk 700 xs
  b : ClOk 700 ys
  c : 1 ≤ p
  d : p ∈ xs
  e : -p ∈ ys
def resL (xs ys : List Int) (p : Int) : List Int := xs.filter (· ≠ p) ++ ys.filter (· ≠ -p)
def ResRes (xs ys : List Int) (p : Int) (zs : List Int) (ok : Bool) : Prop :=
  (¬ ResOk xs ys p ∧ zs = [] ∧ ok = false) ∨ (ResOk xs ys p ∧ ((Opp (resL xs ys p) ∧ zs = [] ∧ ok = false) ∨ (¬ Opp (resL xs ys p) ∧ zs = marked (given 700 (resL xs ys p)) ∧ ok = true)))
theorem ResRes.det {xs ys zs zs' : List Int} {p : Int} {ok ok' : Bool} (h : ResRes xs ys p zs ok) (h' : ResRes xs ys p zs' ok') : zs = zs' ∧ ok = ok' := by
  rcases h with ⟨h1, rfl, rfl⟩ | ⟨h1, ⟨h2, rfl, rfl⟩ | ⟨h2, rfl, rfl⟩⟩ <;> rcases h' with ⟨k1, rfl, rfl⟩ | ⟨k1, ⟨k2, rfl, rfl⟩ | ⟨k2, rfl, rfl⟩⟩ <;> first | exact ⟨rfl, rfl⟩ | exact absurd k1 h1 | exact absurd h1 k1 | exact absurd k2 h2 | exact absurd h2 k2
theorem ResRes.short {xs ys zs : List Int} {p : Int} {ok : Bool} (h : ResRes xs ys p zs ok) : zs.length ≤ 700 := by
  rcases h with ⟨h1, rfl, rfl⟩ | ⟨h1, ⟨h2, rfl, rfl⟩ | ⟨h2, rfl, rfl⟩⟩
  · simp
  · simp
  · exact marked_short
theorem clOk_lits7 {xs : List Int} (h : ClOk 700 xs) : Lits 700 xs := clOk_lits (n := 700) h
theorem ResOk.lits {xs ys : List Int} {p : Int} (h : ResOk xs ys p) : Lits 700 (resL xs ys p) := by
  intro x hx
  rcases List.mem_append.1 hx with hx | hx
  · exact clOk_lits7 h.a x (List.mem_filter.1 hx).1
  · exact clOk_lits7 h.b x (List.mem_filter.1 hx).1
theorem clOk_asc {n : Int} {xs : List Int} (h : ClOk n xs) : Asc xs := by
  have key : ∀ (d i : Nat) (hj : i + d + 1 < xs.length), xs[i].natAbs < xs[i + d + 1].natAbs := by
    intro d
    induction d with
    | zero => intro i hj; have := (h (i + 0 + 1) hj).2 (by omega); simpa using this
    | succ d ih =>
      intro i hj
      have h1 := ih i (by omega)
      have h2 := (h (i + (d + 1) + 1) hj).2 (by omega)
      have e : i + (d + 1) + 1 - 1 = i + d + 1 := by omega
      simp only [e] at h2
      omega
  refine List.pairwise_iff_getElem.2 fun i j hi hj hij => ?_
  have := key (j - i - 1) i (by omega)
  have e : i + (j - i - 1) + 1 = j := by omega
  simp only [e] at this
  exact this
theorem clOk_len {xs : List Int} (h : ClOk 700 xs) : xs.length ≤ 700 := asc_len (clOk_asc h) (fun x hx => (clOk_lits7 h x hx).1) fun x hx => (clOk_lits7 h x hx).2
theorem ResOk.len {xs ys : List Int} {p : Int} (h : ResOk xs ys p) : (resL xs ys p).length ≤ 1400 := by
  have h1 := clOk_len h.a
  have h2 := clOk_len h.b
  have f1 := filter_short (xs := xs) (q := (· ≠ p))
  have f2 := filter_short (xs := ys) (q := (· ≠ -p))
  unfold resL
  rw [List.length_append]; omega
theorem nilI (H' : Heap) : IsI H' (.sl none 0 0 true 0) [] := ⟨none, 0, true, 0, rfl, fun i h => by simp at h⟩
theorem s_specResolved {u v : AV} {xs ys : List Int} {p : Int} (hu : IsI H u xs) (hv : IsI H v ys) (hl : xs.length ≤ 1048576) (hl2 : ys.length ≤ 1048576) :
    ACall Try.prog n_spec_Resolved [u, v, .int .i64 p] H (fun r H' => Le H H' ∧ ∃ w zs ok, r = .tup [w, .bool ok] ∧ IsI H' w zs ∧ ResRes xs ys p zs ok) := by
  refine ACall.of fun R hR => a_spec_Resolved rfl ?_
  have bad : ¬ ResOk xs ys p → R (.tup [.sl none 0 0 true 0, .bool false]) H := fun h => hR _ _ ⟨Le.refl _, _, [], false, rfl, nilI _, .inl ⟨h, rfl, rfl⟩⟩
  simp (maxSteps := 2000000) (disch := first | omega | assumption | exact idP rfl | exact idP (bL rfl) | (simp only [alloc_size, upd_size]; done) | (simp only [alloc_size, upd_size]; omega) | fail) only [go_sem, reduceIte, Nat.reduceEqDiff]
  refine (s_specClauseValid hu hl (by omega) (by omega)).mono ?_
  rintro r H1 ⟨rfl, b1, rfl, hb1⟩
  cases b1 with
  | false =>
    simp (maxSteps := 2000000) (disch := first | omega | assumption | exact idP rfl | exact idP (bL rfl) | (simp only [alloc_size, upd_size]; done) | (simp only [alloc_size, upd_size]; omega) | fail) only [go_sem, reduceIte, Nat.reduceEqDiff]
    exact bad fun h => by have := hb1.2 h.a; cases this
  | true =>
  simp (maxSteps := 2000000) (disch := first | omega | assumption | exact idP rfl | exact idP (bL rfl) | (simp only [alloc_size, upd_size]; done) | (simp only [alloc_size, upd_size]; omega) | fail) only [go_sem, reduceIte, Nat.reduceEqDiff]
  refine (s_specClauseValid hv hl2 (by omega) (by omega)).mono ?_
  rintro r H2 ⟨rfl, b2, rfl, hb2⟩
  cases b2 with
  | false =>
    simp (maxSteps := 2000000) (disch := first | omega | assumption | exact idP rfl | exact idP (bL rfl) | (simp only [alloc_size, upd_size]; done) | (simp only [alloc_size, upd_size]; omega) | fail) only [go_sem, reduceIte, Nat.reduceEqDiff]
    exact bad fun h => by have := hb2.2 h.b; cases this
  | true =>
  by_cases hp1 : p < 1
  · simp (maxSteps := 2000000) (disch := first | omega | assumption | exact idP rfl | exact idP (bL rfl) | (simp only [alloc_size, upd_size]; done) | (simp only [alloc_size, upd_size]; omega) | fail) only [go_sem, reduceIte, Nat.reduceEqDiff, hp1, decide_true]
    exact bad fun h => by have := h.c; omega
  · simp (maxSteps := 2000000) (disch := first | omega | assumption | exact idP rfl | exact idP (bL rfl) | (simp only [alloc_size, upd_size]; done) | (simp only [alloc_size, upd_size]; omega) | fail) only [go_sem, reduceIte, Nat.reduceEqDiff, hp1, decide_false]
    refine (s_l2Has hu hl).mono ?_
    rintro r H3 ⟨rfl, b3, rfl, hb3⟩
    cases b3 with
    | false =>
      simp (maxSteps := 2000000) (disch := first | omega | assumption | exact idP rfl | exact idP (bL rfl) | (simp only [alloc_size, upd_size]; done) | (simp only [alloc_size, upd_size]; omega) | fail) only [go_sem, reduceIte, Nat.reduceEqDiff]
      exact bad fun h => by have := hb3.2 h.d; cases this
    | true =>
    have hpb := clOk_lits7 (hb1.1 rfl) p (hb3.1 rfl)
    have en : (0 : Int) - p = -p := by omega
    simp (maxSteps := 2000000) (disch := first | omega | assumption | exact idP rfl | exact idP (bL rfl) | (simp only [alloc_size, upd_size]; done) | (simp only [alloc_size, upd_size]; omega) | fail) only [go_sem, reduceIte, Nat.reduceEqDiff, en]
    refine (s_l2Has hv hl2).mono ?_
    rintro r H4 ⟨rfl, b4, rfl, hb4⟩
    cases b4 with
    | false =>
      simp (maxSteps := 2000000) (disch := first | omega | assumption | exact idP rfl | exact idP (bL rfl) | (simp only [alloc_size, upd_size]; done) | (simp only [alloc_size, upd_size]; omega) | fail) only [go_sem, reduceIte, Nat.reduceEqDiff]
      exact bad fun h => by have := hb4.2 h.e; cases this
    | true =>
    have hok : ResOk xs ys p := ⟨hb1.1 rfl, hb2.1 rfl, by omega, hb3.1 rfl, hb4.1 rfl⟩
    simp (maxSteps := 2000000) (disch := first | omega | assumption | exact idP rfl | exact idP (bL rfl) | (simp only [alloc_size, upd_size]; done) | (simp only [alloc_size, upd_size]; omega) | fail) only [go_sem, reduceIte, Nat.reduceEqDiff]
    refine (s_l11Without hu hl).mono ?_
    rintro w1 H5 ⟨o1, l1, n1⟩
    simp (maxSteps := 2000000) (disch := first | omega | assumption | exact idP rfl | exact idP (bL rfl) | (simp only [alloc_size, upd_size]; done) | (simp only [alloc_size, upd_size]; omega) | fail) only [go_sem, reduceIte, Nat.reduceEqDiff, en]
    refine (s_l11Without (hv.le (l1.trans (base_le _ _))) hl2).mono ?_
    rintro w2 H6 ⟨o2, l2, n2⟩
    simp (maxSteps := 2000000) (disch := first | omega | assumption | exact idP rfl | exact idP (bL rfl) | (simp only [alloc_size, upd_size]; done) | (simp only [alloc_size, upd_size]; omega) | fail) only [go_sem, reduceIte, Nat.reduceEqDiff]
    have f1 := filter_short (xs := xs) (q := (· ≠ p))
    have f2 := filter_short (xs := ys) (q := (· ≠ -p))
    refine (s_l11Join (o1.isI.le (l2.trans (base_le _ _))) o2.isI (by omega) (by omega)).mono ?_
    rintro w3 H7 ⟨o3, l3, n3⟩
    simp (maxSteps := 2000000) (disch := first | omega | assumption | exact idP rfl | exact idP (bL rfl) | (simp only [alloc_size, upd_size]; done) | (simp only [alloc_size, upd_size]; omega) | fail) only [go_sem, reduceIte, Nat.reduceEqDiff]
    have hlen := hok.len
    have hL : Le H4 H7 := (l1.trans (base_le _ _)).trans ((l2.trans (base_le _ _)).trans (l3.trans (base_le _ _)))
    refine (s_l11Clause (n := 700) (xs := resL xs ys p) o3.isI (by omega) (by omega) hok.lits).mono ?_
    rintro r H8 ⟨hc1, hc2⟩
    by_cases hO : Opp (resL xs ys p)
    · obtain ⟨rfl, l4⟩ := hc1 ((contr_opp hok.lits).2 hO)
      simp (maxSteps := 2000000) (disch := first | omega | assumption | exact idP rfl | exact idP (bL rfl) | (simp only [alloc_size, upd_size]; done) | (simp only [alloc_size, upd_size]; omega) | fail) only [go_sem, reduceIte, Nat.reduceEqDiff]
      exact hR _ _ ⟨hL.trans l4, _, [], false, rfl, nilI _, .inr ⟨hok, .inl ⟨hO, rfl, rfl⟩⟩⟩
    · obtain ⟨w4, rfl, o4, l4, n4⟩ := hc2 fun h => hO ((contr_opp hok.lits).1 h)
      simp (maxSteps := 2000000) (disch := first | omega | assumption | exact idP rfl | exact idP (bL rfl) | (simp only [alloc_size, upd_size]; done) | (simp only [alloc_size, upd_size]; omega) | fail) only [go_sem, reduceIte, Nat.reduceEqDiff]
      exact hR _ _ ⟨hL.trans (l4.trans (base_le _ _)), w4, _, true, rfl, o4.isI, .inr ⟨hok, .inr ⟨hO, rfl, rfl⟩⟩⟩
set_option maxHeartbeats 4000000 in
theorem s_implResolved {u v : AV} {xs ys : List Int} {p : Int} (hu : IsI H u xs) (hv : IsI H v ys) (hl : xs.length ≤ 1048576) (hl2 : ys.length ≤ 1048576) :
    ACall Try.prog n_impl_Resolved [u, v, .int .i64 p] H (fun r H' => Le H H' ∧ ∃ w zs ok, r = .tup [w, .bool ok] ∧ IsI H' w zs ∧ ResRes xs ys p zs ok) := by
  refine ACall.of fun R hR => a_impl_Resolved rfl ?_
  have bad : ¬ ResOk xs ys p → R (.tup [.sl none 0 0 true 0, .bool false]) H := fun h => hR _ _ ⟨Le.refl _, _, [], false, rfl, nilI _, .inl ⟨h, rfl, rfl⟩⟩
  simp (maxSteps := 2000000) (disch := first | omega | assumption | exact idP rfl | exact idP (bL rfl) | (simp only [alloc_size, upd_size]; done) | (simp only [alloc_size, upd_size]; omega) | fail) only [go_sem, reduceIte, Nat.reduceEqDiff]
  refine (s_implClauseValid hu hl (by omega) (by omega)).mono ?_
  rintro r H1 ⟨rfl, b1, rfl, hb1⟩
  cases b1 with
  | false =>
    simp (maxSteps := 2000000) (disch := first | omega | assumption | exact idP rfl | exact idP (bL rfl) | (simp only [alloc_size, upd_size]; done) | (simp only [alloc_size, upd_size]; omega) | fail) only [go_sem, reduceIte, Nat.reduceEqDiff]
    exact bad fun h => by have := hb1.2 h.a; cases this
  | true =>
  simp (maxSteps := 2000000) (disch := first | omega | assumption | exact idP rfl | exact idP (bL rfl) | (simp only [alloc_size, upd_size]; done) | (simp only [alloc_size, upd_size]; omega) | fail) only [go_sem, reduceIte, Nat.reduceEqDiff]
  refine (s_implClauseValid hv hl2 (by omega) (by omega)).mono ?_
  rintro r H2 ⟨rfl, b2, rfl, hb2⟩
  cases b2 with
  | false =>
    simp (maxSteps := 2000000) (disch := first | omega | assumption | exact idP rfl | exact idP (bL rfl) | (simp only [alloc_size, upd_size]; done) | (simp only [alloc_size, upd_size]; omega) | fail) only [go_sem, reduceIte, Nat.reduceEqDiff]
    exact bad fun h => by have := hb2.2 h.b; cases this
  | true =>
  by_cases hp1 : p ≤ 0
  · simp (maxSteps := 2000000) (disch := first | omega | assumption | exact idP rfl | exact idP (bL rfl) | (simp only [alloc_size, upd_size]; done) | (simp only [alloc_size, upd_size]; omega) | fail) only [go_sem, reduceIte, Nat.reduceEqDiff, hp1, decide_true]
    exact bad fun h => by have := h.c; omega
  · simp (maxSteps := 2000000) (disch := first | omega | assumption | exact idP rfl | exact idP (bL rfl) | (simp only [alloc_size, upd_size]; done) | (simp only [alloc_size, upd_size]; omega) | fail) only [go_sem, reduceIte, Nat.reduceEqDiff, hp1, decide_false]
    refine (s_Contains hu hl).mono ?_
    rintro r H3 ⟨rfl, b3, rfl, hb3⟩
    cases b3 with
    | false =>
      simp (maxSteps := 2000000) (disch := first | omega | assumption | exact idP rfl | exact idP (bL rfl) | (simp only [alloc_size, upd_size]; done) | (simp only [alloc_size, upd_size]; omega) | fail) only [go_sem, reduceIte, Nat.reduceEqDiff]
      exact bad fun h => by have := hb3.2 h.d; cases this
    | true =>
    have hpb := clOk_lits7 (hb1.1 rfl) p (hb3.1 rfl)
    have en : (0 : Int) - p = -p := by omega
    simp (maxSteps := 2000000) (disch := first | omega | assumption | exact idP rfl | exact idP (bL rfl) | (simp only [alloc_size, upd_size]; done) | (simp only [alloc_size, upd_size]; omega) | fail) only [go_sem, reduceIte, Nat.reduceEqDiff, en]
    refine (s_Contains hv hl2).mono ?_
    rintro r H4 ⟨rfl, b4, rfl, hb4⟩
    cases b4 with
    | false =>
      simp (maxSteps := 2000000) (disch := first | omega | assumption | exact idP rfl | exact idP (bL rfl) | (simp only [alloc_size, upd_size]; done) | (simp only [alloc_size, upd_size]; omega) | fail) only [go_sem, reduceIte, Nat.reduceEqDiff]
      exact bad fun h => by have := hb4.2 h.e; cases this
    | true =>
    have hok : ResOk xs ys p := ⟨hb1.1 rfl, hb2.1 rfl, by omega, hb3.1 rfl, hb4.1 rfl⟩
    have hx7 := clOk_len hok.a
    have hy7 := clOk_len hok.b
    obtain ⟨A, c, ex, k, rfl, hr⟩ := hu.parts
    obtain ⟨A2, c2, ex2, k2, rfl, hr2⟩ := hv.parts
    simp (maxSteps := 2000000) (disch := first | omega | assumption | exact idP rfl | exact idP (bL rfl) | (simp only [alloc_size, upd_size]; done) | (simp only [alloc_size, upd_size]; omega) | fail) only [go_sem, reduceIte, Nat.reduceEqDiff]
    refine wp_loop_k (fun e H' => ∃ i : Nat, i ≤ xs.length ∧ e 1 = .sl A2 ys.length c2 ex2 k2 ∧ e 2 = .int .i64 p ∧ e 38 = .sl A xs.length c ex k ∧ e 39 = .int .i64 (xs.length : Int) ∧ e 40 = .int .i64 (i : Int) ∧ Own 1 H' (e 8) (((xs.take i).filter (· ≠ p)).map (AV.int .i64)) ∧ Le H4 (base H' (e 8)) ∧ newer H4.size (e 8)) (fun e _ => ctr xs.length (e 40)) ?_ ?_
    · exact ⟨0, Nat.zero_le _, by simp (maxSteps := 2000000) (disch := first | omega | assumption | exact idP rfl | exact idP (bL rfl) | (simp only [alloc_size, upd_size]; done) | (simp only [alloc_size, upd_size]; omega) | fail) only [go_sem, reduceIte, Nat.reduceEqDiff], by simp (maxSteps := 2000000) (disch := first | omega | assumption | exact idP rfl | exact idP (bL rfl) | (simp only [alloc_size, upd_size]; done) | (simp only [alloc_size, upd_size]; omega) | fail) only [go_sem, reduceIte, Nat.reduceEqDiff], by simp (maxSteps := 2000000) (disch := first | omega | assumption | exact idP rfl | exact idP (bL rfl) | (simp only [alloc_size, upd_size]; done) | (simp only [alloc_size, upd_size]; omega) | fail) only [go_sem, reduceIte, Nat.reduceEqDiff], by simp (maxSteps := 2000000) (disch := first | omega | assumption | exact idP rfl | exact idP (bL rfl) | (simp only [alloc_size, upd_size]; done) | (simp only [alloc_size, upd_size]; omega) | fail) only [go_sem, reduceIte, Nat.reduceEqDiff], by simp (maxSteps := 2000000) (disch := first | omega | assumption | exact idP rfl | exact idP (bL rfl) | (simp only [alloc_size, upd_size]; done) | (simp only [alloc_size, upd_size]; omega) | fail) only [go_sem, reduceIte, Nat.reduceEqDiff]; rfl, by simp (maxSteps := 2000000) (disch := first | omega | assumption | exact idP rfl | exact idP (bL rfl) | (simp only [alloc_size, upd_size]; done) | (simp only [alloc_size, upd_size]; omega) | fail) only [go_sem, reduceIte, Nat.reduceEqDiff]; exact Own.nil, by simp (maxSteps := 2000000) (disch := first | omega | assumption | exact idP rfl | exact idP (bL rfl) | (simp only [alloc_size, upd_size]; done) | (simp only [alloc_size, upd_size]; omega) | fail) only [go_sem, reduceIte, Nat.reduceEqDiff]; exact Le.refl _, by simp (maxSteps := 2000000) (disch := first | omega | assumption | exact idP rfl | exact idP (bL rfl) | (simp only [alloc_size, upd_size]; done) | (simp only [alloc_size, upd_size]; omega) | fail) only [go_sem, reduceIte, Nat.reduceEqDiff]; trivial⟩
    rintro e H5 ⟨i, hi, e1, e2, e38, e39, e40, ho, hle, hnew⟩ K hK
    simp (maxSteps := 2000000) (disch := first | omega | assumption | exact idP rfl | exact idP (bL rfl) | (simp only [alloc_size, upd_size]; done) | (simp only [alloc_size, upd_size]; omega) | fail) only [go_sem, reduceIte, Nat.reduceEqDiff, e38, e39, e40]
    refine condV_dec (fun h => ?_) (fun h => ?_)
    · have hi' : i < xs.length := by omega
      have hg := (hle.trans (base_le _ _)).get (hr i hi')
      rw [Nat.mul_one] at hg
      have e40' := e40
      have hft := filter_take (p := p) hi'
      have hfl := filter_short (xs := xs.take i) (q := (· ≠ p))
      simp only [List.length_take] at hfl
      simp (maxSteps := 2000000) (disch := first | omega | assumption | exact idP rfl | exact idP (bL rfl) | (simp only [alloc_size, upd_size]; done) | (simp only [alloc_size, upd_size]; omega) | fail) only [go_sem, reduceIte, Nat.reduceEqDiff, e2, e38, e40, hg]
      refine condV_dec (fun h0 => ?_) (fun h0 => ?_)
      · rw [if_neg h0] at hft
        simp (maxSteps := 2000000) (disch := first | omega | assumption | exact idP rfl | exact idP (bL rfl) | (simp only [alloc_size, upd_size]; done) | (simp only [alloc_size, upd_size]; omega) | fail) only [go_sem, reduceIte, Nat.reduceEqDiff]
        refine app1 ho hle hnew rfl (by simp only [List.length_map]; omega) (by omega) ?_
        intro s H6 hs hle2 hn2 _
        simp (maxSteps := 2000000) (disch := first | omega | assumption | exact idP rfl | exact idP (bL rfl) | (simp only [alloc_size, upd_size]; done) | (simp only [alloc_size, upd_size]; omega) | fail) only [go_sem, reduceIte, Nat.reduceEqDiff, e40]
        refine hK _ _ ⟨i + 1, by omega, by simp (maxSteps := 2000000) (disch := first | omega | assumption | exact idP rfl | exact idP (bL rfl) | (simp only [alloc_size, upd_size]; done) | (simp only [alloc_size, upd_size]; omega) | fail) only [go_sem, reduceIte, Nat.reduceEqDiff, e1], by simp (maxSteps := 2000000) (disch := first | omega | assumption | exact idP rfl | exact idP (bL rfl) | (simp only [alloc_size, upd_size]; done) | (simp only [alloc_size, upd_size]; omega) | fail) only [go_sem, reduceIte, Nat.reduceEqDiff, e2], by simp (maxSteps := 2000000) (disch := first | omega | assumption | exact idP rfl | exact idP (bL rfl) | (simp only [alloc_size, upd_size]; done) | (simp only [alloc_size, upd_size]; omega) | fail) only [go_sem, reduceIte, Nat.reduceEqDiff, e38], by simp (maxSteps := 2000000) (disch := first | omega | assumption | exact idP rfl | exact idP (bL rfl) | (simp only [alloc_size, upd_size]; done) | (simp only [alloc_size, upd_size]; omega) | fail) only [go_sem, reduceIte, Nat.reduceEqDiff, e39], by simp (maxSteps := 2000000) (disch := first | omega | assumption | exact idP rfl | exact idP (bL rfl) | (simp only [alloc_size, upd_size]; done) | (simp only [alloc_size, upd_size]; omega) | fail) only [go_sem, reduceIte, Nat.reduceEqDiff]; rfl, ?_, by simp (maxSteps := 2000000) (disch := first | omega | assumption | exact idP rfl | exact idP (bL rfl) | (simp only [alloc_size, upd_size]; done) | (simp only [alloc_size, upd_size]; omega) | fail) only [go_sem, reduceIte, Nat.reduceEqDiff]; exact hle2, by simp (maxSteps := 2000000) (disch := first | omega | assumption | exact idP rfl | exact idP (bL rfl) | (simp only [alloc_size, upd_size]; done) | (simp only [alloc_size, upd_size]; omega) | fail) only [go_sem, reduceIte, Nat.reduceEqDiff]; exact hn2⟩ (by simp (maxSteps := 2000000) (disch := first | omega | assumption | exact idP rfl | exact idP (bL rfl) | (simp only [alloc_size, upd_size]; done) | (simp only [alloc_size, upd_size]; omega) | fail) only [go_sem, reduceIte, Nat.reduceEqDiff, ctr_int, e40']; omega)
        simp (maxSteps := 2000000) (disch := first | omega | assumption | exact idP rfl | exact idP (bL rfl) | (simp only [alloc_size, upd_size]; done) | (simp only [alloc_size, upd_size]; omega) | fail) only [go_sem, reduceIte, Nat.reduceEqDiff]
        rw [hft, List.map_append]; exact hs
      · rw [if_pos (Decidable.not_not.1 h0), List.append_nil] at hft
        simp (maxSteps := 2000000) (disch := first | omega | assumption | exact idP rfl | exact idP (bL rfl) | (simp only [alloc_size, upd_size]; done) | (simp only [alloc_size, upd_size]; omega) | fail) only [go_sem, reduceIte, Nat.reduceEqDiff, e40]
        refine hK _ _ ⟨i + 1, by omega, by simp (maxSteps := 2000000) (disch := first | omega | assumption | exact idP rfl | exact idP (bL rfl) | (simp only [alloc_size, upd_size]; done) | (simp only [alloc_size, upd_size]; omega) | fail) only [go_sem, reduceIte, Nat.reduceEqDiff, e1], by simp (maxSteps := 2000000) (disch := first | omega | assumption | exact idP rfl | exact idP (bL rfl) | (simp only [alloc_size, upd_size]; done) | (simp only [alloc_size, upd_size]; omega) | fail) only [go_sem, reduceIte, Nat.reduceEqDiff, e2], by simp (maxSteps := 2000000) (disch := first | omega | assumption | exact idP rfl | exact idP (bL rfl) | (simp only [alloc_size, upd_size]; done) | (simp only [alloc_size, upd_size]; omega) | fail) only [go_sem, reduceIte, Nat.reduceEqDiff, e38], by simp (maxSteps := 2000000) (disch := first | omega | assumption | exact idP rfl | exact idP (bL rfl) | (simp only [alloc_size, upd_size]; done) | (simp only [alloc_size, upd_size]; omega) | fail) only [go_sem, reduceIte, Nat.reduceEqDiff, e39], by simp (maxSteps := 2000000) (disch := first | omega | assumption | exact idP rfl | exact idP (bL rfl) | (simp only [alloc_size, upd_size]; done) | (simp only [alloc_size, upd_size]; omega) | fail) only [go_sem, reduceIte, Nat.reduceEqDiff]; rfl, ?_, by simp (maxSteps := 2000000) (disch := first | omega | assumption | exact idP rfl | exact idP (bL rfl) | (simp only [alloc_size, upd_size]; done) | (simp only [alloc_size, upd_size]; omega) | fail) only [go_sem, reduceIte, Nat.reduceEqDiff]; exact hle, by simp (maxSteps := 2000000) (disch := first | omega | assumption | exact idP rfl | exact idP (bL rfl) | (simp only [alloc_size, upd_size]; done) | (simp only [alloc_size, upd_size]; omega) | fail) only [go_sem, reduceIte, Nat.reduceEqDiff]; exact hnew⟩ (by simp (maxSteps := 2000000) (disch := first | omega | assumption | exact idP rfl | exact idP (bL rfl) | (simp only [alloc_size, upd_size]; done) | (simp only [alloc_size, upd_size]; omega) | fail) only [go_sem, reduceIte, Nat.reduceEqDiff, ctr_int, e40']; omega)
        simp (maxSteps := 2000000) (disch := first | omega | assumption | exact idP rfl | exact idP (bL rfl) | (simp only [alloc_size, upd_size]; done) | (simp only [alloc_size, upd_size]; omega) | fail) only [go_sem, reduceIte, Nat.reduceEqDiff]
        rw [hft]; exact ho
    obtain rfl : i = xs.length := by omega
    rw [List.take_length] at ho
    clear hK
    simp (maxSteps := 2000000) (disch := first | omega | assumption | exact idP rfl | exact idP (bL rfl) | (simp only [alloc_size, upd_size]; done) | (simp only [alloc_size, upd_size]; omega) | fail) only [go_sem, reduceIte, Nat.reduceEqDiff, e1]
    have f1 := filter_short (xs := xs) (q := (· ≠ p))
    refine wp_loop_k (fun e H' => ∃ i : Nat, i ≤ ys.length ∧ e 2 = .int .i64 p ∧ e 52 = .sl A2 ys.length c2 ex2 k2 ∧ e 53 = .int .i64 (ys.length : Int) ∧ e 54 = .int .i64 (i : Int) ∧ Own 1 H' (e 8) ((xs.filter (· ≠ p) ++ (ys.take i).filter (· ≠ -p)).map (AV.int .i64)) ∧ Le H4 (base H' (e 8)) ∧ newer H4.size (e 8)) (fun e _ => ctr ys.length (e 54)) ?_ ?_
    · exact ⟨0, Nat.zero_le _, by simp (maxSteps := 2000000) (disch := first | omega | assumption | exact idP rfl | exact idP (bL rfl) | (simp only [alloc_size, upd_size]; done) | (simp only [alloc_size, upd_size]; omega) | fail) only [go_sem, reduceIte, Nat.reduceEqDiff, e2], by simp (maxSteps := 2000000) (disch := first | omega | assumption | exact idP rfl | exact idP (bL rfl) | (simp only [alloc_size, upd_size]; done) | (simp only [alloc_size, upd_size]; omega) | fail) only [go_sem, reduceIte, Nat.reduceEqDiff], by simp (maxSteps := 2000000) (disch := first | omega | assumption | exact idP rfl | exact idP (bL rfl) | (simp only [alloc_size, upd_size]; done) | (simp only [alloc_size, upd_size]; omega) | fail) only [go_sem, reduceIte, Nat.reduceEqDiff], by simp (maxSteps := 2000000) (disch := first | omega | assumption | exact idP rfl | exact idP (bL rfl) | (simp only [alloc_size, upd_size]; done) | (simp only [alloc_size, upd_size]; omega) | fail) only [go_sem, reduceIte, Nat.reduceEqDiff]; rfl, by simp (maxSteps := 2000000) (disch := first | omega | assumption | exact idP rfl | exact idP (bL rfl) | (simp only [alloc_size, upd_size]; done) | (simp only [alloc_size, upd_size]; omega) | fail) only [go_sem, reduceIte, Nat.reduceEqDiff]; simpa using ho, by simp (maxSteps := 2000000) (disch := first | omega | assumption | exact idP rfl | exact idP (bL rfl) | (simp only [alloc_size, upd_size]; done) | (simp only [alloc_size, upd_size]; omega) | fail) only [go_sem, reduceIte, Nat.reduceEqDiff]; exact hle, by simp (maxSteps := 2000000) (disch := first | omega | assumption | exact idP rfl | exact idP (bL rfl) | (simp only [alloc_size, upd_size]; done) | (simp only [alloc_size, upd_size]; omega) | fail) only [go_sem, reduceIte, Nat.reduceEqDiff]; exact hnew⟩
    clear ho hle hnew e1 e2 e38 e39 e40 h hi
    rintro e H5 ⟨i, hi, e2, e52, e53, e54, ho, hle, hnew⟩ K hK
    simp (maxSteps := 2000000) (disch := first | omega | assumption | exact idP rfl | exact idP (bL rfl) | (simp only [alloc_size, upd_size]; done) | (simp only [alloc_size, upd_size]; omega) | fail) only [go_sem, reduceIte, Nat.reduceEqDiff, e52, e53, e54]
    refine condV_dec (fun h => ?_) (fun h => ?_)
    · have hi' : i < ys.length := by omega
      have hg := (hle.trans (base_le _ _)).get (hr2 i hi')
      rw [Nat.mul_one] at hg
      have e54' := e54
      have hft := filter_take (p := -p) hi'
      have hfl := filter_short (xs := ys.take i) (q := (· ≠ -p))
      simp only [List.length_take] at hfl
      simp (maxSteps := 2000000) (disch := first | omega | assumption | exact idP rfl | exact idP (bL rfl) | (simp only [alloc_size, upd_size]; done) | (simp only [alloc_size, upd_size]; omega) | fail) only [go_sem, reduceIte, Nat.reduceEqDiff, e2, e52, e54, hg, en]
      refine condV_dec (fun h0 => ?_) (fun h0 => ?_)
      · rw [if_neg h0] at hft
        simp (maxSteps := 2000000) (disch := first | omega | assumption | exact idP rfl | exact idP (bL rfl) | (simp only [alloc_size, upd_size]; done) | (simp only [alloc_size, upd_size]; omega) | fail) only [go_sem, reduceIte, Nat.reduceEqDiff]
        refine app1 ho hle hnew rfl (by simp only [List.length_map, List.length_append]; omega) (by omega) ?_
        intro s H6 hs hle2 hn2 _
        simp (maxSteps := 2000000) (disch := first | omega | assumption | exact idP rfl | exact idP (bL rfl) | (simp only [alloc_size, upd_size]; done) | (simp only [alloc_size, upd_size]; omega) | fail) only [go_sem, reduceIte, Nat.reduceEqDiff, e54]
        refine hK _ _ ⟨i + 1, by omega, by simp (maxSteps := 2000000) (disch := first | omega | assumption | exact idP rfl | exact idP (bL rfl) | (simp only [alloc_size, upd_size]; done) | (simp only [alloc_size, upd_size]; omega) | fail) only [go_sem, reduceIte, Nat.reduceEqDiff, e2], by simp (maxSteps := 2000000) (disch := first | omega | assumption | exact idP rfl | exact idP (bL rfl) | (simp only [alloc_size, upd_size]; done) | (simp only [alloc_size, upd_size]; omega) | fail) only [go_sem, reduceIte, Nat.reduceEqDiff, e52], by simp (maxSteps := 2000000) (disch := first | omega | assumption | exact idP rfl | exact idP (bL rfl) | (simp only [alloc_size, upd_size]; done) | (simp only [alloc_size, upd_size]; omega) | fail) only [go_sem, reduceIte, Nat.reduceEqDiff, e53], by simp (maxSteps := 2000000) (disch := first | omega | assumption | exact idP rfl | exact idP (bL rfl) | (simp only [alloc_size, upd_size]; done) | (simp only [alloc_size, upd_size]; omega) | fail) only [go_sem, reduceIte, Nat.reduceEqDiff]; rfl, ?_, by simp (maxSteps := 2000000) (disch := first | omega | assumption | exact idP rfl | exact idP (bL rfl) | (simp only [alloc_size, upd_size]; done) | (simp only [alloc_size, upd_size]; omega) | fail) only [go_sem, reduceIte, Nat.reduceEqDiff]; exact hle2, by simp (maxSteps := 2000000) (disch := first | omega | assumption | exact idP rfl | exact idP (bL rfl) | (simp only [alloc_size, upd_size]; done) | (simp only [alloc_size, upd_size]; omega) | fail) only [go_sem, reduceIte, Nat.reduceEqDiff]; exact hn2⟩ (by simp (maxSteps := 2000000) (disch := first | omega | assumption | exact idP rfl | exact idP (bL rfl) | (simp only [alloc_size, upd_size]; done) | (simp only [alloc_size, upd_size]; omega) | fail) only [go_sem, reduceIte, Nat.reduceEqDiff, ctr_int, e54']; omega)
        simp (maxSteps := 2000000) (disch := first | omega | assumption | exact idP rfl | exact idP (bL rfl) | (simp only [alloc_size, upd_size]; done) | (simp only [alloc_size, upd_size]; omega) | fail) only [go_sem, reduceIte, Nat.reduceEqDiff]
        rw [hft, ← List.append_assoc, List.map_append]; exact hs
      · rw [if_pos (Decidable.not_not.1 h0), List.append_nil] at hft
        simp (maxSteps := 2000000) (disch := first | omega | assumption | exact idP rfl | exact idP (bL rfl) | (simp only [alloc_size, upd_size]; done) | (simp only [alloc_size, upd_size]; omega) | fail) only [go_sem, reduceIte, Nat.reduceEqDiff, e54]
        refine hK _ _ ⟨i + 1, by omega, by simp (maxSteps := 2000000) (disch := first | omega | assumption | exact idP rfl | exact idP (bL rfl) | (simp only [alloc_size, upd_size]; done) | (simp only [alloc_size, upd_size]; omega) | fail) only [go_sem, reduceIte, Nat.reduceEqDiff, e2], by simp (maxSteps := 2000000) (disch := first | omega | assumption | exact idP rfl | exact idP (bL rfl) | (simp only [alloc_size, upd_size]; done) | (simp only [alloc_size, upd_size]; omega) | fail) only [go_sem, reduceIte, Nat.reduceEqDiff, e52], by simp (maxSteps := 2000000) (disch := first | omega | assumption | exact idP rfl | exact idP (bL rfl) | (simp only [alloc_size, upd_size]; done) | (simp only [alloc_size, upd_size]; omega) | fail) only [go_sem, reduceIte, Nat.reduceEqDiff, e53], by simp (maxSteps := 2000000) (disch := first | omega | assumption | exact idP rfl | exact idP (bL rfl) | (simp only [alloc_size, upd_size]; done) | (simp only [alloc_size, upd_size]; omega) | fail) only [go_sem, reduceIte, Nat.reduceEqDiff]; rfl, ?_, by simp (maxSteps := 2000000) (disch := first | omega | assumption | exact idP rfl | exact idP (bL rfl) | (simp only [alloc_size, upd_size]; done) | (simp only [alloc_size, upd_size]; omega) | fail) only [go_sem, reduceIte, Nat.reduceEqDiff]; exact hle, by simp (maxSteps := 2000000) (disch := first | omega | assumption | exact idP rfl | exact idP (bL rfl) | (simp only [alloc_size, upd_size]; done) | (simp only [alloc_size, upd_size]; omega) | fail) only [go_sem, reduceIte, Nat.reduceEqDiff]; exact hnew⟩ (by simp (maxSteps := 2000000) (disch := first | omega | assumption | exact idP rfl | exact idP (bL rfl) | (simp only [alloc_size, upd_size]; done) | (simp only [alloc_size, upd_size]; omega) | fail) only [go_sem, reduceIte, Nat.reduceEqDiff, ctr_int, e54']; omega)
        simp (maxSteps := 2000000) (disch := first | omega | assumption | exact idP rfl | exact idP (bL rfl) | (simp only [alloc_size, upd_size]; done) | (simp only [alloc_size, upd_size]; omega) | fail) only [go_sem, reduceIte, Nat.reduceEqDiff]
        rw [hft]; exact ho
    obtain rfl : i = ys.length := by omega
    rw [List.take_length] at ho
    clear hK
    have hoi := ho.isI
    obtain ⟨A3, n3, ex3, k3, e8, q1, q2, q3⟩ := ho
    rw [e8] at hoi hle hnew
    have hlen := hok.len
    simp (maxSteps := 2000000) (disch := first | omega | assumption | exact idP rfl | exact idP (bL rfl) | (simp only [alloc_size, upd_size]; done) | (simp only [alloc_size, upd_size]; omega) | fail) only [go_sem, reduceIte, Nat.reduceEqDiff, e8]
    refine (s_clauseOfG (n := 700) (xs := resL xs ys p) hoi (fun h => ?_) (by omega) (by omega) hok.lits).mono ?_
    · have := (q2 h).1
      simp only [List.length_map] at q1
      exact List.eq_nil_of_length_eq_zero (by unfold resL; omega)
    rintro r H7 ⟨hc1, hc2⟩
    have hL := hle.trans (base_le _ _)
    by_cases hO : Opp (resL xs ys p)
    · obtain ⟨rfl, l4⟩ := hc1 hO
      simp (maxSteps := 2000000) (disch := first | omega | assumption | exact idP rfl | exact idP (bL rfl) | (simp only [alloc_size, upd_size]; done) | (simp only [alloc_size, upd_size]; omega) | fail) only [go_sem, reduceIte, Nat.reduceEqDiff]
      exact hR _ _ ⟨hL.trans l4, _, [], false, rfl, nilI _, .inr ⟨hok, .inl ⟨hO, rfl, rfl⟩⟩⟩
    · obtain ⟨w4, rfl, o4, l4, n4⟩ := hc2 hO
      simp (maxSteps := 2000000) (disch := first | omega | assumption | exact idP rfl | exact idP (bL rfl) | (simp only [alloc_size, upd_size]; done) | (simp only [alloc_size, upd_size]; omega) | fail) only [go_sem, reduceIte, Nat.reduceEqDiff]
      exact hR _ _ ⟨hL.trans (l4.trans (base_le _ _)), w4, _, true, rfl, o4.isI, .inr ⟨hok, .inr ⟨hO, rfl, rfl⟩⟩⟩
theorem s_l2Same {u v : AV} {xs ys : List Int} (hu : IsI H u xs) (hv : IsI H v ys) (hl : xs.length ≤ 1048576) (hl2 : ys.length ≤ 1048576) : ACall Try.prog n_spec_l2Same [u, v] H (fun r H' => H' = H ∧ ∃ b, r = .bool b ∧ (b = true ↔ xs = ys)) := by
  refine ACall.of fun R hR => a_spec_l2Same rfl ?_
  obtain ⟨A, c, ex, k, rfl, hr⟩ := hu.parts
  obtain ⟨A', c', ex', k', rfl, hr'⟩ := hv.parts
  simp (maxSteps := 2000000) (disch := first | omega | assumption | exact idP rfl | exact idP (bL rfl) | (simp only [alloc_size, upd_size]; done) | (simp only [alloc_size, upd_size]; omega) | fail) only [go_sem, reduceIte, Nat.reduceEqDiff]
  refine condV_dec (fun h => ?_) (fun h => ?_)
  · simp (maxSteps := 2000000) (disch := first | omega | assumption | exact idP rfl | exact idP (bL rfl) | (simp only [alloc_size, upd_size]; done) | (simp only [alloc_size, upd_size]; omega) | fail) only [go_sem, reduceIte, Nat.reduceEqDiff]
    exact hR _ _ ⟨rfl, false, rfl, by simp only [Bool.false_eq_true, false_iff]; intro e; subst e; exact h rfl⟩
  · have hlen : xs.length = ys.length := by omega
    simp (maxSteps := 2000000) (disch := first | omega | assumption | exact idP rfl | exact idP (bL rfl) | (simp only [alloc_size, upd_size]; done) | (simp only [alloc_size, upd_size]; omega) | fail) only [go_sem, reduceIte, Nat.reduceEqDiff]
    refine wp_loop_k (fun e H' => H = H' ∧ ∃ i : Nat, i ≤ xs.length ∧ e 0 = .sl A xs.length c ex k ∧ e 1 = .sl A' ys.length c' ex' k' ∧ e 5 = .int .i64 (i : Int) ∧ ∀ j, j < i → xs[j]? = ys[j]?) (fun e _ => ctr xs.length (e 5)) ?_ ?_
    · exact ⟨rfl, 0, Nat.zero_le _, by simp (maxSteps := 2000000) (disch := first | omega | assumption | exact idP rfl | exact idP (bL rfl) | (simp only [alloc_size, upd_size]; done) | (simp only [alloc_size, upd_size]; omega) | fail) only [go_sem, reduceIte, Nat.reduceEqDiff], by simp (maxSteps := 2000000) (disch := first | omega | assumption | exact idP rfl | exact idP (bL rfl) | (simp only [alloc_size, upd_size]; done) | (simp only [alloc_size, upd_size]; omega) | fail) only [go_sem, reduceIte, Nat.reduceEqDiff], by simp (maxSteps := 2000000) (disch := first | omega | assumption | exact idP rfl | exact idP (bL rfl) | (simp only [alloc_size, upd_size]; done) | (simp only [alloc_size, upd_size]; omega) | fail) only [go_sem, reduceIte, Nat.reduceEqDiff]; rfl, fun j h => by omega⟩
    · rintro e H1 ⟨rfl, i, hi, e0, e1, e5, hj⟩ K hK
      simp (maxSteps := 2000000) (disch := first | omega | assumption | exact idP rfl | exact idP (bL rfl) | (simp only [alloc_size, upd_size]; done) | (simp only [alloc_size, upd_size]; omega) | fail) only [go_sem, reduceIte, Nat.reduceEqDiff, e0, e5]
      refine condV_dec (fun h => ?_) (fun h => ?_)
      · have hi' : i < xs.length := by omega
        have hi2 : i < ys.length := by omega
        have hg := hr i hi'
        have hg' := hr' i hi2
        rw [Nat.mul_one] at hg hg'
        have e5' := e5
        simp (maxSteps := 2000000) (disch := first | omega | assumption | exact idP rfl | exact idP (bL rfl) | (simp only [alloc_size, upd_size]; done) | (simp only [alloc_size, upd_size]; omega) | fail) only [go_sem, reduceIte, Nat.reduceEqDiff, e0, e1, e5, hg, hg']
        refine condV_dec (fun h0 => ?_) (fun h0 => ?_)
        · simp (maxSteps := 2000000) (disch := first | omega | assumption | exact idP rfl | exact idP (bL rfl) | (simp only [alloc_size, upd_size]; done) | (simp only [alloc_size, upd_size]; omega) | fail) only [go_sem, reduceIte, Nat.reduceEqDiff]
          refine hR _ _ ⟨rfl, false, rfl, ?_⟩
          simp only [Bool.false_eq_true, false_iff]
          intro e; subst e; exact h0 rfl
        · simp (maxSteps := 2000000) (disch := first | omega | assumption | exact idP rfl | exact idP (bL rfl) | (simp only [alloc_size, upd_size]; done) | (simp only [alloc_size, upd_size]; omega) | fail) only [go_sem, reduceIte, Nat.reduceEqDiff, e5]
          refine hK _ _ ⟨rfl, i + 1, by omega, by simp (maxSteps := 2000000) (disch := first | omega | assumption | exact idP rfl | exact idP (bL rfl) | (simp only [alloc_size, upd_size]; done) | (simp only [alloc_size, upd_size]; omega) | fail) only [go_sem, reduceIte, Nat.reduceEqDiff, e0], by simp (maxSteps := 2000000) (disch := first | omega | assumption | exact idP rfl | exact idP (bL rfl) | (simp only [alloc_size, upd_size]; done) | (simp only [alloc_size, upd_size]; omega) | fail) only [go_sem, reduceIte, Nat.reduceEqDiff, e1], by simp (maxSteps := 2000000) (disch := first | omega | assumption | exact idP rfl | exact idP (bL rfl) | (simp only [alloc_size, upd_size]; done) | (simp only [alloc_size, upd_size]; omega) | fail) only [go_sem, reduceIte, Nat.reduceEqDiff]; rfl, fun j q1 => ?_⟩ (by simp (maxSteps := 2000000) (disch := first | omega | assumption | exact idP rfl | exact idP (bL rfl) | (simp only [alloc_size, upd_size]; done) | (simp only [alloc_size, upd_size]; omega) | fail) only [go_sem, reduceIte, Nat.reduceEqDiff, ctr_int, e5']; omega)
          by_cases e : j = i
          · subst e
            rw [List.getElem?_eq_getElem hi', List.getElem?_eq_getElem hi2, Decidable.not_not.1 h0]
          · exact hj j (by omega)
      · simp (maxSteps := 2000000) (disch := first | omega | assumption | exact idP rfl | exact idP (bL rfl) | (simp only [alloc_size, upd_size]; done) | (simp only [alloc_size, upd_size]; omega) | fail) only [go_sem, reduceIte, Nat.reduceEqDiff]
        refine hR _ _ ⟨rfl, true, rfl, ?_⟩
        simp only [true_iff]
        apply List.ext_getElem?
        intro j
        by_cases hjl : j < i
        · exact hj j hjl
        · rw [List.getElem?_eq_none (by omega), List.getElem?_eq_none (by omega)]
theorem s_Equal {u v : AV} {xs ys : List Int} (hu : IsI H u xs) (hv : IsI H v ys) (hl : xs.length ≤ 1048576) (hl2 : ys.length ≤ 1048576) : ACall Try.prog n_slices_Equal_Sint_int [u, v] H (fun r H' => H' = H ∧ ∃ b, r = .bool b ∧ (b = true ↔ xs = ys)) := by
  refine ACall.of fun R hR => a_slices_Equal_Sint_int rfl ?_
  obtain ⟨A, c, ex, k, rfl, hr⟩ := hu.parts
  obtain ⟨A', c', ex', k', rfl, hr'⟩ := hv.parts
  simp (maxSteps := 2000000) (disch := first | omega | assumption | exact idP rfl | exact idP (bL rfl) | (simp only [alloc_size, upd_size]; done) | (simp only [alloc_size, upd_size]; omega) | fail) only [go_sem, reduceIte, Nat.reduceEqDiff]
  refine condV_dec (fun h => ?_) (fun h => ?_)
  · simp (maxSteps := 2000000) (disch := first | omega | assumption | exact idP rfl | exact idP (bL rfl) | (simp only [alloc_size, upd_size]; done) | (simp only [alloc_size, upd_size]; omega) | fail) only [go_sem, reduceIte, Nat.reduceEqDiff]
    exact hR _ _ ⟨rfl, false, rfl, by simp only [Bool.false_eq_true, false_iff]; intro e; subst e; exact h rfl⟩
  · have hlen : xs.length = ys.length := by omega
    simp (maxSteps := 2000000) (disch := first | omega | assumption | exact idP rfl | exact idP (bL rfl) | (simp only [alloc_size, upd_size]; done) | (simp only [alloc_size, upd_size]; omega) | fail) only [go_sem, reduceIte, Nat.reduceEqDiff]
    refine wp_loop_k (fun e H' => H = H' ∧ ∃ i : Nat, i ≤ xs.length ∧ e 0 = .sl A xs.length c ex k ∧ e 1 = .sl A' ys.length c' ex' k' ∧ e 12 = .int .i64 (xs.length : Int) ∧ e 13 = .int .i64 (i : Int) ∧ ∀ j, j < i → xs[j]? = ys[j]?) (fun e _ => ctr xs.length (e 13)) ?_ ?_
    · exact ⟨rfl, 0, Nat.zero_le _, by simp (maxSteps := 2000000) (disch := first | omega | assumption | exact idP rfl | exact idP (bL rfl) | (simp only [alloc_size, upd_size]; done) | (simp only [alloc_size, upd_size]; omega) | fail) only [go_sem, reduceIte, Nat.reduceEqDiff], by simp (maxSteps := 2000000) (disch := first | omega | assumption | exact idP rfl | exact idP (bL rfl) | (simp only [alloc_size, upd_size]; done) | (simp only [alloc_size, upd_size]; omega) | fail) only [go_sem, reduceIte, Nat.reduceEqDiff], by simp (maxSteps := 2000000) (disch := first | omega | assumption | exact idP rfl | exact idP (bL rfl) | (simp only [alloc_size, upd_size]; done) | (simp only [alloc_size, upd_size]; omega) | fail) only [go_sem, reduceIte, Nat.reduceEqDiff], by simp (maxSteps := 2000000) (disch := first | omega | assumption | exact idP rfl | exact idP (bL rfl) | (simp only [alloc_size, upd_size]; done) | (simp only [alloc_size, upd_size]; omega) | fail) only [go_sem, reduceIte, Nat.reduceEqDiff]; rfl, fun j h => by omega⟩
    · rintro e H1 ⟨rfl, i, hi, e0, e1, e12, e13, hj⟩ K hK
      simp (maxSteps := 2000000) (disch := first | omega | assumption | exact idP rfl | exact idP (bL rfl) | (simp only [alloc_size, upd_size]; done) | (simp only [alloc_size, upd_size]; omega) | fail) only [go_sem, reduceIte, Nat.reduceEqDiff, e12, e13]
      refine condV_dec (fun h => ?_) (fun h => ?_)
      · have hi' : i < xs.length := by omega
        have hi2 : i < ys.length := by omega
        have hg := hr i hi'
        have hg' := hr' i hi2
        rw [Nat.mul_one] at hg hg'
        have e13' := e13
        simp (maxSteps := 2000000) (disch := first | omega | assumption | exact idP rfl | exact idP (bL rfl) | (simp only [alloc_size, upd_size]; done) | (simp only [alloc_size, upd_size]; omega) | fail) only [go_sem, reduceIte, Nat.reduceEqDiff, e0, e1, e13, hg, hg']
        refine condV_dec (fun h0 => ?_) (fun h0 => ?_)
        · simp (maxSteps := 2000000) (disch := first | omega | assumption | exact idP rfl | exact idP (bL rfl) | (simp only [alloc_size, upd_size]; done) | (simp only [alloc_size, upd_size]; omega) | fail) only [go_sem, reduceIte, Nat.reduceEqDiff]
          refine hR _ _ ⟨rfl, false, rfl, ?_⟩
          simp only [Bool.false_eq_true, false_iff]
          intro e; subst e; exact h0 rfl
        · simp (maxSteps := 2000000) (disch := first | omega | assumption | exact idP rfl | exact idP (bL rfl) | (simp only [alloc_size, upd_size]; done) | (simp only [alloc_size, upd_size]; omega) | fail) only [go_sem, reduceIte, Nat.reduceEqDiff, e13]
          refine hK _ _ ⟨rfl, i + 1, by omega, by simp (maxSteps := 2000000) (disch := first | omega | assumption | exact idP rfl | exact idP (bL rfl) | (simp only [alloc_size, upd_size]; done) | (simp only [alloc_size, upd_size]; omega) | fail) only [go_sem, reduceIte, Nat.reduceEqDiff, e0], by simp (maxSteps := 2000000) (disch := first | omega | assumption | exact idP rfl | exact idP (bL rfl) | (simp only [alloc_size, upd_size]; done) | (simp only [alloc_size, upd_size]; omega) | fail) only [go_sem, reduceIte, Nat.reduceEqDiff, e1], by simp (maxSteps := 2000000) (disch := first | omega | assumption | exact idP rfl | exact idP (bL rfl) | (simp only [alloc_size, upd_size]; done) | (simp only [alloc_size, upd_size]; omega) | fail) only [go_sem, reduceIte, Nat.reduceEqDiff, e12], by simp (maxSteps := 2000000) (disch := first | omega | assumption | exact idP rfl | exact idP (bL rfl) | (simp only [alloc_size, upd_size]; done) | (simp only [alloc_size, upd_size]; omega) | fail) only [go_sem, reduceIte, Nat.reduceEqDiff]; rfl, fun j q1 => ?_⟩ (by simp (maxSteps := 2000000) (disch := first | omega | assumption | exact idP rfl | exact idP (bL rfl) | (simp only [alloc_size, upd_size]; done) | (simp only [alloc_size, upd_size]; omega) | fail) only [go_sem, reduceIte, Nat.reduceEqDiff, ctr_int, e13']; omega)
          by_cases e : j = i
          · subst e
            rw [List.getElem?_eq_getElem hi', List.getElem?_eq_getElem hi2, Decidable.not_not.1 h0]
          · exact hj j (by omega)
      · simp (maxSteps := 2000000) (disch := first | omega | assumption | exact idP rfl | exact idP (bL rfl) | (simp only [alloc_size, upd_size]; done) | (simp only [alloc_size, upd_size]; omega) | fail) only [go_sem, reduceIte, Nat.reduceEqDiff]
        refine hR _ _ ⟨rfl, true, rfl, ?_⟩
        simp only [true_iff]
        apply List.ext_getElem?
        intro j
        by_cases hjl : j < i
        · exact hj j hjl
        · rw [List.getElem?_eq_none (by omega), List.getElem?_eq_none (by omega)]
end Go.M2

namespace Go.M2
open Go.Proofs
variable {H : Heap}
structure Ch where
  a : Int
  b : Int
  c : Int
  p : Int
  cl : List Int
def ECh (H : Heap) (x : Ch) (l : List AV) : Prop := ∃ w, l = [.int .i64 x.a, .int .i64 x.b, .int .i64 x.c, .int .i64 x.p, w] ∧ IsI H w x.cl
def ENCh (H : Heap) (x : Ch) (l : List AV) : Prop := ∃ w, l = [.int .i64 x.a, .int .i64 x.b, .int .i64 x.c, .int .i64 x.p, w] ∧ InS 1 EI H w x.cl
theorem mono_Ch : Mono ECh := fun H H' x l h ⟨w, h1, h2⟩ => ⟨w, h1, h2.le h⟩
theorem mono_NCh : Mono ENCh := fun H H' x l h ⟨w, h1, h2⟩ => ⟨w, h1, h2.le mono_I h⟩
abbrev IsChs : Heap → AV → List Ch → Prop := IsS 5 ECh
theorem IsChs.le {H H' : Heap} (h : Le H H') {v : AV} {cs : List Ch} (hv : IsChs H v cs) : IsChs H' v cs := IsS.le mono_Ch h hv
structure G5 (H : Heap) (b o : Nat) (x : Ch) (w : AV) : Prop where
  g0 : H.get b o = some (.int .i64 x.a)
  g1 : H.get b (o + 1) = some (.int .i64 x.b)
  g2 : H.get b (o + 2) = some (.int .i64 x.c)
  g3 : H.get b (o + 3) = some (.int .i64 x.p)
  g4 : H.get b (o + 4) = some w
theorem G5.of {b o : Nat} {x : Ch} {w : AV} (h : Rd H b o [.int .i64 x.a, .int .i64 x.b, .int .i64 x.c, .int .i64 x.p, w]) : G5 H b o x w := ⟨h 0 _ rfl, h 1 _ rfl, h 2 _ rfl, h 3 _ rfl, h 4 _ rfl⟩
theorem G5.le {H' : Heap} {b o : Nat} {x : Ch} {w : AV} (h : G5 H b o x w) (hl : Le H H') : G5 H' b o x w := ⟨hl.get h.g0, hl.get h.g1, hl.get h.g2, hl.get h.g3, hl.get h.g4⟩
theorem IsChs.parts {v : AV} {cs : List Ch} (h : IsChs H v cs) : ∃ A c ex k, v = .sl A cs.length c ex k ∧ ∀ i (h : i < cs.length), ∃ w, G5 H A.b (A.o + i * 5) cs[i] w ∧ IsI H w cs[i].cl := by
  obtain ⟨A, c, ex, k, rfl, hr⟩ := h
  refine ⟨A, c, ex, k, rfl, fun i hi => ?_⟩
  obtain ⟨l, h1, h2, w, rfl, h4⟩ := hr i hi
  exact ⟨w, G5.of h2, h4⟩
theorem inCh_get {v : AV} {cs : List Ch} (h : InS 5 ENCh H v cs) {i : Nat} (hi : i < cs.length) : ∃ A c ex k w, v = .sl A cs.length c ex k ∧ G5 H A.b (A.o + i * 5) cs[i] w ∧ InS 1 EI H w cs[i].cl := by
  rcases h with ⟨A, c, ex, k, rfl, hr⟩ | ⟨rfl, rfl⟩
  · obtain ⟨l, h1, h2, w, rfl, h4⟩ := hr i hi
    exact ⟨A, c, ex, k, w, rfl, G5.of h2, h4⟩
  · simp at hi
theorem setAt_get : ∀ {c l : List AV} {o j : Nat}, o + c.length ≤ l.length → (setAt l o c)[j]? = if o ≤ j ∧ j < o + c.length then c[j - o]? else l[j]?
  | [], l, o, j, h => by rw [setAt, if_neg (by simp)]
  | x :: t, l, o, j, h => by
    simp only [List.length_cons] at h ⊢
    rw [setAt, setAt_get (by simp; omega)]
    by_cases h1 : j = o
    · subst h1
      rw [if_neg (by omega), if_pos (by omega), Nat.sub_self, List.getElem?_set_self (by omega)]; rfl
    · by_cases h2 : o + 1 ≤ j ∧ j < o + 1 + t.length
      · rw [if_pos h2, if_pos (by omega), show j - o = (j - (o + 1)) + 1 by omega]; rfl
      · rw [if_neg h2, if_neg (by omega), List.getElem?_set_ne (by omega)]
theorem s_szChain {x : Ch} {w : AV} {left : Int} (hw : InS 1 EI H w x.cl) (h0 : x.cl.length ≤ 9223372036854775807) (h1 : 0 ≤ left) (h2 : left ≤ 1048576) :
    ACall Try.prog n_laws_szChain [.agg [.int .i64 x.a, .int .i64 x.b, .int .i64 x.c, .int .i64 x.p, w], .int .i64 left] H (fun r H' => Le H H' ∧ ∃ k : Int, r = .int .i64 k ∧ k ≤ left ∧ (0 ≤ k → x.cl.length ≤ 1048576)) := by
  refine ACall.of fun R hR => a_laws_szChain rfl ?_
  simp (maxSteps := 2000000) (disch := first | omega | assumption | exact idP rfl | exact idP (bL rfl) | (simp only [alloc_size, upd_size]; done) | (simp only [alloc_size, upd_size]; omega) | fail) only [go_sem, reduceIte, Nat.reduceEqDiff]
  refine (s_szIntS (hw.le mono_I (Le.alloc _ _)) h0 h1 h2).mono ?_
  rintro r H1 ⟨rfl, k, rfl, hk1, hk2⟩
  simp (maxSteps := 2000000) (disch := first | omega | assumption | exact idP rfl | exact idP (bL rfl) | (simp only [alloc_size, upd_size]; done) | (simp only [alloc_size, upd_size]; omega) | fail) only [go_sem, reduceIte, Nat.reduceEqDiff]
  refine condV_dec (fun h => ?_) (fun h => ?_)
  · simp (maxSteps := 2000000) (disch := first | omega | assumption | exact idP rfl | exact idP (bL rfl) | (simp only [alloc_size, upd_size]; done) | (simp only [alloc_size, upd_size]; omega) | fail) only [go_sem, reduceIte, Nat.reduceEqDiff]
    exact hR _ _ ⟨Le.alloc _ _, -1, rfl, by omega, by omega⟩
  · simp (maxSteps := 2000000) (disch := first | omega | assumption | exact idP rfl | exact idP (bL rfl) | (simp only [alloc_size, upd_size]; done) | (simp only [alloc_size, upd_size]; omega) | fail) only [go_sem, reduceIte, Nat.reduceEqDiff]
    exact hR _ _ ⟨Le.alloc _ _, k, rfl, hk1, hk2⟩
theorem s_szChainS {v : AV} {cs : List Ch} {left : Int} (hv : InS 5 ENCh H v cs) (h0 : cs.length ≤ 9223372036854775807) (hx : ∀ x ∈ cs, x.cl.length ≤ 9223372036854775807) (h1 : 0 ≤ left) (h2 : left ≤ 1048576) :
    ACall Try.prog n_laws_szChainS [v, .int .i64 left] H (fun r H' => Le H H' ∧ ∃ k : Int, r = .int .i64 k ∧ k ≤ left ∧ (0 ≤ k → cs.length ≤ 1048576 ∧ ∀ x ∈ cs, x.cl.length ≤ 1048576)) := by
  refine ACall.of fun R hR => a_laws_szChainS rfl ?_
  have hl := hv.len
  simp (maxSteps := 2000000) (disch := first | omega | assumption | exact idP rfl | exact idP (bL rfl) | (simp only [alloc_size, upd_size]; done) | (simp only [alloc_size, upd_size]; omega) | fail) only [go_sem, reduceIte, Nat.reduceEqDiff, hl]
  refine condV_dec (fun h => ?_) (fun h => ?_)
  · simp (maxSteps := 2000000) (disch := first | omega | assumption | exact idP rfl | exact idP (bL rfl) | (simp only [alloc_size, upd_size]; done) | (simp only [alloc_size, upd_size]; omega) | fail) only [go_sem, reduceIte, Nat.reduceEqDiff]
    exact hR _ _ ⟨Le.refl _, -1, rfl, by omega, by omega⟩
  · simp (maxSteps := 2000000) (disch := first | omega | assumption | exact idP rfl | exact idP (bL rfl) | (simp only [alloc_size, upd_size]; done) | (simp only [alloc_size, upd_size]; omega) | fail) only [go_sem, reduceIte, Nat.reduceEqDiff]
    refine wp_loop_k (fun e H' => Le H H' ∧ ∃ (i : Nat) (k : Int), i ≤ cs.length ∧ e 0 = v ∧ e 5 = .int .i64 (i : Int) ∧ e 1 = .int .i64 k ∧ 0 ≤ k ∧ k ≤ left ∧ ∀ j (hj : j < cs.length), j < i → cs[j].cl.length ≤ 1048576) (fun e _ => ctr cs.length (e 5)) ?_ ?_
    · refine ⟨Le.refl _, 0, left - cs.length, Nat.zero_le _, by simp (maxSteps := 2000000) (disch := first | omega | assumption | exact idP rfl | exact idP (bL rfl) | (simp only [alloc_size, upd_size]; done) | (simp only [alloc_size, upd_size]; omega) | fail) only [go_sem, reduceIte, Nat.reduceEqDiff], by simp (maxSteps := 2000000) (disch := first | omega | assumption | exact idP rfl | exact idP (bL rfl) | (simp only [alloc_size, upd_size]; done) | (simp only [alloc_size, upd_size]; omega) | fail) only [go_sem, reduceIte, Nat.reduceEqDiff]; rfl, by simp (maxSteps := 2000000) (disch := first | omega | assumption | exact idP rfl | exact idP (bL rfl) | (simp only [alloc_size, upd_size]; done) | (simp only [alloc_size, upd_size]; omega) | fail) only [go_sem, reduceIte, Nat.reduceEqDiff], by omega, by omega, fun j _ hj => by omega⟩
    · rintro e H1 ⟨hle, i, k, hi, e0, e5, e1, hk0, hk1, hj⟩ K hK
      simp (maxSteps := 2000000) (disch := first | omega | assumption | exact idP rfl | exact idP (bL rfl) | (simp only [alloc_size, upd_size]; done) | (simp only [alloc_size, upd_size]; omega) | fail) only [go_sem, reduceIte, Nat.reduceEqDiff, e0, e5, e1, hl]
      refine condV_dec (fun h => ?_) (fun h => ?_)
      · obtain ⟨A, c, ex, kk, w, rfl, hg, hw⟩ := inCh_get hv (i := i) (by omega)
        have hg := hg.le hle
        have q2 : H1.get A.b (A.o + i * 5 + 1 + 1) = some (.int .i64 cs[i].c) := hg.g2
        have q3 : H1.get A.b (A.o + i * 5 + 1 + 1 + 1) = some (.int .i64 cs[i].p) := hg.g3
        have q4 : H1.get A.b (A.o + i * 5 + 1 + 1 + 1 + 1) = some w := hg.g4
        have e5' := e5
        simp (maxSteps := 2000000) (disch := first | omega | assumption | exact idP rfl | exact idP (bL rfl) | (simp only [alloc_size, upd_size]; done) | (simp only [alloc_size, upd_size]; omega) | fail) only [go_sem, reduceIte, Nat.reduceEqDiff, e0, e5, e1, hg.g0, hg.g1, q2, q3, q4]
        refine (s_szChain (x := cs[i]) (hw.le mono_I hle) (hx _ (List.getElem_mem _)) hk0 (by omega)).mono ?_
        rintro r H2 ⟨hle2, k2, rfl, hk2, hk3⟩
        simp (maxSteps := 2000000) (disch := first | omega | assumption | exact idP rfl | exact idP (bL rfl) | (simp only [alloc_size, upd_size]; done) | (simp only [alloc_size, upd_size]; omega) | fail) only [go_sem, reduceIte, Nat.reduceEqDiff]
        refine condV_dec (fun h4 => ?_) (fun h4 => ?_)
        · simp (maxSteps := 2000000) (disch := first | omega | assumption | exact idP rfl | exact idP (bL rfl) | (simp only [alloc_size, upd_size]; done) | (simp only [alloc_size, upd_size]; omega) | fail) only [go_sem, reduceIte, Nat.reduceEqDiff]
          exact hR _ _ ⟨hle.trans hle2, -1, rfl, by omega, by omega⟩
        · simp (maxSteps := 2000000) (disch := first | omega | assumption | exact idP rfl | exact idP (bL rfl) | (simp only [alloc_size, upd_size]; done) | (simp only [alloc_size, upd_size]; omega) | fail) only [go_sem, reduceIte, Nat.reduceEqDiff, e0, e5]
          refine hK _ _ ⟨hle.trans hle2, i + 1, k2, by omega, by simp (maxSteps := 2000000) (disch := first | omega | assumption | exact idP rfl | exact idP (bL rfl) | (simp only [alloc_size, upd_size]; done) | (simp only [alloc_size, upd_size]; omega) | fail) only [go_sem, reduceIte, Nat.reduceEqDiff, e0], by simp (maxSteps := 2000000) (disch := first | omega | assumption | exact idP rfl | exact idP (bL rfl) | (simp only [alloc_size, upd_size]; done) | (simp only [alloc_size, upd_size]; omega) | fail) only [go_sem, reduceIte, Nat.reduceEqDiff]; rfl, by simp (maxSteps := 2000000) (disch := first | omega | assumption | exact idP rfl | exact idP (bL rfl) | (simp only [alloc_size, upd_size]; done) | (simp only [alloc_size, upd_size]; omega) | fail) only [go_sem, reduceIte, Nat.reduceEqDiff], by omega, by omega, fun j hj1 hj2 => ?_⟩ (by simp (maxSteps := 2000000) (disch := first | omega | assumption | exact idP rfl | exact idP (bL rfl) | (simp only [alloc_size, upd_size]; done) | (simp only [alloc_size, upd_size]; omega) | fail) only [go_sem, reduceIte, Nat.reduceEqDiff, ctr_int, e5']; omega)
          by_cases hji : j = i
          · subst hji; exact hk3 (by omega)
          · exact hj j hj1 (by omega)
      · simp (maxSteps := 2000000) (disch := first | omega | assumption | exact idP rfl | exact idP (bL rfl) | (simp only [alloc_size, upd_size]; done) | (simp only [alloc_size, upd_size]; omega) | fail) only [go_sem, reduceIte, Nat.reduceEqDiff, e1]
        refine hR _ _ ⟨hle, k, rfl, hk1, fun _ => ⟨by omega, fun xs hxs => ?_⟩⟩
        obtain ⟨j, hj1, rfl⟩ := List.getElem_of_mem hxs
        exact hj j hj1 (by omega)
theorem s_toChain {x : Ch} {w : AV} (hw : InS 1 EI H w x.cl) (h0 : x.cl.length ≤ 1048576) :
    ACall Try.prog n_laws_toChain [.agg [.int .i64 x.a, .int .i64 x.b, .int .i64 x.c, .int .i64 x.p, w]] H (fun r H' => Le H H' ∧ ∃ u, r = .agg [.int .i64 x.a, .int .i64 x.b, .int .i64 x.c, .int .i64 x.p, u] ∧ IsI (H'.later H.size) u x.cl ∧ ∃ bj, u = .sl (some (bj, 0)) x.cl.length x.cl.length true 1 ∧ H.size ≤ bj ∧ bj < H'.size ∧ H'.blk bj = .cells (x.cl.map (AV.int .i64)) true) := by
  refine ACall.of fun R hR => a_laws_toChain rfl ?_
  simp (maxSteps := 2000000) (disch := first | omega | assumption | exact idP rfl | exact idP (bL rfl) | (simp only [alloc_size, upd_size]; done) | (simp only [alloc_size, upd_size]; omega) | fail) only [go_sem, reduceIte, Nat.reduceEqDiff]
  refine (s_toIntS (hw.le mono_I ((((((Le.refl _).allocs.allocs.allocs).updFresh (by omega)).updFresh (by omega)).updFresh (by omega)).updFresh (by omega))) h0).mono ?_
  rintro u H2 ⟨ho, hle, hnew, hrf⟩
  have hle2 := hle.trans (base_le _ _)
  have w2 : H2.rwCells (H.size + 1 + 1) = some [.int .i64 x.a, .int .i64 x.b, .int .i64 x.c, .int .i64 x.p, .sl none 0 0 true 0] := hle2.rwCells (by simp (maxSteps := 2000000) (disch := first | omega | assumption | exact idP rfl | exact idP (bL rfl) | (simp only [alloc_size, upd_size]; done) | (simp only [alloc_size, upd_size]; omega) | fail) only [go_sem, reduceIte, Nat.reduceEqDiff])
  have w1 : H2.rwCells (H.size + 1) = some [.int .i64 0, .int .i64 0, .int .i64 0, .int .i64 0, .sl none 0 0 true 0] := hle2.rwCells (by simp (maxSteps := 2000000) (disch := first | omega | assumption | exact idP rfl | exact idP (bL rfl) | (simp only [alloc_size, upd_size]; done) | (simp only [alloc_size, upd_size]; omega) | fail) only [go_sem, reduceIte, Nat.reduceEqDiff])
  have hsz := hle2.1
  simp only [alloc_size, upd_size] at hsz hnew
  have hu := (ho.later hnew).isI
  have hu1 := (oneA_isS hu).1
  simp only [alloc_size, upd_size] at hrf
  have hpos : H.size + 1 + 1 + 1 < H2.size ∧ H2.blk (H.size + 1 + 1 + 1) = .cells (x.cl.map (AV.int .i64)) true := by
    obtain ⟨A, m, ex, k, e, _, _, q⟩ := ho
    rw [hrf] at e; cases e
    obtain ⟨_, _, q3, q4⟩ := q _ _ rfl
    exact ⟨q3, q4⟩
  simp (maxSteps := 2000000) (disch := first | omega | assumption | exact idP rfl | exact idP (bL rfl) | (simp only [alloc_size, upd_size]; done) | (simp only [alloc_size, upd_size]; omega) | fail) only [go_sem, reduceIte, Nat.reduceEqDiff, w2, w1, (oneA_isS hu).2]
  refine hR _ _ ⟨?_, u, rfl, ?_, H.size + 1 + 1 + 1, hrf, by omega, hpos.1, by rw [upd_blk_ne (by omega), upd_blk_ne (by omega)]; exact hpos.2⟩
  · exact ((((((((Le.refl _).allocs.allocs.allocs).updFresh (by omega)).updFresh (by omega)).updFresh (by omega)).updFresh (by omega)).trans hle2).updFresh (by omega)).updFresh (by omega)
  · exact hu.le ((later_upd (by omega) (Nat.le_refl _)).trans (later_upd (by omega) (by omega)))
theorem zeros_len5 {z : List AV} {n : Nat} (h : z.length = 5) : (zeros z n).length = n * 5 := by
  induction n with
  | zero => rfl
  | succ n ih => simp only [zeros, List.length_append, h, ih]; omega
def TreeC (H : Heap) (lo hi : Nat) (r : AV) (cs : List Ch) : Prop :=
  ∃ (b : Nat) (l : List AV), r = .sl (some (b, 0)) cs.length cs.length true 5 ∧ lo ≤ b ∧ b < hi ∧ b < H.size ∧ H.blk b = .cells l true ∧ l.length = cs.length * 5 ∧
    ∀ j (hj : j < cs.length), ∃ bj, l[j * 5 + 4]? = some (.sl (some (bj, 0)) cs[j].cl.length cs[j].cl.length true 1) ∧ lo ≤ bj ∧ bj < hi ∧ bj ≠ b ∧ bj < H.size ∧ ∃ zs : List Int, zs.length = cs[j].cl.length ∧ H.blk bj = .cells (zs.map (AV.int .i64)) true
theorem TreeC.le {H H' : Heap} {lo hi lo' hi' : Nat} {r : AV} {cs : List Ch} (h : TreeC H lo hi r cs) (hl : Le H H') (h1 : lo' ≤ lo) (h2 : hi ≤ hi') : TreeC H' lo' hi' r cs := by
  obtain ⟨b, l, rfl, q1, q2, q3, q4, q5, q6⟩ := h
  refine ⟨b, l, rfl, by omega, by omega, Nat.lt_of_lt_of_le q3 hl.1, hl.cells q3 q4, q5, fun j hj => ?_⟩
  obtain ⟨bj, r1, r2, r3, r4, r5, zs, r6, r7⟩ := q6 j hj
  exact ⟨bj, r1, by omega, by omega, r4, Nat.lt_of_lt_of_le r5 hl.1, zs, r6, hl.cells r5 r7⟩
theorem s_toChainS {v : AV} {cs : List Ch} (hv : InS 5 ENCh H v cs) (h0 : cs.length ≤ 1048576) (hx : ∀ x ∈ cs, x.cl.length ≤ 1048576) :
    ACall Try.prog n_laws_toChainS [v] H (fun r H' => IsChs (H'.later H.size) r cs ∧ Le H H' ∧ TreeC (H'.later H.size) H.size H'.size r cs) := by
  refine ACall.of fun R hR => a_laws_toChainS rfl ?_
  have hl := hv.len
  simp (maxSteps := 2000000) (disch := first | omega | assumption | exact idP rfl | exact idP (bL rfl) | (simp only [alloc_size, upd_size]; done) | (simp only [alloc_size, upd_size]; omega) | fail) only [go_sem, reduceIte, Nat.reduceEqDiff, hl]
  refine mks_own (by omega) (by simp [mostCells]; omega) (by simp [mostCells]; omega) ?_
  simp (maxSteps := 2000000) (disch := first | omega | assumption | exact idP rfl | exact idP (bL rfl) | (simp only [alloc_size, upd_size]; done) | (simp only [alloc_size, upd_size]; omega) | fail) only [go_sem, reduceIte, Nat.reduceEqDiff]
  refine wp_loop_k (fun e H' => ∃ (i : Nat) (l : List AV), i ≤ cs.length ∧ e 0 = v ∧ e 4 = .int .i64 (i : Int) ∧ e 3 = .sl (some (H.size, 0)) cs.length cs.length true 5 ∧ H.size < H'.size ∧ H'.blk H.size = .cells l true ∧ l.length = cs.length * 5 ∧
    (∀ j (hj : j < cs.length), j < i → ∃ u, (∀ k x, [AV.int .i64 cs[j].a, .int .i64 cs[j].b, .int .i64 cs[j].c, .int .i64 cs[j].p, u][k]? = some x → l[j * 5 + k]? = some x) ∧ IsI ((H'.kill H.size).later H.size) u cs[j].cl ∧ ∃ bj, u = .sl (some (bj, 0)) cs[j].cl.length cs[j].cl.length true 1 ∧ H.size < bj ∧ bj < H'.size ∧ H'.blk bj = .cells (cs[j].cl.map (AV.int .i64)) true) ∧ Le H (H'.kill H.size)) (fun e _ => ctr cs.length (e 4)) ?_ ?_
  · exact ⟨0, _, Nat.zero_le _, by simp (maxSteps := 2000000) (disch := first | omega | assumption | exact idP rfl | exact idP (bL rfl) | (simp only [alloc_size, upd_size]; done) | (simp only [alloc_size, upd_size]; omega) | fail) only [go_sem, reduceIte, Nat.reduceEqDiff], by simp (maxSteps := 2000000) (disch := first | omega | assumption | exact idP rfl | exact idP (bL rfl) | (simp only [alloc_size, upd_size]; done) | (simp only [alloc_size, upd_size]; omega) | fail) only [go_sem, reduceIte, Nat.reduceEqDiff]; rfl, by simp (maxSteps := 2000000) (disch := first | omega | assumption | exact idP rfl | exact idP (bL rfl) | (simp only [alloc_size, upd_size]; done) | (simp only [alloc_size, upd_size]; omega) | fail) only [go_sem, reduceIte, Nat.reduceEqDiff]; rfl, Nat.lt_succ_self _, alloc_new _ _, by rw [zeros_len5 rfl], fun j _ h => by omega, (Le.alloc _ _).killFresh (Nat.le_refl _)⟩
  · rintro e H1 ⟨i, l, hi, e0, e4, e3, hb, hblk, hll, hj, hle⟩ K hK
    simp (maxSteps := 2000000) (disch := first | omega | assumption | exact idP rfl | exact idP (bL rfl) | (simp only [alloc_size, upd_size]; done) | (simp only [alloc_size, upd_size]; omega) | fail) only [go_sem, reduceIte, Nat.reduceEqDiff, e0, e4, e3, hl]
    refine condV_dec (fun h => ?_) (fun h => ?_)
    · have hi' : i < cs.length := by omega
      obtain ⟨A, c, ex, kk, w, rfl, hg, hw⟩ := inCh_get hv hi'
      have hle1 := hle.trans (Le.kill _ _)
      have hg := hg.le hle1
      have q2 : H1.get A.b (A.o + i * 5 + 1 + 1) = some (.int .i64 cs[i].c) := hg.g2
      have q3 : H1.get A.b (A.o + i * 5 + 1 + 1 + 1) = some (.int .i64 cs[i].p) := hg.g3
      have q4 : H1.get A.b (A.o + i * 5 + 1 + 1 + 1 + 1) = some w := hg.g4
      have e4' := e4
      simp (maxSteps := 2000000) (disch := first | omega | assumption | exact idP rfl | exact idP (bL rfl) | (simp only [alloc_size, upd_size]; done) | (simp only [alloc_size, upd_size]; omega) | fail) only [go_sem, reduceIte, Nat.reduceEqDiff, e0, e4, e3, hg.g0, hg.g1, q2, q3, q4]
      refine (s_toChain (x := cs[i]) (hw.le mono_I hle1) (hx _ (List.getElem_mem _))).mono ?_
      rintro r H2 ⟨hle3, u, rfl, hri, bu, hbu, hbu1, hbu2, hbu3⟩
      have hb2 : H.size < H2.size := Nat.lt_of_lt_of_le hb hle3.1
      have hblk2 := hle3.cells hb hblk
      have ho1 := (oneA_isS hri).1
      simp (maxSteps := 2000000) (disch := first | omega | assumption | exact idP rfl | exact idP (bL rfl) | (simp only [alloc_size, upd_size]; done) | (simp only [alloc_size, upd_size]; omega) | fail) only [go_sem, reduceIte, Nat.reduceEqDiff, e0, e4, e3, rwCells_of hb2 hblk2]
      refine hK _ _ ⟨i + 1, setAt l (i * 5) [.int .i64 cs[i].a, .int .i64 cs[i].b, .int .i64 cs[i].c, .int .i64 cs[i].p, u], by omega, by simp (maxSteps := 2000000) (disch := first | omega | assumption | exact idP rfl | exact idP (bL rfl) | (simp only [alloc_size, upd_size]; done) | (simp only [alloc_size, upd_size]; omega) | fail) only [go_sem, reduceIte, Nat.reduceEqDiff, e0], by simp (maxSteps := 2000000) (disch := first | omega | assumption | exact idP rfl | exact idP (bL rfl) | (simp only [alloc_size, upd_size]; done) | (simp only [alloc_size, upd_size]; omega) | fail) only [go_sem, reduceIte, Nat.reduceEqDiff]; rfl, by simp (maxSteps := 2000000) (disch := first | omega | assumption | exact idP rfl | exact idP (bL rfl) | (simp only [alloc_size, upd_size]; done) | (simp only [alloc_size, upd_size]; omega) | fail) only [go_sem, reduceIte, Nat.reduceEqDiff, e3], hb2, upd_blk_same', by rw [setAt_len]; exact hll, fun j hj1 hj2 => ?_, ?_⟩ (by simp (maxSteps := 2000000) (disch := first | omega | assumption | exact idP rfl | exact idP (bL rfl) | (simp only [alloc_size, upd_size]; done) | (simp only [alloc_size, upd_size]; omega) | fail) only [go_sem, reduceIte, Nat.reduceEqDiff, ctr_int, e4']; omega)
      · rw [upd_kill]
        by_cases hji : j = i
        · subst hji
          refine ⟨u, fun k x hk => ?_, hri.le (later_kill' (by omega) (by omega)), bu, hbu, by omega, hbu2, by rw [upd_blk_ne (by omega)]; exact hbu3⟩
          have hk5 : k < 5 := (List.getElem?_eq_some_iff.1 hk).1
          rw [setAt_get (by simp; omega), if_pos (by simp; omega), show j * 5 + k - j * 5 = k by omega]
          exact hk
        · obtain ⟨u', h1, h2, bj, h3, h4, h5, h6⟩ := hj j hj1 (by omega)
          refine ⟨u', fun k x hk => ?_, h2.le (later_mono (hle3.kills _) (Nat.le_refl _)), bj, h3, h4, Nat.lt_of_lt_of_le h5 hle3.1, by rw [upd_blk_ne (by omega)]; exact hle3.cells h5 h6⟩
          have hk5 : k < 5 := (List.getElem?_eq_some_iff.1 hk).1
          rw [setAt_get (by simp; omega), if_neg (by simp; omega)]
          exact h1 k x hk
      · rw [upd_kill]; exact hle.trans (hle3.kills _)
    · simp (maxSteps := 2000000) (disch := first | omega | assumption | exact idP rfl | exact idP (bL rfl) | (simp only [alloc_size, upd_size]; done) | (simp only [alloc_size, upd_size]; omega) | fail) only [go_sem, reduceIte, Nat.reduceEqDiff, e3]
      refine hR _ _ ⟨⟨some (H.size, 0), cs.length, true, 5, rfl, fun j hj1 => ?_⟩, hle.trans (Le.kill _ _), H.size, l, rfl, Nat.le_refl _, hb, hb, by rw [later_blk (Nat.le_refl _)]; exact hblk, hll, fun j hj1 => ?_⟩
      · obtain ⟨u', h1, h2, _⟩ := hj j hj1 (by omega)
        refine ⟨_, rfl, fun k x hk => ?_, u', rfl, h2.le (later_mono (Le.kill _ _) (Nat.le_refl _))⟩
        have := Rd.blk (H := H1.later H.size) (b := H.size) (l := l) hb (by rw [later_blk (Nat.le_refl _)]; exact hblk) (j * 5 + k) x (h1 k x hk)
        simpa using this
      · obtain ⟨u', h1, h2, bj, rfl, h4, h5, h6⟩ := hj j hj1 (by omega)
        exact ⟨bj, h1 4 _ rfl, by omega, h5, by omega, h5, _, rfl, by rw [later_blk (by omega)]; exact h6⟩
theorem s_eqChain {x : Ch} {u w : AV} (hu : IsI H u x.cl) (hw : IsI H w x.cl) (h0 : x.cl.length ≤ 1048576) :
    ACall Try.prog n_laws_eqChain [.agg [.int .i64 x.a, .int .i64 x.b, .int .i64 x.c, .int .i64 x.p, u], .agg [.int .i64 x.a, .int .i64 x.b, .int .i64 x.c, .int .i64 x.p, w]] H (fun r H' => r = .bool true ∧ Le H H') := by
  refine ACall.of fun R hR => a_laws_eqChain rfl ?_
  simp (maxSteps := 2000000) (disch := first | omega | assumption | exact idP rfl | exact idP (bL rfl) | (simp only [alloc_size, upd_size]; done) | (simp only [alloc_size, upd_size]; omega) | fail) only [go_sem, reduceIte, Nat.reduceEqDiff, decide_true]
  refine (s_eqIntS (hu.le (Le.refl _).allocs.allocs) (hw.le (Le.refl _).allocs.allocs) h0).mono ?_
  rintro r H2 ⟨rfl, rfl⟩
  simp (maxSteps := 2000000) (disch := first | omega | assumption | exact idP rfl | exact idP (bL rfl) | (simp only [alloc_size, upd_size]; done) | (simp only [alloc_size, upd_size]; omega) | fail) only [go_sem, reduceIte, Nat.reduceEqDiff]
  exact hR _ _ ⟨rfl, (Le.refl _).allocs.allocs⟩
theorem s_eqChainS {u v : AV} {cs : List Ch} (hu : IsChs H u cs) (hv : IsChs H v cs) (h0 : cs.length ≤ 1048576) (hx : ∀ x ∈ cs, x.cl.length ≤ 1048576) : ACall Try.prog n_laws_eqChainS [u, v] H (fun r H' => r = .bool true ∧ Le H H') := by
  refine ACall.of fun R hR => a_laws_eqChainS rfl ?_
  obtain ⟨A, c, ex, k, rfl, hr⟩ := hu.parts
  obtain ⟨A', c', ex', k', rfl, hr'⟩ := hv.parts
  simp (maxSteps := 2000000) (disch := first | omega | assumption | exact idP rfl | exact idP (bL rfl) | (simp only [alloc_size, upd_size]; done) | (simp only [alloc_size, upd_size]; omega) | fail) only [go_sem, reduceIte, Nat.reduceEqDiff, decide_true]
  refine wp_loop_k (fun e H' => Le H H' ∧ ∃ (i : Nat), i ≤ cs.length ∧ e 0 = .sl A cs.length c ex k ∧ e 1 = .sl A' cs.length c' ex' k' ∧ e 5 = .int .i64 (i : Int)) (fun e _ => ctr cs.length (e 5)) ?_ ?_
  · exact ⟨Le.refl _, 0, Nat.zero_le _, by simp (maxSteps := 2000000) (disch := first | omega | assumption | exact idP rfl | exact idP (bL rfl) | (simp only [alloc_size, upd_size]; done) | (simp only [alloc_size, upd_size]; omega) | fail) only [go_sem, reduceIte, Nat.reduceEqDiff], by simp (maxSteps := 2000000) (disch := first | omega | assumption | exact idP rfl | exact idP (bL rfl) | (simp only [alloc_size, upd_size]; done) | (simp only [alloc_size, upd_size]; omega) | fail) only [go_sem, reduceIte, Nat.reduceEqDiff], by simp (maxSteps := 2000000) (disch := first | omega | assumption | exact idP rfl | exact idP (bL rfl) | (simp only [alloc_size, upd_size]; done) | (simp only [alloc_size, upd_size]; omega) | fail) only [go_sem, reduceIte, Nat.reduceEqDiff]; rfl⟩
  · rintro e H1 ⟨hle, i, hi, e0, e1, e5⟩ K hK
    simp (maxSteps := 2000000) (disch := first | omega | assumption | exact idP rfl | exact idP (bL rfl) | (simp only [alloc_size, upd_size]; done) | (simp only [alloc_size, upd_size]; omega) | fail) only [go_sem, reduceIte, Nat.reduceEqDiff, e0, e1, e5]
    refine condV_dec (fun h => ?_) (fun h => ?_)
    · have hi' : i < cs.length := by omega
      obtain ⟨a, hg, ha⟩ := hr i hi'
      obtain ⟨b, hg', hb⟩ := hr' i hi'
      have hg := hg.le hle
      have hg' := hg'.le hle
      have q2 : H1.get A.b (A.o + i * 5 + 1 + 1) = some (.int .i64 cs[i].c) := hg.g2
      have q3 : H1.get A.b (A.o + i * 5 + 1 + 1 + 1) = some (.int .i64 cs[i].p) := hg.g3
      have q4 : H1.get A.b (A.o + i * 5 + 1 + 1 + 1 + 1) = some a := hg.g4
      have r2 : H1.get A'.b (A'.o + i * 5 + 1 + 1) = some (.int .i64 cs[i].c) := hg'.g2
      have r3 : H1.get A'.b (A'.o + i * 5 + 1 + 1 + 1) = some (.int .i64 cs[i].p) := hg'.g3
      have r4 : H1.get A'.b (A'.o + i * 5 + 1 + 1 + 1 + 1) = some b := hg'.g4
      have e5' := e5
      simp (maxSteps := 2000000) (disch := first | omega | assumption | exact idP rfl | exact idP (bL rfl) | (simp only [alloc_size, upd_size]; done) | (simp only [alloc_size, upd_size]; omega) | fail) only [go_sem, reduceIte, Nat.reduceEqDiff, e0, e1, e5, hg.g0, hg.g1, q2, q3, q4, hg'.g0, hg'.g1, r2, r3, r4]
      refine (s_eqChain (x := cs[i]) (ha.le hle) (hb.le hle) (hx _ (List.getElem_mem _))).mono ?_
      rintro r H2 ⟨rfl, hle2⟩
      simp (maxSteps := 2000000) (disch := first | omega | assumption | exact idP rfl | exact idP (bL rfl) | (simp only [alloc_size, upd_size]; done) | (simp only [alloc_size, upd_size]; omega) | fail) only [go_sem, reduceIte, Nat.reduceEqDiff, e0, e1, e5]
      exact hK _ _ ⟨hle.trans hle2, i + 1, by omega, by simp (maxSteps := 2000000) (disch := first | omega | assumption | exact idP rfl | exact idP (bL rfl) | (simp only [alloc_size, upd_size]; done) | (simp only [alloc_size, upd_size]; omega) | fail) only [go_sem, reduceIte, Nat.reduceEqDiff, e0], by simp (maxSteps := 2000000) (disch := first | omega | assumption | exact idP rfl | exact idP (bL rfl) | (simp only [alloc_size, upd_size]; done) | (simp only [alloc_size, upd_size]; omega) | fail) only [go_sem, reduceIte, Nat.reduceEqDiff, e1], by simp (maxSteps := 2000000) (disch := first | omega | assumption | exact idP rfl | exact idP (bL rfl) | (simp only [alloc_size, upd_size]; done) | (simp only [alloc_size, upd_size]; omega) | fail) only [go_sem, reduceIte, Nat.reduceEqDiff]; rfl⟩ (by simp (maxSteps := 2000000) (disch := first | omega | assumption | exact idP rfl | exact idP (bL rfl) | (simp only [alloc_size, upd_size]; done) | (simp only [alloc_size, upd_size]; omega) | fail) only [go_sem, reduceIte, Nat.reduceEqDiff, ctr_int, e5']; omega)
    · simp (maxSteps := 2000000) (disch := first | omega | assumption | exact idP rfl | exact idP (bL rfl) | (simp only [alloc_size, upd_size]; done) | (simp only [alloc_size, upd_size]; omega) | fail) only [go_sem, reduceIte, Nat.reduceEqDiff]
      exact hR _ _ ⟨rfl, hle⟩
end Go.M2

namespace Go.M2
open Go.Proofs
variable {H : Heap}
def ch0 : Ch := ⟨0, 0, 0, 0, []⟩
def StepOk (xss : List (List Int)) (cs : List Ch) (i : Nat) (x : Ch) : Prop :=
  (0 ≤ x.a ∧ x.a < xss.length ∧ x.b = -1 ∧ x.c = -1 ∧ x.p = 0 ∧ x.cl = xss.getD x.a.toNat []) ∨
  (x.a = -1 ∧ 0 ≤ x.b ∧ x.b < i ∧ 0 ≤ x.c ∧ x.c < i ∧ ResRes (cs.getD x.b.toNat ch0).cl (cs.getD x.c.toNat ch0).cl x.p x.cl true)
structure ChainsOk (n : Int) (xss : List (List Int)) (cs : List Ch) : Prop where
  ok : ClsOk n xss
  lo : 1 ≤ cs.length
  hi : cs.length ≤ 3000
  all : ∀ i (h : i < cs.length), StepOk xss cs i cs[i]
  last : (cs.getD (cs.length - 1) ch0).cl = []
theorem stepA {xss : List (List Int)} {cs : List Ch} {i : Nat} {x : Ch} (h : 0 ≤ x.a) : StepOk xss cs i x ↔ (x.a < xss.length ∧ x.b = -1 ∧ x.c = -1 ∧ x.p = 0 ∧ x.cl = xss.getD x.a.toNat []) := by
  unfold StepOk
  constructor
  · rintro (⟨h0, h1⟩ | ⟨h0, _⟩)
    · exact h1
    · omega
  · intro h1; exact .inl ⟨h, h1⟩
theorem stepB {xss : List (List Int)} {cs : List Ch} {i : Nat} {x : Ch} (h : x.a = -1) : StepOk xss cs i x ↔ (0 ≤ x.b ∧ x.b < i ∧ 0 ≤ x.c ∧ x.c < i ∧ ResRes (cs.getD x.b.toNat ch0).cl (cs.getD x.c.toNat ch0).cl x.p x.cl true) := by
  unfold StepOk
  constructor
  · rintro (⟨h0, h1⟩ | ⟨h0, h1⟩)
    · omega
    · exact h1
  · intro h1; exact .inr ⟨h, h1⟩
theorem stepC {xss : List (List Int)} {cs : List Ch} {i : Nat} {x : Ch} (h : x.a < 0) (h1 : x.a ≠ -1) : ¬ StepOk xss cs i x := by
  unfold StepOk
  rintro (⟨h0, _⟩ | ⟨h0, _⟩) <;> omega
theorem getD_at {α : Type} {l : List α} {d : α} {i : Nat} (h : i < l.length) : l.getD i d = l[i] := by simp [List.getD, h]
theorem iff_f {p : Prop} (h : ¬ p) : (false = true ↔ p) := by simp [h]
set_option maxHeartbeats 8000000 in
theorem s_l13Step {v w : AV} {n : Int} {xss : List (List Int)} {cs : List Ch} {i : Nat} (hx : IsII H v xss) (hl : xss.length ≤ 1048576) (hxl : ∀ xs ∈ xss, xs.length ≤ 1048576) (hw : IsChs H w cs) (hc : cs.length ≤ 1048576) (hcl : ∀ x ∈ cs, x.cl.length ≤ 1048576) (hi : i < cs.length) :
    ACall Try.prog n_spec_l13Step [.agg [.int .i64 n, v], w, .int .i64 (i : Int)] H (fun r H' => Le H H' ∧ ∃ b, r = .bool b ∧ (b = true ↔ StepOk xss cs i cs[i])) := by
  refine ACall.of fun R hR => a_spec_l13Step rfl ?_
  obtain ⟨A, c, ex, k, rfl, hr⟩ := hw.parts
  obtain ⟨Ax, cx, exx, kx, rfl, hrx⟩ := hx.parts
  obtain ⟨u, g, hu⟩ := hr i hi
  have hul := hcl _ (List.getElem_mem hi)
  generalize hxi : cs[i] = x at *
  have ga := g.le (Le.alloc H [.int .i64 n, .sl Ax xss.length cx exx kx])
  have q2 : (H.alloc [.int .i64 n, .sl Ax xss.length cx exx kx]).get A.b (A.o + i * 5 + 1 + 1) = some (.int .i64 x.c) := ga.g2
  have q3 : (H.alloc [.int .i64 n, .sl Ax xss.length cx exx kx]).get A.b (A.o + i * 5 + 1 + 1 + 1) = some (.int .i64 x.p) := ga.g3
  have q4 : (H.alloc [.int .i64 n, .sl Ax xss.length cx exx kx]).get A.b (A.o + i * 5 + 1 + 1 + 1 + 1) = some u := ga.g4
  have hu1 := (oneA_isS hu).1
  simp (maxSteps := 2000000) (disch := first | omega | assumption | exact idP rfl | exact idP (bL rfl) | (simp only [alloc_size, upd_size]; done) | (simp only [alloc_size, upd_size]; omega) | fail) only [go_sem, reduceIte, Nat.reduceEqDiff, ga.g0, ga.g1, q2, q3, q4]
  have hLB : Le H (((H.alloc [.int .i64 n, .sl Ax xss.length cx exx kx]).alloc [.int .i64 0, .int .i64 0, .int .i64 0, .int .i64 0, .sl none 0 0 true 0]).upd (H.size + 1) (.cells [.int .i64 x.a, .int .i64 x.b, .int .i64 x.c, .int .i64 x.p, u] true)) := ((Le.refl _).allocs.allocs).updFresh (by omega)
  have gc1 : (((H.alloc [.int .i64 n, .sl Ax xss.length cx exx kx]).alloc [.int .i64 0, .int .i64 0, .int .i64 0, .int .i64 0, .sl none 0 0 true 0]).upd (H.size + 1) (.cells [.int .i64 x.a, .int .i64 x.b, .int .i64 x.c, .int .i64 x.p, u] true)).get H.size 1 = some (.sl Ax xss.length cx exx kx) := by simp (maxSteps := 2000000) (disch := first | omega | assumption | exact idP rfl | exact idP (bL rfl) | (simp only [alloc_size, upd_size]; done) | (simp only [alloc_size, upd_size]; omega) | fail) only [go_sem, reduceIte, Nat.reduceEqDiff]
  have gd : ∀ j, (((H.alloc [.int .i64 n, .sl Ax xss.length cx exx kx]).alloc [.int .i64 0, .int .i64 0, .int .i64 0, .int .i64 0, .sl none 0 0 true 0]).upd (H.size + 1) (.cells [.int .i64 x.a, .int .i64 x.b, .int .i64 x.c, .int .i64 x.p, u] true)).get (H.size + 1) j = [AV.int .i64 x.a, .int .i64 x.b, .int .i64 x.c, .int .i64 x.p, u][j]? := fun j => by rw [get_upd_same (by simp only [alloc_size]; omega)]
  generalize hG : (((H.alloc [AV.int .i64 n, .sl Ax xss.length cx exx kx]).alloc [.int .i64 0, .int .i64 0, .int .i64 0, .int .i64 0, .sl none 0 0 true 0]).upd (H.size + 1) (.cells [.int .i64 x.a, .int .i64 x.b, .int .i64 x.c, .int .i64 x.p, u] true)) = G at *
  have d0 : G.get (H.size + 1) 0 = some (.int .i64 x.a) := gd 0
  have d1 : G.get (H.size + 1) 1 = some (.int .i64 x.b) := gd 1
  have d2 : G.get (H.size + 1) 2 = some (.int .i64 x.c) := gd 2
  have d3 : G.get (H.size + 1) 3 = some (.int .i64 x.p) := gd 3
  have d4 : G.get (H.size + 1) 4 = some u := gd 4
  have fin : ∀ b : Bool, (b = true ↔ StepOk xss cs i x) → R (.bool b) G := fun b hb => hR _ _ ⟨hLB, b, rfl, hb⟩
  clear gd
  refine condV_dec (fun ha0 => ?_) (fun ha0 => ?_)
  · by_cases h1 : x.a < (xss.length : Int)
    · by_cases h2 : x.b = -1
      · by_cases h3 : x.c = -1
        · by_cases h4 : x.p = 0
          · have hil : x.a.toNat < xss.length := by omega
            obtain ⟨u2, hg2, hu2⟩ := hrx x.a.toNat hil
            have hg2 := hLB.get hg2
            rw [Nat.mul_one] at hg2
            simp (maxSteps := 2000000) (disch := first | omega | assumption | exact idP rfl | exact idP (bL rfl) | (simp only [alloc_size, upd_size]; done) | (simp only [alloc_size, upd_size]; omega) | fail) only [go_sem, reduceIte, Nat.reduceEqDiff, d0, d1, d2, d3, d4, gc1, h1, h2, h3, h4, hg2, decide_true]
            refine (s_l2Same (hu.le hLB) (hu2.le hLB) hul (hxl _ (List.getElem_mem hil))).mono ?_
            rintro r H3 ⟨rfl, b, rfl, hb⟩
            simp (maxSteps := 2000000) (disch := first | omega | assumption | exact idP rfl | exact idP (bL rfl) | (simp only [alloc_size, upd_size]; done) | (simp only [alloc_size, upd_size]; omega) | fail) only [go_sem, reduceIte, Nat.reduceEqDiff]
            refine fin b ?_
            rw [hb, stepA ha0, getD_at hil]
            constructor
            · intro h; exact ⟨h1, h2, h3, h4, h⟩
            · intro h; exact h.2.2.2.2
          · simp (maxSteps := 2000000) (disch := first | omega | assumption | exact idP rfl | exact idP (bL rfl) | (simp only [alloc_size, upd_size]; done) | (simp only [alloc_size, upd_size]; omega) | fail) only [go_sem, reduceIte, Nat.reduceEqDiff, d0, d1, d2, d3, d4, gc1, h1, h2, h3, h4, decide_true, decide_false]
            exact fin false (iff_f fun h => h4 ((stepA ha0).1 h).2.2.2.1)
        · simp (maxSteps := 2000000) (disch := first | omega | assumption | exact idP rfl | exact idP (bL rfl) | (simp only [alloc_size, upd_size]; done) | (simp only [alloc_size, upd_size]; omega) | fail) only [go_sem, reduceIte, Nat.reduceEqDiff, d0, d1, d2, d3, d4, gc1, h1, h2, h3, decide_true, decide_false]
          exact fin false (iff_f fun h => h3 ((stepA ha0).1 h).2.2.1)
      · simp (maxSteps := 2000000) (disch := first | omega | assumption | exact idP rfl | exact idP (bL rfl) | (simp only [alloc_size, upd_size]; done) | (simp only [alloc_size, upd_size]; omega) | fail) only [go_sem, reduceIte, Nat.reduceEqDiff, d0, d1, d2, d3, d4, gc1, h1, h2, decide_true, decide_false]
        exact fin false (iff_f fun h => h2 ((stepA ha0).1 h).2.1)
    · simp (maxSteps := 2000000) (disch := first | omega | assumption | exact idP rfl | exact idP (bL rfl) | (simp only [alloc_size, upd_size]; done) | (simp only [alloc_size, upd_size]; omega) | fail) only [go_sem, reduceIte, Nat.reduceEqDiff, d0, d1, d2, d3, d4, gc1, h1, decide_false]
      exact fin false (iff_f fun h => h1 ((stepA ha0).1 h).1)
  · by_cases h1 : x.a = -1
    · have iff0 := stepB (xss := xss) (cs := cs) (i := i) h1
      have h1' : ¬ (x.a ≠ -1) := fun h => h h1
      simp (maxSteps := 2000000) (disch := first | omega | assumption | exact idP rfl | exact idP (bL rfl) | (simp only [alloc_size, upd_size]; done) | (simp only [alloc_size, upd_size]; omega) | fail) only [go_sem, reduceIte, Nat.reduceEqDiff, d0, h1, h1', decide_false]
      simp (maxSteps := 2000000) (disch := first | omega | assumption | exact idP rfl | exact idP (bL rfl) | (simp only [alloc_size, upd_size]; done) | (simp only [alloc_size, upd_size]; omega) | fail) only [go_sem, reduceIte, Nat.reduceEqDiff, d1]
      refine s_l1In.mono ?_
      rintro r H3 ⟨rfl, rfl⟩
      by_cases h2 : 0 ≤ x.b ∧ x.b ≤ (i : Int) - 1
      · simp (maxSteps := 2000000) (disch := first | omega | assumption | exact idP rfl | exact idP (bL rfl) | (simp only [alloc_size, upd_size]; done) | (simp only [alloc_size, upd_size]; omega) | fail) only [go_sem, reduceIte, Nat.reduceEqDiff, h2, decide_true, d2]
        refine s_l1In.mono ?_
        rintro r H4 ⟨rfl, rfl⟩
        by_cases h3 : 0 ≤ x.c ∧ x.c ≤ (i : Int) - 1
        · have hB : x.b.toNat < cs.length := by omega
          have hC : x.c.toNat < cs.length := by omega
          obtain ⟨ub, gb, hub⟩ := hr x.b.toNat hB
          obtain ⟨uc, gc, huc⟩ := hr x.c.toNat hC
          have kb := hLB.get gb.g4
          have kc := hLB.get gc.g4
          simp (maxSteps := 2000000) (disch := first | omega | assumption | exact idP rfl | exact idP (bL rfl) | (simp only [alloc_size, upd_size]; done) | (simp only [alloc_size, upd_size]; omega) | fail) only [go_sem, reduceIte, Nat.reduceEqDiff, h3, decide_true, d1, d2, d3, d4, kb, kc]
          refine (s_specResolved (hub.le hLB) (huc.le hLB) (hcl _ (List.getElem_mem hB)) (hcl _ (List.getElem_mem hC))).mono ?_
          rintro r H5 ⟨hle5, w5, zs, ok, rfl, hw5, hres⟩
          rw [getD_at hB, getD_at hC] at iff0
          have d4' := hle5.get d4
          cases ok with
          | false =>
            simp (maxSteps := 2000000) (disch := first | omega | assumption | exact idP rfl | exact idP (bL rfl) | (simp only [alloc_size, upd_size]; done) | (simp only [alloc_size, upd_size]; omega) | fail) only [go_sem, reduceIte, Nat.reduceEqDiff]
            refine hR _ _ ⟨hLB.trans hle5, false, rfl, iff_f fun h => ?_⟩
            have := (hres.det (iff0.1 h).2.2.2.2).2
            cases this
          | true =>
            simp (maxSteps := 2000000) (disch := first | omega | assumption | exact idP rfl | exact idP (bL rfl) | (simp only [alloc_size, upd_size]; done) | (simp only [alloc_size, upd_size]; omega) | fail) only [go_sem, reduceIte, Nat.reduceEqDiff, d4']
            refine (s_l2Same (hu.le (hLB.trans hle5)) hw5 hul (by have := hres.short; omega)).mono ?_
            rintro r H6 ⟨rfl, b, rfl, hb⟩
            simp (maxSteps := 2000000) (disch := first | omega | assumption | exact idP rfl | exact idP (bL rfl) | (simp only [alloc_size, upd_size]; done) | (simp only [alloc_size, upd_size]; omega) | fail) only [go_sem, reduceIte, Nat.reduceEqDiff]
            refine hR _ _ ⟨hLB.trans hle5, b, rfl, ?_⟩
            rw [hb, iff0]
            constructor
            · rintro rfl; exact ⟨h2.1, by omega, h3.1, by omega, hres⟩
            · intro h; exact (h.2.2.2.2.det hres).1
        · simp (maxSteps := 2000000) (disch := first | omega | assumption | exact idP rfl | exact idP (bL rfl) | (simp only [alloc_size, upd_size]; done) | (simp only [alloc_size, upd_size]; omega) | fail) only [go_sem, reduceIte, Nat.reduceEqDiff, h3, decide_false]
          exact fin false (iff_f fun h => h3 ⟨(iff0.1 h).2.2.1, by have := (iff0.1 h).2.2.2.1; omega⟩)
      · simp (maxSteps := 2000000) (disch := first | omega | assumption | exact idP rfl | exact idP (bL rfl) | (simp only [alloc_size, upd_size]; done) | (simp only [alloc_size, upd_size]; omega) | fail) only [go_sem, reduceIte, Nat.reduceEqDiff, h2, decide_false]
        exact fin false (iff_f fun h => h2 ⟨(iff0.1 h).1, by have := (iff0.1 h).2.1; omega⟩)
    · simp (maxSteps := 2000000) (disch := first | omega | assumption | exact idP rfl | exact idP (bL rfl) | (simp only [alloc_size, upd_size]; done) | (simp only [alloc_size, upd_size]; omega) | fail) only [go_sem, reduceIte, Nat.reduceEqDiff, d0, h1, decide_true]
      exact fin false (iff_f (stepC (by omega) h1))
end Go.M2

namespace Go.M2
open Go.Proofs
variable {H : Heap}
theorem s_specCheckChains {x w : AV} {n : Int} {xss : List (List Int)} {cs : List Ch} (hx : IsCl H x n xss) (hl : xss.length ≤ 1048576) (hxl : ∀ xs ∈ xss, xs.length ≤ 1048576) (hw : IsChs H w cs) (hc : cs.length ≤ 1048576) (hcl : ∀ x ∈ cs, x.cl.length ≤ 1048576) :
    ACall Try.prog n_spec_CheckChains [x, w] H (fun r H' => Le H H' ∧ ∃ b, r = .bool b ∧ (b = true ↔ ChainsOk n xss cs)) := by
  refine ACall.of fun R hR => a_spec_CheckChains rfl ?_
  obtain ⟨fl, rfl, hv⟩ := hx
  obtain ⟨A, c, ex, k, rfl, hr⟩ := hw.parts
  simp (maxSteps := 2000000) (disch := first | omega | assumption | exact idP rfl | exact idP (bL rfl) | (simp only [alloc_size, upd_size]; done) | (simp only [alloc_size, upd_size]; omega) | fail) only [go_sem, reduceIte, Nat.reduceEqDiff]
  have hcl1 : IsCl (H.alloc [.int .i64 n, fl]) (.agg [.int .i64 n, fl]) n xss := ⟨fl, rfl, hv.le (Le.alloc _ _)⟩
  refine (s_specClausesValid hcl1 hl hxl).mono ?_
  rintro r H1 ⟨hle1, b, rfl, hb⟩
  have hH1 := (Le.alloc H [.int .i64 n, fl]).trans hle1
  have g0 : H1.get H.size 0 = some (.int .i64 n) := hle1.get (by simp (maxSteps := 2000000) (disch := first | omega | assumption | exact idP rfl | exact idP (bL rfl) | (simp only [alloc_size, upd_size]; done) | (simp only [alloc_size, upd_size]; omega) | fail) only [go_sem, reduceIte, Nat.reduceEqDiff])
  have g1 : H1.get H.size 1 = some fl := hle1.get (by simp (maxSteps := 2000000) (disch := first | omega | assumption | exact idP rfl | exact idP (bL rfl) | (simp only [alloc_size, upd_size]; done) | (simp only [alloc_size, upd_size]; omega) | fail) only [go_sem, reduceIte, Nat.reduceEqDiff])
  cases b with
  | false =>
    simp (maxSteps := 2000000) (disch := first | omega | assumption | exact idP rfl | exact idP (bL rfl) | (simp only [alloc_size, upd_size]; done) | (simp only [alloc_size, upd_size]; omega) | fail) only [go_sem, reduceIte, Nat.reduceEqDiff]
    exact hR _ _ ⟨hH1, false, rfl, iff_f fun h => by have := hb.2 h.ok; cases this⟩
  | true =>
  have hok := hb.1 rfl
  simp (maxSteps := 2000000) (disch := first | omega | assumption | exact idP rfl | exact idP (bL rfl) | (simp only [alloc_size, upd_size]; done) | (simp only [alloc_size, upd_size]; omega) | fail) only [go_sem, reduceIte, Nat.reduceEqDiff]
  refine s_l1In.mono ?_
  rintro r H2 ⟨rfl, rfl⟩
  by_cases h3 : (1 : Int) ≤ (cs.length : Int) ∧ (cs.length : Int) ≤ 3000
  · simp (maxSteps := 2000000) (disch := first | omega | assumption | exact idP rfl | exact idP (bL rfl) | (simp only [alloc_size, upd_size]; done) | (simp only [alloc_size, upd_size]; omega) | fail) only [go_sem, reduceIte, Nat.reduceEqDiff, h3, decide_true]
    refine wp_loop_k (fun e H' => Le H2 H' ∧ ∃ i : Nat, i ≤ cs.length ∧ e 1 = .sl A cs.length c ex k ∧ e 2 = .ptr (some (H.size, 0)) ∧ e 5 = .int .i64 (i : Int) ∧ ∀ j (h : j < cs.length), j < i → StepOk xss cs j cs[j]) (fun e _ => ctr cs.length (e 5)) ?_ ?_
    · exact ⟨Le.refl _, 0, Nat.zero_le _, by simp (maxSteps := 2000000) (disch := first | omega | assumption | exact idP rfl | exact idP (bL rfl) | (simp only [alloc_size, upd_size]; done) | (simp only [alloc_size, upd_size]; omega) | fail) only [go_sem, reduceIte, Nat.reduceEqDiff], by simp (maxSteps := 2000000) (disch := first | omega | assumption | exact idP rfl | exact idP (bL rfl) | (simp only [alloc_size, upd_size]; done) | (simp only [alloc_size, upd_size]; omega) | fail) only [go_sem, reduceIte, Nat.reduceEqDiff], by simp (maxSteps := 2000000) (disch := first | omega | assumption | exact idP rfl | exact idP (bL rfl) | (simp only [alloc_size, upd_size]; done) | (simp only [alloc_size, upd_size]; omega) | fail) only [go_sem, reduceIte, Nat.reduceEqDiff]; rfl, fun j _ h => by omega⟩
    · rintro e H3 ⟨hle3, i, hi, e1, e2, e5, hj⟩ K hK
      simp (maxSteps := 2000000) (disch := first | omega | assumption | exact idP rfl | exact idP (bL rfl) | (simp only [alloc_size, upd_size]; done) | (simp only [alloc_size, upd_size]; omega) | fail) only [go_sem, reduceIte, Nat.reduceEqDiff, e1, e5]
      refine condV_dec (fun h => ?_) (fun h => ?_)
      · have hi' : i < cs.length := by omega
        have g0' := hle3.get g0
        have g1' := hle3.get g1
        have e5' := e5
        simp (maxSteps := 2000000) (disch := first | omega | assumption | exact idP rfl | exact idP (bL rfl) | (simp only [alloc_size, upd_size]; done) | (simp only [alloc_size, upd_size]; omega) | fail) only [go_sem, reduceIte, Nat.reduceEqDiff, e1, e2, e5, g0', g1']
        refine (s_l13Step (hv.le (hH1.trans hle3)) hl hxl (IsChs.le (hH1.trans hle3) ⟨A, c, ex, k, rfl, fun i hi => by
          obtain ⟨c', ex', k', kk, e, hr'⟩ := hw
          cases e
          exact hr' i hi⟩) hc hcl hi').mono ?_
        rintro r H4 ⟨hle4, b, rfl, hb4⟩
        cases b with
        | false =>
          simp (maxSteps := 2000000) (disch := first | omega | assumption | exact idP rfl | exact idP (bL rfl) | (simp only [alloc_size, upd_size]; done) | (simp only [alloc_size, upd_size]; omega) | fail) only [go_sem, reduceIte, Nat.reduceEqDiff]
          exact hR _ _ ⟨hH1.trans (hle3.trans hle4), false, rfl, iff_f fun h => by have := hb4.2 (h.all i hi'); cases this⟩
        | true =>
          simp (maxSteps := 2000000) (disch := first | omega | assumption | exact idP rfl | exact idP (bL rfl) | (simp only [alloc_size, upd_size]; done) | (simp only [alloc_size, upd_size]; omega) | fail) only [go_sem, reduceIte, Nat.reduceEqDiff, e5]
          refine hK _ _ ⟨hle3.trans hle4, i + 1, by omega, by simp (maxSteps := 2000000) (disch := first | omega | assumption | exact idP rfl | exact idP (bL rfl) | (simp only [alloc_size, upd_size]; done) | (simp only [alloc_size, upd_size]; omega) | fail) only [go_sem, reduceIte, Nat.reduceEqDiff, e1], by simp (maxSteps := 2000000) (disch := first | omega | assumption | exact idP rfl | exact idP (bL rfl) | (simp only [alloc_size, upd_size]; done) | (simp only [alloc_size, upd_size]; omega) | fail) only [go_sem, reduceIte, Nat.reduceEqDiff, e2], by simp (maxSteps := 2000000) (disch := first | omega | assumption | exact idP rfl | exact idP (bL rfl) | (simp only [alloc_size, upd_size]; done) | (simp only [alloc_size, upd_size]; omega) | fail) only [go_sem, reduceIte, Nat.reduceEqDiff]; rfl, fun j q1 q2 => ?_⟩ (by simp (maxSteps := 2000000) (disch := first | omega | assumption | exact idP rfl | exact idP (bL rfl) | (simp only [alloc_size, upd_size]; done) | (simp only [alloc_size, upd_size]; omega) | fail) only [go_sem, reduceIte, Nat.reduceEqDiff, ctr_int, e5']; omega)
          by_cases e : j = i
          · subst e; exact hb4.1 rfl
          · exact hj j q1 (by omega)
      · have hlast : cs.length - 1 < cs.length := by omega
        obtain ⟨u, g, hu⟩ := hr (cs.length - 1) hlast
        have gl := (hH1.trans hle3).get g.g4
        obtain ⟨A', c', ex', k', rfl, _⟩ := hu.parts
        have et : ((cs.length : Int) - 1).toNat = cs.length - 1 := by omega
        simp (maxSteps := 2000000) (disch := first | omega | assumption | exact idP rfl | exact idP (bL rfl) | (simp only [alloc_size, upd_size]; done) | (simp only [alloc_size, upd_size]; omega) | fail) only [go_sem, reduceIte, Nat.reduceEqDiff, e1, et, gl]
        refine hR _ _ ⟨hH1.trans hle3, _, rfl, ?_⟩
        rw [decide_eq_true_eq]
        constructor
        · intro h0
          refine ⟨hok, by omega, by omega, fun j hjl => hj j hjl (by omega), ?_⟩
          rw [getD_at hlast]
          exact List.eq_nil_of_length_eq_zero (by omega)
        · intro h0
          have := h0.last
          rw [getD_at hlast] at this
          rw [this]; rfl
  · simp (maxSteps := 2000000) (disch := first | omega | assumption | exact idP rfl | exact idP (bL rfl) | (simp only [alloc_size, upd_size]; done) | (simp only [alloc_size, upd_size]; omega) | fail) only [go_sem, reduceIte, Nat.reduceEqDiff, h3, decide_false]
    exact hR _ _ ⟨hH1, false, rfl, iff_f fun h => h3 ⟨by have := h.lo; omega, by have := h.hi; omega⟩⟩
set_option maxHeartbeats 8000000 in
theorem s_implCheckChains {x w : AV} {n : Int} {xss : List (List Int)} {cs : List Ch} (hx : IsCl H x n xss) (hl : xss.length ≤ 1048576) (hxl : ∀ xs ∈ xss, xs.length ≤ 1048576) (hw : IsChs H w cs) (hc : cs.length ≤ 1048576) (hcl : ∀ x ∈ cs, x.cl.length ≤ 1048576) :
    ACall Try.prog n_impl_CheckChains [x, w] H (fun r H' => Le H H' ∧ ∃ b, r = .bool b ∧ (b = true ↔ ChainsOk n xss cs)) := by
  refine ACall.of fun R hR => a_impl_CheckChains rfl ?_
  obtain ⟨fl, rfl, hv⟩ := hx
  obtain ⟨A, c, ex, k, rfl, hr⟩ := hw.parts
  simp (maxSteps := 2000000) (disch := first | omega | assumption | exact idP rfl | exact idP (bL rfl) | (simp only [alloc_size, upd_size]; done) | (simp only [alloc_size, upd_size]; omega) | fail) only [go_sem, reduceIte, Nat.reduceEqDiff]
  have hcl1 : IsCl (H.alloc [.int .i64 n, fl]) (.agg [.int .i64 n, fl]) n xss := ⟨fl, rfl, hv.le (Le.alloc _ _)⟩
  refine (s_implClausesValid hcl1 hl hxl).mono ?_
  rintro r H1 ⟨hle1, b, rfl, hb⟩
  have hH1 := (Le.alloc H [.int .i64 n, fl]).trans hle1
  have g1 : H1.get H.size 1 = some fl := hle1.get (by simp (maxSteps := 2000000) (disch := first | omega | assumption | exact idP rfl | exact idP (bL rfl) | (simp only [alloc_size, upd_size]; done) | (simp only [alloc_size, upd_size]; omega) | fail) only [go_sem, reduceIte, Nat.reduceEqDiff])
  cases b with
  | false =>
    simp (maxSteps := 2000000) (disch := first | omega | assumption | exact idP rfl | exact idP (bL rfl) | (simp only [alloc_size, upd_size]; done) | (simp only [alloc_size, upd_size]; omega) | fail) only [go_sem, reduceIte, Nat.reduceEqDiff]
    exact hR _ _ ⟨hH1, false, rfl, iff_f fun h => by have := hb.2 h.ok; cases this⟩
  | true =>
  have hok := hb.1 rfl
  simp (maxSteps := 2000000) (disch := first | omega | assumption | exact idP rfl | exact idP (bL rfl) | (simp only [alloc_size, upd_size]; done) | (simp only [alloc_size, upd_size]; omega) | fail) only [go_sem, reduceIte, Nat.reduceEqDiff]
  refine s_in.mono ?_
  rintro r H2 ⟨rfl, rfl⟩
  by_cases h3 : (1 : Int) ≤ (cs.length : Int) ∧ (cs.length : Int) ≤ 3000
  · have hlast : cs.length - 1 < cs.length := by omega
    obtain ⟨ul, gl, hul⟩ := hr (cs.length - 1) hlast
    have gll := hH1.get gl.g4
    obtain ⟨Al, c', ex', k', rfl, _⟩ := hul.parts
    have et : ((cs.length : Int) - 1).toNat = cs.length - 1 := by omega
    by_cases h0 : 0 < ((cs[cs.length - 1]).cl.length : Int)
    · simp (maxSteps := 2000000) (disch := first | omega | assumption | exact idP rfl | exact idP (bL rfl) | (simp only [alloc_size, upd_size]; done) | (simp only [alloc_size, upd_size]; omega) | fail) only [go_sem, reduceIte, Nat.reduceEqDiff, h3, decide_true, et, gll, h0]
      refine hR _ _ ⟨hH1, false, rfl, iff_f fun h => ?_⟩
      have := h.last
      rw [getD_at hlast] at this
      rw [this] at h0
      simp at h0
    have hlst : (cs.getD (cs.length - 1) ch0).cl = [] := by
      rw [getD_at hlast]; exact List.eq_nil_of_length_eq_zero (by omega)
    simp (maxSteps := 2000000) (disch := first | omega | assumption | exact idP rfl | exact idP (bL rfl) | (simp only [alloc_size, upd_size]; done) | (simp only [alloc_size, upd_size]; omega) | fail) only [go_sem, reduceIte, Nat.reduceEqDiff, h3, decide_true, decide_false, et, gll, h0]
    refine wp_loop_k (fun e H' => Le H2 H' ∧ ∃ i : Nat, i ≤ cs.length ∧ e 1 = .sl A cs.length c ex k ∧ e 2 = .ptr (some (H.size, 0)) ∧ e 29 = .sl A cs.length c ex k ∧ e 30 = .int .i64 (cs.length : Int) ∧ e 31 = .int .i64 (i : Int) ∧ ∀ j (h : j < cs.length), j < i → StepOk xss cs j cs[j]) (fun e _ => ctr cs.length (e 31)) ?_ ?_
    · exact ⟨Le.refl _, 0, Nat.zero_le _, by simp (maxSteps := 2000000) (disch := first | omega | assumption | exact idP rfl | exact idP (bL rfl) | (simp only [alloc_size, upd_size]; done) | (simp only [alloc_size, upd_size]; omega) | fail) only [go_sem, reduceIte, Nat.reduceEqDiff], by simp (maxSteps := 2000000) (disch := first | omega | assumption | exact idP rfl | exact idP (bL rfl) | (simp only [alloc_size, upd_size]; done) | (simp only [alloc_size, upd_size]; omega) | fail) only [go_sem, reduceIte, Nat.reduceEqDiff], by simp (maxSteps := 2000000) (disch := first | omega | assumption | exact idP rfl | exact idP (bL rfl) | (simp only [alloc_size, upd_size]; done) | (simp only [alloc_size, upd_size]; omega) | fail) only [go_sem, reduceIte, Nat.reduceEqDiff], by simp (maxSteps := 2000000) (disch := first | omega | assumption | exact idP rfl | exact idP (bL rfl) | (simp only [alloc_size, upd_size]; done) | (simp only [alloc_size, upd_size]; omega) | fail) only [go_sem, reduceIte, Nat.reduceEqDiff], by simp (maxSteps := 2000000) (disch := first | omega | assumption | exact idP rfl | exact idP (bL rfl) | (simp only [alloc_size, upd_size]; done) | (simp only [alloc_size, upd_size]; omega) | fail) only [go_sem, reduceIte, Nat.reduceEqDiff]; rfl, fun j _ h => by omega⟩
    rintro e H3 ⟨hle3, i, hi, e1, e2, e29, e30, e31, hj⟩ K hK
    simp (maxSteps := 2000000) (disch := first | omega | assumption | exact idP rfl | exact idP (bL rfl) | (simp only [alloc_size, upd_size]; done) | (simp only [alloc_size, upd_size]; omega) | fail) only [go_sem, reduceIte, Nat.reduceEqDiff, e29, e30, e31]
    refine condV_dec (fun h => ?_) (fun h => ?_)
    rotate_left
    · simp (maxSteps := 2000000) (disch := first | omega | assumption | exact idP rfl | exact idP (bL rfl) | (simp only [alloc_size, upd_size]; done) | (simp only [alloc_size, upd_size]; omega) | fail) only [go_sem, reduceIte, Nat.reduceEqDiff]
      exact hR _ _ ⟨hH1.trans hle3, true, rfl, by simp only [true_iff]; exact ⟨hok, by omega, by omega, fun j hjl => hj j hjl (by omega), hlst⟩⟩
    have hi' : i < cs.length := by omega
    have hL3 := hH1.trans hle3
    obtain ⟨u, g, hu⟩ := hr i hi'
    have hul := hcl _ (List.getElem_mem hi')
    obtain ⟨Ax, cx, exx, kx, rfl, hrx⟩ := hv.parts
    have badK : ¬ StepOk xss cs i cs[i] → ¬ ChainsOk n xss cs := fun h h' => h (h'.all i hi')
    have step : StepOk xss cs i cs[i] → ∀ j (h : j < cs.length), j < i + 1 → StepOk xss cs j cs[j] := fun hs j q1 q2 => by
      by_cases e : j = i
      · subst e; exact hs
      · exact hj j q1 (by omega)
    clear hj
    generalize hxi : cs[i] = y at *
    have ga := g.le hL3
    have q2 : H3.get A.b (A.o + i * 5 + 1 + 1) = some (.int .i64 y.c) := ga.g2
    have q3 : H3.get A.b (A.o + i * 5 + 1 + 1 + 1) = some (.int .i64 y.p) := ga.g3
    have q4 : H3.get A.b (A.o + i * 5 + 1 + 1 + 1 + 1) = some u := ga.g4
    have hu1 := (oneA_isS hu).1
    have e31' := e31
    simp (maxSteps := 2000000) (disch := first | omega | assumption | exact idP rfl | exact idP (bL rfl) | (simp only [alloc_size, upd_size]; done) | (simp only [alloc_size, upd_size]; omega) | fail) only [go_sem, reduceIte, Nat.reduceEqDiff, e1, e2, e29, e30, e31, ga.g0, ga.g1, q2, q3, q4]
    have hLB : Le H3 ((H3.alloc [.int .i64 0, .int .i64 0, .int .i64 0, .int .i64 0, .sl none 0 0 true 0]).upd H3.size (.cells [.int .i64 y.a, .int .i64 y.b, .int .i64 y.c, .int .i64 y.p, u] true)) := ((Le.refl _).allocs).updFresh (Nat.le_refl _)
    have gd : ∀ j, ((H3.alloc [.int .i64 0, .int .i64 0, .int .i64 0, .int .i64 0, .sl none 0 0 true 0]).upd H3.size (.cells [.int .i64 y.a, .int .i64 y.b, .int .i64 y.c, .int .i64 y.p, u] true)).get H3.size j = [AV.int .i64 y.a, .int .i64 y.b, .int .i64 y.c, .int .i64 y.p, u][j]? := fun j => by rw [get_upd_same (by simp only [alloc_size]; omega)]
    generalize hG : ((H3.alloc [AV.int .i64 0, .int .i64 0, .int .i64 0, .int .i64 0, .sl none 0 0 true 0]).upd H3.size (.cells [.int .i64 y.a, .int .i64 y.b, .int .i64 y.c, .int .i64 y.p, u] true)) = G at *
    have hLG := hL3.trans hLB
    have gc1 : G.get H.size 1 = some (.sl Ax xss.length cx exx kx) := (hle3.trans hLB).get g1
    have d0 : G.get H3.size 0 = some (.int .i64 y.a) := gd 0
    have d1 : G.get H3.size 1 = some (.int .i64 y.b) := gd 1
    have d2 : G.get H3.size 2 = some (.int .i64 y.c) := gd 2
    have d3 : G.get H3.size 3 = some (.int .i64 y.p) := gd 3
    have d4 : G.get H3.size 4 = some u := gd 4
    have bad : ¬ StepOk xss cs i y → R (.bool false) G := fun h => hR _ _ ⟨hLG, false, rfl, iff_f (badK h)⟩
    clear gd
    by_cases ha1 : y.a = -1
    · have ha1' : ¬ (y.a ≠ -1) := fun h => h ha1
      have iff0 := stepB (xss := xss) (cs := cs) (i := i) ha1
      simp (maxSteps := 2000000) (disch := first | omega | assumption | exact idP rfl | exact idP (bL rfl) | (simp only [alloc_size, upd_size]; done) | (simp only [alloc_size, upd_size]; omega) | fail) only [go_sem, reduceIte, Nat.reduceEqDiff, e1, e2, e29, e30, e31, d0, ha1, ha1', decide_false, d1]
      refine s_in.mono ?_
      rintro r H4 ⟨rfl, rfl⟩
      by_cases h2 : 0 ≤ y.b ∧ y.b ≤ (i : Int) - 1
      · simp (maxSteps := 2000000) (disch := first | omega | assumption | exact idP rfl | exact idP (bL rfl) | (simp only [alloc_size, upd_size]; done) | (simp only [alloc_size, upd_size]; omega) | fail) only [go_sem, reduceIte, Nat.reduceEqDiff, h2, decide_true, e1, e2, e29, e30, e31, d2]
        refine s_in.mono ?_
        rintro r H5 ⟨rfl, rfl⟩
        by_cases h4 : 0 ≤ y.c ∧ y.c ≤ (i : Int) - 1
        · have hB : y.b.toNat < cs.length := by omega
          have hC : y.c.toNat < cs.length := by omega
          obtain ⟨ub, gb, hub⟩ := hr y.b.toNat hB
          obtain ⟨uc, gc, huc⟩ := hr y.c.toNat hC
          have kb := hLG.get gb.g4
          have kc := hLG.get gc.g4
          simp (maxSteps := 2000000) (disch := first | omega | assumption | exact idP rfl | exact idP (bL rfl) | (simp only [alloc_size, upd_size]; done) | (simp only [alloc_size, upd_size]; omega) | fail) only [go_sem, reduceIte, Nat.reduceEqDiff, h4, decide_true, e1, e2, e29, e30, e31, d1, d2, d3, d4, kb, kc]
          refine (s_implResolved (hub.le hLG) (huc.le hLG) (hcl _ (List.getElem_mem hB)) (hcl _ (List.getElem_mem hC))).mono ?_
          rintro r H6 ⟨hle6, w6, zs, ok, rfl, hw6, hres⟩
          rw [getD_at hB, getD_at hC] at iff0
          have d4' := hle6.get d4
          cases ok with
          | false =>
            simp (maxSteps := 2000000) (disch := first | omega | assumption | exact idP rfl | exact idP (bL rfl) | (simp only [alloc_size, upd_size]; done) | (simp only [alloc_size, upd_size]; omega) | fail) only [go_sem, reduceIte, Nat.reduceEqDiff, e1, e2, e29, e30, e31]
            refine hR _ _ ⟨hLG.trans hle6, false, rfl, iff_f (badK fun h => ?_)⟩
            have := (hres.det (iff0.1 h).2.2.2.2).2
            cases this
          | true =>
            simp (maxSteps := 2000000) (disch := first | omega | assumption | exact idP rfl | exact idP (bL rfl) | (simp only [alloc_size, upd_size]; done) | (simp only [alloc_size, upd_size]; omega) | fail) only [go_sem, reduceIte, Nat.reduceEqDiff, d4', e1, e2, e29, e30, e31]
            refine (s_Equal hw6 (hu.le (hLG.trans hle6)) (by have := hres.short; omega) hul).mono ?_
            rintro r H7 ⟨rfl, b, rfl, hb7⟩
            cases b with
            | false =>
              simp (maxSteps := 2000000) (disch := first | omega | assumption | exact idP rfl | exact idP (bL rfl) | (simp only [alloc_size, upd_size]; done) | (simp only [alloc_size, upd_size]; omega) | fail) only [go_sem, reduceIte, Nat.reduceEqDiff, e1, e2, e29, e30, e31]
              refine hR _ _ ⟨hLG.trans hle6, false, rfl, iff_f (badK fun h => ?_)⟩
              have := hb7.2 ((iff0.1 h).2.2.2.2.det hres).1.symm
              cases this
            | true =>
              have hz := hb7.1 rfl
              simp (maxSteps := 2000000) (disch := first | omega | assumption | exact idP rfl | exact idP (bL rfl) | (simp only [alloc_size, upd_size]; done) | (simp only [alloc_size, upd_size]; omega) | fail) only [go_sem, reduceIte, Nat.reduceEqDiff, e1, e2, e29, e30, e31]
              exact hK _ _ ⟨hle3.trans (hLB.trans hle6), i + 1, by omega, by simp (maxSteps := 2000000) (disch := first | omega | assumption | exact idP rfl | exact idP (bL rfl) | (simp only [alloc_size, upd_size]; done) | (simp only [alloc_size, upd_size]; omega) | fail) only [go_sem, reduceIte, Nat.reduceEqDiff, e1], by simp (maxSteps := 2000000) (disch := first | omega | assumption | exact idP rfl | exact idP (bL rfl) | (simp only [alloc_size, upd_size]; done) | (simp only [alloc_size, upd_size]; omega) | fail) only [go_sem, reduceIte, Nat.reduceEqDiff, e2], by simp (maxSteps := 2000000) (disch := first | omega | assumption | exact idP rfl | exact idP (bL rfl) | (simp only [alloc_size, upd_size]; done) | (simp only [alloc_size, upd_size]; omega) | fail) only [go_sem, reduceIte, Nat.reduceEqDiff, e29], by simp (maxSteps := 2000000) (disch := first | omega | assumption | exact idP rfl | exact idP (bL rfl) | (simp only [alloc_size, upd_size]; done) | (simp only [alloc_size, upd_size]; omega) | fail) only [go_sem, reduceIte, Nat.reduceEqDiff, e30], by simp (maxSteps := 2000000) (disch := first | omega | assumption | exact idP rfl | exact idP (bL rfl) | (simp only [alloc_size, upd_size]; done) | (simp only [alloc_size, upd_size]; omega) | fail) only [go_sem, reduceIte, Nat.reduceEqDiff]; rfl, step (iff0.2 ⟨h2.1, by omega, h4.1, by omega, hz ▸ hres⟩)⟩ (by simp (maxSteps := 2000000) (disch := first | omega | assumption | exact idP rfl | exact idP (bL rfl) | (simp only [alloc_size, upd_size]; done) | (simp only [alloc_size, upd_size]; omega) | fail) only [go_sem, reduceIte, Nat.reduceEqDiff, ctr_int, e31']; omega)
        · simp (maxSteps := 2000000) (disch := first | omega | assumption | exact idP rfl | exact idP (bL rfl) | (simp only [alloc_size, upd_size]; done) | (simp only [alloc_size, upd_size]; omega) | fail) only [go_sem, reduceIte, Nat.reduceEqDiff, h4, decide_false, e1, e2, e29, e30, e31]
          exact bad fun h => h4 ⟨(iff0.1 h).2.2.1, by have := (iff0.1 h).2.2.2.1; omega⟩
      · simp (maxSteps := 2000000) (disch := first | omega | assumption | exact idP rfl | exact idP (bL rfl) | (simp only [alloc_size, upd_size]; done) | (simp only [alloc_size, upd_size]; omega) | fail) only [go_sem, reduceIte, Nat.reduceEqDiff, h2, decide_false, e1, e2, e29, e30, e31]
        exact bad fun h => h2 ⟨(iff0.1 h).1, by have := (iff0.1 h).2.1; omega⟩
    · simp (maxSteps := 2000000) (disch := first | omega | assumption | exact idP rfl | exact idP (bL rfl) | (simp only [alloc_size, upd_size]; done) | (simp only [alloc_size, upd_size]; omega) | fail) only [go_sem, reduceIte, Nat.reduceEqDiff, e1, e2, e29, e30, e31, d0, ha1, decide_true, gc1]
      refine s_in.mono ?_
      rintro r H4 ⟨rfl, rfl⟩
      by_cases h1 : 0 ≤ y.a ∧ y.a ≤ (xss.length : Int) - 1
      · have iff0 := stepA (xss := xss) (cs := cs) (i := i) h1.1
        by_cases h2 : y.b = -1
        · by_cases h4 : y.c = -1
          · by_cases h5 : y.p = 0
            · have hil : y.a.toNat < xss.length := by omega
              obtain ⟨u2, hg2, hu2⟩ := hrx y.a.toNat hil
              have hg2 := hLG.get hg2
              rw [Nat.mul_one] at hg2
              have n2 : ¬ (y.b ≠ -1) := fun h => h h2
              have n4 : ¬ (y.c ≠ -1) := fun h => h h4
              have n5 : ¬ (y.p ≠ 0) := fun h => h h5
              simp (maxSteps := 2000000) (disch := first | omega | assumption | exact idP rfl | exact idP (bL rfl) | (simp only [alloc_size, upd_size]; done) | (simp only [alloc_size, upd_size]; omega) | fail) only [go_sem, reduceIte, Nat.reduceEqDiff, h1, d0, d1, d2, d3, d4, gc1, h2, h4, h5, n2, n4, n5, hg2, decide_true, decide_false, e1, e2, e29, e30, e31]
              refine (s_Equal (hu.le hLG) (hu2.le hLG) hul (hxl _ (List.getElem_mem hil))).mono ?_
              rintro r H5 ⟨rfl, b, rfl, hb5⟩
              rw [getD_at hil] at iff0
              cases b with
              | false =>
                simp (maxSteps := 2000000) (disch := first | omega | assumption | exact idP rfl | exact idP (bL rfl) | (simp only [alloc_size, upd_size]; done) | (simp only [alloc_size, upd_size]; omega) | fail) only [go_sem, reduceIte, Nat.reduceEqDiff, e1, e2, e29, e30, e31]
                exact bad fun h => by have := hb5.2 (iff0.1 h).2.2.2.2; cases this
              | true =>
                simp (maxSteps := 2000000) (disch := first | omega | assumption | exact idP rfl | exact idP (bL rfl) | (simp only [alloc_size, upd_size]; done) | (simp only [alloc_size, upd_size]; omega) | fail) only [go_sem, reduceIte, Nat.reduceEqDiff, e1, e2, e29, e30, e31]
                exact hK _ _ ⟨hle3.trans hLB, i + 1, by omega, by simp (maxSteps := 2000000) (disch := first | omega | assumption | exact idP rfl | exact idP (bL rfl) | (simp only [alloc_size, upd_size]; done) | (simp only [alloc_size, upd_size]; omega) | fail) only [go_sem, reduceIte, Nat.reduceEqDiff, e1], by simp (maxSteps := 2000000) (disch := first | omega | assumption | exact idP rfl | exact idP (bL rfl) | (simp only [alloc_size, upd_size]; done) | (simp only [alloc_size, upd_size]; omega) | fail) only [go_sem, reduceIte, Nat.reduceEqDiff, e2], by simp (maxSteps := 2000000) (disch := first | omega | assumption | exact idP rfl | exact idP (bL rfl) | (simp only [alloc_size, upd_size]; done) | (simp only [alloc_size, upd_size]; omega) | fail) only [go_sem, reduceIte, Nat.reduceEqDiff, e29], by simp (maxSteps := 2000000) (disch := first | omega | assumption | exact idP rfl | exact idP (bL rfl) | (simp only [alloc_size, upd_size]; done) | (simp only [alloc_size, upd_size]; omega) | fail) only [go_sem, reduceIte, Nat.reduceEqDiff, e30], by simp (maxSteps := 2000000) (disch := first | omega | assumption | exact idP rfl | exact idP (bL rfl) | (simp only [alloc_size, upd_size]; done) | (simp only [alloc_size, upd_size]; omega) | fail) only [go_sem, reduceIte, Nat.reduceEqDiff]; rfl, step (iff0.2 ⟨by omega, h2, h4, h5, hb5.1 rfl⟩)⟩ (by simp (maxSteps := 2000000) (disch := first | omega | assumption | exact idP rfl | exact idP (bL rfl) | (simp only [alloc_size, upd_size]; done) | (simp only [alloc_size, upd_size]; omega) | fail) only [go_sem, reduceIte, Nat.reduceEqDiff, ctr_int, e31']; omega)
            · have n2 : ¬ (y.b ≠ -1) := fun h => h h2
              have n4 : ¬ (y.c ≠ -1) := fun h => h h4
              simp (maxSteps := 2000000) (disch := first | omega | assumption | exact idP rfl | exact idP (bL rfl) | (simp only [alloc_size, upd_size]; done) | (simp only [alloc_size, upd_size]; omega) | fail) only [go_sem, reduceIte, Nat.reduceEqDiff, h1, d0, d1, d2, d3, d4, gc1, h2, h4, h5, n2, n4, decide_true, decide_false, e1, e2, e29, e30, e31]
              exact bad fun h => h5 (iff0.1 h).2.2.2.1
          · have n2 : ¬ (y.b ≠ -1) := fun h => h h2
            simp (maxSteps := 2000000) (disch := first | omega | assumption | exact idP rfl | exact idP (bL rfl) | (simp only [alloc_size, upd_size]; done) | (simp only [alloc_size, upd_size]; omega) | fail) only [go_sem, reduceIte, Nat.reduceEqDiff, h1, d0, d1, d2, d3, d4, gc1, h2, h4, n2, decide_true, decide_false, e1, e2, e29, e30, e31]
            exact bad fun h => h4 (iff0.1 h).2.2.1
        · simp (maxSteps := 2000000) (disch := first | omega | assumption | exact idP rfl | exact idP (bL rfl) | (simp only [alloc_size, upd_size]; done) | (simp only [alloc_size, upd_size]; omega) | fail) only [go_sem, reduceIte, Nat.reduceEqDiff, h1, d0, d1, d2, d3, d4, gc1, h2, decide_true, decide_false, e1, e2, e29, e30, e31]
          exact bad fun h => h2 (iff0.1 h).2.1
      · simp (maxSteps := 2000000) (disch := first | omega | assumption | exact idP rfl | exact idP (bL rfl) | (simp only [alloc_size, upd_size]; done) | (simp only [alloc_size, upd_size]; omega) | fail) only [go_sem, reduceIte, Nat.reduceEqDiff, h1, d0, d1, d2, d3, d4, gc1, decide_false, e1, e2, e29, e30, e31]
        refine bad fun h => ?_
        unfold StepOk at h
        rcases h with ⟨k0, k1, _⟩ | ⟨k0, _⟩
        · exact h1 ⟨k0, by omega⟩
        · exact ha1 k0
  · simp (maxSteps := 2000000) (disch := first | omega | assumption | exact idP rfl | exact idP (bL rfl) | (simp only [alloc_size, upd_size]; done) | (simp only [alloc_size, upd_size]; omega) | fail) only [go_sem, reduceIte, Nat.reduceEqDiff, h3, decide_false]
    exact hR _ _ ⟨hH1, false, rfl, iff_f fun h => h3 ⟨by have := h.lo; omega, by have := h.hi; omega⟩⟩
end Go.M2

namespace Go.M2
open Go.Proofs
variable {H : Heap}
structure RowB (H0 H : Heap) (b : Nat) (l : List Bool) : Prop where
  lt : b < H.size
  blk : H.blk b = .cells (l.map AV.bool) true
  le : Le H0 (H.kill b)
theorem RowB.rw {H0 : Heap} {b : Nat} {l : List Bool} (h : RowB H0 H b l) : H.rwCells b = some (l.map AV.bool) := rwCells_of h.lt h.blk
theorem RowB.get {H0 : Heap} {b : Nat} {l : List Bool} (h : RowB H0 H b l) {i : Nat} (hi : i < l.length) : H.get b i = some (.bool l[i]) := by
  have := Rd.blk h.lt h.blk i (.bool l[i]) (by simp [hi])
  simpa using this
theorem RowB.le' {H0 : Heap} {b : Nat} {l : List Bool} (h : RowB H0 H b l) : Le H0 H := h.le.trans (Le.kill _ _)
theorem RowB.set {H0 : Heap} {b : Nat} {l : List Bool} (h : RowB H0 H b l) (i : Nat) (v : Bool) : RowB H0 (H.upd b (.cells ((l.map AV.bool).set i (.bool v)) true)) b (l.set i v) :=
  ⟨h.lt, by rw [upd_blk_same', List.map_set], by rw [upd_kill]; exact h.le⟩
theorem RowB.step {H0 H1 : Heap} {b : Nat} {l : List Bool} (h : RowB H0 H b l) (hl : Le H H1) : RowB H0 H1 b l :=
  ⟨Nat.lt_of_lt_of_le h.lt hl.1, hl.cells h.lt h.blk, h.le.trans (hl.kills _)⟩
theorem zeros_bool (n : Nat) : zeros [.bool false] n = (List.replicate n false).map AV.bool := by
  induction n with
  | zero => rfl
  | succ n ih => simp only [zeros, ih, List.replicate_succ, List.map_cons]; rfl
theorem RowB.new {H0 : Heap} (h : Le H0 H) (n : Nat) : RowB H0 (H.alloc (zeros [.bool false] n)) H.size (List.replicate n false) :=
  ⟨Nat.lt_succ_self _, by rw [alloc_new, zeros_bool], (h.trans (Le.alloc _ _)).killFresh h.1⟩
def upA : AV → Nat
  | .int _ i => (i + 1).toNat
  | _ => 0
@[go_sem] theorem upA_int {k : IntKind} {i : Int} : upA (.int k i) = (i + 1).toNat := idE rfl
def needStep (cs : List Ch) (i : Nat) (nd : List Bool) : List Bool := if nd.getD i false = true ∧ (cs.getD i ch0).a = -1 then (nd.set (cs.getD i ch0).b.toNat true).set (cs.getD i ch0).c.toNat true else nd
def needR (cs : List Ch) : Nat → List Bool → List Bool
  | 0, nd => nd
  | k + 1, nd => needR cs k (needStep cs k nd)
def need (cs : List Ch) : List Bool := needR cs cs.length ((List.replicate cs.length false).set (cs.length - 1) true)
theorem needStep_len {cs : List Ch} {i : Nat} {nd : List Bool} : (needStep cs i nd).length = nd.length := by
  unfold needStep; split <;> simp
theorem needR_len {cs : List Ch} : ∀ {k : Nat} {nd : List Bool}, (needR cs k nd).length = nd.length
  | 0, nd => rfl
  | k + 1, nd => by rw [needR, needR_len, needStep_len]
theorem need_len {cs : List Ch} : (need cs).length = cs.length := by unfold need; rw [needR_len]; simp
def useStep (cs : List Ch) (nd : List Bool) (i : Nat) (us : List Bool) : List Bool := if nd.getD i false = true ∧ 0 ≤ (cs.getD i ch0).a then us.set (cs.getD i ch0).a.toNat true else us
def useR (cs : List Ch) (nd : List Bool) : Nat → List Bool → List Bool
  | 0, us => us
  | k + 1, us => useStep cs nd k (useR cs nd k us)
def listB (us : List Bool) : Nat → List Int
  | 0 => []
  | k + 1 => listB us k ++ (if us.getD k false = true then [(k : Int)] else [])
theorem listB_len {us : List Bool} : ∀ {k : Nat}, (listB us k).length ≤ k
  | 0 => Nat.le_refl _
  | k + 1 => by
    have := listB_len (us := us) (k := k)
    rw [listB, List.length_append]
    split <;> simp <;> omega
set_option maxHeartbeats 4000000 in
theorem s_l13Needed {w : AV} {xss : List (List Int)} {cs : List Ch} (hw : IsChs H w cs) (h1 : 1 ≤ cs.length) (hc : cs.length ≤ 3000) (hst : ∀ i (h : i < cs.length), StepOk xss cs i cs[i]) :
    ACall Try.prog n_spec_l13Needed [w] H (fun r H' => r = .sl (some (H.size, 0)) cs.length cs.length true 1 ∧ RowB H H' H.size (need cs)) := by
  refine ACall.of fun R hR => a_spec_l13Needed rfl ?_
  obtain ⟨A, c, ex, k, rfl, hr⟩ := hw.parts
  simp (maxSteps := 2000000) (disch := first | omega | assumption | exact idP rfl | exact idP (bL rfl) | (simp only [alloc_size, upd_size]; done) | (simp only [alloc_size, upd_size]; omega) | fail) only [go_sem, reduceIte, Nat.reduceEqDiff]
  refine mks_own (by omega) (by simp [mostCells]; omega) (by simp [mostCells]; omega) ?_
  have en : (cs.length : Int).toNat = cs.length := Int.toNat_natCast _
  have e1 : ((cs.length : Int) - 1).toNat = cs.length - 1 := by omega
  rw [en]
  have r0 := RowB.new (H := H) (Le.refl H) cs.length
  have r1 := r0.set (cs.length - 1) true
  have hz := r0.rw
  simp (maxSteps := 2000000) (disch := first | omega | assumption | exact idP rfl | exact idP (bL rfl) | (simp only [alloc_size, upd_size]; done) | (simp only [alloc_size, upd_size]; omega) | fail) only [go_sem, reduceIte, Nat.reduceEqDiff, e1, hz]
  rw [stoK_1 rfl (by simp; omega)]
  simp (maxSteps := 2000000) (disch := first | omega | assumption | exact idP rfl | exact idP (bL rfl) | (simp only [alloc_size, upd_size]; done) | (simp only [alloc_size, upd_size]; omega) | fail) only [go_sem, reduceIte, Nat.reduceEqDiff]
  refine wp_loop_k (fun e H' => ∃ (k' : Nat) (nd : List Bool), k' ≤ cs.length ∧ e 0 = .sl A cs.length c ex k ∧ e 3 = .sl (some (H.size, 0)) cs.length cs.length true 1 ∧ e 4 = .int .i64 ((k' : Int) - 1) ∧ RowB H H' H.size nd ∧ nd.length = cs.length ∧ needR cs k' nd = need cs) (fun e _ => upA (e 4)) ?_ ?_
  · exact ⟨cs.length, _, Nat.le_refl _, by simp (maxSteps := 2000000) (disch := first | omega | assumption | exact idP rfl | exact idP (bL rfl) | (simp only [alloc_size, upd_size]; done) | (simp only [alloc_size, upd_size]; omega) | fail) only [go_sem, reduceIte, Nat.reduceEqDiff], by simp (maxSteps := 2000000) (disch := first | omega | assumption | exact idP rfl | exact idP (bL rfl) | (simp only [alloc_size, upd_size]; done) | (simp only [alloc_size, upd_size]; omega) | fail) only [go_sem, reduceIte, Nat.reduceEqDiff]; rfl, by simp (maxSteps := 2000000) (disch := first | omega | assumption | exact idP rfl | exact idP (bL rfl) | (simp only [alloc_size, upd_size]; done) | (simp only [alloc_size, upd_size]; omega) | fail) only [go_sem, reduceIte, Nat.reduceEqDiff], r1, by simp, rfl⟩
  rintro e H1 ⟨k', nd, hk, e0, e3, e4, hrow, hnl, hnd⟩ K hK
  simp (maxSteps := 2000000) (disch := first | omega | assumption | exact idP rfl | exact idP (bL rfl) | (simp only [alloc_size, upd_size]; done) | (simp only [alloc_size, upd_size]; omega) | fail) only [go_sem, reduceIte, Nat.reduceEqDiff, e4]
  refine condV_dec (fun h => ?_) (fun h => ?_)
  · obtain ⟨i, rfl⟩ : ∃ i, k' = i + 1 := ⟨k' - 1, by omega⟩
    have hi : i < cs.length := by omega
    have ei : ((i + 1 : Nat) : Int) - 1 = (i : Int) := by omega
    rw [ei] at e4
    have e4' := e4
    obtain ⟨u, g, hu⟩ := hr i hi
    have g := g.le hrow.le'
    have gn := hrow.get (i := i) (by omega)
    have hgd : nd.getD i false = nd[i]'(by omega) := getD_at (by omega)
    have hcd : cs.getD i ch0 = cs[i] := getD_at hi
    have hsi := hst i hi
    generalize hy : cs[i] = y at *
    rw [needR] at hnd
    have nxt : ∀ (nd2 : List Bool) (H2 : Heap) (e2 : Env), needStep cs i nd = nd2 → RowB H H2 H.size nd2 → e2 0 = .sl A cs.length c ex k → e2 3 = .sl (some (H.size, 0)) cs.length cs.length true 1 → e2 4 = .int .i64 ((i : Int) - 1) → K e2 H2 := fun nd2 H2 e2 q1 q2 q3 q4 q5 => by
      refine hK _ _ ⟨i, nd2, by omega, q3, q4, q5, q2, by rw [← q1, needStep_len]; exact hnl, by rw [← q1]; exact hnd⟩ ?_
      rw [q5, e4']
      simp only [upA_int]
      omega
    simp (maxSteps := 2000000) (disch := first | omega | assumption | exact idP rfl | exact idP (bL rfl) | (simp only [alloc_size, upd_size]; done) | (simp only [alloc_size, upd_size]; omega) | fail) only [go_sem, reduceIte, Nat.reduceEqDiff, e0, e3, e4, gn]
    cases hb : nd[i]'(by omega) with
    | false =>
      simp (maxSteps := 2000000) (disch := first | omega | assumption | exact idP rfl | exact idP (bL rfl) | (simp only [alloc_size, upd_size]; done) | (simp only [alloc_size, upd_size]; omega) | fail) only [go_sem, reduceIte, Nat.reduceEqDiff, e0, e3, e4]
      exact nxt nd _ _ (by unfold needStep; rw [hgd, hb]; simp) hrow (by simp (maxSteps := 2000000) (disch := first | omega | assumption | exact idP rfl | exact idP (bL rfl) | (simp only [alloc_size, upd_size]; done) | (simp only [alloc_size, upd_size]; omega) | fail) only [go_sem, reduceIte, Nat.reduceEqDiff, e0]) (by simp (maxSteps := 2000000) (disch := first | omega | assumption | exact idP rfl | exact idP (bL rfl) | (simp only [alloc_size, upd_size]; done) | (simp only [alloc_size, upd_size]; omega) | fail) only [go_sem, reduceIte, Nat.reduceEqDiff, e3]) (by simp (maxSteps := 2000000) (disch := first | omega | assumption | exact idP rfl | exact idP (bL rfl) | (simp only [alloc_size, upd_size]; done) | (simp only [alloc_size, upd_size]; omega) | fail) only [go_sem, reduceIte, Nat.reduceEqDiff])
    | true =>
      by_cases ha : y.a < 0
      · have ha1 : y.a = -1 := by
          rcases hsi with ⟨q, _⟩ | ⟨q, _⟩
          · omega
          · exact q
        obtain ⟨b0, b1, c0, c1, _⟩ := (stepB ha1).1 hsi
        have hB : y.b.toNat < cs.length := by omega
        have hC : y.c.toNat < cs.length := by omega
        have hr1 := hrow.rw
        have s1 := hrow.set y.b.toNat true
        have hr2 := s1.rw
        have gB := g.g1
        have gC := g.g2
        have gC2 : (H1.upd H.size (.cells ((nd.map AV.bool).set y.b.toNat (.bool true)) true)).get A.b (A.o + i * 5 + 2) = some (.int .i64 y.c) := by
          have := (((hr i hi).choose_spec.1).le s1.le').g2
          rw [hy] at this; exact this
        simp (maxSteps := 2000000) (disch := first | omega | assumption | exact idP rfl | exact idP (bL rfl) | (simp only [alloc_size, upd_size]; done) | (simp only [alloc_size, upd_size]; omega) | fail) only [go_sem, reduceIte, Nat.reduceEqDiff, e0, e3, e4, g.g0, ha, decide_true, gB, gC, hr1]
        rw [stoK_1 rfl (by simp; omega)]
        simp (maxSteps := 2000000) (disch := first | omega | assumption | exact idP rfl | exact idP (bL rfl) | (simp only [alloc_size, upd_size]; done) | (simp only [alloc_size, upd_size]; omega) | fail) only [go_sem, reduceIte, Nat.reduceEqDiff, e0, e3, e4, gC2, hr2]
        rw [stoK_1 rfl (by simp; omega)]
        simp (maxSteps := 2000000) (disch := first | omega | assumption | exact idP rfl | exact idP (bL rfl) | (simp only [alloc_size, upd_size]; done) | (simp only [alloc_size, upd_size]; omega) | fail) only [go_sem, reduceIte, Nat.reduceEqDiff, e0, e3, e4]
        refine nxt ((nd.set y.b.toNat true).set y.c.toNat true) _ _ ?_ (s1.set y.c.toNat true) (by simp (maxSteps := 2000000) (disch := first | omega | assumption | exact idP rfl | exact idP (bL rfl) | (simp only [alloc_size, upd_size]; done) | (simp only [alloc_size, upd_size]; omega) | fail) only [go_sem, reduceIte, Nat.reduceEqDiff, e0]) (by simp (maxSteps := 2000000) (disch := first | omega | assumption | exact idP rfl | exact idP (bL rfl) | (simp only [alloc_size, upd_size]; done) | (simp only [alloc_size, upd_size]; omega) | fail) only [go_sem, reduceIte, Nat.reduceEqDiff, e3]) (by simp (maxSteps := 2000000) (disch := first | omega | assumption | exact idP rfl | exact idP (bL rfl) | (simp only [alloc_size, upd_size]; done) | (simp only [alloc_size, upd_size]; omega) | fail) only [go_sem, reduceIte, Nat.reduceEqDiff])
        unfold needStep
        rw [hgd, hb, hcd, if_pos ⟨rfl, ha1⟩]
      · simp (maxSteps := 2000000) (disch := first | omega | assumption | exact idP rfl | exact idP (bL rfl) | (simp only [alloc_size, upd_size]; done) | (simp only [alloc_size, upd_size]; omega) | fail) only [go_sem, reduceIte, Nat.reduceEqDiff, e0, e3, e4, g.g0, ha, decide_false]
        refine nxt nd _ _ ?_ hrow (by simp (maxSteps := 2000000) (disch := first | omega | assumption | exact idP rfl | exact idP (bL rfl) | (simp only [alloc_size, upd_size]; done) | (simp only [alloc_size, upd_size]; omega) | fail) only [go_sem, reduceIte, Nat.reduceEqDiff, e0]) (by simp (maxSteps := 2000000) (disch := first | omega | assumption | exact idP rfl | exact idP (bL rfl) | (simp only [alloc_size, upd_size]; done) | (simp only [alloc_size, upd_size]; omega) | fail) only [go_sem, reduceIte, Nat.reduceEqDiff, e3]) (by simp (maxSteps := 2000000) (disch := first | omega | assumption | exact idP rfl | exact idP (bL rfl) | (simp only [alloc_size, upd_size]; done) | (simp only [alloc_size, upd_size]; omega) | fail) only [go_sem, reduceIte, Nat.reduceEqDiff])
        unfold needStep
        rw [hcd, if_neg (fun h => by omega)]
  · obtain rfl : k' = 0 := by omega
    simp (maxSteps := 2000000) (disch := first | omega | assumption | exact idP rfl | exact idP (bL rfl) | (simp only [alloc_size, upd_size]; done) | (simp only [alloc_size, upd_size]; omega) | fail) only [go_sem, reduceIte, Nat.reduceEqDiff, e3]
    rw [needR] at hnd
    subst hnd
    exact hR _ _ ⟨rfl, hrow⟩
set_option maxHeartbeats 4000000 in
theorem s_neededSteps {w : AV} {xss : List (List Int)} {cs : List Ch} (hw : IsChs H w cs) (h1 : 1 ≤ cs.length) (hc : cs.length ≤ 3000) (hst : ∀ i (h : i < cs.length), StepOk xss cs i cs[i]) :
    ACall Try.prog n_impl_neededSteps [w] H (fun r H' => r = .sl (some (H.size, 0)) cs.length cs.length true 1 ∧ RowB H H' H.size (need cs)) := by
  refine ACall.of fun R hR => a_impl_neededSteps rfl ?_
  obtain ⟨A, c, ex, k, rfl, hr⟩ := hw.parts
  simp (maxSteps := 2000000) (disch := first | omega | assumption | exact idP rfl | exact idP (bL rfl) | (simp only [alloc_size, upd_size]; done) | (simp only [alloc_size, upd_size]; omega) | fail) only [go_sem, reduceIte, Nat.reduceEqDiff]
  refine mks_own (by omega) (by simp [mostCells]; omega) (by simp [mostCells]; omega) ?_
  have en : (cs.length : Int).toNat = cs.length := Int.toNat_natCast _
  have e1 : ((cs.length : Int) - 1).toNat = cs.length - 1 := by omega
  rw [en]
  have r0 := RowB.new (H := H) (Le.refl H) cs.length
  have r1 := r0.set (cs.length - 1) true
  have hz := r0.rw
  simp (maxSteps := 2000000) (disch := first | omega | assumption | exact idP rfl | exact idP (bL rfl) | (simp only [alloc_size, upd_size]; done) | (simp only [alloc_size, upd_size]; omega) | fail) only [go_sem, reduceIte, Nat.reduceEqDiff, e1, hz]
  rw [stoK_1 rfl (by simp; omega)]
  simp (maxSteps := 2000000) (disch := first | omega | assumption | exact idP rfl | exact idP (bL rfl) | (simp only [alloc_size, upd_size]; done) | (simp only [alloc_size, upd_size]; omega) | fail) only [go_sem, reduceIte, Nat.reduceEqDiff]
  refine wp_loop_k (fun e H' => ∃ (k' : Nat) (nd : List Bool), k' ≤ cs.length ∧ e 0 = .sl A cs.length c ex k ∧ e 3 = .sl (some (H.size, 0)) cs.length cs.length true 1 ∧ e 4 = .int .i64 ((k' : Int) - 1) ∧ RowB H H' H.size nd ∧ nd.length = cs.length ∧ needR cs k' nd = need cs) (fun e _ => upA (e 4)) ?_ ?_
  · exact ⟨cs.length, _, Nat.le_refl _, by simp (maxSteps := 2000000) (disch := first | omega | assumption | exact idP rfl | exact idP (bL rfl) | (simp only [alloc_size, upd_size]; done) | (simp only [alloc_size, upd_size]; omega) | fail) only [go_sem, reduceIte, Nat.reduceEqDiff], by simp (maxSteps := 2000000) (disch := first | omega | assumption | exact idP rfl | exact idP (bL rfl) | (simp only [alloc_size, upd_size]; done) | (simp only [alloc_size, upd_size]; omega) | fail) only [go_sem, reduceIte, Nat.reduceEqDiff]; rfl, by simp (maxSteps := 2000000) (disch := first | omega | assumption | exact idP rfl | exact idP (bL rfl) | (simp only [alloc_size, upd_size]; done) | (simp only [alloc_size, upd_size]; omega) | fail) only [go_sem, reduceIte, Nat.reduceEqDiff], r1, by simp, rfl⟩
  rintro e H1 ⟨k', nd, hk, e0, e3, e4, hrow, hnl, hnd⟩ K hK
  simp (maxSteps := 2000000) (disch := first | omega | assumption | exact idP rfl | exact idP (bL rfl) | (simp only [alloc_size, upd_size]; done) | (simp only [alloc_size, upd_size]; omega) | fail) only [go_sem, reduceIte, Nat.reduceEqDiff, e4]
  refine condV_dec (fun h => ?_) (fun h => ?_)
  · obtain ⟨i, rfl⟩ : ∃ i, k' = i + 1 := ⟨k' - 1, by omega⟩
    have hi : i < cs.length := by omega
    have ei : ((i + 1 : Nat) : Int) - 1 = (i : Int) := by omega
    rw [ei] at e4
    have e4' := e4
    obtain ⟨u, g, hu⟩ := hr i hi
    have g := g.le hrow.le'
    have hgd : nd.getD i false = nd[i]'(by omega) := getD_at (by omega)
    have hcd : cs.getD i ch0 = cs[i] := getD_at hi
    have hsi := hst i hi
    generalize hy : cs[i] = y at *
    rw [needR] at hnd
    have nxt : ∀ (nd2 : List Bool) (H2 : Heap) (e2 : Env), needStep cs i nd = nd2 → RowB H H2 H.size nd2 → e2 0 = .sl A cs.length c ex k → e2 3 = .sl (some (H.size, 0)) cs.length cs.length true 1 → e2 4 = .int .i64 ((i : Int) - 1) → K e2 H2 := fun nd2 H2 e2 q1 q2 q3 q4 q5 => by
      refine hK _ _ ⟨i, nd2, by omega, q3, q4, q5, q2, by rw [← q1, needStep_len]; exact hnl, by rw [← q1]; exact hnd⟩ ?_
      rw [q5, e4']
      simp only [upA_int]
      omega
    have q2 : H1.get A.b (A.o + i * 5 + 1 + 1) = some (.int .i64 y.c) := g.g2
    have q3 : H1.get A.b (A.o + i * 5 + 1 + 1 + 1) = some (.int .i64 y.p) := g.g3
    have q4 : H1.get A.b (A.o + i * 5 + 1 + 1 + 1 + 1) = some u := g.g4
    have hu1 := (oneA_isS hu).1
    simp (maxSteps := 2000000) (disch := first | omega | assumption | exact idP rfl | exact idP (bL rfl) | (simp only [alloc_size, upd_size]; done) | (simp only [alloc_size, upd_size]; omega) | fail) only [go_sem, reduceIte, Nat.reduceEqDiff, e0, e3, e4, g.g0, g.g1, q2, q3, q4]
    have hLB : Le H1 ((H1.alloc [.int .i64 0, .int .i64 0, .int .i64 0, .int .i64 0, .sl none 0 0 true 0]).upd H1.size (.cells [.int .i64 y.a, .int .i64 y.b, .int .i64 y.c, .int .i64 y.p, u] true)) := ((Le.refl _).allocs).updFresh (Nat.le_refl _)
    have gd : ∀ j, ((H1.alloc [.int .i64 0, .int .i64 0, .int .i64 0, .int .i64 0, .sl none 0 0 true 0]).upd H1.size (.cells [.int .i64 y.a, .int .i64 y.b, .int .i64 y.c, .int .i64 y.p, u] true)).get H1.size j = [AV.int .i64 y.a, .int .i64 y.b, .int .i64 y.c, .int .i64 y.p, u][j]? := fun j => by rw [get_upd_same (by simp only [alloc_size]; omega)]
    generalize hG : ((H1.alloc [AV.int .i64 0, .int .i64 0, .int .i64 0, .int .i64 0, .sl none 0 0 true 0]).upd H1.size (.cells [.int .i64 y.a, .int .i64 y.b, .int .i64 y.c, .int .i64 y.p, u] true)) = G at *
    have d0 : G.get H1.size 0 = some (.int .i64 y.a) := gd 0
    have d1 : G.get H1.size 1 = some (.int .i64 y.b) := gd 1
    have d2 : G.get H1.size 2 = some (.int .i64 y.c) := gd 2
    have hrG := hrow.step hLB
    have gn := hrG.get (i := i) (by omega)
    have hlt := hrow.lt
    simp (maxSteps := 2000000) (disch := first | omega | assumption | exact idP rfl | exact idP (bL rfl) | (simp only [alloc_size, upd_size]; done) | (simp only [alloc_size, upd_size]; omega) | fail) only [go_sem, reduceIte, Nat.reduceEqDiff, e0, e3, e4, gn]
    cases hb : nd[i]'(by omega) with
    | false =>
      simp (maxSteps := 2000000) (disch := first | omega | assumption | exact idP rfl | exact idP (bL rfl) | (simp only [alloc_size, upd_size]; done) | (simp only [alloc_size, upd_size]; omega) | fail) only [go_sem, reduceIte, Nat.reduceEqDiff, e0, e3, e4]
      exact nxt nd _ _ (by unfold needStep; rw [hgd, hb]; simp) hrG (by simp (maxSteps := 2000000) (disch := first | omega | assumption | exact idP rfl | exact idP (bL rfl) | (simp only [alloc_size, upd_size]; done) | (simp only [alloc_size, upd_size]; omega) | fail) only [go_sem, reduceIte, Nat.reduceEqDiff, e0]) (by simp (maxSteps := 2000000) (disch := first | omega | assumption | exact idP rfl | exact idP (bL rfl) | (simp only [alloc_size, upd_size]; done) | (simp only [alloc_size, upd_size]; omega) | fail) only [go_sem, reduceIte, Nat.reduceEqDiff, e3]) (by simp (maxSteps := 2000000) (disch := first | omega | assumption | exact idP rfl | exact idP (bL rfl) | (simp only [alloc_size, upd_size]; done) | (simp only [alloc_size, upd_size]; omega) | fail) only [go_sem, reduceIte, Nat.reduceEqDiff])
    | true =>
      by_cases ha : y.a = -1
      · obtain ⟨b0, b1, c0, c1, _⟩ := (stepB ha).1 hsi
        have hB : y.b.toNat < cs.length := by omega
        have hC : y.c.toNat < cs.length := by omega
        have hr1 := hrG.rw
        have s1 := hrG.set y.b.toNat true
        have hr2 := s1.rw
        have hne : H1.size ≠ H.size := by omega
        have d2' : (G.upd H.size (.cells ((nd.map AV.bool).set y.b.toNat (.bool true)) true)).get H1.size 2 = some (.int .i64 y.c) := by rw [get_upd_ne hne]; exact d2
        simp (maxSteps := 2000000) (disch := first | omega | assumption | exact idP rfl | exact idP (bL rfl) | (simp only [alloc_size, upd_size]; done) | (simp only [alloc_size, upd_size]; omega) | fail) only [go_sem, reduceIte, Nat.reduceEqDiff, e0, e3, e4, d0, d1, d2, ha, decide_true, hr1]
        rw [stoK_1 rfl (by simp; omega)]
        simp (maxSteps := 2000000) (disch := first | omega | assumption | exact idP rfl | exact idP (bL rfl) | (simp only [alloc_size, upd_size]; done) | (simp only [alloc_size, upd_size]; omega) | fail) only [go_sem, reduceIte, Nat.reduceEqDiff, e0, e3, e4, d2', hr2]
        rw [stoK_1 rfl (by simp; omega)]
        simp (maxSteps := 2000000) (disch := first | omega | assumption | exact idP rfl | exact idP (bL rfl) | (simp only [alloc_size, upd_size]; done) | (simp only [alloc_size, upd_size]; omega) | fail) only [go_sem, reduceIte, Nat.reduceEqDiff, e0, e3, e4]
        refine nxt ((nd.set y.b.toNat true).set y.c.toNat true) _ _ ?_ (s1.set y.c.toNat true) (by simp (maxSteps := 2000000) (disch := first | omega | assumption | exact idP rfl | exact idP (bL rfl) | (simp only [alloc_size, upd_size]; done) | (simp only [alloc_size, upd_size]; omega) | fail) only [go_sem, reduceIte, Nat.reduceEqDiff, e0]) (by simp (maxSteps := 2000000) (disch := first | omega | assumption | exact idP rfl | exact idP (bL rfl) | (simp only [alloc_size, upd_size]; done) | (simp only [alloc_size, upd_size]; omega) | fail) only [go_sem, reduceIte, Nat.reduceEqDiff, e3]) (by simp (maxSteps := 2000000) (disch := first | omega | assumption | exact idP rfl | exact idP (bL rfl) | (simp only [alloc_size, upd_size]; done) | (simp only [alloc_size, upd_size]; omega) | fail) only [go_sem, reduceIte, Nat.reduceEqDiff])
        unfold needStep
        rw [hgd, hb, hcd, if_pos ⟨rfl, ha⟩]
      · simp (maxSteps := 2000000) (disch := first | omega | assumption | exact idP rfl | exact idP (bL rfl) | (simp only [alloc_size, upd_size]; done) | (simp only [alloc_size, upd_size]; omega) | fail) only [go_sem, reduceIte, Nat.reduceEqDiff, e0, e3, e4, d0, ha, decide_false]
        refine nxt nd _ _ ?_ hrG (by simp (maxSteps := 2000000) (disch := first | omega | assumption | exact idP rfl | exact idP (bL rfl) | (simp only [alloc_size, upd_size]; done) | (simp only [alloc_size, upd_size]; omega) | fail) only [go_sem, reduceIte, Nat.reduceEqDiff, e0]) (by simp (maxSteps := 2000000) (disch := first | omega | assumption | exact idP rfl | exact idP (bL rfl) | (simp only [alloc_size, upd_size]; done) | (simp only [alloc_size, upd_size]; omega) | fail) only [go_sem, reduceIte, Nat.reduceEqDiff, e3]) (by simp (maxSteps := 2000000) (disch := first | omega | assumption | exact idP rfl | exact idP (bL rfl) | (simp only [alloc_size, upd_size]; done) | (simp only [alloc_size, upd_size]; omega) | fail) only [go_sem, reduceIte, Nat.reduceEqDiff])
        unfold needStep
        rw [hcd, if_neg (fun h => ha h.2)]
  · obtain rfl : k' = 0 := by omega
    simp (maxSteps := 2000000) (disch := first | omega | assumption | exact idP rfl | exact idP (bL rfl) | (simp only [alloc_size, upd_size]; done) | (simp only [alloc_size, upd_size]; omega) | fail) only [go_sem, reduceIte, Nat.reduceEqDiff, e3]
    rw [needR] at hnd
    subst hnd
    exact hR _ _ ⟨rfl, hrow⟩
end Go.M2

namespace Go.M2
open Go.Proofs
variable {H : Heap}
def NeedRes (n : Int) (xss : List (List Int)) (cs : List Ch) (ks : List Int) : Prop :=
  (¬ ChainsOk n xss cs ∧ ks = []) ∨ (ChainsOk n xss cs ∧ ks = listB (useR cs (need cs) cs.length (List.replicate xss.length false)) xss.length)
theorem NeedRes.det {n : Int} {xss : List (List Int)} {cs : List Ch} {a b : List Int} (h : NeedRes n xss cs a) (h' : NeedRes n xss cs b) : a = b := by
  rcases h with ⟨h1, rfl⟩ | ⟨h1, rfl⟩ <;> rcases h' with ⟨k1, rfl⟩ | ⟨k1, rfl⟩ <;> first | rfl | exact absurd k1 h1 | exact absurd h1 k1
theorem NeedRes.short {n : Int} {xss : List (List Int)} {cs : List Ch} {a : List Int} (h : NeedRes n xss cs a) : a.length ≤ 2500 := by
  rcases h with ⟨h1, rfl⟩ | ⟨h1, rfl⟩
  · simp
  · exact Nat.le_trans listB_len h1.ok.few
end Go.M2

namespace Go.M2
open Go.Proofs
variable {H : Heap}
set_option maxHeartbeats 4000000 in
theorem s_markChainS {r : AV} {lo hi : Nat} {cs : List Ch} {k0 : Int} (ht : TreeC H lo hi r cs) (hl : cs.length ≤ 1048576) (hcl : ∀ x ∈ cs, x.cl.length ≤ 1048576) (h0 : 0 ≤ k0) (h1 : k0 ≤ 4398046511104) :
    ACall Try.prog n_laws_markChainS [r, .int .i64 k0] H (fun r' H' => ∃ k : Int, r' = .int .i64 k ∧ 0 ≤ k ∧ H'.size = H.size ∧ H'.gap lo hi = H.gap lo hi) := by
  refine ACall.of fun R hR => a_laws_markChainS rfl ?_
  obtain ⟨b, l, rfl, q1, q2, q3, q4, q5, q6⟩ := ht
  simp (maxSteps := 2000000) (disch := first | omega | assumption | exact idP rfl | exact idP (bL rfl) | (simp only [alloc_size, upd_size]; done) | (simp only [alloc_size, upd_size]; omega) | fail) only [go_sem, reduceIte, Nat.reduceEqDiff]
  refine wp_loop_k (fun e H' => ∃ (i : Nat) (k : Int) (l' : List AV), i ≤ cs.length ∧ e 0 = .sl (some (b, 0)) cs.length cs.length true 5 ∧ e 1 = .int .i64 k ∧ e 5 = .int .i64 (i : Int) ∧ 0 ≤ k ∧ k ≤ k0 + (i : Int) * 1048580 ∧ H'.size = H.size ∧ H'.gap lo hi = H.gap lo hi ∧ H'.blk b = .cells l' true ∧ l'.length = cs.length * 5 ∧
    ∀ j (hj : j < cs.length), ∃ bj, l'[j * 5 + 4]? = some (.sl (some (bj, 0)) cs[j].cl.length cs[j].cl.length true 1) ∧ lo ≤ bj ∧ bj < hi ∧ bj ≠ b ∧ bj < H.size ∧ ∃ zs : List Int, zs.length = cs[j].cl.length ∧ H'.blk bj = .cells (zs.map (AV.int .i64)) true) (fun e _ => ctr cs.length (e 5)) ?_ ?_
  · exact ⟨0, k0, l, Nat.zero_le _, by simp (maxSteps := 2000000) (disch := first | omega | assumption | exact idP rfl | exact idP (bL rfl) | (simp only [alloc_size, upd_size]; done) | (simp only [alloc_size, upd_size]; omega) | fail) only [go_sem, reduceIte, Nat.reduceEqDiff], by simp (maxSteps := 2000000) (disch := first | omega | assumption | exact idP rfl | exact idP (bL rfl) | (simp only [alloc_size, upd_size]; done) | (simp only [alloc_size, upd_size]; omega) | fail) only [go_sem, reduceIte, Nat.reduceEqDiff], by simp (maxSteps := 2000000) (disch := first | omega | assumption | exact idP rfl | exact idP (bL rfl) | (simp only [alloc_size, upd_size]; done) | (simp only [alloc_size, upd_size]; omega) | fail) only [go_sem, reduceIte, Nat.reduceEqDiff]; rfl, h0, by omega, rfl, rfl, q4, q5, q6⟩
  · rintro e H1 ⟨i, k, l', hi', e0, e1, e5, hk0, hk1, hsz, hgap, hbl, hll, hj⟩ K hK
    simp (maxSteps := 2000000) (disch := first | omega | assumption | exact idP rfl | exact idP (bL rfl) | (simp only [alloc_size, upd_size]; done) | (simp only [alloc_size, upd_size]; omega) | fail) only [go_sem, reduceIte, Nat.reduceEqDiff, e0, e5]
    refine condV_dec (fun h => ?_) (fun h => ?_)
    · have e5' := e5
      have hi2 : i < cs.length := by omega
      obtain ⟨bj, r1, r2, r3, r4, r5, zs, r6, r7⟩ := hj i hi2
      have hxi := hcl _ (List.getElem_mem hi2)
      have hb1 : b < H1.size := by omega
      have hrw := rwCells_of hb1 hbl
      generalize hL : ((((l'.set (i * 5) (.int .i64 k)).set (i * 5 + 1) (.int .i64 (k + 1))).set (i * 5 + 2) (.int .i64 (k + 1 + 1))).set (i * 5 + 3) (.int .i64 (k + 1 + 1 + 1))) = L
      have hLl : L.length = cs.length * 5 := by rw [← hL]; simp [hll]
      have hL4 : ∀ j, j < cs.length → L[j * 5 + 4]? = l'[j * 5 + 4]? := fun j hjj => by
        rw [← hL, List.getElem?_set_ne (by omega), List.getElem?_set_ne (by omega), List.getElem?_set_ne (by omega), List.getElem?_set_ne (by omega)]
      have hne : bj ≠ b := r4
      simp (maxSteps := 2000000) (disch := first | omega | assumption | exact idP rfl | exact idP (bL rfl) | (simp only [alloc_size, upd_size]; done) | (simp only [alloc_size, upd_size]; omega) | fail) only [go_sem, reduceIte, Nat.reduceEqDiff, e0, e1, e5, hrw, hll, List.length_set, Heap.upd_upd]
      rw [stoK_1 rfl (by rw [List.length_set]; omega)]
      simp (maxSteps := 2000000) (disch := first | omega | assumption | exact idP rfl | exact idP (bL rfl) | (simp only [alloc_size, upd_size]; done) | (simp only [alloc_size, upd_size]; omega) | fail) only [go_sem, reduceIte, Nat.reduceEqDiff, e0, e5, hll, List.length_set, Heap.upd_upd]
      rw [stoK_1 rfl (by rw [List.length_set, List.length_set]; omega)]
      simp (maxSteps := 2000000) (disch := first | omega | assumption | exact idP rfl | exact idP (bL rfl) | (simp only [alloc_size, upd_size]; done) | (simp only [alloc_size, upd_size]; omega) | fail) only [go_sem, reduceIte, Nat.reduceEqDiff, e0, e5, hll, List.length_set, Heap.upd_upd]
      rw [stoK_1 rfl (by rw [List.length_set, List.length_set, List.length_set]; omega)]
      have hu4 := hL4 i hi2
      rw [r1] at hu4
      simp (maxSteps := 2000000) (disch := first | omega | assumption | exact idP rfl | exact idP (bL rfl) | (simp only [alloc_size, upd_size]; done) | (simp only [alloc_size, upd_size]; omega) | fail) only [go_sem, reduceIte, Nat.reduceEqDiff, e0, e5, hll, List.length_set, Heap.upd_upd, hL, hu4]
      refine (s_markIntS (zs := zs) (rwCells_of (by simp only [upd_size]; omega) (by rw [upd_blk_ne hne]; exact r7)) r6.symm (by omega) (by omega)).mono ?_
      rintro r H2 ⟨rfl, rfl⟩
      simp (maxSteps := 2000000) (disch := first | omega | assumption | exact idP rfl | exact idP (bL rfl) | (simp only [alloc_size, upd_size]; done) | (simp only [alloc_size, upd_size]; omega) | fail) only [go_sem, reduceIte, Nat.reduceEqDiff, e5]
      refine hK _ _ ⟨i + 1, k + 1 + 1 + 1 + 1 + (cs[i].cl.length : Int), L, by omega, by simp (maxSteps := 2000000) (disch := first | omega | assumption | exact idP rfl | exact idP (bL rfl) | (simp only [alloc_size, upd_size]; done) | (simp only [alloc_size, upd_size]; omega) | fail) only [go_sem, reduceIte, Nat.reduceEqDiff, e0], by simp (maxSteps := 2000000) (disch := first | omega | assumption | exact idP rfl | exact idP (bL rfl) | (simp only [alloc_size, upd_size]; done) | (simp only [alloc_size, upd_size]; omega) | fail) only [go_sem, reduceIte, Nat.reduceEqDiff], by simp (maxSteps := 2000000) (disch := first | omega | assumption | exact idP rfl | exact idP (bL rfl) | (simp only [alloc_size, upd_size]; done) | (simp only [alloc_size, upd_size]; omega) | fail) only [go_sem, reduceIte, Nat.reduceEqDiff]; rfl, by omega, by omega, hsz, by rw [gap_upd r2 r3, gap_upd q1 q2]; exact hgap, by rw [upd_blk_ne (fun e => hne e.symm)]; exact upd_blk_same', hLl, fun j hjj => ?_⟩ (by simp (maxSteps := 2000000) (disch := first | omega | assumption | exact idP rfl | exact idP (bL rfl) | (simp only [alloc_size, upd_size]; done) | (simp only [alloc_size, upd_size]; omega) | fail) only [go_sem, reduceIte, Nat.reduceEqDiff, ctr_int, e5']; omega)
      obtain ⟨bk, s1, s2, s3, s4, s5, zs', s6, s7⟩ := hj j hjj
      refine ⟨bk, by rw [hL4 j hjj]; exact s1, s2, s3, s4, s5, ?_⟩
      by_cases hbk : bk = bj
      · subst hbk
        rw [r7] at s7
        simp only [Blk.cells.injEq, and_true] at s7
        have hzz : zs.length = zs'.length := by simpa using congrArg List.length s7
        exact ⟨_, by rw [marks_len]; omega, upd_blk_same'⟩
      · exact ⟨zs', s6, by rw [upd_blk_ne hbk, upd_blk_ne s4]; exact s7⟩
    · simp (maxSteps := 2000000) (disch := first | omega | assumption | exact idP rfl | exact idP (bL rfl) | (simp only [alloc_size, upd_size]; done) | (simp only [alloc_size, upd_size]; omega) | fail) only [go_sem, reduceIte, Nat.reduceEqDiff, e1]
      exact hR _ _ ⟨k, rfl, hk0, hsz, hgap⟩
end Go.M2

namespace Go.M2
open Go.Proofs
variable {H : Heap}
@[go_sem] theorem st_bslo {P : Program} {e : Env} {K : AV → Heap → Prop} {a b : Nat} {z : List AV} {p : List (Nat × X)} : stepL P (.bslo a b z p) e H K = bslcP a b (bslF e a (zeros z b) p) H K := idE rfl
def dis (u v : AV) : Prop := match v with
  | .sl (some (b, _)) _ _ _ _ => apart b u
  | _ => True
theorem Own.base {sz : Nat} {H : Heap} {u v : AV} {l : List AV} (h : Own sz H u l) (hd : dis u v) : Own sz (base H v) u l := by
  obtain ⟨A, n, ex, k, rfl, h1, h2, h3⟩ := h
  refine ⟨A, n, ex, k, rfl, h1, h2, fun b o e => ?_⟩
  subst e
  obtain ⟨q1, q2, q3, q4⟩ := h3 b o rfl
  refine ⟨q1, q2, by rw [base_size]; exact q3, ?_⟩
  unfold M2.base
  split
  · rename_i b' _ _ _ _ _
    have hne : b ≠ b' := by simpa [dis, apart] using hd
    rw [kill_ne hne]; exact q4
  · exact q4
theorem dis_new {H : Heap} {sz n : Nat} {u v : AV} {l : List AV} (h : Own sz H u l) (hs : H.size ≤ n) (hn : newer n v) : dis u v ∧ dis v u := by
  obtain ⟨A, m, ex, k, rfl, h1, h2, h3⟩ := h
  constructor
  · unfold dis
    split
    · rename_i b _ _ _ _ _
      unfold apart
      split
      · rename_i b' o _ _ _ _ e
        cases e
        have := (h3 b' o rfl).2.2.1
        have hn : n ≤ b := hn
        omega
      · trivial
    · trivial
  · unfold dis
    split
    · rename_i b o _ _ _ _ e
      cases e
      have := (h3 b o rfl).2.2.1
      unfold apart
      split
      · rename_i b' _ _ _ _ _
        have hn : n ≤ b' := hn
        omega
      · trivial
    · trivial
theorem dis_base {B : Heap} {p u : AV} {l : List AV} {sz : Nat} (h : Le B (base H p)) (hu : Own sz B u l) : dis p u ∧ dis u p := by
  obtain ⟨A, n, ex, k, rfl, h1, h2, h3⟩ := hu
  have key : ∀ b o, A = some (b, o) → ∀ b' o', (∃ n c ex k, p = .sl (some (b', o')) n c ex k) → b ≠ b' := by
    rintro b o rfl b' o' ⟨n', c', ex', k', rfl⟩ rfl
    obtain ⟨_, _, q3, q4⟩ := h3 b o rfl
    rcases h.2 b q3 with h5 | h5
    · rw [q4] at h5; cases h5
    · rw [q4] at h5
      simp only [base] at h5
      rw [kill_dead] at h5; cases h5
  constructor
  · unfold dis
    split
    · rename_i b o _ _ _ _ e
      cases e
      unfold apart
      split
      · rename_i b' o' n' c' ex' k'
        exact fun e => key b o rfl b' o' ⟨_, _, _, _, rfl⟩ e.symm
      · trivial
    · trivial
  · unfold dis
    split
    · rename_i b' o' n' c' ex' k'
      unfold apart
      split
      · rename_i b o _ _ _ _ e
        cases e
        exact key b o rfl b' o' ⟨_, _, _, _, rfl⟩
      · trivial
    · trivial
def PLO (lo : Nat) (B H : Heap) (p : AV) (P : List (List Int)) : Prop := Le B (base H p) ∧ lo ≤ B.size ∧ ∃ pc : List AV, Own 1 H p pc ∧ pc.length = P.length ∧ (∀ i (h : i < P.length), ∃ u, pc[i]? = some u ∧ Own 1 B u (P[i].map (AV.int .i64)) ∧ newer lo u ∧ P[i].length ≤ 700) ∧
  ∀ (i j : Nat) (u v : AV), i < j → pc[i]? = some u → pc[j]? = some v → dis u v ∧ dis v u
section
variable {lo : Nat} {B : Heap} {p : AV} {P : List (List Int)}
theorem PLO.own (h : PLO lo B H p P) : ∃ pc, Own 1 H p pc ∧ pc.length = P.length := by
  obtain ⟨_, _, pc, h1, h2, _⟩ := h; exact ⟨pc, h1, h2⟩
theorem PLO.len (h : PLO lo B H p P) : lenF p = some (.int .i64 (P.length : Int)) := by
  obtain ⟨_, _, pc, h1, h2, _⟩ := h
  obtain ⟨A, n, ex, k, rfl, h3, _⟩ := h1
  have : n = P.length := by omega
  subst this; rfl
theorem PLO.one (h : PLO lo B H p P) : oneA p = true ∧ cellsOf p = some [p] := by
  obtain ⟨_, _, pc, h1, _⟩ := h
  obtain ⟨A, n, ex, k, rfl, _⟩ := h1
  exact ⟨rfl, rfl⟩
theorem PLO.le {H' : Heap} (h : PLO lo B H p P) (hl : Le H H') : PLO lo B H' p P := by
  obtain ⟨h0, hs, pc, h1, h2, h3⟩ := h
  exact ⟨h0.trans (base_mono hl p), hs, pc, h1.le hl, h2, h3⟩
theorem PLO.at {B' : Heap} (h : PLO lo B H p P) (hB : Le B B') (hl : Le B' (base H p)) : PLO lo B' H p P := by
  obtain ⟨h0, hs, pc, h1, h2, h3, h4⟩ := h
  refine ⟨hl, Nat.le_trans hs hB.1, pc, h1, h2, fun i hi => ?_, h4⟩
  obtain ⟨u, h4, h5, h6, h7⟩ := h3 i hi
  exact ⟨u, h4, h5.le hB, h6, h7⟩
theorem PLO.upd {b : Nat} {x : Blk} (h : PLO lo B H p P) (ha : apart b p) (hd : B.blk b = .dead) : PLO lo B (H.upd b x) p P := by
  obtain ⟨h0, hs, pc, h1, h2, h3⟩ := h
  refine ⟨by rw [base_upd ha]; exact h0.updDead hd x, hs, pc, ?_, h2, h3⟩
  obtain ⟨A, n, ex, k, rfl, q1, q2, q3⟩ := h1
  refine ⟨A, n, ex, k, rfl, q1, q2, fun b' o e => ?_⟩
  subst e
  obtain ⟨r1, r2, r3, r4⟩ := q3 b' o rfl
  have hne : b' ≠ b := ha
  exact ⟨r1, r2, r3, by rw [upd_blk_ne hne]; exact r4⟩
end
end Go.M2

namespace Go.M2
open Go.Proofs
variable {H : Heap}
def cellsC : List Ch → List AV → List AV
  | x :: xs, u :: us => .int .i64 x.a :: .int .i64 x.b :: .int .i64 x.c :: .int .i64 x.p :: u :: cellsC xs us
  | _, _ => []
theorem cellsC_len : ∀ {xs : List Ch} {us : List AV}, us.length = xs.length → (cellsC xs us).length = xs.length * 5
  | [], [], _ => rfl
  | [], u :: us, h => by simp at h
  | x :: xs, [], h => by simp at h
  | x :: xs, u :: us, h => by
    have := cellsC_len (xs := xs) (us := us) (by simpa using h)
    simp only [cellsC, List.length_cons, this]; omega
theorem cellsC_at : ∀ {xs : List Ch} {us : List AV} {j : Nat} (hj : j < xs.length) {u : AV}, us[j]? = some u → ∀ (k : Nat) (y : AV), [AV.int .i64 xs[j].a, .int .i64 xs[j].b, .int .i64 xs[j].c, .int .i64 xs[j].p, u][k]? = some y → (cellsC xs us)[j * 5 + k]? = some y
  | [], _, j, hj, u, hu, k, y, hk => by simp at hj
  | x :: xs, [], j, hj, u, hu, k, y, hk => by simp at hu
  | x :: xs, v :: us, 0, hj, u, hu, k, y, hk => by
    simp at hu; subst hu
    have hk5 : k < 5 := (List.getElem?_eq_some_iff.1 hk).1
    simp only [cellsC, Nat.zero_mul, Nat.zero_add]
    rcases (show k = 0 ∨ k = 1 ∨ k = 2 ∨ k = 3 ∨ k = 4 by omega) with rfl | rfl | rfl | rfl | rfl <;> exact hk
  | x :: xs, v :: us, j + 1, hj, u, hu, k, y, hk => by
    have := cellsC_at (xs := xs) (us := us) (j := j) (by simpa using hj) (u := u) (by simpa using hu) k y (by simpa using hk)
    simp only [cellsC]
    rw [show (j + 1) * 5 + k = j * 5 + k + 1 + 1 + 1 + 1 + 1 by omega]
    simpa using this
theorem cellsC_snoc : ∀ {xs : List Ch} {us : List AV} {x : Ch} {u : AV}, us.length = xs.length → cellsC (xs ++ [x]) (us ++ [u]) = cellsC xs us ++ [.int .i64 x.a, .int .i64 x.b, .int .i64 x.c, .int .i64 x.p, u]
  | [], [], x, u, _ => rfl
  | [], v :: us, x, u, h => by simp at h
  | y :: xs, [], x, u, h => by simp at h
  | y :: xs, v :: us, x, u, h => by
    have := cellsC_snoc (xs := xs) (us := us) (x := x) (u := u) (by simpa using h)
    simp only [List.cons_append, cellsC, this]
theorem cellsC_one {xs : List Ch} : ∀ {us : List AV}, us.length = xs.length → (∀ u ∈ us, oneA u = true) → (cellsC xs us).all oneA = true := by
  induction xs with
  | nil => intro us h _; cases us <;> simp_all [cellsC]
  | cons x xs ih =>
    intro us h h1
    cases us with
    | nil => simp at h
    | cons u us =>
      have := ih (us := us) (by simpa using h) fun v hv => h1 v (by simp [hv])
      have h2 := h1 u (by simp)
      simp only [cellsC, List.all_cons, this, h2]
      rfl
def PLC (lo : Nat) (B H : Heap) (p : AV) (P : List Ch) : Prop := Le B (base H p) ∧ lo ≤ B.size ∧ ∃ us : List AV, us.length = P.length ∧ Own 5 H p (cellsC P us) ∧ (∀ i (h : i < P.length), ∃ u, us[i]? = some u ∧ Own 1 B u (P[i].cl.map (AV.int .i64)) ∧ newer lo u ∧ P[i].cl.length ≤ 700) ∧
  ∀ (i j : Nat) (u v : AV), i < j → us[i]? = some u → us[j]? = some v → dis u v ∧ dis v u
section
variable {lo : Nat} {B : Heap} {p : AV} {P : List Ch}
theorem PLC.len (h : PLC lo B H p P) : ∃ A ex k, p = .sl A P.length P.length ex k := by
  obtain ⟨_, _, us, hu, h1, _⟩ := h
  obtain ⟨A, n, ex, k, rfl, h3, _⟩ := h1
  rw [cellsC_len hu] at h3
  have : n = P.length := by omega
  subst this; exact ⟨A, ex, k, rfl⟩
theorem PLC.le {H' : Heap} (h : PLC lo B H p P) (hl : Le H H') : PLC lo B H' p P := by
  obtain ⟨h0, hs, us, hu, h1, h3⟩ := h
  exact ⟨h0.trans (base_mono hl p), hs, us, hu, h1.le hl, h3⟩
theorem PLC.at {B' : Heap} (h : PLC lo B H p P) (hB : Le B B') (hl : Le B' (base H p)) : PLC lo B' H p P := by
  obtain ⟨h0, hs, us, hu, h1, h3, h4⟩ := h
  refine ⟨hl, Nat.le_trans hs hB.1, us, hu, h1, fun i hi => ?_, h4⟩
  obtain ⟨u, h4, h5, h6, h7⟩ := h3 i hi
  exact ⟨u, h4, h5.le hB, h6, h7⟩
theorem PLC.own (h : PLC lo B H p P) : ∃ l, Own 5 H p l := by
  obtain ⟨_, _, us, hu, h1, _⟩ := h; exact ⟨_, h1⟩
theorem PLC.upd {b : Nat} {x : Blk} (h : PLC lo B H p P) (ha : apart b p) (hd : B.size ≤ b ∨ B.blk b = .dead) : PLC lo B (H.upd b x) p P := by
  obtain ⟨h0, hs, us, hu, h1, h3⟩ := h
  refine ⟨by rw [base_upd ha]; rcases hd with hd | hd; exact h0.updFresh hd; exact h0.updDead hd x, hs, us, hu, ?_, h3⟩
  obtain ⟨A, n, ex, k, rfl, q1, q2, q3⟩ := h1
  refine ⟨A, n, ex, k, rfl, q1, q2, fun b' o e => ?_⟩
  subst e
  obtain ⟨r1, r2, r3, r4⟩ := q3 b' o rfl
  have hne : b' ≠ b := ha
  exact ⟨r1, r2, r3, by rw [upd_blk_ne hne]; exact r4⟩
theorem PLC.lower {lo' : Nat} (h : PLC lo B H p P) (hl : lo' ≤ lo) : PLC lo' B H p P := by
  obtain ⟨h0, hs, us, hu, h1, h3, h4⟩ := h
  refine ⟨h0, by omega, us, hu, h1, fun i hi => ?_, h4⟩
  obtain ⟨u, q1, q2, q3, q4⟩ := h3 i hi
  exact ⟨u, q1, q2, q3.mono hl, q4⟩
theorem PLC.later (h : PLC lo B H p P) (hn : newer lo p) : PLC lo (B.later lo) (H.later lo) p P := by
  obtain ⟨h0, hs, us, hu, h1, h3, h4⟩ := h
  have eb : base (H.later lo) p = (base H p).later lo := by
    unfold base
    split
    · unfold Heap.kill Heap.upd Heap.later
      simp only [Heap.mk.injEq, true_and]
      funext i
      split <;> split <;> simp_all
    · rfl
  refine ⟨by rw [eb]; exact later_mono h0 (Nat.le_refl _), hs, us, hu, h1.later hn, fun i hi => ?_, h4⟩
  obtain ⟨w, q1, q2, q3, q4⟩ := h3 i hi
  exact ⟨w, q1, q2.later q3, q3, q4⟩
theorem PLC.isChs (h : PLC lo B H p P) : IsChs H p P := by
  obtain ⟨h0, _, us, hu, h1, h3, _⟩ := h
  have hrd := h1
  obtain ⟨A, n, ex, k, rfl, q1, q2, q3⟩ := h1
  rw [cellsC_len hu] at q1
  have hn : n = P.length := by omega
  subst hn
  have hrd := Own.rd hrd
  refine ⟨A, P.length, ex, k, rfl, fun i hi => ?_⟩
  obtain ⟨u, e1, e2, _⟩ := h3 i hi
  refine ⟨_, rfl, fun j z hj => ?_, u, rfl, e2.isI.le (h0.trans (base_le _ _))⟩
  have := hrd (i * 5 + j) z (cellsC_at hi e1 j z hj)
  rwa [← Nat.add_assoc] at this
theorem PLC.few (h : PLC lo B H p P) : ∀ x ∈ P, x.cl.length ≤ 700 := by
  obtain ⟨h0, _, us, hu, h1, h3, _⟩ := h
  intro c hc
  obtain ⟨i, hi, rfl⟩ := List.getElem_of_mem hc
  obtain ⟨u, q1, q2, q3, q4⟩ := h3 i hi
  exact q4
theorem plc_app {B1 : Heap} {by_ : Nat} {u : AV} {c : Ch} {K : AV → Heap → Prop} (h : PLC lo B H p P) (hB : Le B B1) (hB1 : Le B1 (base H p)) (hu : Own 1 B1 u (c.cl.map (AV.int .i64))) (hun : newer B.size u) (hc7 : c.cl.length ≤ 700) (hb : P.length ≤ 1048576) (hby : by_ ≤ 64)
    (hk : ∀ p' H', PLC lo B1 H' p' (P ++ [c]) → Le (base H p) (base H' p') → (∀ n, n ≤ H.size → newer n p → newer n p') → K p' H') : appP 5 by_ p (.sl (some (H.size, 0)) 1 1 true 5) (H.alloc [.int .i64 c.a, .int .i64 c.b, .int .i64 c.c, .int .i64 c.p, u]) K := by
  obtain ⟨_, hs, us, hul, h1, h3, h4⟩ := h
  have ho : oneA u = true := by obtain ⟨A, n, ex, k, rfl, _⟩ := hu; rfl
  refine app_own (sz := 5) (by omega) (h1.le (Le.alloc _ _)) (Rd.blk (Nat.lt_succ_self _) (alloc_new _ _)) rfl (by simp only [List.all_cons, List.all_nil, ho]; rfl) ?_ (by rw [cellsC_len hul]; simp [mostCells]; omega) ?_
  · rw [cellsC_len hul]
    have : (P.length * 5 + 1) * by_ ≤ (P.length * 5 + 1) * 64 := Nat.mul_le_mul_left _ hby
    simp only [mostCells]; omega
  · intro p' H' q1 q2 qn
    have q3 := (base_mono (Le.alloc H [.int .i64 c.a, .int .i64 c.b, .int .i64 c.c, .int .i64 c.p, u]) p).trans q2
    have old : ∀ i w, i < P.length → (us ++ [u])[i]? = some w → us[i]? = some w := fun i w hi hw => by rwa [List.getElem?_append_left (by omega)] at hw
    have new : ∀ i w, ¬ i < P.length → (us ++ [u])[i]? = some w → i = P.length ∧ w = u := fun i w hi hw => by
      rw [List.getElem?_append_right (by omega), hul] at hw
      by_cases e : i = P.length
      · subst e; simp at hw; exact ⟨rfl, hw.symm⟩
      · rw [List.getElem?_eq_none (by simp; omega)] at hw; cases hw
    refine hk p' H' ⟨hB1.trans q3, Nat.le_trans hs hB.1, us ++ [u], by simp [hul], by rw [cellsC_snoc hul]; exact q1, fun i hi => ?_, fun i j w x hij hw hx => ?_⟩ q3 fun m hm hn => qn m (Nat.le_trans hm (Nat.le_succ _)) hn
    · by_cases hi2 : i < P.length
      · obtain ⟨w, h4, h5, h6, h7⟩ := h3 i hi2
        refine ⟨w, by rw [List.getElem?_append_left (by omega)]; exact h4, ?_, h6, ?_⟩
        · rw [List.getElem_append_left hi2]; exact h5.le hB
        · rw [List.getElem_append_left hi2]; exact h7
      · have : i = P.length := by simp at hi; omega
        subst this
        refine ⟨u, by rw [List.getElem?_append_right (by omega), hul]; simp, ?_, hun.mono hs, ?_⟩
        · rw [List.getElem_append_right (by omega)]
          simpa using hu
        · rw [List.getElem_append_right (by omega)]
          simpa using hc7
    · by_cases hj2 : j < P.length
      · exact h4 i j w x hij (old i w (by omega) hw) (old j x hj2 hx)
      · obtain ⟨rfl, rfl⟩ := new j x hj2 hx
        obtain ⟨w', r1, r2, _⟩ := h3 i (by omega)
        have hw' := old i w (by omega) hw
        rw [r1] at hw'; cases hw'
        exact dis_new r2 (Nat.le_refl _) hun
end
end Go.M2

namespace Go.M2
open Go.Proofs
variable {H : Heap}
def renum (nw : List Int) (x : Ch) : Ch := if x.a = -1 then ⟨x.a, nw.getD x.b.toNat 0, nw.getD x.c.toNat 0, x.p, x.cl⟩ else x
def trimR (cs : List Ch) (nd : List Bool) : Nat → List Int × List Ch
  | 0 => (List.replicate cs.length 0, [])
  | k + 1 => if nd.getD k false = true then ((trimR cs nd k).1.set k (trimR cs nd k).2.length, (trimR cs nd k).2 ++ [renum (trimR cs nd k).1 (cs.getD k ch0)]) else trimR cs nd k
theorem trimR_len {cs : List Ch} {nd : List Bool} : ∀ {k : Nat}, (trimR cs nd k).1.length = cs.length ∧ (trimR cs nd k).2.length ≤ k
  | 0 => by simp [trimR]
  | k + 1 => by
    have := trimR_len (cs := cs) (nd := nd) (k := k)
    rw [trimR]
    split
    · simp; omega
    · omega
def TrimRes (n : Int) (xss : List (List Int)) (cs out : List Ch) : Prop :=
  (¬ ChainsOk n xss cs ∧ out = []) ∨ (ChainsOk n xss cs ∧ out = (trimR cs (need cs) cs.length).2)
theorem TrimRes.det {n : Int} {xss : List (List Int)} {cs : List Ch} {a b : List Ch} (h : TrimRes n xss cs a) (h' : TrimRes n xss cs b) : a = b := by
  rcases h with ⟨h1, rfl⟩ | ⟨h1, rfl⟩ <;> rcases h' with ⟨k1, rfl⟩ | ⟨k1, rfl⟩ <;> first | rfl | exact absurd k1 h1 | exact absurd h1 k1
theorem TrimRes.short {n : Int} {xss : List (List Int)} {cs a : List Ch} (h : TrimRes n xss cs a) : a.length ≤ 3000 := by
  rcases h with ⟨h1, rfl⟩ | ⟨h1, rfl⟩
  · simp
  · exact Nat.le_trans trimR_len.2 h1.hi
theorem clOk_short {n : Int} {xs : List Int} (h : ClOk n xs) (h0 : 0 ≤ n) (h1 : n ≤ 700) : xs.length ≤ 700 := by
  have key : ∀ x ∈ xs, x ≠ 0 ∧ x.natAbs ≤ 700 := fun x hx => by
    obtain ⟨i, hi, rfl⟩ := List.getElem_of_mem hx
    have := litOk_iff.1 (h i hi).1
    omega
  exact asc_len (clOk_asc h) (fun x hx => (key x hx).1) fun x hx => (key x hx).2
theorem step_short {n : Int} {xss : List (List Int)} {cs : List Ch} (hok : ChainsOk n xss cs) {i : Nat} (hi : i < cs.length) : cs[i].cl.length ≤ 700 := by
  rcases hok.all i hi with ⟨h0, h1, _, _, _, h2⟩ | ⟨_, _, _, _, _, h2⟩
  · rw [h2, getD_at (by omega)]
    exact clOk_short (hok.ok.all _ (List.getElem_mem _)) hok.ok.lo hok.ok.hi
  · exact h2.short
set_option maxHeartbeats 16000000 in
theorem s_specTrimChains {x w : AV} {n : Int} {xss : List (List Int)} {cs : List Ch} (hx : IsCl H x n xss) (hl : xss.length ≤ 1048576) (hxl : ∀ xs ∈ xss, xs.length ≤ 1048576) (hw : IsChs H w cs) (hc : cs.length ≤ 1048576) (hcl : ∀ x ∈ cs, x.cl.length ≤ 1048576) :
    ACall Try.prog n_spec_TrimChains [x, w] H (fun r H' => Le H H' ∧ ∃ out, IsChs H' r out ∧ TrimRes n xss cs out) := by
  refine ACall.of fun R hR => a_spec_TrimChains rfl ?_
  obtain ⟨fl, rfl, hv⟩ := hx
  simp (maxSteps := 2000000) (disch := first | omega | assumption | exact idP rfl | exact idP (bL rfl) | (simp only [alloc_size, upd_size]; done) | (simp only [alloc_size, upd_size]; omega) | fail) only [go_sem, reduceIte, Nat.reduceEqDiff]
  have hcl1 : IsCl (H.alloc [.int .i64 n, fl]) (.agg [.int .i64 n, fl]) n xss := ⟨fl, rfl, hv.le (Le.alloc _ _)⟩
  have hw0 := hw
  obtain ⟨A, c, ex, k, rfl, hr⟩ := hw.parts
  refine (s_specCheckChains hcl1 hl hxl (hw0.le (Le.alloc _ _)) hc hcl).mono ?_
  rintro r H1 ⟨hle1, b, rfl, hb⟩
  have hH1 := (Le.alloc H [.int .i64 n, fl]).trans hle1
  cases b with
  | false =>
    simp (maxSteps := 2000000) (disch := first | omega | assumption | exact idP rfl | exact idP (bL rfl) | (simp only [alloc_size, upd_size]; done) | (simp only [alloc_size, upd_size]; omega) | fail) only [go_sem, reduceIte, Nat.reduceEqDiff]
    exact hR _ _ ⟨hH1, [], ⟨none, 0, true, 0, rfl, fun i h => by simp at h⟩, .inl ⟨fun h => (by have := hb.2 h; cases this), rfl⟩⟩
  | true =>
  have hok := hb.1 rfl
  have h1 := hok.lo
  have h3 := hok.hi
  simp (maxSteps := 2000000) (disch := first | omega | assumption | exact idP rfl | exact idP (bL rfl) | (simp only [alloc_size, upd_size]; done) | (simp only [alloc_size, upd_size]; omega) | fail) only [go_sem, reduceIte, Nat.reduceEqDiff]
  refine (s_l13Needed (xss := xss) (hw0.le hH1) h1 h3 hok.all).mono ?_
  rintro r H2 ⟨rfl, hnd⟩
  have hL2 := hH1.trans hnd.le'
  simp (maxSteps := 2000000) (disch := first | omega | assumption | exact idP rfl | exact idP (bL rfl) | (simp only [alloc_size, upd_size]; done) | (simp only [alloc_size, upd_size]; omega) | fail) only [go_sem, reduceIte, Nat.reduceEqDiff]
  refine mks_own (by omega) (by simp [mostCells]; omega) (by simp [mostCells]; omega) ?_
  have en : (cs.length : Int).toNat = cs.length := Int.toNat_natCast _
  rw [en]
  simp (maxSteps := 2000000) (disch := first | omega | assumption | exact idP rfl | exact idP (bL rfl) | (simp only [alloc_size, upd_size]; done) | (simp only [alloc_size, upd_size]; omega) | fail) only [go_sem, reduceIte, Nat.reduceEqDiff]
  have hz0 : ((H2.alloc (zeros [AV.int .i64 0] cs.length)).alloc []).rwCells H2.size = some ((List.replicate cs.length (0 : Int)).map (AV.int .i64)) := by
    rw [rw_alloc_old (Nat.lt_succ_self _), rw_alloc_new rfl, zeros_int]
  have hpl0 : PLC H.size (H2.pad (H2.size + 1 + 1)) ((H2.alloc (zeros [AV.int .i64 0] cs.length)).alloc []) (.sl (some (H2.size + 1, 0)) 0 0 true 5) [] :=
    ⟨pad_le ((Le.refl _).allocs.allocs.killFresh (Nat.le_succ _)) (by rw [base_size]; exact Nat.le_refl _), by rw [pad_size]; have := hL2.1; omega, [], rfl, Own.new (H := H2.alloc (zeros [AV.int .i64 0] cs.length)) rfl, fun i h => by simp at h, fun i j u v h1 h2 => by simp at h2⟩
  refine wp_loop_k (fun e H' => ∃ (i : Nat) (B : Heap), i ≤ cs.length ∧ e 1 = .sl A cs.length c ex k ∧ e 5 = .sl (some (H1.size, 0)) cs.length cs.length true 1 ∧ e 6 = .sl (some (H2.size, 0)) cs.length cs.length true 1 ∧ e 8 = .int .i64 (i : Int) ∧ Le H2 B ∧ H2.size < B.size ∧ B.blk H2.size = .dead ∧
    PLC H.size B H' (e 7) (trimR cs (need cs) i).2 ∧ (base H' (e 7)).rwCells H2.size = some ((trimR cs (need cs) i).1.map (AV.int .i64))) (fun e _ => ctr cs.length (e 8)) ?_ ?_
  · refine ⟨0, H2.pad (H2.size + 1 + 1), Nat.zero_le _, by simp (maxSteps := 2000000) (disch := first | omega | assumption | exact idP rfl | exact idP (bL rfl) | (simp only [alloc_size, upd_size]; done) | (simp only [alloc_size, upd_size]; omega) | fail) only [go_sem, reduceIte, Nat.reduceEqDiff], by simp (maxSteps := 2000000) (disch := first | omega | assumption | exact idP rfl | exact idP (bL rfl) | (simp only [alloc_size, upd_size]; done) | (simp only [alloc_size, upd_size]; omega) | fail) only [go_sem, reduceIte, Nat.reduceEqDiff], by simp (maxSteps := 2000000) (disch := first | omega | assumption | exact idP rfl | exact idP (bL rfl) | (simp only [alloc_size, upd_size]; done) | (simp only [alloc_size, upd_size]; omega) | fail) only [go_sem, reduceIte, Nat.reduceEqDiff]; rfl, by simp (maxSteps := 2000000) (disch := first | omega | assumption | exact idP rfl | exact idP (bL rfl) | (simp only [alloc_size, upd_size]; done) | (simp only [alloc_size, upd_size]; omega) | fail) only [go_sem, reduceIte, Nat.reduceEqDiff]; rfl, (pad_nd (by omega)).1, by rw [pad_size]; omega, pad_dead (Nat.le_refl _), by simp (maxSteps := 2000000) (disch := first | omega | assumption | exact idP rfl | exact idP (bL rfl) | (simp only [alloc_size, upd_size]; done) | (simp only [alloc_size, upd_size]; omega) | fail) only [go_sem, reduceIte, Nat.reduceEqDiff]; exact hpl0, ?_⟩
    simp (maxSteps := 2000000) (disch := first | omega | assumption | exact idP rfl | exact idP (bL rfl) | (simp only [alloc_size, upd_size]; done) | (simp only [alloc_size, upd_size]; omega) | fail) only [go_sem, reduceIte, Nat.reduceEqDiff]
    exact base_rw (by show H2.size + 1 ≠ H2.size; omega) hz0
  rintro e H3 ⟨i, B, hi, e1, e5, e6, e8, hLB, hsB, hdB, hpl, hnw⟩ K hK
  simp (maxSteps := 2000000) (disch := first | omega | assumption | exact idP rfl | exact idP (bL rfl) | (simp only [alloc_size, upd_size]; done) | (simp only [alloc_size, upd_size]; omega) | fail) only [go_sem, reduceIte, Nat.reduceEqDiff, e1, e8]
  refine condV_dec (fun h => ?_) (fun h => ?_)
  · have hi' : i < cs.length := by omega
    have e8' := e8
    have hBH : Le B H3 := hpl.1.trans (base_le _ _)
    have hL3 := hL2.trans (hLB.trans hBH)
    obtain ⟨u, g, hu⟩ := hr i hi'
    have g := g.le hL3
    have hu3 := hu.le hL3
    have gn := (hLB.trans hBH).get (hnd.get (i := i) (by rw [need_len]; omega))
    have hgd : (need cs).getD i false = (need cs)[i]'(by rw [need_len]; omega) := getD_at (by rw [need_len]; omega)
    have hcd : cs.getD i ch0 = cs[i] := getD_at hi'
    have hsi := hok.all i hi'
    have h7 := step_short hok hi'
    have htl := trimR_len (cs := cs) (nd := need cs) (k := i)
    have htr : trimR cs (need cs) (i + 1) = if (need cs).getD i false = true then ((trimR cs (need cs) i).1.set i (trimR cs (need cs) i).2.length, (trimR cs (need cs) i).2 ++ [renum (trimR cs (need cs) i).1 (cs.getD i ch0)]) else trimR cs (need cs) i := rfl
    rw [hgd, hcd] at htr
    generalize hT : trimR cs (need cs) i = T at *
    obtain ⟨nw, out⟩ := T
    simp only at hpl hnw htl htr
    generalize hy : cs[i] = y at *
    simp (maxSteps := 2000000) (disch := first | omega | assumption | exact idP rfl | exact idP (bL rfl) | (simp only [alloc_size, upd_size]; done) | (simp only [alloc_size, upd_size]; omega) | fail) only [go_sem, reduceIte, Nat.reduceEqDiff, e1, e5, e8, gn]
    cases hbn : (need cs)[i]'(by rw [need_len]; omega) with
    | false =>
      rw [hbn, if_neg (by simp)] at htr
      simp (maxSteps := 2000000) (disch := first | omega | assumption | exact idP rfl | exact idP (bL rfl) | (simp only [alloc_size, upd_size]; done) | (simp only [alloc_size, upd_size]; omega) | fail) only [go_sem, reduceIte, Nat.reduceEqDiff, e8]
      exact hK _ _ ⟨i + 1, B, by omega, by simp (maxSteps := 2000000) (disch := first | omega | assumption | exact idP rfl | exact idP (bL rfl) | (simp only [alloc_size, upd_size]; done) | (simp only [alloc_size, upd_size]; omega) | fail) only [go_sem, reduceIte, Nat.reduceEqDiff, e1], by simp (maxSteps := 2000000) (disch := first | omega | assumption | exact idP rfl | exact idP (bL rfl) | (simp only [alloc_size, upd_size]; done) | (simp only [alloc_size, upd_size]; omega) | fail) only [go_sem, reduceIte, Nat.reduceEqDiff, e5], by simp (maxSteps := 2000000) (disch := first | omega | assumption | exact idP rfl | exact idP (bL rfl) | (simp only [alloc_size, upd_size]; done) | (simp only [alloc_size, upd_size]; omega) | fail) only [go_sem, reduceIte, Nat.reduceEqDiff, e6], by simp (maxSteps := 2000000) (disch := first | omega | assumption | exact idP rfl | exact idP (bL rfl) | (simp only [alloc_size, upd_size]; done) | (simp only [alloc_size, upd_size]; omega) | fail) only [go_sem, reduceIte, Nat.reduceEqDiff]; rfl, hLB, hsB, hdB, by simp (maxSteps := 2000000) (disch := first | omega | assumption | exact idP rfl | exact idP (bL rfl) | (simp only [alloc_size, upd_size]; done) | (simp only [alloc_size, upd_size]; omega) | fail) only [go_sem, reduceIte, Nat.reduceEqDiff]; rw [htr]; exact hpl, by simp (maxSteps := 2000000) (disch := first | omega | assumption | exact idP rfl | exact idP (bL rfl) | (simp only [alloc_size, upd_size]; done) | (simp only [alloc_size, upd_size]; omega) | fail) only [go_sem, reduceIte, Nat.reduceEqDiff]; rw [htr]; exact hnw⟩ (by simp (maxSteps := 2000000) (disch := first | omega | assumption | exact idP rfl | exact idP (bL rfl) | (simp only [alloc_size, upd_size]; done) | (simp only [alloc_size, upd_size]; omega) | fail) only [go_sem, reduceIte, Nat.reduceEqDiff, ctr_int, e8']; omega)
    | true =>
      rw [hbn, if_pos rfl] at htr
      have ap6 := apart_of hnw
      obtain ⟨lcells, hownl⟩ := hpl.own
      obtain ⟨A7, ex7, k7, e7⟩ := hpl.len
      have q2 : H3.get A.b (A.o + i * 5 + 1 + 1) = some (.int .i64 y.c) := g.g2
      have q3 : H3.get A.b (A.o + i * 5 + 1 + 1 + 1) = some (.int .i64 y.p) := g.g3
      have q4 : H3.get A.b (A.o + i * 5 + 1 + 1 + 1 + 1) = some u := g.g4
      have hu1 := (oneA_isS hu).1
      simp (maxSteps := 2000000) (disch := first | omega | assumption | exact idP rfl | exact idP (bL rfl) | (simp only [alloc_size, upd_size]; done) | (simp only [alloc_size, upd_size]; omega) | fail) only [go_sem, reduceIte, Nat.reduceEqDiff, e1, e8, g.g0, g.g1, q2, q3, q4]
      have hLa : Le H3 ((H3.alloc [.int .i64 0, .int .i64 0, .int .i64 0, .int .i64 0, .sl none 0 0 true 0]).upd H3.size (.cells [.int .i64 y.a, .int .i64 y.b, .int .i64 y.c, .int .i64 y.p, u] true)) := ((Le.refl _).allocs).updFresh (Nat.le_refl _)
      refine (s_l3Copy (hu3.le hLa) (by omega)).mono ?_
      rintro u2 H4 ⟨ho2, hle4, hn2⟩
      have hLa4 := hle4.trans (base_le _ _)
      have w4 : H4.rwCells H3.size = some [.int .i64 y.a, .int .i64 y.b, .int .i64 y.c, .int .i64 y.p, u] := hLa4.rwCells (by simp (maxSteps := 2000000) (disch := first | omega | assumption | exact idP rfl | exact idP (bL rfl) | (simp only [alloc_size, upd_size]; done) | (simp only [alloc_size, upd_size]; omega) | fail) only [go_sem, reduceIte, Nat.reduceEqDiff])
      simp only [upd_size, alloc_size] at hn2
      have hL34 := hLa.trans hLa4
      have hs34 : H3.size + 1 ≤ H4.size := hLa4.1
      have hs23 : H2.size < H3.size := Nat.lt_of_lt_of_le hsB hBH.1
      have hne : H2.size ≠ H3.size := by omega
      have hne' : H3.size ≠ H2.size := by omega
      have ho21 := (oneA_isS ho2.isI).1
      have nw4 : H4.rwCells H2.size = some (nw.map (AV.int .i64)) := hL34.rwCells ((base_le _ _).rwCells hnw)
      have gw : ∀ j (hj : j < nw.length) (X : Blk), (H4.upd H3.size X).get H2.size j = some (.int .i64 nw[j]) := fun j hj X => by
        rw [get_upd_ne hne]
        obtain ⟨z1, z2⟩ := Heap.rwCells_blk nw4
        have := Rd.blk z1 z2 j (.int .i64 nw[j]) (by simp [hj])
        simpa using this
      -- what the end of a round needs
      have fin : ∀ (y2 : Ch) (p' : AV) (H' : Heap) (e2 : Env), renum nw y = y2 → PLC H.size ((B.pad (H3.size + 1)).over H4) H' p' (out ++ [y2]) → Le (base ((H4.upd H3.size (.cells [.int .i64 y2.a, .int .i64 y2.b, .int .i64 y2.c, .int .i64 y2.p, u2] true)).upd H2.size (.cells ((nw.map (AV.int .i64)).set i (.int .i64 (out.length : Int))) true)) (e 7)) (base H' p') →
          e2 1 = .sl A cs.length c ex k → e2 5 = .sl (some (H1.size, 0)) cs.length cs.length true 1 → e2 6 = .sl (some (H2.size, 0)) cs.length cs.length true 1 → e2 7 = p' → e2 8 = .int .i64 ((i : Int) + 1) → K e2 H' := fun y2 p' H' e2 z0 z1 z2 z3 z4 z5 z6 z7 => by
        have ndd : Nd B ((B.pad (H3.size + 1)).over H4) := (pad_nd (by have := hBH.1; omega)).trans (over_nd (by rw [pad_size]; exact hs34))
        refine hK _ _ ⟨i + 1, _, by omega, z3, z4, z5, by rw [z7]; rfl, hLB.trans ndd.1, Nat.lt_of_lt_of_le hsB ndd.1.1, ndd.2 _ hsB hdB, by rw [z6, htr, z0]; exact z1, ?_⟩ (by rw [z7, e8']; simp only [ctr_int]; omega)
        rw [z6, htr]
        refine z2.rwCells (base_rw ap6 ?_)
        rw [rw_upd_same (by simp only [upd_size]; omega), List.map_set]
      have appd : ∀ (y2 : Ch) (K2 : AV → Heap → Prop), y2.cl = y.cl → (∀ p' H', PLC H.size ((B.pad (H3.size + 1)).over H4) H' p' (out ++ [y2]) → Le (base ((H4.upd H3.size (.cells [.int .i64 y2.a, .int .i64 y2.b, .int .i64 y2.c, .int .i64 y2.p, u2] true)).upd H2.size (.cells ((nw.map (AV.int .i64)).set i (.int .i64 (out.length : Int))) true)) (e 7)) (base H' p') → K2 p' H') →
          appP 5 56 (e 7) (.sl (some (H4.size, 0)) 1 1 true 5) (((H4.upd H3.size (.cells [.int .i64 y2.a, .int .i64 y2.b, .int .i64 y2.c, .int .i64 y2.p, u2] true)).upd H2.size (.cells ((nw.map (AV.int .i64)).set i (.int .i64 (out.length : Int))) true)).alloc [.int .i64 y2.a, .int .i64 y2.b, .int .i64 y2.c, .int .i64 y2.p, u2]) K2 := fun y2 K2 z0 hk2 => by
        have hpF : PLC H.size B ((H4.upd H3.size (.cells [.int .i64 y2.a, .int .i64 y2.b, .int .i64 y2.c, .int .i64 y2.p, u2] true)).upd H2.size (.cells ((nw.map (AV.int .i64)).set i (.int .i64 (out.length : Int))) true)) (e 7) out :=
          ((hpl.le hL34).upd (apart_fresh hownl (Nat.le_refl _)) (.inl hBH.1)).upd ap6 (.inr hdB)
        have hB1 : Le ((B.pad (H3.size + 1)).over H4) (base ((H4.upd H3.size (.cells [.int .i64 y2.a, .int .i64 y2.b, .int .i64 y2.c, .int .i64 y2.p, u2] true)).upd H2.size (.cells ((nw.map (AV.int .i64)).set i (.int .i64 (out.length : Int))) true)) (e 7)) :=
          over_le (pad_le hpF.1 (by rw [base_size]; simp only [upd_size]; exact hs34)) (by rw [base_size]; rfl) fun b hb' => by
            rw [pad_size] at hb'
            rw [base_blk (apart_fresh hownl (by omega)), upd_blk_ne (by omega), upd_blk_ne (by omega)]
        have huF : Own 1 ((B.pad (H3.size + 1)).over H4) u2 (y2.cl.map (AV.int .i64)) := by
          rw [z0]
          exact (ho2.later (n := H3.size + 1) hn2).le (by have := later_over (B.pad (H3.size + 1)) H4; rwa [pad_size] at this)
        exact plc_app (c := y2) hpF ((pad_nd (by have := hBH.1; omega)).1.trans (over_nd (by rw [pad_size]; exact hs34)).1) hB1 huF (hn2.mono (by have := hBH.1; omega)) (by rw [z0]; exact h7) (by omega) (by omega) fun p' H' z1 z2 _ => hk2 p' H' z1 z2
      have lenE : lenF (e 7) = some (.int .i64 (out.length : Int)) := by rw [e7]; rfl
      simp (maxSteps := 2000000) (disch := first | omega | assumption | exact idP rfl | exact idP (bL rfl) | (simp only [alloc_size, upd_size]; done) | (simp only [alloc_size, upd_size]; omega) | fail) only [go_sem, reduceIte, Nat.reduceEqDiff, w4, (oneA_isS ho2.isI).2]
      by_cases ha : y.a < 0
      · have ha1 : y.a = -1 := by
          rcases hsi with ⟨q, _⟩ | ⟨q, _⟩
          · omega
          · exact q
        obtain ⟨b0, b1, c0, c1, _⟩ := (stepB ha1).1 hsi
        have hB : y.b.toNat < nw.length := by omega
        have hC : y.c.toNat < nw.length := by omega
        simp (maxSteps := 2000000) (disch := first | omega | assumption | exact idP rfl | exact idP (bL rfl) | (simp only [alloc_size, upd_size]; done) | (simp only [alloc_size, upd_size]; omega) | fail) only [go_sem, reduceIte, Nat.reduceEqDiff, e6, e8, ha, decide_true, gw _ hB, gw _ hC, Heap.upd_upd, nw4, lenE]
        rw [stoK_1 rfl (by simp; omega)]
        simp (maxSteps := 2000000) (disch := first | omega | assumption | exact idP rfl | exact idP (bL rfl) | (simp only [alloc_size, upd_size]; done) | (simp only [alloc_size, upd_size]; omega) | fail) only [go_sem, reduceIte, Nat.reduceEqDiff, e1, e5, e6, e8]
        refine appd ⟨y.a, nw[y.b.toNat], nw[y.c.toNat], y.p, y.cl⟩ _ rfl ?_
        intro p' H' z1 z2
        simp (maxSteps := 2000000) (disch := first | omega | assumption | exact idP rfl | exact idP (bL rfl) | (simp only [alloc_size, upd_size]; done) | (simp only [alloc_size, upd_size]; omega) | fail) only [go_sem, reduceIte, Nat.reduceEqDiff, e8]
        exact fin ⟨y.a, nw[y.b.toNat], nw[y.c.toNat], y.p, y.cl⟩ p' H' _ (by unfold renum; rw [if_pos ha1, getD_at hB, getD_at hC]) z1 z2 (by simp (maxSteps := 2000000) (disch := first | omega | assumption | exact idP rfl | exact idP (bL rfl) | (simp only [alloc_size, upd_size]; done) | (simp only [alloc_size, upd_size]; omega) | fail) only [go_sem, reduceIte, Nat.reduceEqDiff, e1]) (by simp (maxSteps := 2000000) (disch := first | omega | assumption | exact idP rfl | exact idP (bL rfl) | (simp only [alloc_size, upd_size]; done) | (simp only [alloc_size, upd_size]; omega) | fail) only [go_sem, reduceIte, Nat.reduceEqDiff, e5]) (by simp (maxSteps := 2000000) (disch := first | omega | assumption | exact idP rfl | exact idP (bL rfl) | (simp only [alloc_size, upd_size]; done) | (simp only [alloc_size, upd_size]; omega) | fail) only [go_sem, reduceIte, Nat.reduceEqDiff, e6]) (by simp (maxSteps := 2000000) (disch := first | omega | assumption | exact idP rfl | exact idP (bL rfl) | (simp only [alloc_size, upd_size]; done) | (simp only [alloc_size, upd_size]; omega) | fail) only [go_sem, reduceIte, Nat.reduceEqDiff]) (by simp (maxSteps := 2000000) (disch := first | omega | assumption | exact idP rfl | exact idP (bL rfl) | (simp only [alloc_size, upd_size]; done) | (simp only [alloc_size, upd_size]; omega) | fail) only [go_sem, reduceIte, Nat.reduceEqDiff])
      · simp (maxSteps := 2000000) (disch := first | omega | assumption | exact idP rfl | exact idP (bL rfl) | (simp only [alloc_size, upd_size]; done) | (simp only [alloc_size, upd_size]; omega) | fail) only [go_sem, reduceIte, Nat.reduceEqDiff, e6, e8, ha, decide_false, nw4, lenE]
        rw [stoK_1 rfl (by simp; omega)]
        simp (maxSteps := 2000000) (disch := first | omega | assumption | exact idP rfl | exact idP (bL rfl) | (simp only [alloc_size, upd_size]; done) | (simp only [alloc_size, upd_size]; omega) | fail) only [go_sem, reduceIte, Nat.reduceEqDiff, e1, e5, e6, e8]
        refine appd y _ rfl ?_
        intro p' H' z1 z2
        simp (maxSteps := 2000000) (disch := first | omega | assumption | exact idP rfl | exact idP (bL rfl) | (simp only [alloc_size, upd_size]; done) | (simp only [alloc_size, upd_size]; omega) | fail) only [go_sem, reduceIte, Nat.reduceEqDiff, e8]
        exact fin y p' H' _ (by unfold renum; rw [if_neg (by omega)]) z1 z2 (by simp (maxSteps := 2000000) (disch := first | omega | assumption | exact idP rfl | exact idP (bL rfl) | (simp only [alloc_size, upd_size]; done) | (simp only [alloc_size, upd_size]; omega) | fail) only [go_sem, reduceIte, Nat.reduceEqDiff, e1]) (by simp (maxSteps := 2000000) (disch := first | omega | assumption | exact idP rfl | exact idP (bL rfl) | (simp only [alloc_size, upd_size]; done) | (simp only [alloc_size, upd_size]; omega) | fail) only [go_sem, reduceIte, Nat.reduceEqDiff, e5]) (by simp (maxSteps := 2000000) (disch := first | omega | assumption | exact idP rfl | exact idP (bL rfl) | (simp only [alloc_size, upd_size]; done) | (simp only [alloc_size, upd_size]; omega) | fail) only [go_sem, reduceIte, Nat.reduceEqDiff, e6]) (by simp (maxSteps := 2000000) (disch := first | omega | assumption | exact idP rfl | exact idP (bL rfl) | (simp only [alloc_size, upd_size]; done) | (simp only [alloc_size, upd_size]; omega) | fail) only [go_sem, reduceIte, Nat.reduceEqDiff]) (by simp (maxSteps := 2000000) (disch := first | omega | assumption | exact idP rfl | exact idP (bL rfl) | (simp only [alloc_size, upd_size]; done) | (simp only [alloc_size, upd_size]; omega) | fail) only [go_sem, reduceIte, Nat.reduceEqDiff])
  · obtain rfl : i = cs.length := by omega
    simp (maxSteps := 2000000) (disch := first | omega | assumption | exact idP rfl | exact idP (bL rfl) | (simp only [alloc_size, upd_size]; done) | (simp only [alloc_size, upd_size]; omega) | fail) only [go_sem, reduceIte, Nat.reduceEqDiff]
    exact hR _ _ ⟨hL2.trans (hLB.trans (hpl.1.trans (base_le _ _))), _, hpl.isChs, .inr ⟨hok, rfl⟩⟩
end Go.M2
