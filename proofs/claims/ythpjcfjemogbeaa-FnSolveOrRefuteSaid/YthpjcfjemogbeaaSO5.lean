/- Contracts: small functions of numbers. -/
import Derived.Test.YthpjcfjemogbeaaSO4
import Derived.Shelf.SlSortCmp.NoneTotal
set_option linter.unusedVariables false
set_option linter.unusedSimpArgs false
set_option maxRecDepth 10000
set_option maxHeartbeats 4000000
namespace Go.M2
open Go.Proofs
variable {H : Heap}
theorem s_l1In {n lo hi : Int} : ACall Try.prog n_Z72 [.int .i64 n, .int .i64 lo, .int .i64 hi] H (fun r H' => r = .bool (decide (lo ≤ n ∧ n ≤ hi)) ∧ H' = H) := by
  refine a_Z72 rfl ?_
  simp (maxSteps := 2000000) (disch := first | omega | assumption | exact idP rfl | exact idP (bL rfl) | (simp only [alloc_size, upd_size] <;> omega) | fail) only [go_sem, reduceIte, Nat.reduceEqDiff]
  refine guardW_dec (fun h => ?_) (fun h => ?_)
  · simp (maxSteps := 2000000) (disch := first | omega | assumption | exact idP rfl | exact idP (bL rfl) | (simp only [alloc_size, upd_size] <;> omega) | fail) only [go_sem, reduceIte, Nat.reduceEqDiff, h, AV.bool.injEq, decide_eq_decide, decide_true]
  · simp (maxSteps := 2000000) (disch := first | omega | assumption | exact idP rfl | exact idP (bL rfl) | (simp only [alloc_size, upd_size] <;> omega) | fail) only [go_sem, reduceIte, Nat.reduceEqDiff, h, AV.bool.injEq, decide_eq_decide, decide_false, Bool.false_eq_true, false_and]
theorem s_in {n lo hi : Int} : ACall Try.prog n_Z19 [.int .i64 n, .int .i64 lo, .int .i64 hi] H (fun r H' => r = .bool (decide (lo ≤ n ∧ n ≤ hi)) ∧ H' = H) := by
  refine a_Z19 rfl ?_
  simp (maxSteps := 2000000) (disch := first | omega | assumption | exact idP rfl | exact idP (bL rfl) | (simp only [alloc_size, upd_size] <;> omega) | fail) only [go_sem, reduceIte, Nat.reduceEqDiff]
  refine guardW_dec (fun h => ?_) (fun h => ?_)
  · simp (maxSteps := 2000000) (disch := first | omega | assumption | exact idP rfl | exact idP (bL rfl) | (simp only [alloc_size, upd_size] <;> omega) | fail) only [go_sem, reduceIte, Nat.reduceEqDiff, h, AV.bool.injEq, decide_eq_decide, decide_true]
  · simp (maxSteps := 2000000) (disch := first | omega | assumption | exact idP rfl | exact idP (bL rfl) | (simp only [alloc_size, upd_size] <;> omega) | fail) only [go_sem, reduceIte, Nat.reduceEqDiff, h, AV.bool.injEq, decide_eq_decide, decide_false, Bool.false_eq_true, false_and]
theorem s_l11Abs {n : Int} (h0 : -9223372036854775808 < n) (h1 : n ≤ 9223372036854775807) : ACall Try.prog n_Z57 [.int .i64 n] H (fun r H' => r = .int .i64 (n.natAbs : Int) ∧ H' = H) := by
  refine a_Z57 rfl ?_
  simp (maxSteps := 2000000) (disch := first | omega | assumption | exact idP rfl | exact idP (bL rfl) | (simp only [alloc_size, upd_size] <;> omega) | fail) only [go_sem, reduceIte, Nat.reduceEqDiff]
  refine condV_dec (fun h => ?_) (fun h => ?_)
  · simp (maxSteps := 2000000) (disch := first | omega | assumption | exact idP rfl | exact idP (bL rfl) | (simp only [alloc_size, upd_size] <;> omega) | fail) only [go_sem, reduceIte, Nat.reduceEqDiff, AV.int.injEq]
    omega
  · simp (maxSteps := 2000000) (disch := first | omega | assumption | exact idP rfl | exact idP (bL rfl) | (simp only [alloc_size, upd_size] <;> omega) | fail) only [go_sem, reduceIte, Nat.reduceEqDiff, AV.int.injEq]
    omega
theorem s_atomOf {n : Int} (h0 : -9223372036854775808 < n) (h1 : n ≤ 9223372036854775807) : ACall Try.prog n_Z9 [.int .i64 n] H (fun r H' => r = .int .i64 (n.natAbs : Int) ∧ H' = H) := by
  refine a_Z9 rfl ?_
  simp (maxSteps := 2000000) (disch := first | omega | assumption | exact idP rfl | exact idP (bL rfl) | (simp only [alloc_size, upd_size] <;> omega) | fail) only [go_sem, reduceIte, Nat.reduceEqDiff, AV.int.injEq]
  omega
theorem s_bit {b : Bool} : ACall Try.prog n_Z10 [.bool b] H (fun r H' => r = .int .i64 (if b then 1 else 0) ∧ H' = H) := by
  refine a_Z10 rfl ?_
  simp (maxSteps := 2000000) (disch := first | omega | assumption | exact idP rfl | exact idP (bL rfl) | (simp only [alloc_size, upd_size] <;> omega) | fail) only [go_sem, reduceIte, Nat.reduceEqDiff]
  refine condV_split (fun h => ?_) (fun h => ?_)
  · subst h; simp (maxSteps := 2000000) (disch := first | omega | assumption | exact idP rfl | exact idP (bL rfl) | (simp only [alloc_size, upd_size] <;> omega) | fail) only [go_sem, reduceIte, Nat.reduceEqDiff]
  · subst h; simp (maxSteps := 2000000) (disch := first | omega | assumption | exact idP rfl | exact idP (bL rfl) | (simp only [alloc_size, upd_size] <;> omega) | fail) only [go_sem, reduceIte, Nat.reduceEqDiff, Bool.false_eq_true, if_false]
def litOk (n atoms : Int) : Bool := decide (n ≠ 0 ∧ -atoms ≤ n ∧ n ≤ atoms)
theorem s_l11Lit {n atoms : Int} (h0 : 0 ≤ atoms) (h1 : atoms ≤ 700) : ACall Try.prog n_Z63 [.int .i64 n, .int .i64 atoms] H (fun r H' => r = .bool (litOk n atoms) ∧ H' = H) := by
  refine a_Z63 rfl ?_
  by_cases h : n = 0
  · simp (maxSteps := 2000000) (disch := first | omega | assumption | exact idP rfl | exact idP (bL rfl) | (simp only [alloc_size, upd_size] <;> omega) | fail) only [go_sem, reduceIte, Nat.reduceEqDiff, h, litOk, AV.bool.injEq, false_and]
  · simp (maxSteps := 2000000) (disch := first | omega | assumption | exact idP rfl | exact idP (bL rfl) | (simp only [alloc_size, upd_size] <;> omega) | fail) only [go_sem, reduceIte, Nat.reduceEqDiff, h]
    refine (s_l1In).mono ?_
    rintro r H' ⟨rfl, rfl⟩
    simp (maxSteps := 2000000) (disch := first | omega | assumption | exact idP rfl | exact idP (bL rfl) | (simp only [alloc_size, upd_size] <;> omega) | fail) only [go_sem, reduceIte, Nat.reduceEqDiff, AV.bool.injEq, litOk, decide_eq_decide, h]
    constructor <;> intro h3 <;> refine ⟨?_, ?_⟩ <;> omega
end Go.M2

namespace Go.M2
open Go.Proofs
variable {H : Heap}
theorem zeros_len {z : List AV} {n : Nat} (h : z.length = 1) : (zeros z n).length = n := by
  induction n with
  | zero => rfl
  | succ n ih => simp only [zeros, List.length_append, h, ih]; omega
theorem oneA_isS {α : Type} {sz : Nat} {E : Heap → α → List AV → Prop} {H : Heap} {v : AV} {xs : List α} (h : IsS sz E H v xs) : oneA v = true ∧ cellsOf v = some [v] := by
  obtain ⟨A, c, ex, k, rfl, _⟩ := h
  exact ⟨rfl, rfl⟩
def Tree (H : Heap) (lo hi : Nat) (r : AV) (xss : List (List Int)) : Prop :=
  ∃ (b : Nat) (l : List AV), r = .sl (some (b, 0)) xss.length xss.length true 1 ∧ lo ≤ b ∧ b < hi ∧ b < H.size ∧ H.blk b = .cells l true ∧ l.length = xss.length ∧
    ∀ j (hj : j < xss.length), ∃ bj, l[j]? = some (.sl (some (bj, 0)) xss[j].length xss[j].length true 1) ∧ lo ≤ bj ∧ bj < hi ∧ bj ≠ b ∧ bj < H.size ∧ ∃ zs : List Int, zs.length = xss[j].length ∧ H.blk bj = .cells (zs.map (AV.int .i64)) true
theorem Tree.le {H H' : Heap} {lo hi lo' hi' : Nat} {r : AV} {xss : List (List Int)} (h : Tree H lo hi r xss) (hl : Le H H') (h1 : lo' ≤ lo) (h2 : hi ≤ hi') : Tree H' lo' hi' r xss := by
  obtain ⟨b, l, rfl, q1, q2, q3, q4, q5, q6⟩ := h
  refine ⟨b, l, rfl, by omega, by omega, Nat.lt_of_lt_of_le q3 hl.1, hl.cells q3 q4, q5, fun j hj => ?_⟩
  obtain ⟨bj, r1, r2, r3, r4, r5, zs, r6, r7⟩ := q6 j hj
  exact ⟨bj, r1, by omega, by omega, r4, Nat.lt_of_lt_of_le r5 hl.1, zs, r6, hl.cells r5 r7⟩
def IsCl (H : Heap) (x : AV) (n : Int) (xss : List (List Int)) : Prop := ∃ v, x = .agg [.int .i64 n, v] ∧ IsII H v xss
theorem IsCl.le {H H' : Heap} {x : AV} {n : Int} {xss : List (List Int)} (h : IsCl H x n xss) (hl : Le H H') : IsCl H' x n xss := by
  obtain ⟨v, h1, h2⟩ := h
  exact ⟨v, h1, h2.le hl⟩
end Go.M2

namespace Go.M2
open Go.Proofs
variable {H : Heap}
end Go.M2

namespace Go.M2
open Go.Proofs
variable {H : Heap}
def okAt (atoms : Int) (xs : List Int) (j : Nat) (h : j < xs.length) : Prop := litOk xs[j] atoms = true ∧ (0 < j → xs[j - 1].natAbs < xs[j].natAbs)
def ClOk (atoms : Int) (xs : List Int) : Prop := ∀ j (h : j < xs.length), okAt atoms xs j h
theorem litOk_iff {n atoms : Int} : litOk n atoms = true ↔ n ≠ 0 ∧ -atoms ≤ n ∧ n ≤ atoms := by simp [litOk]
theorem s_specClauseValid {v : AV} {xs : List Int} {atoms : Int} (hv : IsI H v xs) (hl : xs.length ≤ 1048576) (h0 : 0 ≤ atoms) (h1 : atoms ≤ 700) :
    ACall Try.prog n_Z52 [v, .int .i64 atoms] H (fun r H' => H' = H ∧ ∃ b, r = .bool b ∧ (b = true ↔ ClOk atoms xs)) := by
  refine ACall.of fun R hR => a_Z52 rfl ?_
  obtain ⟨A, c, ex, k, rfl, hr⟩ := hv.parts
  simp (maxSteps := 2000000) (disch := first | omega | assumption | exact idP rfl | exact idP (bL rfl) | (simp only [alloc_size, upd_size] <;> omega) | fail) only [go_sem, reduceIte, Nat.reduceEqDiff]
  refine wp_loop_k (fun e H' => H' = H ∧ ∃ (i : Nat), i ≤ xs.length ∧ e 0 = .sl A xs.length c ex k ∧ e 1 = .int .i64 atoms ∧ e 5 = .int .i64 (i : Int) ∧ ∀ j (h : j < xs.length), j < i → okAt atoms xs j h) (fun e _ => ctr xs.length (e 5)) ?_ ?_
  · exact ⟨rfl, 0, Nat.zero_le _, by simp (maxSteps := 2000000) (disch := first | omega | assumption | exact idP rfl | exact idP (bL rfl) | (simp only [alloc_size, upd_size] <;> omega) | fail) only [go_sem, reduceIte, Nat.reduceEqDiff], by simp (maxSteps := 2000000) (disch := first | omega | assumption | exact idP rfl | exact idP (bL rfl) | (simp only [alloc_size, upd_size] <;> omega) | fail) only [go_sem, reduceIte, Nat.reduceEqDiff], by simp (maxSteps := 2000000) (disch := first | omega | assumption | exact idP rfl | exact idP (bL rfl) | (simp only [alloc_size, upd_size] <;> omega) | fail) only [go_sem, reduceIte, Nat.reduceEqDiff]; rfl, fun j _ h => by omega⟩
  · rintro e H1 ⟨rfl, i, hi, e0, e1, e5, hj⟩ K hK
    simp (maxSteps := 2000000) (disch := first | omega | assumption | exact idP rfl | exact idP (bL rfl) | (simp only [alloc_size, upd_size] <;> omega) | fail) only [go_sem, reduceIte, Nat.reduceEqDiff, e0, e1, e5]
    refine condV_dec (fun h => ?_) (fun h => ?_)
    · have hi' : i < xs.length := by omega
      have hg := hr i hi'
      rw [Nat.mul_one] at hg
      simp (maxSteps := 2000000) (disch := first | omega | assumption | exact idP rfl | exact idP (bL rfl) | (simp only [alloc_size, upd_size] <;> omega) | fail) only [go_sem, reduceIte, Nat.reduceEqDiff, e0, e1, e5, hg]
      refine (s_l11Lit h0 h1).mono ?_
      rintro r H2 ⟨rfl, rfl⟩
      cases hlit : litOk xs[i] atoms with
      | false =>
        simp (maxSteps := 2000000) (disch := first | omega | assumption | exact idP rfl | exact idP (bL rfl) | (simp only [alloc_size, upd_size] <;> omega) | fail) only [go_sem, reduceIte, Nat.reduceEqDiff]
        refine hR _ _ ⟨rfl, false, rfl, ?_⟩
        simp only [Bool.false_eq_true, false_iff]
        intro hc
        have := (hc i hi').1
        rw [hlit] at this; cases this
      | true =>
        have hb := litOk_iff.1 hlit
        by_cases hi0 : i = 0
        · have hneg : ¬ (0 : Int) < (i : Int) := by omega
          simp (maxSteps := 2000000) (disch := first | omega | assumption | exact idP rfl | exact idP (bL rfl) | (simp only [alloc_size, upd_size] <;> omega) | fail) only [go_sem, reduceIte, Nat.reduceEqDiff, e0, e1, e5, hneg]
          refine hK _ _ ⟨rfl, i + 1, by omega, by simp (maxSteps := 2000000) (disch := first | omega | assumption | exact idP rfl | exact idP (bL rfl) | (simp only [alloc_size, upd_size] <;> omega) | fail) only [go_sem, reduceIte, Nat.reduceEqDiff, e0], by simp (maxSteps := 2000000) (disch := first | omega | assumption | exact idP rfl | exact idP (bL rfl) | (simp only [alloc_size, upd_size] <;> omega) | fail) only [go_sem, reduceIte, Nat.reduceEqDiff, e1], by simp (maxSteps := 2000000) (disch := first | omega | assumption | exact idP rfl | exact idP (bL rfl) | (simp only [alloc_size, upd_size] <;> omega) | fail) only [go_sem, reduceIte, Nat.reduceEqDiff]; rfl, fun j hj1 hj2 => ?_⟩ (by simp (maxSteps := 2000000) (disch := first | omega | assumption | exact idP rfl | exact idP (bL rfl) | (simp only [alloc_size, upd_size] <;> omega) | fail) only [go_sem, reduceIte, Nat.reduceEqDiff, ctr_int, e5]; omega)
          obtain rfl : j = i := by omega
          exact ⟨hlit, fun h => by omega⟩
        · have hpos : (0 : Int) < (i : Int) := by omega
          have hsub : ((i : Int) - 1).toNat = i - 1 := by omega
          have hg2 := hr (i - 1) (by omega)
          rw [Nat.mul_one] at hg2
          have hb2 := litOk_iff.1 (hj (i - 1) (by omega) (by omega)).1
          simp (maxSteps := 2000000) (disch := first | omega | assumption | exact idP rfl | exact idP (bL rfl) | (simp only [alloc_size, upd_size] <;> omega) | fail) only [go_sem, reduceIte, Nat.reduceEqDiff, e0, e1, e5, hpos, hg, hsub, hg2]
          refine (s_l11Abs (n := xs[i]) (by omega) (by omega)).mono ?_
          rintro r H2 ⟨rfl, rfl⟩
          simp (maxSteps := 2000000) (disch := first | omega | assumption | exact idP rfl | exact idP (bL rfl) | (simp only [alloc_size, upd_size] <;> omega) | fail) only [go_sem, reduceIte, Nat.reduceEqDiff, e0, e1, e5, hsub, hg2]
          refine (s_l11Abs (n := xs[i - 1]) (by omega) (by omega)).mono ?_
          rintro r H2 ⟨rfl, rfl⟩
          simp (maxSteps := 2000000) (disch := first | omega | assumption | exact idP rfl | exact idP (bL rfl) | (simp only [alloc_size, upd_size] <;> omega) | fail) only [go_sem, reduceIte, Nat.reduceEqDiff, e0, e1, e5]
          refine condV_dec (fun h3 => ?_) (fun h3 => ?_)
          · simp (maxSteps := 2000000) (disch := first | omega | assumption | exact idP rfl | exact idP (bL rfl) | (simp only [alloc_size, upd_size] <;> omega) | fail) only [go_sem, reduceIte, Nat.reduceEqDiff]
            refine hR _ _ ⟨rfl, false, rfl, ?_⟩
            simp only [Bool.false_eq_true, false_iff]
            intro hc
            have := (hc i hi').2 (by omega)
            omega
          · simp (maxSteps := 2000000) (disch := first | omega | assumption | exact idP rfl | exact idP (bL rfl) | (simp only [alloc_size, upd_size] <;> omega) | fail) only [go_sem, reduceIte, Nat.reduceEqDiff, e0, e1, e5]
            refine hK _ _ ⟨rfl, i + 1, by omega, by simp (maxSteps := 2000000) (disch := first | omega | assumption | exact idP rfl | exact idP (bL rfl) | (simp only [alloc_size, upd_size] <;> omega) | fail) only [go_sem, reduceIte, Nat.reduceEqDiff, e0], by simp (maxSteps := 2000000) (disch := first | omega | assumption | exact idP rfl | exact idP (bL rfl) | (simp only [alloc_size, upd_size] <;> omega) | fail) only [go_sem, reduceIte, Nat.reduceEqDiff, e1], by simp (maxSteps := 2000000) (disch := first | omega | assumption | exact idP rfl | exact idP (bL rfl) | (simp only [alloc_size, upd_size] <;> omega) | fail) only [go_sem, reduceIte, Nat.reduceEqDiff]; rfl, fun j hj1 hj2 => ?_⟩ (by simp (maxSteps := 2000000) (disch := first | omega | assumption | exact idP rfl | exact idP (bL rfl) | (simp only [alloc_size, upd_size] <;> omega) | fail) only [go_sem, reduceIte, Nat.reduceEqDiff, ctr_int, e5]; omega)
            by_cases hji : j = i
            · subst hji; exact ⟨hlit, fun _ => by omega⟩
            · exact hj j hj1 (by omega)
    · simp (maxSteps := 2000000) (disch := first | omega | assumption | exact idP rfl | exact idP (bL rfl) | (simp only [alloc_size, upd_size] <;> omega) | fail) only [go_sem, reduceIte, Nat.reduceEqDiff, e1]
      refine s_l1In.mono ?_
      rintro r H2 ⟨rfl, rfl⟩
      simp (maxSteps := 2000000) (disch := first | omega | assumption | exact idP rfl | exact idP (bL rfl) | (simp only [alloc_size, upd_size] <;> omega) | fail) only [go_sem, reduceIte, Nat.reduceEqDiff]
      refine hR _ _ ⟨rfl, _, rfl, ?_⟩
      simp only [decide_eq_true_eq]
      exact ⟨fun _ j hj1 => hj j hj1 (by omega), fun _ => by omega⟩
end Go.M2

namespace Go.M2
open Go.Proofs
variable {H : Heap}
theorem s_implClauseValid {v : AV} {xs : List Int} {atoms : Int} (hv : IsI H v xs) (hl : xs.length ≤ 1048576) (h0 : 0 ≤ atoms) (h1 : atoms ≤ 700) :
    ACall Try.prog n_Z3 [v, .int .i64 atoms] H (fun r H' => H' = H ∧ ∃ b, r = .bool b ∧ (b = true ↔ ClOk atoms xs)) := by
  refine ACall.of fun R hR => a_Z3 rfl ?_
  obtain ⟨A, c, ex, k, rfl, hr⟩ := hv.parts
  simp (maxSteps := 2000000) (disch := first | omega | assumption | exact idP rfl | exact idP (bL rfl) | (simp only [alloc_size, upd_size] <;> omega) | fail) only [go_sem, reduceIte, Nat.reduceEqDiff]
  refine s_in.mono ?_
  rintro r H1 ⟨rfl, rfl⟩
  have ha : (0 : Int) ≤ atoms ∧ atoms ≤ 700 := ⟨h0, h1⟩
  simp (maxSteps := 2000000) (disch := first | omega | assumption | exact idP rfl | exact idP (bL rfl) | (simp only [alloc_size, upd_size] <;> omega) | fail) only [go_sem, reduceIte, Nat.reduceEqDiff, ha]
  refine wp_loop_k (fun e H' => H' = H1 ∧ ∃ (i : Nat), i ≤ xs.length ∧ e 0 = .sl A xs.length c ex k ∧ e 10 = .sl A xs.length c ex k ∧ e 11 = .int .i64 (xs.length : Int) ∧ e 1 = .int .i64 atoms ∧ e 12 = .int .i64 (i : Int) ∧ ∀ j (h : j < xs.length), j < i → okAt atoms xs j h) (fun e _ => ctr xs.length (e 12)) ?_ ?_
  · exact ⟨rfl, 0, Nat.zero_le _, by simp (maxSteps := 2000000) (disch := first | omega | assumption | exact idP rfl | exact idP (bL rfl) | (simp only [alloc_size, upd_size] <;> omega) | fail) only [go_sem, reduceIte, Nat.reduceEqDiff], by simp (maxSteps := 2000000) (disch := first | omega | assumption | exact idP rfl | exact idP (bL rfl) | (simp only [alloc_size, upd_size] <;> omega) | fail) only [go_sem, reduceIte, Nat.reduceEqDiff], by simp (maxSteps := 2000000) (disch := first | omega | assumption | exact idP rfl | exact idP (bL rfl) | (simp only [alloc_size, upd_size] <;> omega) | fail) only [go_sem, reduceIte, Nat.reduceEqDiff], by simp (maxSteps := 2000000) (disch := first | omega | assumption | exact idP rfl | exact idP (bL rfl) | (simp only [alloc_size, upd_size] <;> omega) | fail) only [go_sem, reduceIte, Nat.reduceEqDiff], by simp (maxSteps := 2000000) (disch := first | omega | assumption | exact idP rfl | exact idP (bL rfl) | (simp only [alloc_size, upd_size] <;> omega) | fail) only [go_sem, reduceIte, Nat.reduceEqDiff]; rfl, fun j _ h => by omega⟩
  · rintro e H2 ⟨rfl, i, hi, e0, e10, e11, e1, e12, hj⟩ K hK
    simp (maxSteps := 2000000) (disch := first | omega | assumption | exact idP rfl | exact idP (bL rfl) | (simp only [alloc_size, upd_size] <;> omega) | fail) only [go_sem, reduceIte, Nat.reduceEqDiff, e0, e10, e11, e12, e1]
    refine condV_dec (fun h => ?_) (fun h => ?_)
    · have hi' : i < xs.length := by omega
      have hg := hr i hi'
      rw [Nat.mul_one] at hg
      simp (maxSteps := 2000000) (disch := first | omega | assumption | exact idP rfl | exact idP (bL rfl) | (simp only [alloc_size, upd_size] <;> omega) | fail) only [go_sem, reduceIte, Nat.reduceEqDiff, e0, e10, e11, e12, e1, hg]
      refine s_in.mono ?_
      rintro r H3 ⟨rfl, rfl⟩
      have bad : ∀ b : Bool, b = false → litOk xs[i] atoms = false → H3 = H3 ∧ ∃ b', AV.bool b = .bool b' ∧ (b' = true ↔ ClOk atoms xs) := by
        rintro b rfl hlit
        refine ⟨rfl, false, rfl, ?_⟩
        simp only [Bool.false_eq_true, false_iff]
        intro hc
        have := (hc i hi').1
        rw [hlit] at this; cases this
      by_cases hin : 0 - atoms ≤ xs[i] ∧ xs[i] ≤ atoms
      · simp (maxSteps := 2000000) (disch := first | omega | assumption | exact idP rfl | exact idP (bL rfl) | (simp only [alloc_size, upd_size] <;> omega) | fail) only [go_sem, reduceIte, Nat.reduceEqDiff, hin]
        by_cases hz : xs[i] = 0
        · simp (maxSteps := 2000000) (disch := first | omega | assumption | exact idP rfl | exact idP (bL rfl) | (simp only [alloc_size, upd_size] <;> omega) | fail) only [go_sem, reduceIte, Nat.reduceEqDiff, hz, hin]
          refine hR _ _ (bad false rfl ?_)
          simp [litOk, hz]
        · have hlit : litOk xs[i] atoms = true := litOk_iff.2 ⟨hz, by omega, hin.2⟩
          by_cases hi0 : i = 0
          · have hneg : ¬ (0 : Int) < (i : Int) := by omega
            simp (maxSteps := 2000000) (disch := first | omega | assumption | exact idP rfl | exact idP (bL rfl) | (simp only [alloc_size, upd_size] <;> omega) | fail) only [go_sem, reduceIte, Nat.reduceEqDiff, e0, e10, e11, e12, e1, hz, hneg]
            refine hK _ _ ⟨rfl, i + 1, by omega, by simp (maxSteps := 2000000) (disch := first | omega | assumption | exact idP rfl | exact idP (bL rfl) | (simp only [alloc_size, upd_size] <;> omega) | fail) only [go_sem, reduceIte, Nat.reduceEqDiff, e0], by simp (maxSteps := 2000000) (disch := first | omega | assumption | exact idP rfl | exact idP (bL rfl) | (simp only [alloc_size, upd_size] <;> omega) | fail) only [go_sem, reduceIte, Nat.reduceEqDiff, e10], by simp (maxSteps := 2000000) (disch := first | omega | assumption | exact idP rfl | exact idP (bL rfl) | (simp only [alloc_size, upd_size] <;> omega) | fail) only [go_sem, reduceIte, Nat.reduceEqDiff, e11], by simp (maxSteps := 2000000) (disch := first | omega | assumption | exact idP rfl | exact idP (bL rfl) | (simp only [alloc_size, upd_size] <;> omega) | fail) only [go_sem, reduceIte, Nat.reduceEqDiff, e1], by simp (maxSteps := 2000000) (disch := first | omega | assumption | exact idP rfl | exact idP (bL rfl) | (simp only [alloc_size, upd_size] <;> omega) | fail) only [go_sem, reduceIte, Nat.reduceEqDiff]; rfl, fun j hj1 hj2 => ?_⟩ (by simp (maxSteps := 2000000) (disch := first | omega | assumption | exact idP rfl | exact idP (bL rfl) | (simp only [alloc_size, upd_size] <;> omega) | fail) only [go_sem, reduceIte, Nat.reduceEqDiff, ctr_int, e12]; omega)
            obtain rfl : j = i := by omega
            exact ⟨hlit, fun h => by omega⟩
          · have hpos : (0 : Int) < (i : Int) := by omega
            have hsub : ((i : Int) - 1).toNat = i - 1 := by omega
            have hg2 := hr (i - 1) (by omega)
            rw [Nat.mul_one] at hg2
            have hb2 := litOk_iff.1 (hj (i - 1) (by omega) (by omega)).1
            simp (maxSteps := 2000000) (disch := first | omega | assumption | exact idP rfl | exact idP (bL rfl) | (simp only [alloc_size, upd_size] <;> omega) | fail) only [go_sem, reduceIte, Nat.reduceEqDiff, e0, e10, e11, e12, e1, hz, hpos, hsub, hg2]
            refine (s_atomOf (n := xs[i - 1]) (by omega) (by omega)).mono ?_
            rintro r H4 ⟨rfl, rfl⟩
            simp (maxSteps := 2000000) (disch := first | omega | assumption | exact idP rfl | exact idP (bL rfl) | (simp only [alloc_size, upd_size] <;> omega) | fail) only [go_sem, reduceIte, Nat.reduceEqDiff, e0, e10, e11, e12, e1]
            refine (s_atomOf (n := xs[i]) (by omega) (by omega)).mono ?_
            rintro r H5 ⟨rfl, rfl⟩
            simp (maxSteps := 2000000) (disch := first | omega | assumption | exact idP rfl | exact idP (bL rfl) | (simp only [alloc_size, upd_size] <;> omega) | fail) only [go_sem, reduceIte, Nat.reduceEqDiff, e0, e10, e11, e12, e1]
            refine condV_dec (fun h3 => ?_) (fun h3 => ?_)
            · simp (maxSteps := 2000000) (disch := first | omega | assumption | exact idP rfl | exact idP (bL rfl) | (simp only [alloc_size, upd_size] <;> omega) | fail) only [go_sem, reduceIte, Nat.reduceEqDiff]
              refine hR _ _ ⟨rfl, false, rfl, ?_⟩
              simp only [Bool.false_eq_true, false_iff]
              intro hc
              have := (hc i hi').2 (by omega)
              omega
            · simp (maxSteps := 2000000) (disch := first | omega | assumption | exact idP rfl | exact idP (bL rfl) | (simp only [alloc_size, upd_size] <;> omega) | fail) only [go_sem, reduceIte, Nat.reduceEqDiff, e0, e10, e11, e12, e1]
              refine hK _ _ ⟨rfl, i + 1, by omega, by simp (maxSteps := 2000000) (disch := first | omega | assumption | exact idP rfl | exact idP (bL rfl) | (simp only [alloc_size, upd_size] <;> omega) | fail) only [go_sem, reduceIte, Nat.reduceEqDiff, e0], by simp (maxSteps := 2000000) (disch := first | omega | assumption | exact idP rfl | exact idP (bL rfl) | (simp only [alloc_size, upd_size] <;> omega) | fail) only [go_sem, reduceIte, Nat.reduceEqDiff, e10], by simp (maxSteps := 2000000) (disch := first | omega | assumption | exact idP rfl | exact idP (bL rfl) | (simp only [alloc_size, upd_size] <;> omega) | fail) only [go_sem, reduceIte, Nat.reduceEqDiff, e11], by simp (maxSteps := 2000000) (disch := first | omega | assumption | exact idP rfl | exact idP (bL rfl) | (simp only [alloc_size, upd_size] <;> omega) | fail) only [go_sem, reduceIte, Nat.reduceEqDiff, e1], by simp (maxSteps := 2000000) (disch := first | omega | assumption | exact idP rfl | exact idP (bL rfl) | (simp only [alloc_size, upd_size] <;> omega) | fail) only [go_sem, reduceIte, Nat.reduceEqDiff]; rfl, fun j hj1 hj2 => ?_⟩ (by simp (maxSteps := 2000000) (disch := first | omega | assumption | exact idP rfl | exact idP (bL rfl) | (simp only [alloc_size, upd_size] <;> omega) | fail) only [go_sem, reduceIte, Nat.reduceEqDiff, ctr_int, e12]; omega)
              by_cases hji : j = i
              · subst hji; exact ⟨hlit, fun _ => by omega⟩
              · exact hj j hj1 (by omega)
      · simp (maxSteps := 2000000) (disch := first | omega | assumption | exact idP rfl | exact idP (bL rfl) | (simp only [alloc_size, upd_size] <;> omega) | fail) only [go_sem, reduceIte, Nat.reduceEqDiff, hin]
        refine hR _ _ (bad false rfl ?_)
        cases hl : litOk xs[i] atoms with
        | false => rfl
        | true => have := (litOk_iff.1 hl).2; exact absurd ⟨by omega, this.2⟩ hin
    · simp (maxSteps := 2000000) (disch := first | omega | assumption | exact idP rfl | exact idP (bL rfl) | (simp only [alloc_size, upd_size] <;> omega) | fail) only [go_sem, reduceIte, Nat.reduceEqDiff]
      exact hR _ _ ⟨rfl, true, rfl, by simp only [true_iff]; exact fun j hj1 => hj j hj1 (by omega)⟩
structure ClsOk (n : Int) (xss : List (List Int)) : Prop where
  lo : 0 ≤ n
  hi : n ≤ 700
  few : xss.length ≤ 2500
  all : ∀ xs ∈ xss, ClOk n xs
theorem s_specClausesValid {x : AV} {n : Int} {xss : List (List Int)} (hx : IsCl H x n xss) (h0 : xss.length ≤ 1048576) (hl : ∀ xs ∈ xss, xs.length ≤ 1048576) :
    ACall Try.prog n_Z53 [x] H (fun r H' => Le H H' ∧ ∃ b, r = .bool b ∧ (b = true ↔ ClsOk n xss)) := by
  refine ACall.of fun R hR => a_Z53 rfl ?_
  obtain ⟨v, rfl, hv⟩ := hx
  obtain ⟨A, c, ex, k, rfl, hr⟩ := hv.parts
  simp (maxSteps := 2000000) (disch := first | omega | assumption | exact idP rfl | exact idP (bL rfl) | (simp only [alloc_size, upd_size] <;> omega) | fail) only [go_sem, reduceIte, Nat.reduceEqDiff]
  refine s_l1In.mono ?_
  rintro r H1 ⟨rfl, rfl⟩
  have no : ¬ ClsOk n xss → R (.bool false) (H.alloc [.int .i64 n, .sl A xss.length c ex k]) := fun h => hR _ _ ⟨Le.alloc _ _, false, rfl, by simp only [Bool.false_eq_true, false_iff]; exact h⟩
  by_cases hin : (0 : Int) ≤ n ∧ n ≤ 700
  · simp (maxSteps := 2000000) (disch := first | omega | assumption | exact idP rfl | exact idP (bL rfl) | (simp only [alloc_size, upd_size] <;> omega) | fail) only [go_sem, reduceIte, Nat.reduceEqDiff, hin]
    refine condV_dec (fun h => ?_) (fun h => ?_)
    · simp (maxSteps := 2000000) (disch := first | omega | assumption | exact idP rfl | exact idP (bL rfl) | (simp only [alloc_size, upd_size] <;> omega) | fail) only [go_sem, reduceIte, Nat.reduceEqDiff]
      exact no fun hc => by have := hc.few; omega
    · simp (maxSteps := 2000000) (disch := first | omega | assumption | exact idP rfl | exact idP (bL rfl) | (simp only [alloc_size, upd_size] <;> omega) | fail) only [go_sem, reduceIte, Nat.reduceEqDiff]
      refine wp_loop_k (fun e H' => H' = H.alloc [.int .i64 n, .sl A xss.length c ex k] ∧ ∃ (i : Nat), i ≤ xss.length ∧ e 1 = .ptr (some (H.size, 0)) ∧ e 3 = .int .i64 (i : Int) ∧ ∀ j (h : j < xss.length), j < i → ClOk n xss[j]) (fun e _ => ctr xss.length (e 3)) ?_ ?_
      · exact ⟨rfl, 0, Nat.zero_le _, by simp (maxSteps := 2000000) (disch := first | omega | assumption | exact idP rfl | exact idP (bL rfl) | (simp only [alloc_size, upd_size] <;> omega) | fail) only [go_sem, reduceIte, Nat.reduceEqDiff], by simp (maxSteps := 2000000) (disch := first | omega | assumption | exact idP rfl | exact idP (bL rfl) | (simp only [alloc_size, upd_size] <;> omega) | fail) only [go_sem, reduceIte, Nat.reduceEqDiff]; rfl, fun j _ h => by omega⟩
      · rintro e H2 ⟨rfl, i, hi, e1, e3, hj⟩ K hK
        simp (maxSteps := 2000000) (disch := first | omega | assumption | exact idP rfl | exact idP (bL rfl) | (simp only [alloc_size, upd_size] <;> omega) | fail) only [go_sem, reduceIte, Nat.reduceEqDiff, e1, e3]
        refine condV_dec (fun h => ?_) (fun h => ?_)
        · have hi' : i < xss.length := by omega
          obtain ⟨u, hg, hu⟩ := hr i hi'
          rw [Nat.mul_one] at hg
          have hg' := (Le.alloc H [.int .i64 n, .sl A xss.length c ex k]).get hg
          simp (maxSteps := 2000000) (disch := first | omega | assumption | exact idP rfl | exact idP (bL rfl) | (simp only [alloc_size, upd_size] <;> omega) | fail) only [go_sem, reduceIte, Nat.reduceEqDiff, e1, e3, hg']
          refine (s_specClauseValid (hu.le (Le.alloc _ _)) (hl _ (List.getElem_mem _)) hin.1 hin.2).mono ?_
          rintro r H3 ⟨rfl, b, rfl, hb⟩
          cases b with
          | false =>
            simp (maxSteps := 2000000) (disch := first | omega | assumption | exact idP rfl | exact idP (bL rfl) | (simp only [alloc_size, upd_size] <;> omega) | fail) only [go_sem, reduceIte, Nat.reduceEqDiff]
            exact no fun hc => by have := hb.2 (hc.all _ (List.getElem_mem hi')); cases this
          | true =>
            simp (maxSteps := 2000000) (disch := first | omega | assumption | exact idP rfl | exact idP (bL rfl) | (simp only [alloc_size, upd_size] <;> omega) | fail) only [go_sem, reduceIte, Nat.reduceEqDiff, e1, e3]
            refine hK _ _ ⟨rfl, i + 1, by omega, by simp (maxSteps := 2000000) (disch := first | omega | assumption | exact idP rfl | exact idP (bL rfl) | (simp only [alloc_size, upd_size] <;> omega) | fail) only [go_sem, reduceIte, Nat.reduceEqDiff, e1], by simp (maxSteps := 2000000) (disch := first | omega | assumption | exact idP rfl | exact idP (bL rfl) | (simp only [alloc_size, upd_size] <;> omega) | fail) only [go_sem, reduceIte, Nat.reduceEqDiff]; rfl, fun j hj1 hj2 => ?_⟩ (by simp (maxSteps := 2000000) (disch := first | omega | assumption | exact idP rfl | exact idP (bL rfl) | (simp only [alloc_size, upd_size] <;> omega) | fail) only [go_sem, reduceIte, Nat.reduceEqDiff, ctr_int, e3]; omega)
            by_cases hji : j = i
            · subst hji; exact hb.1 rfl
            · exact hj j hj1 (by omega)
        · simp (maxSteps := 2000000) (disch := first | omega | assumption | exact idP rfl | exact idP (bL rfl) | (simp only [alloc_size, upd_size] <;> omega) | fail) only [go_sem, reduceIte, Nat.reduceEqDiff]
          refine hR _ _ ⟨Le.alloc _ _, true, rfl, ?_⟩
          simp only [true_iff]
          refine ⟨hin.1, hin.2, by omega, fun xs hxs => ?_⟩
          obtain ⟨j, hj1, rfl⟩ := List.getElem_of_mem hxs
          exact hj j hj1 (by omega)
  · simp (maxSteps := 2000000) (disch := first | omega | assumption | exact idP rfl | exact idP (bL rfl) | (simp only [alloc_size, upd_size] <;> omega) | fail) only [go_sem, reduceIte, Nat.reduceEqDiff, hin]
    exact no fun hc => hin ⟨hc.lo, hc.hi⟩
end Go.M2

namespace Go.M2
open Go.Proofs
variable {H : Heap}
theorem s_IndexFuncSS {A : AA} {n c k f : Nat} {ex : Bool} {caps : List AV} {p : (i : Nat) → i < n → Prop} (hn : n ≤ 1048576)
    (hr : ∀ i (h : i < n), ∃ u, H.get A.b (A.o + i) = some u ∧ ∀ H', Le H H' → ACall Try.prog f (u :: caps) H' (fun r H2 => Le H' H2 ∧ ∃ b, r = .bool b ∧ (b = true ↔ p i h))) :
    ACall Try.prog n_Z34 [.sl A n c ex k, .fn f caps] H (fun r H' => Le H H' ∧ ∃ j : Int, r = .int .i64 j ∧ (0 ≤ j ↔ ∃ i h, p i h)) := by
  refine ACall.of fun R hR => a_Z34 rfl ?_
  simp (maxSteps := 2000000) (disch := first | omega | assumption | exact idP rfl | exact idP (bL rfl) | (simp only [alloc_size, upd_size] <;> omega) | fail) only [go_sem, reduceIte, Nat.reduceEqDiff]
  refine wp_loop_k (fun e H' => Le H H' ∧ ∃ (i : Nat), i ≤ n ∧ e 0 = .sl A n c ex k ∧ e 1 = .fn f caps ∧ e 7 = .int .i64 (n : Int) ∧ e 8 = .int .i64 (i : Int) ∧ ∀ j (h : j < n), j < i → ¬ p j h) (fun e _ => ctr n (e 8)) ?_ ?_
  · exact ⟨Le.refl _, 0, Nat.zero_le _, by simp (maxSteps := 2000000) (disch := first | omega | assumption | exact idP rfl | exact idP (bL rfl) | (simp only [alloc_size, upd_size] <;> omega) | fail) only [go_sem, reduceIte, Nat.reduceEqDiff], by simp (maxSteps := 2000000) (disch := first | omega | assumption | exact idP rfl | exact idP (bL rfl) | (simp only [alloc_size, upd_size] <;> omega) | fail) only [go_sem, reduceIte, Nat.reduceEqDiff], by simp (maxSteps := 2000000) (disch := first | omega | assumption | exact idP rfl | exact idP (bL rfl) | (simp only [alloc_size, upd_size] <;> omega) | fail) only [go_sem, reduceIte, Nat.reduceEqDiff], by simp (maxSteps := 2000000) (disch := first | omega | assumption | exact idP rfl | exact idP (bL rfl) | (simp only [alloc_size, upd_size] <;> omega) | fail) only [go_sem, reduceIte, Nat.reduceEqDiff]; rfl, fun j _ h => by omega⟩
  · rintro e H1 ⟨hle, i, hi, e0, e1, e7, e8, hj⟩ K hK
    simp (maxSteps := 2000000) (disch := first | omega | assumption | exact idP rfl | exact idP (bL rfl) | (simp only [alloc_size, upd_size] <;> omega) | fail) only [go_sem, reduceIte, Nat.reduceEqDiff, e0, e1, e7, e8]
    refine condV_dec (fun h => ?_) (fun h => ?_)
    · have hi' : i < n := by omega
      obtain ⟨u, hg, hu⟩ := hr i hi'
      have hg' := hle.get hg
      simp (maxSteps := 2000000) (disch := first | omega | assumption | exact idP rfl | exact idP (bL rfl) | (simp only [alloc_size, upd_size] <;> omega) | fail) only [go_sem, reduceIte, Nat.reduceEqDiff, e0, e1, e7, e8, hg']
      refine (hu H1 hle).mono ?_
      rintro r H2 ⟨hle2, b, rfl, hb⟩
      cases b with
      | true =>
        simp (maxSteps := 2000000) (disch := first | omega | assumption | exact idP rfl | exact idP (bL rfl) | (simp only [alloc_size, upd_size] <;> omega) | fail) only [go_sem, reduceIte, Nat.reduceEqDiff, e0, e1, e7, e8]
        exact hR _ _ ⟨hle.trans hle2, i, rfl, ⟨fun _ => ⟨i, hi', hb.1 rfl⟩, fun _ => by omega⟩⟩
      | false =>
        simp (maxSteps := 2000000) (disch := first | omega | assumption | exact idP rfl | exact idP (bL rfl) | (simp only [alloc_size, upd_size] <;> omega) | fail) only [go_sem, reduceIte, Nat.reduceEqDiff, e0, e1, e7, e8]
        refine hK _ _ ⟨hle.trans hle2, i + 1, by omega, by simp (maxSteps := 2000000) (disch := first | omega | assumption | exact idP rfl | exact idP (bL rfl) | (simp only [alloc_size, upd_size] <;> omega) | fail) only [go_sem, reduceIte, Nat.reduceEqDiff, e0], by simp (maxSteps := 2000000) (disch := first | omega | assumption | exact idP rfl | exact idP (bL rfl) | (simp only [alloc_size, upd_size] <;> omega) | fail) only [go_sem, reduceIte, Nat.reduceEqDiff, e1], by simp (maxSteps := 2000000) (disch := first | omega | assumption | exact idP rfl | exact idP (bL rfl) | (simp only [alloc_size, upd_size] <;> omega) | fail) only [go_sem, reduceIte, Nat.reduceEqDiff, e7], by simp (maxSteps := 2000000) (disch := first | omega | assumption | exact idP rfl | exact idP (bL rfl) | (simp only [alloc_size, upd_size] <;> omega) | fail) only [go_sem, reduceIte, Nat.reduceEqDiff]; rfl, fun j hj1 hj2 => ?_⟩ (by simp (maxSteps := 2000000) (disch := first | omega | assumption | exact idP rfl | exact idP (bL rfl) | (simp only [alloc_size, upd_size] <;> omega) | fail) only [go_sem, reduceIte, Nat.reduceEqDiff, ctr_int, e8]; omega)
        by_cases hji : j = i
        · subst hji; intro hp; have := hb.2 hp; cases this
        · exact hj j hj1 (by omega)
    · simp (maxSteps := 2000000) (disch := first | omega | assumption | exact idP rfl | exact idP (bL rfl) | (simp only [alloc_size, upd_size] <;> omega) | fail) only [go_sem, reduceIte, Nat.reduceEqDiff]
      refine hR _ _ ⟨hle, -1, rfl, ⟨fun h => by omega, fun ⟨j, hj1, hp⟩ => absurd hp (hj j hj1 (by omega))⟩⟩
theorem s_ContainsFuncSS {A : AA} {n c k f : Nat} {ex : Bool} {caps : List AV} {p : (i : Nat) → i < n → Prop} (hn : n ≤ 1048576)
    (hr : ∀ i (h : i < n), ∃ u, H.get A.b (A.o + i) = some u ∧ ∀ H', Le H H' → ACall Try.prog f (u :: caps) H' (fun r H2 => Le H' H2 ∧ ∃ b, r = .bool b ∧ (b = true ↔ p i h))) :
    ACall Try.prog n_Z32 [.sl A n c ex k, .fn f caps] H (fun r H' => Le H H' ∧ ∃ b : Bool, r = .bool b ∧ (b = true ↔ ∃ i h, p i h)) := by
  refine ACall.of fun R hR => a_Z32 rfl ?_
  simp (maxSteps := 2000000) (disch := first | omega | assumption | exact idP rfl | exact idP (bL rfl) | (simp only [alloc_size, upd_size] <;> omega) | fail) only [go_sem, reduceIte, Nat.reduceEqDiff]
  refine (s_IndexFuncSS hn hr).mono ?_
  rintro r H1 ⟨hle, j, rfl, hj⟩
  simp (maxSteps := 2000000) (disch := first | omega | assumption | exact idP rfl | exact idP (bL rfl) | (simp only [alloc_size, upd_size] <;> omega) | fail) only [go_sem, reduceIte, Nat.reduceEqDiff]
  exact hR _ _ ⟨hle, _, rfl, by simpa using hj⟩
theorem s_implClausesValid {x : AV} {n : Int} {xss : List (List Int)} (hx : IsCl H x n xss) (h0 : xss.length ≤ 1048576) (hl : ∀ xs ∈ xss, xs.length ≤ 1048576) :
    ACall Try.prog n_Z4 [x] H (fun r H' => Le H H' ∧ ∃ b, r = .bool b ∧ (b = true ↔ ClsOk n xss)) := by
  refine ACall.of fun R hR => a_Z4 rfl ?_
  obtain ⟨v, rfl, hv⟩ := hx
  obtain ⟨A, c, ex, k, rfl, hr⟩ := hv.parts
  simp (maxSteps := 2000000) (disch := first | omega | assumption | exact idP rfl | exact idP (bL rfl) | (simp only [alloc_size, upd_size] <;> omega) | fail) only [go_sem, reduceIte, Nat.reduceEqDiff]
  refine s_in.mono ?_
  rintro r H1 ⟨rfl, rfl⟩
  have no : ¬ ClsOk n xss → R (.bool false) (H.alloc [.int .i64 n, .sl A xss.length c ex k]) := fun h => hR _ _ ⟨Le.alloc _ _, false, rfl, by simp only [Bool.false_eq_true, false_iff]; exact h⟩
  by_cases hin : (0 : Int) ≤ n ∧ n ≤ 700
  · by_cases h25 : (xss.length : Int) ≤ 2500
    · simp (maxSteps := 2000000) (disch := first | omega | assumption | exact idP rfl | exact idP (bL rfl) | (simp only [alloc_size, upd_size] <;> omega) | fail) only [go_sem, reduceIte, Nat.reduceEqDiff, hin, h25]
      refine (s_ContainsFuncSS (p := fun i h => ¬ ClOk n xss[i]) h0 fun i hi => ?_).mono ?_
      · obtain ⟨u, hg, hu⟩ := hr i hi
        rw [Nat.mul_one] at hg
        refine ⟨u, (Le.alloc _ _).get hg, fun H' hle => ?_⟩
        refine ACall.of fun R' hR' => a_Z4_1 rfl ?_
        have hg2 : H'.get H.size 0 = some (.int .i64 n) := hle.get (by simp (maxSteps := 2000000) (disch := first | omega | assumption | exact idP rfl | exact idP (bL rfl) | (simp only [alloc_size, upd_size] <;> omega) | fail) only [go_sem, reduceIte, Nat.reduceEqDiff])
        simp (maxSteps := 2000000) (disch := first | omega | assumption | exact idP rfl | exact idP (bL rfl) | (simp only [alloc_size, upd_size] <;> omega) | fail) only [go_sem, reduceIte, Nat.reduceEqDiff, hg2]
        refine (s_implClauseValid (hu.le ((Le.alloc _ _).trans hle)) (hl _ (List.getElem_mem _)) hin.1 hin.2).mono ?_
        rintro r H2 ⟨rfl, b, rfl, hb⟩
        simp (maxSteps := 2000000) (disch := first | omega | assumption | exact idP rfl | exact idP (bL rfl) | (simp only [alloc_size, upd_size] <;> omega) | fail) only [go_sem, reduceIte, Nat.reduceEqDiff]
        refine hR' _ _ ⟨Le.refl _, !b, rfl, ?_⟩
        cases b with
        | true => simp only [Bool.not_true, Bool.false_eq_true, false_iff, Classical.not_not]; exact hb.1 rfl
        | false => simp only [Bool.not_false, true_iff]; intro hc; have := hb.2 hc; cases this
      · rintro r H2 ⟨hle, b, rfl, hb⟩
        simp (maxSteps := 2000000) (disch := first | omega | assumption | exact idP rfl | exact idP (bL rfl) | (simp only [alloc_size, upd_size] <;> omega) | fail) only [go_sem, reduceIte, Nat.reduceEqDiff]
        refine hR _ _ ⟨(Le.alloc _ _).trans hle, !b, rfl, ?_⟩
        cases b with
        | true =>
          simp only [Bool.not_true, Bool.false_eq_true, false_iff]
          intro hc
          obtain ⟨i, hi, hp⟩ := hb.1 rfl
          exact hp (hc.all _ (List.getElem_mem hi))
        | false =>
          simp only [Bool.not_false, true_iff]
          refine ⟨hin.1, hin.2, by omega, fun xs hxs => ?_⟩
          obtain ⟨j, hj1, rfl⟩ := List.getElem_of_mem hxs
          refine Classical.byContradiction fun hn => ?_
          have := hb.2 ⟨j, hj1, hn⟩; cases this
    · simp (maxSteps := 2000000) (disch := first | omega | assumption | exact idP rfl | exact idP (bL rfl) | (simp only [alloc_size, upd_size] <;> omega) | fail) only [go_sem, reduceIte, Nat.reduceEqDiff, hin, h25]
      exact no fun hc => by have := hc.few; omega
  · simp (maxSteps := 2000000) (disch := first | omega | assumption | exact idP rfl | exact idP (bL rfl) | (simp only [alloc_size, upd_size] <;> omega) | fail) only [go_sem, reduceIte, Nat.reduceEqDiff, hin]
    exact no fun hc => hin ⟨hc.lo, hc.hi⟩
end Go.M2

namespace Go.M2
open Go.Proofs
variable {H : Heap}
structure Row (H0 H : Heap) (b : Nat) (l : List Int) : Prop where
  lt : b < H.size
  blk : H.blk b = .cells (l.map (AV.int .i64)) true
  le : Le H0 (H.kill b)
theorem Row.rw {H0 : Heap} {b : Nat} {l : List Int} (h : Row H0 H b l) : H.rwCells b = some (l.map (AV.int .i64)) := rwCells_of h.lt h.blk
theorem Row.get {H0 : Heap} {b : Nat} {l : List Int} (h : Row H0 H b l) {i : Nat} (hi : i < l.length) : H.get b i = some (.int .i64 l[i]) := by
  have := Rd.blk h.lt h.blk i (.int .i64 l[i]) (by simp [hi])
  simpa using this
theorem Row.le' {H0 : Heap} {b : Nat} {l : List Int} (h : Row H0 H b l) : Le H0 H := h.le.trans (Le.kill _ _)
theorem Row.set {H0 : Heap} {b : Nat} {l : List Int} (h : Row H0 H b l) (i : Nat) (v : Int) : Row H0 (H.upd b (.cells ((l.map (AV.int .i64)).set i (.int .i64 v)) true)) b (l.set i v) :=
  ⟨h.lt, by rw [upd_blk_same', List.map_set], by rw [upd_kill]; exact h.le⟩
theorem Row.step {H0 H1 : Heap} {b : Nat} {l : List Int} (h : Row H0 H b l) (hl : Le H H1) : Row H0 H1 b l :=
  ⟨Nat.lt_of_lt_of_le h.lt hl.1, hl.cells h.lt h.blk, h.le.trans (hl.kills _)⟩
theorem zeros_int (n : Nat) : zeros [.int .i64 0] n = (List.replicate n (0 : Int)).map (AV.int .i64) := by
  induction n with
  | zero => rfl
  | succ n ih => simp only [zeros, ih, List.replicate_succ, List.map_cons]; rfl
theorem Row.new {H0 : Heap} (h : Le H0 H) (n : Nat) : Row H0 (H.alloc (zeros [.int .i64 0] n)) H.size (List.replicate n 0) :=
  ⟨Nat.lt_succ_self _, by rw [alloc_new, zeros_int], (h.trans (Le.alloc _ _)).killFresh h.1⟩
def Lits (n : Nat) (xs : List Int) : Prop := ∀ x ∈ xs, x ≠ 0 ∧ x.natAbs ≤ n
def givenF (xs : List Int) (m : List Int) : List Int := xs.foldl (fun m x => m.set x.natAbs x) m
def given (n : Nat) (xs : List Int) : List Int := givenF xs (List.replicate (n + 1) 0)
def sgn (x : Int) : Int := if x = 0 then 0 else if x < 0 then -1 else 1
theorem givenF_len (xs m : List Int) : (givenF xs m).length = m.length := by
  induction xs generalizing m with
  | nil => rfl
  | cons x t ih => simp only [givenF, List.foldl_cons] at ih ⊢; rw [ih]; simp
theorem givenF_take {xs m : List Int} {i : Nat} (h : i < xs.length) : givenF (xs.take (i + 1)) m = (givenF (xs.take i) m).set xs[i].natAbs xs[i] := by
  unfold givenF
  rw [List.take_succ_eq_append_getElem h, List.foldl_append]; rfl
theorem s_l11Given {v : AV} {xs : List Int} {n : Nat} (hv : IsI H v xs) (hl : xs.length ≤ 1048576) (hn : n ≤ 700) (hx : Lits n xs) :
    ACall Try.prog n_Z61 [v, .int .i64 (n : Int)] H (fun r H' => r = .sl (some (H.size, 0)) (n + 1) (n + 1) true 1 ∧ Row H H' H.size (given n xs)) := by
  refine ACall.of fun R hR => a_Z61 rfl ?_
  obtain ⟨A, c, ex, k, rfl, hr⟩ := hv.parts
  simp (maxSteps := 2000000) (disch := first | omega | assumption | exact idP rfl | exact idP (bL rfl) | (simp only [alloc_size, upd_size] <;> omega) | fail) only [go_sem, reduceIte, Nat.reduceEqDiff]
  refine mks_own (by omega) (by simp [mostCells]; omega) (by simp [mostCells]; omega) ?_
  have e1 : ((n : Int) + 1).toNat = n + 1 := by omega
  rw [e1]
  simp (maxSteps := 2000000) (disch := first | omega | assumption | exact idP rfl | exact idP (bL rfl) | (simp only [alloc_size, upd_size] <;> omega) | fail) only [go_sem, reduceIte, Nat.reduceEqDiff]
  refine wp_loop_k (fun e H' => ∃ (i : Nat), i ≤ xs.length ∧ e 0 = .sl A xs.length c ex k ∧ e 5 = .sl (some (H.size, 0)) (n + 1) (n + 1) true 1 ∧ e 6 = .int .i64 (i : Int) ∧ Row H H' H.size (givenF (xs.take i) (List.replicate (n + 1) 0))) (fun e _ => ctr xs.length (e 6)) ?_ ?_
  · exact ⟨0, Nat.zero_le _, by simp (maxSteps := 2000000) (disch := first | omega | assumption | exact idP rfl | exact idP (bL rfl) | (simp only [alloc_size, upd_size] <;> omega) | fail) only [go_sem, reduceIte, Nat.reduceEqDiff], by simp (maxSteps := 2000000) (disch := first | omega | assumption | exact idP rfl | exact idP (bL rfl) | (simp only [alloc_size, upd_size] <;> omega) | fail) only [go_sem, reduceIte, Nat.reduceEqDiff]; rfl, by simp (maxSteps := 2000000) (disch := first | omega | assumption | exact idP rfl | exact idP (bL rfl) | (simp only [alloc_size, upd_size] <;> omega) | fail) only [go_sem, reduceIte, Nat.reduceEqDiff]; rfl, Row.new (Le.refl _) _⟩
  · rintro e H1 ⟨i, hi, e0, e5, e6, hrow⟩ K hK
    simp (maxSteps := 2000000) (disch := first | omega | assumption | exact idP rfl | exact idP (bL rfl) | (simp only [alloc_size, upd_size] <;> omega) | fail) only [go_sem, reduceIte, Nat.reduceEqDiff, e0, e5, e6]
    refine condV_dec (fun h => ?_) (fun h => ?_)
    · have hi' : i < xs.length := by omega
      have hg := hrow.le'.get (hr i hi')
      rw [Nat.mul_one] at hg
      have hxi := hx _ (List.getElem_mem hi')
      have hlen : (givenF (xs.take i) (List.replicate (n + 1) 0)).length = n + 1 := by rw [givenF_len]; simp
      simp (maxSteps := 2000000) (disch := first | omega | assumption | exact idP rfl | exact idP (bL rfl) | (simp only [alloc_size, upd_size] <;> omega) | fail) only [go_sem, reduceIte, Nat.reduceEqDiff, e0, e5, e6, hg]
      refine (s_l11Abs (n := xs[i]) (by omega) (by omega)).mono ?_
      rintro r H2 ⟨rfl, rfl⟩
      simp (maxSteps := 2000000) (disch := first | omega | assumption | exact idP rfl | exact idP (bL rfl) | (simp only [alloc_size, upd_size] <;> omega) | fail) only [go_sem, reduceIte, Nat.reduceEqDiff, e0, e5, e6, hg, hrow.rw, List.length_map, hlen]
      rw [stoK_1 rfl (by simp only [List.length_map, hlen]; omega)]
      simp (maxSteps := 2000000) (disch := first | omega | assumption | exact idP rfl | exact idP (bL rfl) | (simp only [alloc_size, upd_size] <;> omega) | fail) only [go_sem, reduceIte, Nat.reduceEqDiff, e0, e5, e6]
      refine hK _ _ ⟨i + 1, by omega, by simp (maxSteps := 2000000) (disch := first | omega | assumption | exact idP rfl | exact idP (bL rfl) | (simp only [alloc_size, upd_size] <;> omega) | fail) only [go_sem, reduceIte, Nat.reduceEqDiff, e0], by simp (maxSteps := 2000000) (disch := first | omega | assumption | exact idP rfl | exact idP (bL rfl) | (simp only [alloc_size, upd_size] <;> omega) | fail) only [go_sem, reduceIte, Nat.reduceEqDiff, e5], by simp (maxSteps := 2000000) (disch := first | omega | assumption | exact idP rfl | exact idP (bL rfl) | (simp only [alloc_size, upd_size] <;> omega) | fail) only [go_sem, reduceIte, Nat.reduceEqDiff]; rfl, ?_⟩ (by simp (maxSteps := 2000000) (disch := first | omega | assumption | exact idP rfl | exact idP (bL rfl) | (simp only [alloc_size, upd_size] <;> omega) | fail) only [go_sem, reduceIte, Nat.reduceEqDiff, ctr_int, e6]; omega)
      rw [givenF_take hi']
      exact hrow.set _ _
    · simp (maxSteps := 2000000) (disch := first | omega | assumption | exact idP rfl | exact idP (bL rfl) | (simp only [alloc_size, upd_size] <;> omega) | fail) only [go_sem, reduceIte, Nat.reduceEqDiff, e5]
      obtain rfl : i = xs.length := by omega
      rw [List.take_length] at hrow
      exact hR _ _ ⟨rfl, hrow⟩
theorem map_sgn_set (m : List Int) (i : Nat) (x : Int) : (m.set i x).map sgn = (m.map sgn).set i (sgn x) := List.map_set
theorem s_signs {v : AV} {xs : List Int} {n : Nat} (hv : IsI H v xs) (hl : xs.length ≤ 1048576) (hn : n ≤ 700) (hx : Lits n xs) :
    ACall Try.prog n_Z22 [.int .i64 (n : Int), v] H (fun r H' => r = .sl (some (H.size, 0)) (n + 1) (n + 1) true 1 ∧ Row H H' H.size ((given n xs).map sgn)) := by
  refine ACall.of fun R hR => a_Z22 rfl ?_
  obtain ⟨A, c, ex, k, rfl, hr⟩ := hv.parts
  simp (maxSteps := 2000000) (disch := first | omega | assumption | exact idP rfl | exact idP (bL rfl) | (simp only [alloc_size, upd_size] <;> omega) | fail) only [go_sem, reduceIte, Nat.reduceEqDiff]
  refine mks_own (by omega) (by simp [mostCells]; omega) (by simp [mostCells]; omega) ?_
  have e1 : ((n : Int) + 1).toNat = n + 1 := by omega
  rw [e1]
  simp (maxSteps := 2000000) (disch := first | omega | assumption | exact idP rfl | exact idP (bL rfl) | (simp only [alloc_size, upd_size] <;> omega) | fail) only [go_sem, reduceIte, Nat.reduceEqDiff]
  refine wp_loop_k (fun e H' => ∃ (i : Nat), i ≤ xs.length ∧ e 11 = .sl A xs.length c ex k ∧ e 12 = .int .i64 (xs.length : Int) ∧ e 5 = .sl (some (H.size, 0)) (n + 1) (n + 1) true 1 ∧ e 13 = .int .i64 (i : Int) ∧ Row H H' H.size ((givenF (xs.take i) (List.replicate (n + 1) 0)).map sgn)) (fun e _ => ctr xs.length (e 13)) ?_ ?_
  · refine ⟨0, Nat.zero_le _, by simp (maxSteps := 2000000) (disch := first | omega | assumption | exact idP rfl | exact idP (bL rfl) | (simp only [alloc_size, upd_size] <;> omega) | fail) only [go_sem, reduceIte, Nat.reduceEqDiff], by simp (maxSteps := 2000000) (disch := first | omega | assumption | exact idP rfl | exact idP (bL rfl) | (simp only [alloc_size, upd_size] <;> omega) | fail) only [go_sem, reduceIte, Nat.reduceEqDiff], by simp (maxSteps := 2000000) (disch := first | omega | assumption | exact idP rfl | exact idP (bL rfl) | (simp only [alloc_size, upd_size] <;> omega) | fail) only [go_sem, reduceIte, Nat.reduceEqDiff]; rfl, by simp (maxSteps := 2000000) (disch := first | omega | assumption | exact idP rfl | exact idP (bL rfl) | (simp only [alloc_size, upd_size] <;> omega) | fail) only [go_sem, reduceIte, Nat.reduceEqDiff]; rfl, ?_⟩
    have := Row.new (H := H) (Le.refl _) (n + 1)
    simpa [givenF, sgn] using this
  · rintro e H1 ⟨i, hi, e11, e12, e5, e13, hrow⟩ K hK
    simp (maxSteps := 2000000) (disch := first | omega | assumption | exact idP rfl | exact idP (bL rfl) | (simp only [alloc_size, upd_size] <;> omega) | fail) only [go_sem, reduceIte, Nat.reduceEqDiff, e11, e12, e5, e13]
    refine condV_dec (fun h => ?_) (fun h => ?_)
    · have hi' : i < xs.length := by omega
      have hg := hrow.le'.get (hr i hi')
      rw [Nat.mul_one] at hg
      have hxi := hx _ (List.getElem_mem hi')
      have hlen : ((givenF (xs.take i) (List.replicate (n + 1) 0)).map sgn).length = n + 1 := by rw [List.length_map, givenF_len]; simp
      simp (maxSteps := 2000000) (disch := first | omega | assumption | exact idP rfl | exact idP (bL rfl) | (simp only [alloc_size, upd_size] <;> omega) | fail) only [go_sem, reduceIte, Nat.reduceEqDiff, e11, e12, e5, e13, hg]
      refine (s_atomOf (n := xs[i]) (by omega) (by omega)).mono ?_
      rintro r H2 ⟨rfl, rfl⟩
      simp (maxSteps := 2000000) (disch := first | omega | assumption | exact idP rfl | exact idP (bL rfl) | (simp only [alloc_size, upd_size] <;> omega) | fail) only [go_sem, reduceIte, Nat.reduceEqDiff, e11, e12, e5, e13]
      refine s_bit.mono ?_
      rintro r H3 ⟨rfl, rfl⟩
      have hsg : (1 : Int) - 2 * (if decide (xs[i] < 0) = true then 1 else 0) = sgn xs[i] := by
        by_cases hlt : xs[i] < 0 <;> simp [sgn, hlt, hxi.1]
      have hw1 : IntKind.i64.wrap (2 * (if decide (xs[i] < 0) = true then 1 else 0)) = 2 * (if decide (xs[i] < 0) = true then 1 else 0) := wrap_in (by split <;> omega) (by split <;> omega)
      have hw2 : IntKind.i64.wrap (sgn xs[i]) = sgn xs[i] := wrap_in (by unfold sgn; split <;> (try split) <;> omega) (by unfold sgn; split <;> (try split) <;> omega)
      simp (maxSteps := 2000000) (disch := first | omega | assumption | exact idP rfl | exact idP (bL rfl) | (simp only [alloc_size, upd_size] <;> omega) | fail) only [go_sem, reduceIte, Nat.reduceEqDiff, e11, e12, e5, e13, hrow.rw, hw1, hsg, hw2]
      rw [stoK_1 rfl (by simp only [List.length_map] at hlen ⊢; omega)]
      simp (maxSteps := 2000000) (disch := first | omega | assumption | exact idP rfl | exact idP (bL rfl) | (simp only [alloc_size, upd_size] <;> omega) | fail) only [go_sem, reduceIte, Nat.reduceEqDiff, e11, e12, e5, e13]
      refine hK _ _ ⟨i + 1, by omega, by simp (maxSteps := 2000000) (disch := first | omega | assumption | exact idP rfl | exact idP (bL rfl) | (simp only [alloc_size, upd_size] <;> omega) | fail) only [go_sem, reduceIte, Nat.reduceEqDiff, e11], by simp (maxSteps := 2000000) (disch := first | omega | assumption | exact idP rfl | exact idP (bL rfl) | (simp only [alloc_size, upd_size] <;> omega) | fail) only [go_sem, reduceIte, Nat.reduceEqDiff, e12], by simp (maxSteps := 2000000) (disch := first | omega | assumption | exact idP rfl | exact idP (bL rfl) | (simp only [alloc_size, upd_size] <;> omega) | fail) only [go_sem, reduceIte, Nat.reduceEqDiff, e5], by simp (maxSteps := 2000000) (disch := first | omega | assumption | exact idP rfl | exact idP (bL rfl) | (simp only [alloc_size, upd_size] <;> omega) | fail) only [go_sem, reduceIte, Nat.reduceEqDiff]; rfl, ?_⟩ (by simp (maxSteps := 2000000) (disch := first | omega | assumption | exact idP rfl | exact idP (bL rfl) | (simp only [alloc_size, upd_size] <;> omega) | fail) only [go_sem, reduceIte, Nat.reduceEqDiff, ctr_int, e13]; omega)
      rw [givenF_take hi', map_sgn_set]
      exact hrow.set _ _
    · simp (maxSteps := 2000000) (disch := first | omega | assumption | exact idP rfl | exact idP (bL rfl) | (simp only [alloc_size, upd_size] <;> omega) | fail) only [go_sem, reduceIte, Nat.reduceEqDiff, e5]
      obtain rfl : i = xs.length := by omega
      rw [List.take_length] at hrow
      exact hR _ _ ⟨rfl, hrow⟩
end Go.M2

namespace Go.M2
open Go.Proofs
variable {H : Heap}
theorem exists_least {p : Nat → Prop} (h : ∃ n, p n) : ∃ n, p n ∧ ∀ m, p m → n ≤ m := by
  obtain ⟨n, hn⟩ := h
  induction n using Nat.strongRecOn with
  | _ n ih =>
    by_cases hx : ∃ m, m < n ∧ p m
    · obtain ⟨m, h1, h2⟩ := hx
      exact ih m h1 h2
    · exact ⟨n, hn, fun m hm => Nat.le_of_not_lt fun hl => hx ⟨m, hl, hm⟩⟩
open Classical in
noncomputable def leastN (p : Nat → Prop) : Nat := if h : ∃ n, p n then Classical.choose (exists_least h) else 0
theorem leastN_spec {p : Nat → Prop} (h : ∃ n, p n) : p (leastN p) ∧ ∀ m, p m → leastN p ≤ m := by
  unfold leastN
  rw [dif_pos h]
  exact Classical.choose_spec (exists_least h)
theorem wp_loop_g {P : Program} {Q : Post} {e : Env} {a : IR} (I : Nat → Env → Heap → Prop) (n : Nat) (h0 : I n e H)
    (hr : ∀ n e H, I n e H → ∀ K : Env → Heap → Prop, (∀ m e' H', m < n → I m e' H' → K e' H') → wp P a (thenQ K Q) e H) : wp P (.loop a) Q e H := by
  refine ⟨fun e H => ∃ n, I n e H, fun e H => leastN fun n => I n e H, ⟨n, h0⟩, fun e H hI => ?_⟩
  have h1 := leastN_spec hI
  exact hr _ e H h1.1 _ fun m e' H' hm hI' => ⟨⟨m, hI'⟩, Nat.lt_of_le_of_lt ((leastN_spec ⟨m, hI'⟩).2 m hI') hm⟩
def leftF (m : List Int) : List Int → Int → Int → Int × Int
  | [], o, l => (o, l)
  | x :: t, o, l => if m.getD x.natAbs 0 = x then (-1, 0) else if m.getD x.natAbs 0 = 0 then leftF m t (o + 1) x else leftF m t o l
theorem leftF_last {m : List Int} : ∀ {xs : List Int} {o l o' l' : Int}, leftF m xs o l = (o', l') → (o' = -1 ∧ l' = 0) ∨ (o' = o ∧ l' = l) ∨ (l' ∈ xs ∧ m.getD l'.natAbs 0 = 0 ∧ o < o' ∧ o' ≤ o + xs.length)
  | [], o, l, o', l', h => by simp only [leftF, Prod.mk.injEq] at h; exact .inr (.inl ⟨h.1.symm, h.2.symm⟩)
  | x :: t, o, l, o', l', h => by
    simp only [leftF] at h
    split at h
    · simp only [Prod.mk.injEq] at h; exact .inl ⟨h.1.symm, h.2.symm⟩
    · split at h
      · rename_i hz
        rcases leftF_last h with h1 | ⟨h1, h2⟩ | ⟨h1, h2, h3, h4⟩
        · exact .inl h1
        · exact .inr (.inr ⟨by rw [h2]; simp, by rw [h2]; exact hz, by omega, by simp only [List.length_cons]; omega⟩)
        · exact .inr (.inr ⟨List.mem_cons_of_mem _ h1, h2, by omega, by simp only [List.length_cons]; omega⟩)
      · rcases leftF_last h with h1 | h1 | ⟨h1, h2, h3, h4⟩
        · exact .inl h1
        · exact .inr (.inl h1)
        · exact .inr (.inr ⟨List.mem_cons_of_mem _ h1, h2, h3, by simp only [List.length_cons]; omega⟩)
def passF : List (List Int) → List Int → Bool → Option (List Int × Bool)
  | [], m, ag => some (m, ag)
  | c :: t, m, ag => if (leftF m c 0 0).1 = 0 then none else if (leftF m c 0 0).1 = 1 then passF t (m.set (leftF m c 0 0).2.natAbs (leftF m c 0 0).2) true else passF t m ag
inductive Force (cl : List (List Int)) : List Int → Option (List Int) → Prop
  | bad {m : List Int} : passF cl m false = none → Force cl m none
  | stop {m m' : List Int} : passF cl m false = some (m', false) → Force cl m (some m')
  | go {m m' : List Int} {r : Option (List Int)} : passF cl m false = some (m', true) → Force cl m' r → Force cl m r
theorem Force.det {cl : List (List Int)} {m : List Int} {r r' : Option (List Int)} (h : Force cl m r) (h' : Force cl m r') : r = r' := by
  induction h with
  | bad h1 => cases h' with
    | bad _ => rfl
    | stop h2 => rw [h1] at h2; cases h2
    | go h2 _ => rw [h1] at h2; cases h2
  | stop h1 => cases h' with
    | bad h2 => rw [h1] at h2; cases h2
    | stop h2 => rw [h1] at h2; cases h2; rfl
    | go h2 _ => rw [h1] at h2; cases h2
  | go h1 _ ih => cases h' with
    | bad h2 => rw [h1] at h2; cases h2
    | stop h2 => rw [h1] at h2; cases h2
    | go h2 h3 => rw [h1] at h2; cases h2; exact ih h3
def zer : List Int → Nat
  | [] => 0
  | x :: t => (if x = 0 then 1 else 0) + zer t
theorem zer_set : ∀ {m : List Int} {i : Nat} {x : Int}, m.getD i 0 = 0 → i < m.length → x ≠ 0 → zer (m.set i x) + 1 = zer m
  | [], i, x, _, h, _ => by simp at h
  | y :: t, 0, x, h, _, hx => by
    simp at h; subst h
    simp [zer, hx]; omega
  | y :: t, i + 1, x, h, hl, hx => by
    have := zer_set (m := t) (i := i) (x := x) (by simpa using h) (by simpa using hl) hx
    simp only [List.set_cons_succ, zer]; omega
theorem s_l11Left {H0 : Heap} {b n : Nat} {v : AV} {xs m : List Int} (hv : IsI H0 v xs) (hl : xs.length ≤ 1048576) (hn : n ≤ 700) (hx : Lits n xs) (hrow : Row H0 H b m) (hm : m.length = n + 1) :
    ACall Try.prog n_Z62 [v, .sl (some (b, 0)) (n + 1) (n + 1) true 1] H (fun r H' => H' = H ∧ r = .tup [.int .i64 (leftF m xs 0 0).1, .int .i64 (leftF m xs 0 0).2]) := by
  refine ACall.of fun R hR => a_Z62 rfl ?_
  obtain ⟨A, c, ex, k, rfl, hr⟩ := hv.parts
  simp (maxSteps := 2000000) (disch := first | omega | assumption | exact idP rfl | exact idP (bL rfl) | (simp only [alloc_size, upd_size] <;> omega) | fail) only [go_sem, reduceIte, Nat.reduceEqDiff]
  refine wp_loop_k (fun e H' => H' = H ∧ ∃ (i : Nat) (o l : Int), i ≤ xs.length ∧ e 0 = .sl A xs.length c ex k ∧ e 1 = .sl (some (b, 0)) (n + 1) (n + 1) true 1 ∧ e 6 = .int .i64 o ∧ e 7 = .int .i64 l ∧ e 8 = .int .i64 (i : Int) ∧ 0 ≤ o ∧ o ≤ i ∧ leftF m xs 0 0 = leftF m (xs.drop i) o l) (fun e _ => ctr xs.length (e 8)) ?_ ?_
  · exact ⟨rfl, 0, 0, 0, Nat.zero_le _, by simp (maxSteps := 2000000) (disch := first | omega | assumption | exact idP rfl | exact idP (bL rfl) | (simp only [alloc_size, upd_size] <;> omega) | fail) only [go_sem, reduceIte, Nat.reduceEqDiff], by simp (maxSteps := 2000000) (disch := first | omega | assumption | exact idP rfl | exact idP (bL rfl) | (simp only [alloc_size, upd_size] <;> omega) | fail) only [go_sem, reduceIte, Nat.reduceEqDiff], by simp (maxSteps := 2000000) (disch := first | omega | assumption | exact idP rfl | exact idP (bL rfl) | (simp only [alloc_size, upd_size] <;> omega) | fail) only [go_sem, reduceIte, Nat.reduceEqDiff], by simp (maxSteps := 2000000) (disch := first | omega | assumption | exact idP rfl | exact idP (bL rfl) | (simp only [alloc_size, upd_size] <;> omega) | fail) only [go_sem, reduceIte, Nat.reduceEqDiff], by simp (maxSteps := 2000000) (disch := first | omega | assumption | exact idP rfl | exact idP (bL rfl) | (simp only [alloc_size, upd_size] <;> omega) | fail) only [go_sem, reduceIte, Nat.reduceEqDiff]; rfl, by omega, by omega, rfl⟩
  · rintro e H1 ⟨rfl, i, o, l, hi, e0, e1, e6, e7, e8, ho, ho2, hleft⟩ K hK
    simp (maxSteps := 2000000) (disch := first | omega | assumption | exact idP rfl | exact idP (bL rfl) | (simp only [alloc_size, upd_size] <;> omega) | fail) only [go_sem, reduceIte, Nat.reduceEqDiff, e0, e1, e6, e7, e8]
    refine condV_dec (fun h => ?_) (fun h => ?_)
    · have hi' : i < xs.length := by omega
      have hg := hrow.le'.get (hr i hi')
      rw [Nat.mul_one] at hg
      have hxi := hx _ (List.getElem_mem hi')
      have hmi : xs[i].natAbs < m.length := by omega
      have hgm := hrow.get hmi
      have hgd : m.getD xs[i].natAbs 0 = m[xs[i].natAbs] := by simp [List.getD, hmi]
      rw [List.drop_eq_getElem_cons hi'] at hleft
      simp only [leftF, hgd] at hleft
      simp (maxSteps := 2000000) (disch := first | omega | assumption | exact idP rfl | exact idP (bL rfl) | (simp only [alloc_size, upd_size] <;> omega) | fail) only [go_sem, reduceIte, Nat.reduceEqDiff, e0, e1, e6, e7, e8, hg]
      refine (s_l11Abs (n := xs[i]) (by omega) (by omega)).mono ?_
      rintro r H2 ⟨rfl, rfl⟩
      have hgm' : H2.get b (0 + xs[i].natAbs) = some (.int .i64 m[xs[i].natAbs]) := by rw [Nat.zero_add]; exact hgm
      simp (maxSteps := 2000000) (disch := first | omega | assumption | exact idP rfl | exact idP (bL rfl) | (simp only [alloc_size, upd_size] <;> omega) | fail) only [go_sem, reduceIte, Nat.reduceEqDiff, e0, e1, e6, e7, e8, hg, hgm, hgm']
      by_cases h1 : m[xs[i].natAbs] = xs[i]
      · rw [if_pos h1] at hleft
        simp (maxSteps := 2000000) (disch := first | omega | assumption | exact idP rfl | exact idP (bL rfl) | (simp only [alloc_size, upd_size] <;> omega) | fail) only [go_sem, reduceIte, Nat.reduceEqDiff, e0, e1, e6, e7, e8, h1]
        exact hR _ _ ⟨rfl, by rw [hleft]⟩
      · rw [if_neg h1] at hleft
        by_cases h2 : m[xs[i].natAbs] = 0
        · rw [if_pos h2] at hleft
          have h1' : ¬ (0 : Int) = xs[i] := by rw [← h2]; exact h1
          simp (maxSteps := 2000000) (disch := first | omega | assumption | exact idP rfl | exact idP (bL rfl) | (simp only [alloc_size, upd_size] <;> omega) | fail) only [go_sem, reduceIte, Nat.reduceEqDiff, e0, e1, e6, e7, e8, h1', h2, hg]
          exact hK _ _ ⟨rfl, i + 1, o + 1, xs[i], by omega, by simp (maxSteps := 2000000) (disch := first | omega | assumption | exact idP rfl | exact idP (bL rfl) | (simp only [alloc_size, upd_size] <;> omega) | fail) only [go_sem, reduceIte, Nat.reduceEqDiff, e0], by simp (maxSteps := 2000000) (disch := first | omega | assumption | exact idP rfl | exact idP (bL rfl) | (simp only [alloc_size, upd_size] <;> omega) | fail) only [go_sem, reduceIte, Nat.reduceEqDiff, e1], by simp (maxSteps := 2000000) (disch := first | omega | assumption | exact idP rfl | exact idP (bL rfl) | (simp only [alloc_size, upd_size] <;> omega) | fail) only [go_sem, reduceIte, Nat.reduceEqDiff], by simp (maxSteps := 2000000) (disch := first | omega | assumption | exact idP rfl | exact idP (bL rfl) | (simp only [alloc_size, upd_size] <;> omega) | fail) only [go_sem, reduceIte, Nat.reduceEqDiff], by simp (maxSteps := 2000000) (disch := first | omega | assumption | exact idP rfl | exact idP (bL rfl) | (simp only [alloc_size, upd_size] <;> omega) | fail) only [go_sem, reduceIte, Nat.reduceEqDiff]; rfl, by omega, by omega, hleft⟩ (by simp (maxSteps := 2000000) (disch := first | omega | assumption | exact idP rfl | exact idP (bL rfl) | (simp only [alloc_size, upd_size] <;> omega) | fail) only [go_sem, reduceIte, Nat.reduceEqDiff, ctr_int, e8]; omega)
        · rw [if_neg h2] at hleft
          simp (maxSteps := 2000000) (disch := first | omega | assumption | exact idP rfl | exact idP (bL rfl) | (simp only [alloc_size, upd_size] <;> omega) | fail) only [go_sem, reduceIte, Nat.reduceEqDiff, e0, e1, e6, e7, e8, h1, h2]
          exact hK _ _ ⟨rfl, i + 1, o, l, by omega, by simp (maxSteps := 2000000) (disch := first | omega | assumption | exact idP rfl | exact idP (bL rfl) | (simp only [alloc_size, upd_size] <;> omega) | fail) only [go_sem, reduceIte, Nat.reduceEqDiff, e0], by simp (maxSteps := 2000000) (disch := first | omega | assumption | exact idP rfl | exact idP (bL rfl) | (simp only [alloc_size, upd_size] <;> omega) | fail) only [go_sem, reduceIte, Nat.reduceEqDiff, e1], by simp (maxSteps := 2000000) (disch := first | omega | assumption | exact idP rfl | exact idP (bL rfl) | (simp only [alloc_size, upd_size] <;> omega) | fail) only [go_sem, reduceIte, Nat.reduceEqDiff, e6], by simp (maxSteps := 2000000) (disch := first | omega | assumption | exact idP rfl | exact idP (bL rfl) | (simp only [alloc_size, upd_size] <;> omega) | fail) only [go_sem, reduceIte, Nat.reduceEqDiff, e7], by simp (maxSteps := 2000000) (disch := first | omega | assumption | exact idP rfl | exact idP (bL rfl) | (simp only [alloc_size, upd_size] <;> omega) | fail) only [go_sem, reduceIte, Nat.reduceEqDiff]; rfl, by omega, by omega, hleft⟩ (by simp (maxSteps := 2000000) (disch := first | omega | assumption | exact idP rfl | exact idP (bL rfl) | (simp only [alloc_size, upd_size] <;> omega) | fail) only [go_sem, reduceIte, Nat.reduceEqDiff, ctr_int, e8]; omega)
    · obtain rfl : i = xs.length := by omega
      rw [List.drop_length] at hleft
      simp only [leftF] at hleft
      simp (maxSteps := 2000000) (disch := first | omega | assumption | exact idP rfl | exact idP (bL rfl) | (simp only [alloc_size, upd_size] <;> omega) | fail) only [go_sem, reduceIte, Nat.reduceEqDiff, e6, e7]
      exact hR _ _ ⟨rfl, by rw [hleft]⟩
end Go.M2

namespace Go.M2
open Go.Proofs
variable {H : Heap}
theorem passF_open {c : List Int} {t : List (List Int)} {m : List Int} {ag : Bool} (h0 : (leftF m c 0 0).1 ≠ 0) (h1 : (leftF m c 0 0).1 ≠ 1) : passF (c :: t) m ag = passF t m ag := by
  simp only [passF]; rw [if_neg h0, if_neg h1]
theorem passF_one {c : List Int} {t : List (List Int)} {m : List Int} {ag : Bool} (h1 : (leftF m c 0 0).1 = 1) : passF (c :: t) m ag = passF t (m.set (leftF m c 0 0).2.natAbs (leftF m c 0 0).2) true := by
  simp only [passF]; rw [if_neg (by omega), if_pos h1]
theorem passF_none {c : List Int} {t : List (List Int)} {m : List Int} {ag : Bool} (h1 : (leftF m c 0 0).1 = 0) : passF (c :: t) m ag = none := by
  simp only [passF]; rw [if_pos h1]
theorem leftF_one {m xs : List Int} (h : (leftF m xs 0 0).1 = 1) : (leftF m xs 0 0).2 ∈ xs ∧ m.getD (leftF m xs 0 0).2.natAbs 0 = 0 := by
  rcases leftF_last (m := m) (xs := xs) (o := 0) (l := 0) (o' := (leftF m xs 0 0).1) (l' := (leftF m xs 0 0).2) rfl with ⟨h1, _⟩ | ⟨h1, _⟩ | ⟨h1, h2, _⟩
  · omega
  · omega
  · exact ⟨h1, h2⟩
theorem s_l11Force {H0 : Heap} {b n : Nat} {v : AV} {xss : List (List Int)} {m : List Int} (hv : IsII H0 v xss) (hl : xss.length ≤ 1048576) (hxl : ∀ xs ∈ xss, xs.length ≤ 1048576) (hn : n ≤ 700) (hx : ∀ xs ∈ xss, Lits n xs) (hrow : Row H0 H b m) (hm : m.length = n + 1) :
    ACall Try.prog n_Z60 [v, .sl (some (b, 0)) (n + 1) (n + 1) true 1] H (fun r H' => ∃ res, Force xss m res ∧ Le (H.kill b) (H'.kill b) ∧ b < H'.size ∧ (res = none → r = .bool false) ∧ ∀ m', res = some m' → r = .bool true ∧ Row H0 H' b m' ∧ m'.length = n + 1) := by
  refine ACall.of fun R hR => a_Z60 rfl ?_
  obtain ⟨A, c, ex, k, rfl, hr⟩ := hv.parts
  simp (maxSteps := 2000000) (disch := first | omega | assumption | exact idP rfl | exact idP (bL rfl) | (simp only [alloc_size, upd_size] <;> omega) | fail) only [go_sem, reduceIte, Nat.reduceEqDiff]
  refine wp_loop_g (fun g e H' => ∃ (mc : List Int) (ag : Bool), Row H0 H' b mc ∧ mc.length = n + 1 ∧ e 0 = .sl A xss.length c ex k ∧ e 1 = .sl (some (b, 0)) (n + 1) (n + 1) true 1 ∧ e 5 = .bool ag ∧ Le (H.kill b) (H'.kill b) ∧ g = zer mc + (if ag then 1 else 0) ∧
    (ag = true → ∀ r, Force xss mc r → Force xss m r) ∧ (ag = false → Force xss m (some mc))) (zer m + 1) ?_ ?_
  · exact ⟨m, true, hrow, hm, by simp (maxSteps := 2000000) (disch := first | omega | assumption | exact idP rfl | exact idP (bL rfl) | (simp only [alloc_size, upd_size] <;> omega) | fail) only [go_sem, reduceIte, Nat.reduceEqDiff], by simp (maxSteps := 2000000) (disch := first | omega | assumption | exact idP rfl | exact idP (bL rfl) | (simp only [alloc_size, upd_size] <;> omega) | fail) only [go_sem, reduceIte, Nat.reduceEqDiff], by simp (maxSteps := 2000000) (disch := first | omega | assumption | exact idP rfl | exact idP (bL rfl) | (simp only [alloc_size, upd_size] <;> omega) | fail) only [go_sem, reduceIte, Nat.reduceEqDiff], Le.refl _, rfl, fun _ _ h => h, fun h => by cases h⟩
  · rintro g e H1 ⟨mc, ag, hr1, hmc, e0, e1, e5, hle, rfl, hag, hag2⟩ K hK
    simp (maxSteps := 2000000) (disch := first | omega | assumption | exact idP rfl | exact idP (bL rfl) | (simp only [alloc_size, upd_size] <;> omega) | fail) only [go_sem, reduceIte, Nat.reduceEqDiff, e0, e1, e5]
    cases ag with
    | false =>
      simp (maxSteps := 2000000) (disch := first | omega | assumption | exact idP rfl | exact idP (bL rfl) | (simp only [alloc_size, upd_size] <;> omega) | fail) only [go_sem, reduceIte, Nat.reduceEqDiff]
      refine hR _ _ ⟨some mc, hag2 rfl, hle, hr1.lt, fun h => (by cases h), fun m' h => ?_⟩
      cases h
      exact ⟨rfl, hr1, hmc⟩
    | true =>
      have hag := hag rfl
      simp (maxSteps := 2000000) (disch := first | omega | assumption | exact idP rfl | exact idP (bL rfl) | (simp only [alloc_size, upd_size] <;> omega) | fail) only [go_sem, reduceIte, Nat.reduceEqDiff]
      refine wp_loop_k (fun e H' => ∃ (j : Nat) (mi : List Int) (ai : Bool), j ≤ xss.length ∧ e 0 = .sl A xss.length c ex k ∧ e 1 = .sl (some (b, 0)) (n + 1) (n + 1) true 1 ∧ e 6 = .int .i64 (j : Int) ∧ e 5 = .bool ai ∧ Row H0 H' b mi ∧ mi.length = n + 1 ∧ Le (H.kill b) (H'.kill b) ∧
        passF xss mc false = passF (xss.drop j) mi ai ∧ zer mi + (if ai then 1 else 0) ≤ zer mc) (fun e _ => ctr xss.length (e 6)) ?_ ?_
      · exact ⟨0, mc, false, Nat.zero_le _, by simp (maxSteps := 2000000) (disch := first | omega | assumption | exact idP rfl | exact idP (bL rfl) | (simp only [alloc_size, upd_size] <;> omega) | fail) only [go_sem, reduceIte, Nat.reduceEqDiff, e0], by simp (maxSteps := 2000000) (disch := first | omega | assumption | exact idP rfl | exact idP (bL rfl) | (simp only [alloc_size, upd_size] <;> omega) | fail) only [go_sem, reduceIte, Nat.reduceEqDiff, e1], by simp (maxSteps := 2000000) (disch := first | omega | assumption | exact idP rfl | exact idP (bL rfl) | (simp only [alloc_size, upd_size] <;> omega) | fail) only [go_sem, reduceIte, Nat.reduceEqDiff]; rfl, by simp (maxSteps := 2000000) (disch := first | omega | assumption | exact idP rfl | exact idP (bL rfl) | (simp only [alloc_size, upd_size] <;> omega) | fail) only [go_sem, reduceIte, Nat.reduceEqDiff], hr1, hmc, hle, rfl, by simp⟩
      · rintro e H2 ⟨j, mi, ai, hj, e0, e1, e6, e5, hr2, hmi, hle2, hpass, hz⟩ K2 hK2
        simp (maxSteps := 2000000) (disch := first | omega | assumption | exact idP rfl | exact idP (bL rfl) | (simp only [alloc_size, upd_size] <;> omega) | fail) only [go_sem, reduceIte, Nat.reduceEqDiff, e0, e1, e5, e6]
        refine condV_dec (fun h => ?_) (fun h => ?_)
        · have hj' : j < xss.length := by omega
          obtain ⟨u, hg, hu⟩ := hr j hj'
          rw [Nat.mul_one] at hg
          have hg' := hr2.le'.get hg
          have hxj := hx _ (List.getElem_mem hj')
          rw [List.drop_eq_getElem_cons hj'] at hpass
          simp (maxSteps := 2000000) (disch := first | omega | assumption | exact idP rfl | exact idP (bL rfl) | (simp only [alloc_size, upd_size] <;> omega) | fail) only [go_sem, reduceIte, Nat.reduceEqDiff, e0, e1, e5, e6, hg']
          refine (s_l11Left hu (hxl _ (List.getElem_mem hj')) hn hxj hr2 hmi).mono ?_
          rintro r H3 ⟨rfl, rfl⟩
          simp (maxSteps := 2000000) (disch := first | omega | assumption | exact idP rfl | exact idP (bL rfl) | (simp only [alloc_size, upd_size] <;> omega) | fail) only [go_sem, reduceIte, Nat.reduceEqDiff, e0, e1, e5, e6]
          refine condV_dec (fun h0 => ?_) (fun h0 => ?_)
          · simp (maxSteps := 2000000) (disch := first | omega | assumption | exact idP rfl | exact idP (bL rfl) | (simp only [alloc_size, upd_size] <;> omega) | fail) only [go_sem, reduceIte, Nat.reduceEqDiff]
            rw [passF_none h0] at hpass
            exact hR _ _ ⟨none, hag _ (.bad hpass), hle2, hr2.lt, fun _ => rfl, fun m' h => (by cases h)⟩
          · simp (maxSteps := 2000000) (disch := first | omega | assumption | exact idP rfl | exact idP (bL rfl) | (simp only [alloc_size, upd_size] <;> omega) | fail) only [go_sem, reduceIte, Nat.reduceEqDiff]
            refine condV_dec (fun h1 => ?_) (fun h1 => ?_)
            · obtain ⟨h3, h4⟩ := leftF_one h1
              have h5 := hxj _ h3
              simp (maxSteps := 2000000) (disch := first | omega | assumption | exact idP rfl | exact idP (bL rfl) | (simp only [alloc_size, upd_size] <;> omega) | fail) only [go_sem, reduceIte, Nat.reduceEqDiff, e0, e1, e5, e6]
              refine (s_l11Abs (n := (leftF mi xss[j] 0 0).2) (by omega) (by omega)).mono ?_
              rintro r H4 ⟨rfl, rfl⟩
              simp (maxSteps := 2000000) (disch := first | omega | assumption | exact idP rfl | exact idP (bL rfl) | (simp only [alloc_size, upd_size] <;> omega) | fail) only [go_sem, reduceIte, Nat.reduceEqDiff, e0, e1, e5, e6, hr2.rw]
              rw [stoK_1 rfl (by simp only [List.length_map, hmi]; omega)]
              simp (maxSteps := 2000000) (disch := first | omega | assumption | exact idP rfl | exact idP (bL rfl) | (simp only [alloc_size, upd_size] <;> omega) | fail) only [go_sem, reduceIte, Nat.reduceEqDiff, e0, e1, e5, e6]
              rw [passF_one h1] at hpass
              refine hK2 _ _ ⟨j + 1, _, true, by omega, by simp (maxSteps := 2000000) (disch := first | omega | assumption | exact idP rfl | exact idP (bL rfl) | (simp only [alloc_size, upd_size] <;> omega) | fail) only [go_sem, reduceIte, Nat.reduceEqDiff, e0], by simp (maxSteps := 2000000) (disch := first | omega | assumption | exact idP rfl | exact idP (bL rfl) | (simp only [alloc_size, upd_size] <;> omega) | fail) only [go_sem, reduceIte, Nat.reduceEqDiff, e1], by simp (maxSteps := 2000000) (disch := first | omega | assumption | exact idP rfl | exact idP (bL rfl) | (simp only [alloc_size, upd_size] <;> omega) | fail) only [go_sem, reduceIte, Nat.reduceEqDiff]; rfl, by simp (maxSteps := 2000000) (disch := first | omega | assumption | exact idP rfl | exact idP (bL rfl) | (simp only [alloc_size, upd_size] <;> omega) | fail) only [go_sem, reduceIte, Nat.reduceEqDiff], hr2.set _ _, by simpa using hmi, ?_, hpass, ?_⟩ (by simp (maxSteps := 2000000) (disch := first | omega | assumption | exact idP rfl | exact idP (bL rfl) | (simp only [alloc_size, upd_size] <;> omega) | fail) only [go_sem, reduceIte, Nat.reduceEqDiff, ctr_int, e6]; omega)
              · rw [upd_kill]; exact hle2
              · have := zer_set h4 (by omega) h5.1
                simp only [if_true]
                split at hz <;> omega
            · rw [passF_open h0 h1] at hpass
              simp (maxSteps := 2000000) (disch := first | omega | assumption | exact idP rfl | exact idP (bL rfl) | (simp only [alloc_size, upd_size] <;> omega) | fail) only [go_sem, reduceIte, Nat.reduceEqDiff, e0, e1, e5, e6]
              exact hK2 _ _ ⟨j + 1, mi, ai, by omega, by simp (maxSteps := 2000000) (disch := first | omega | assumption | exact idP rfl | exact idP (bL rfl) | (simp only [alloc_size, upd_size] <;> omega) | fail) only [go_sem, reduceIte, Nat.reduceEqDiff, e0], by simp (maxSteps := 2000000) (disch := first | omega | assumption | exact idP rfl | exact idP (bL rfl) | (simp only [alloc_size, upd_size] <;> omega) | fail) only [go_sem, reduceIte, Nat.reduceEqDiff, e1], by simp (maxSteps := 2000000) (disch := first | omega | assumption | exact idP rfl | exact idP (bL rfl) | (simp only [alloc_size, upd_size] <;> omega) | fail) only [go_sem, reduceIte, Nat.reduceEqDiff]; rfl, by simp (maxSteps := 2000000) (disch := first | omega | assumption | exact idP rfl | exact idP (bL rfl) | (simp only [alloc_size, upd_size] <;> omega) | fail) only [go_sem, reduceIte, Nat.reduceEqDiff, e5], hr2, hmi, hle2, hpass, hz⟩ (by simp (maxSteps := 2000000) (disch := first | omega | assumption | exact idP rfl | exact idP (bL rfl) | (simp only [alloc_size, upd_size] <;> omega) | fail) only [go_sem, reduceIte, Nat.reduceEqDiff, ctr_int, e6]; omega)
        · obtain rfl : j = xss.length := by omega
          rw [List.drop_length] at hpass
          simp only [passF] at hpass
          simp (maxSteps := 2000000) (disch := first | omega | assumption | exact idP rfl | exact idP (bL rfl) | (simp only [alloc_size, upd_size] <;> omega) | fail) only [go_sem, reduceIte, Nat.reduceEqDiff]
          refine hK _ _ _ ?_ ⟨mi, ai, hr2, hmi, e0, e1, e5, hle2, rfl, ?_, ?_⟩
          · simp only [if_true]; omega
          · rintro rfl r hf
            exact hag _ (.go hpass hf)
          · rintro rfl
            exact hag _ (.stop hpass)
end Go.M2

namespace Go.M2
open Go.Proofs
variable {H : Heap}
def Mk (m : List Int) : Prop := ∀ a (h : a < m.length), m[a] = 0 ∨ m[a].natAbs = a
theorem Mk.set {m : List Int} (h : Mk m) {x : Int} : Mk (m.set x.natAbs x) := by
  intro a ha
  rw [List.getElem_set]
  split
  · rename_i e; exact .inr e
  · exact h a (by simpa using ha)
theorem sgn_zero {x : Int} : sgn x = 0 ↔ x = 0 := by
  unfold sgn
  by_cases h : x = 0
  · simp [h]
  · by_cases h2 : x < 0 <;> simp [h, h2]
theorem sgn_pos {x : Int} : 0 < sgn x ↔ 0 < x := by
  unfold sgn
  by_cases h : x = 0
  · simp [h]
  · by_cases h2 : x < 0 <;> simp [h, h2] <;> omega
theorem mk_eq {m : List Int} (h : Mk m) {x : Int} (hx : x ≠ 0) (hl : x.natAbs < m.length) (hz : m[x.natAbs] ≠ 0) : m[x.natAbs] = x ↔ (0 < sgn m[x.natAbs] ↔ 0 < x) := by
  rw [sgn_pos]
  have := (h _ hl).resolve_left hz
  constructor
  · intro e; rw [e]
  · intro e; omega
theorem s_forced {H0 : Heap} {b n : Nat} {v : AV} {xss : List (List Int)} {m : List Int} (hv : IsII H0 v xss) (hl : xss.length ≤ 1048576) (hxl : ∀ xs ∈ xss, xs.length ≤ 1048576) (hn : n ≤ 700) (hx : ∀ xs ∈ xss, Lits n xs) (hrow : Row H0 H b (m.map sgn)) (hm : m.length = n + 1) (hmk : Mk m) :
    ACall Try.prog n_Z15 [v, .sl (some (b, 0)) (n + 1) (n + 1) true 1] H (fun r H' => ∃ res, Force xss m res ∧ Le (H.kill b) (H'.kill b) ∧ b < H'.size ∧ (res = none → r = .bool false) ∧ ∀ m', res = some m' → r = .bool true ∧ Row H0 H' b (m'.map sgn) ∧ m'.length = n + 1 ∧ Mk m') := by
  refine ACall.of fun R hR => a_Z15 rfl ?_
  obtain ⟨A, c, ex, k, rfl, hr⟩ := hv.parts
  simp (maxSteps := 2000000) (disch := first | omega | assumption | exact idP rfl | exact idP (bL rfl) | (simp only [alloc_size, upd_size] <;> omega) | fail) only [go_sem, reduceIte, Nat.reduceEqDiff]
  refine wp_loop_g (fun g e H' => ∃ (mc : List Int) (ag : Bool), Row H0 H' b (mc.map sgn) ∧ mc.length = n + 1 ∧ Mk mc ∧ e 0 = .sl A xss.length c ex k ∧ e 1 = .sl (some (b, 0)) (n + 1) (n + 1) true 1 ∧ e 5 = .bool ag ∧ Le (H.kill b) (H'.kill b) ∧ g = zer mc + (if ag then 1 else 0) ∧
    (ag = true → ∀ r, Force xss mc r → Force xss m r) ∧ (ag = false → Force xss m (some mc))) (zer m + 1) ?_ ?_
  · exact ⟨m, true, hrow, hm, hmk, by simp (maxSteps := 2000000) (disch := first | omega | assumption | exact idP rfl | exact idP (bL rfl) | (simp only [alloc_size, upd_size] <;> omega) | fail) only [go_sem, reduceIte, Nat.reduceEqDiff], by simp (maxSteps := 2000000) (disch := first | omega | assumption | exact idP rfl | exact idP (bL rfl) | (simp only [alloc_size, upd_size] <;> omega) | fail) only [go_sem, reduceIte, Nat.reduceEqDiff], by simp (maxSteps := 2000000) (disch := first | omega | assumption | exact idP rfl | exact idP (bL rfl) | (simp only [alloc_size, upd_size] <;> omega) | fail) only [go_sem, reduceIte, Nat.reduceEqDiff], Le.refl _, rfl, fun _ _ h => h, fun h => by cases h⟩
  · rintro g e H1 ⟨mc, ag, hr1, hmc, hmk1, e0, e1, e5, hle, rfl, hag, hag2⟩ K hK
    simp (maxSteps := 2000000) (disch := first | omega | assumption | exact idP rfl | exact idP (bL rfl) | (simp only [alloc_size, upd_size] <;> omega) | fail) only [go_sem, reduceIte, Nat.reduceEqDiff, e0, e1, e5]
    cases ag with
    | false =>
      simp (maxSteps := 2000000) (disch := first | omega | assumption | exact idP rfl | exact idP (bL rfl) | (simp only [alloc_size, upd_size] <;> omega) | fail) only [go_sem, reduceIte, Nat.reduceEqDiff]
      refine hR _ _ ⟨some mc, hag2 rfl, hle, hr1.lt, fun h => (by cases h), fun m' h => ?_⟩
      cases h
      exact ⟨rfl, hr1, hmc, hmk1⟩
    | true =>
      have hag := hag rfl
      simp (maxSteps := 2000000) (disch := first | omega | assumption | exact idP rfl | exact idP (bL rfl) | (simp only [alloc_size, upd_size] <;> omega) | fail) only [go_sem, reduceIte, Nat.reduceEqDiff, e0]
      refine wp_loop_k (fun e H' => ∃ (j : Nat) (mi : List Int) (ai : Bool), j ≤ xss.length ∧ e 0 = .sl A xss.length c ex k ∧ e 15 = .sl A xss.length c ex k ∧ e 16 = .int .i64 (xss.length : Int) ∧ e 1 = .sl (some (b, 0)) (n + 1) (n + 1) true 1 ∧ e 17 = .int .i64 (j : Int) ∧ e 5 = .bool ai ∧ Row H0 H' b (mi.map sgn) ∧ mi.length = n + 1 ∧ Mk mi ∧ Le (H.kill b) (H'.kill b) ∧
        passF xss mc false = passF (xss.drop j) mi ai ∧ zer mi + (if ai then 1 else 0) ≤ zer mc) (fun e _ => ctr xss.length (e 17)) ?_ ?_
      · exact ⟨0, mc, false, Nat.zero_le _, by simp (maxSteps := 2000000) (disch := first | omega | assumption | exact idP rfl | exact idP (bL rfl) | (simp only [alloc_size, upd_size] <;> omega) | fail) only [go_sem, reduceIte, Nat.reduceEqDiff, e0], by simp (maxSteps := 2000000) (disch := first | omega | assumption | exact idP rfl | exact idP (bL rfl) | (simp only [alloc_size, upd_size] <;> omega) | fail) only [go_sem, reduceIte, Nat.reduceEqDiff], by simp (maxSteps := 2000000) (disch := first | omega | assumption | exact idP rfl | exact idP (bL rfl) | (simp only [alloc_size, upd_size] <;> omega) | fail) only [go_sem, reduceIte, Nat.reduceEqDiff], by simp (maxSteps := 2000000) (disch := first | omega | assumption | exact idP rfl | exact idP (bL rfl) | (simp only [alloc_size, upd_size] <;> omega) | fail) only [go_sem, reduceIte, Nat.reduceEqDiff, e1], by simp (maxSteps := 2000000) (disch := first | omega | assumption | exact idP rfl | exact idP (bL rfl) | (simp only [alloc_size, upd_size] <;> omega) | fail) only [go_sem, reduceIte, Nat.reduceEqDiff]; rfl, by simp (maxSteps := 2000000) (disch := first | omega | assumption | exact idP rfl | exact idP (bL rfl) | (simp only [alloc_size, upd_size] <;> omega) | fail) only [go_sem, reduceIte, Nat.reduceEqDiff], hr1, hmc, hmk1, hle, rfl, by simp⟩
      · rintro e H2 ⟨j, mi, ai, hj, e0, e15, e16, e1, e17, e5, hr2, hmi, hmk2, hle2, hpass, hz⟩ K2 hK2
        simp (maxSteps := 2000000) (disch := first | omega | assumption | exact idP rfl | exact idP (bL rfl) | (simp only [alloc_size, upd_size] <;> omega) | fail) only [go_sem, reduceIte, Nat.reduceEqDiff, e0, e1, e5, e15, e16, e17]
        refine condV_dec (fun h => ?_) (fun h => ?_)
        · have hj' : j < xss.length := by omega
          obtain ⟨u, hg, hu⟩ := hr j hj'
          rw [Nat.mul_one] at hg
          have hg' := hr2.le'.get hg
          have hxj := hx _ (List.getElem_mem hj')
          have hlj := hxl _ (List.getElem_mem hj')
          have e17o := e17
          rw [List.drop_eq_getElem_cons hj'] at hpass
          obtain ⟨A', c', ex', k', rfl, hr'⟩ := hu.parts
          simp (maxSteps := 2000000) (disch := first | omega | assumption | exact idP rfl | exact idP (bL rfl) | (simp only [alloc_size, upd_size] <;> omega) | fail) only [go_sem, reduceIte, Nat.reduceEqDiff, e0, e1, e5, e15, e16, e17, hg']
          refine wp_loop_k (fun e H' => H' = H2 ∧ ∃ (i : Nat) (o l : Int) (dn : Bool), i ≤ xss[j].length ∧ e 0 = .sl A xss.length c ex k ∧ e 15 = .sl A xss.length c ex k ∧ e 16 = .int .i64 (xss.length : Int) ∧ e 1 = .sl (some (b, 0)) (n + 1) (n + 1) true 1 ∧ e 17 = .int .i64 (j : Int) ∧ e 5 = .bool ai ∧
            e 21 = .sl A' xss[j].length c' ex' k' ∧ e 22 = .int .i64 (xss[j].length : Int) ∧ e 23 = .int .i64 (i : Int) ∧ e 8 = .int .i64 l ∧ e 9 = .int .i64 o ∧ e 10 = .bool dn ∧ 0 ≤ o ∧ o ≤ i ∧ (dn = false → leftF mi xss[j] 0 0 = leftF mi (xss[j].drop i) o l) ∧ (dn = true → (leftF mi xss[j] 0 0).1 = -1)) (fun e _ => ctr xss[j].length (e 23)) ?_ ?_
          · exact ⟨rfl, 0, 0, 0, false, Nat.zero_le _, by simp (maxSteps := 2000000) (disch := first | omega | assumption | exact idP rfl | exact idP (bL rfl) | (simp only [alloc_size, upd_size] <;> omega) | fail) only [go_sem, reduceIte, Nat.reduceEqDiff, e0], by simp (maxSteps := 2000000) (disch := first | omega | assumption | exact idP rfl | exact idP (bL rfl) | (simp only [alloc_size, upd_size] <;> omega) | fail) only [go_sem, reduceIte, Nat.reduceEqDiff, e15], by simp (maxSteps := 2000000) (disch := first | omega | assumption | exact idP rfl | exact idP (bL rfl) | (simp only [alloc_size, upd_size] <;> omega) | fail) only [go_sem, reduceIte, Nat.reduceEqDiff, e16], by simp (maxSteps := 2000000) (disch := first | omega | assumption | exact idP rfl | exact idP (bL rfl) | (simp only [alloc_size, upd_size] <;> omega) | fail) only [go_sem, reduceIte, Nat.reduceEqDiff, e1], by simp (maxSteps := 2000000) (disch := first | omega | assumption | exact idP rfl | exact idP (bL rfl) | (simp only [alloc_size, upd_size] <;> omega) | fail) only [go_sem, reduceIte, Nat.reduceEqDiff, e17], by simp (maxSteps := 2000000) (disch := first | omega | assumption | exact idP rfl | exact idP (bL rfl) | (simp only [alloc_size, upd_size] <;> omega) | fail) only [go_sem, reduceIte, Nat.reduceEqDiff, e5], by simp (maxSteps := 2000000) (disch := first | omega | assumption | exact idP rfl | exact idP (bL rfl) | (simp only [alloc_size, upd_size] <;> omega) | fail) only [go_sem, reduceIte, Nat.reduceEqDiff], by simp (maxSteps := 2000000) (disch := first | omega | assumption | exact idP rfl | exact idP (bL rfl) | (simp only [alloc_size, upd_size] <;> omega) | fail) only [go_sem, reduceIte, Nat.reduceEqDiff], by simp (maxSteps := 2000000) (disch := first | omega | assumption | exact idP rfl | exact idP (bL rfl) | (simp only [alloc_size, upd_size] <;> omega) | fail) only [go_sem, reduceIte, Nat.reduceEqDiff]; rfl, by simp (maxSteps := 2000000) (disch := first | omega | assumption | exact idP rfl | exact idP (bL rfl) | (simp only [alloc_size, upd_size] <;> omega) | fail) only [go_sem, reduceIte, Nat.reduceEqDiff], by simp (maxSteps := 2000000) (disch := first | omega | assumption | exact idP rfl | exact idP (bL rfl) | (simp only [alloc_size, upd_size] <;> omega) | fail) only [go_sem, reduceIte, Nat.reduceEqDiff], by simp (maxSteps := 2000000) (disch := first | omega | assumption | exact idP rfl | exact idP (bL rfl) | (simp only [alloc_size, upd_size] <;> omega) | fail) only [go_sem, reduceIte, Nat.reduceEqDiff], by omega, by omega, fun _ => rfl, fun h => by cases h⟩
          · rintro e H3 ⟨rfl, i, o, l, dn, hi, e0, e15, e16, e1, e17, e5, e21, e22, e23, e8, e9, e10, ho1, ho2, hd1, hd2⟩ K3 hK3
            simp (maxSteps := 2000000) (disch := first | omega | assumption | exact idP rfl | exact idP (bL rfl) | (simp only [alloc_size, upd_size] <;> omega) | fail) only [go_sem, reduceIte, Nat.reduceEqDiff, e21, e22, e23]
            refine condV_dec (fun h => ?_) (fun h => ?_)
            · have hi' : i < xss[j].length := by omega
              have hg2 := hr2.le'.get (hr' i hi')
              rw [Nat.mul_one] at hg2
              have hxi := hxj _ (List.getElem_mem hi')
              have hml : xss[j][i].natAbs < mi.length := by omega
              have hgm := hr2.get (i := xss[j][i].natAbs) (by simpa using hml)
              simp only [List.getElem_map] at hgm
              have hgd : mi.getD xss[j][i].natAbs 0 = mi[xss[j][i].natAbs] := by simp [List.getD, hml]
              rw [List.drop_eq_getElem_cons hi'] at hd1
              simp only [leftF, hgd] at hd1
              simp (maxSteps := 2000000) (disch := first | omega | assumption | exact idP rfl | exact idP (bL rfl) | (simp only [alloc_size, upd_size] <;> omega) | fail) only [go_sem, reduceIte, Nat.reduceEqDiff, e21, e22, e23, e1, hg2]
              refine (s_atomOf (n := xss[j][i]) (by omega) (by omega)).mono ?_
              rintro r H4 ⟨rfl, rfl⟩
              simp (maxSteps := 2000000) (disch := first | omega | assumption | exact idP rfl | exact idP (bL rfl) | (simp only [alloc_size, upd_size] <;> omega) | fail) only [go_sem, reduceIte, Nat.reduceEqDiff, e21, e22, e23, e1, hgm]
              by_cases hz0 : mi[xss[j][i].natAbs] = 0
              · have hs0 : sgn mi[xss[j][i].natAbs] = 0 := sgn_zero.2 hz0
                have hne : ¬ mi[xss[j][i].natAbs] = xss[j][i] := by rw [hz0]; exact fun e => hxi.1 e.symm
                rw [if_neg hne, if_pos hz0] at hd1
                simp (maxSteps := 2000000) (disch := first | omega | assumption | exact idP rfl | exact idP (bL rfl) | (simp only [alloc_size, upd_size] <;> omega) | fail) only [go_sem, reduceIte, Nat.reduceEqDiff, hs0, e9, e23]
                refine hK3 _ _ ⟨rfl, i + 1, o + 1, xss[j][i], dn, by omega, by simp (maxSteps := 2000000) (disch := first | omega | assumption | exact idP rfl | exact idP (bL rfl) | (simp only [alloc_size, upd_size] <;> omega) | fail) only [go_sem, reduceIte, Nat.reduceEqDiff, e0], by simp (maxSteps := 2000000) (disch := first | omega | assumption | exact idP rfl | exact idP (bL rfl) | (simp only [alloc_size, upd_size] <;> omega) | fail) only [go_sem, reduceIte, Nat.reduceEqDiff, e15], by simp (maxSteps := 2000000) (disch := first | omega | assumption | exact idP rfl | exact idP (bL rfl) | (simp only [alloc_size, upd_size] <;> omega) | fail) only [go_sem, reduceIte, Nat.reduceEqDiff, e16], by simp (maxSteps := 2000000) (disch := first | omega | assumption | exact idP rfl | exact idP (bL rfl) | (simp only [alloc_size, upd_size] <;> omega) | fail) only [go_sem, reduceIte, Nat.reduceEqDiff, e1], by simp (maxSteps := 2000000) (disch := first | omega | assumption | exact idP rfl | exact idP (bL rfl) | (simp only [alloc_size, upd_size] <;> omega) | fail) only [go_sem, reduceIte, Nat.reduceEqDiff, e17], by simp (maxSteps := 2000000) (disch := first | omega | assumption | exact idP rfl | exact idP (bL rfl) | (simp only [alloc_size, upd_size] <;> omega) | fail) only [go_sem, reduceIte, Nat.reduceEqDiff, e5], by simp (maxSteps := 2000000) (disch := first | omega | assumption | exact idP rfl | exact idP (bL rfl) | (simp only [alloc_size, upd_size] <;> omega) | fail) only [go_sem, reduceIte, Nat.reduceEqDiff, e21], by simp (maxSteps := 2000000) (disch := first | omega | assumption | exact idP rfl | exact idP (bL rfl) | (simp only [alloc_size, upd_size] <;> omega) | fail) only [go_sem, reduceIte, Nat.reduceEqDiff, e22], by simp (maxSteps := 2000000) (disch := first | omega | assumption | exact idP rfl | exact idP (bL rfl) | (simp only [alloc_size, upd_size] <;> omega) | fail) only [go_sem, reduceIte, Nat.reduceEqDiff]; rfl, by simp (maxSteps := 2000000) (disch := first | omega | assumption | exact idP rfl | exact idP (bL rfl) | (simp only [alloc_size, upd_size] <;> omega) | fail) only [go_sem, reduceIte, Nat.reduceEqDiff], by simp (maxSteps := 2000000) (disch := first | omega | assumption | exact idP rfl | exact idP (bL rfl) | (simp only [alloc_size, upd_size] <;> omega) | fail) only [go_sem, reduceIte, Nat.reduceEqDiff], by simp (maxSteps := 2000000) (disch := first | omega | assumption | exact idP rfl | exact idP (bL rfl) | (simp only [alloc_size, upd_size] <;> omega) | fail) only [go_sem, reduceIte, Nat.reduceEqDiff, e10], by omega, by omega, hd1, hd2⟩ (by simp (maxSteps := 2000000) (disch := first | omega | assumption | exact idP rfl | exact idP (bL rfl) | (simp only [alloc_size, upd_size] <;> omega) | fail) only [go_sem, reduceIte, Nat.reduceEqDiff, ctr_int, e23]; omega)
              · have hs0 : ¬ sgn mi[xss[j][i].natAbs] = 0 := fun e => hz0 (sgn_zero.1 e)
                have hme := mk_eq hmk2 hxi.1 hml hz0
                simp (maxSteps := 2000000) (disch := first | omega | assumption | exact idP rfl | exact idP (bL rfl) | (simp only [alloc_size, upd_size] <;> omega) | fail) only [go_sem, reduceIte, Nat.reduceEqDiff, hs0]
                by_cases hq : mi[xss[j][i].natAbs] = xss[j][i]
                · have hb : (decide (0 < sgn mi[xss[j][i].natAbs]) == decide (0 < xss[j][i])) = true := by
                    have := hme.1 hq
                    simp [this]
                  rw [if_pos hq] at hd1
                  simp (maxSteps := 2000000) (disch := first | omega | assumption | exact idP rfl | exact idP (bL rfl) | (simp only [alloc_size, upd_size] <;> omega) | fail) only [go_sem, reduceIte, Nat.reduceEqDiff, hb, e23]
                  refine hK3 _ _ ⟨rfl, i + 1, o, l, true, by omega, by simp (maxSteps := 2000000) (disch := first | omega | assumption | exact idP rfl | exact idP (bL rfl) | (simp only [alloc_size, upd_size] <;> omega) | fail) only [go_sem, reduceIte, Nat.reduceEqDiff, e0], by simp (maxSteps := 2000000) (disch := first | omega | assumption | exact idP rfl | exact idP (bL rfl) | (simp only [alloc_size, upd_size] <;> omega) | fail) only [go_sem, reduceIte, Nat.reduceEqDiff, e15], by simp (maxSteps := 2000000) (disch := first | omega | assumption | exact idP rfl | exact idP (bL rfl) | (simp only [alloc_size, upd_size] <;> omega) | fail) only [go_sem, reduceIte, Nat.reduceEqDiff, e16], by simp (maxSteps := 2000000) (disch := first | omega | assumption | exact idP rfl | exact idP (bL rfl) | (simp only [alloc_size, upd_size] <;> omega) | fail) only [go_sem, reduceIte, Nat.reduceEqDiff, e1], by simp (maxSteps := 2000000) (disch := first | omega | assumption | exact idP rfl | exact idP (bL rfl) | (simp only [alloc_size, upd_size] <;> omega) | fail) only [go_sem, reduceIte, Nat.reduceEqDiff, e17], by simp (maxSteps := 2000000) (disch := first | omega | assumption | exact idP rfl | exact idP (bL rfl) | (simp only [alloc_size, upd_size] <;> omega) | fail) only [go_sem, reduceIte, Nat.reduceEqDiff, e5], by simp (maxSteps := 2000000) (disch := first | omega | assumption | exact idP rfl | exact idP (bL rfl) | (simp only [alloc_size, upd_size] <;> omega) | fail) only [go_sem, reduceIte, Nat.reduceEqDiff, e21], by simp (maxSteps := 2000000) (disch := first | omega | assumption | exact idP rfl | exact idP (bL rfl) | (simp only [alloc_size, upd_size] <;> omega) | fail) only [go_sem, reduceIte, Nat.reduceEqDiff, e22], by simp (maxSteps := 2000000) (disch := first | omega | assumption | exact idP rfl | exact idP (bL rfl) | (simp only [alloc_size, upd_size] <;> omega) | fail) only [go_sem, reduceIte, Nat.reduceEqDiff]; rfl, by simp (maxSteps := 2000000) (disch := first | omega | assumption | exact idP rfl | exact idP (bL rfl) | (simp only [alloc_size, upd_size] <;> omega) | fail) only [go_sem, reduceIte, Nat.reduceEqDiff, e8], by simp (maxSteps := 2000000) (disch := first | omega | assumption | exact idP rfl | exact idP (bL rfl) | (simp only [alloc_size, upd_size] <;> omega) | fail) only [go_sem, reduceIte, Nat.reduceEqDiff, e9], by simp (maxSteps := 2000000) (disch := first | omega | assumption | exact idP rfl | exact idP (bL rfl) | (simp only [alloc_size, upd_size] <;> omega) | fail) only [go_sem, reduceIte, Nat.reduceEqDiff], by omega, by omega, fun h => (by cases h), fun _ => ?_⟩ (by simp (maxSteps := 2000000) (disch := first | omega | assumption | exact idP rfl | exact idP (bL rfl) | (simp only [alloc_size, upd_size] <;> omega) | fail) only [go_sem, reduceIte, Nat.reduceEqDiff, ctr_int, e23]; omega)
                  cases dn with
                  | false => rw [hd1 rfl]
                  | true => exact hd2 rfl
                · have hb : (decide (0 < sgn mi[xss[j][i].natAbs]) == decide (0 < xss[j][i])) = false := by
                    have : ¬ (0 < sgn mi[xss[j][i].natAbs] ↔ 0 < xss[j][i]) := fun e => hq (hme.2 e)
                    by_cases ha : 0 < sgn mi[xss[j][i].natAbs] <;> by_cases hb : 0 < xss[j][i] <;> simp_all
                  rw [if_neg hq, if_neg hz0] at hd1
                  simp (maxSteps := 2000000) (disch := first | omega | assumption | exact idP rfl | exact idP (bL rfl) | (simp only [alloc_size, upd_size] <;> omega) | fail) only [go_sem, reduceIte, Nat.reduceEqDiff, hb, e23]
                  exact hK3 _ _ ⟨rfl, i + 1, o, l, dn, by omega, by simp (maxSteps := 2000000) (disch := first | omega | assumption | exact idP rfl | exact idP (bL rfl) | (simp only [alloc_size, upd_size] <;> omega) | fail) only [go_sem, reduceIte, Nat.reduceEqDiff, e0], by simp (maxSteps := 2000000) (disch := first | omega | assumption | exact idP rfl | exact idP (bL rfl) | (simp only [alloc_size, upd_size] <;> omega) | fail) only [go_sem, reduceIte, Nat.reduceEqDiff, e15], by simp (maxSteps := 2000000) (disch := first | omega | assumption | exact idP rfl | exact idP (bL rfl) | (simp only [alloc_size, upd_size] <;> omega) | fail) only [go_sem, reduceIte, Nat.reduceEqDiff, e16], by simp (maxSteps := 2000000) (disch := first | omega | assumption | exact idP rfl | exact idP (bL rfl) | (simp only [alloc_size, upd_size] <;> omega) | fail) only [go_sem, reduceIte, Nat.reduceEqDiff, e1], by simp (maxSteps := 2000000) (disch := first | omega | assumption | exact idP rfl | exact idP (bL rfl) | (simp only [alloc_size, upd_size] <;> omega) | fail) only [go_sem, reduceIte, Nat.reduceEqDiff, e17], by simp (maxSteps := 2000000) (disch := first | omega | assumption | exact idP rfl | exact idP (bL rfl) | (simp only [alloc_size, upd_size] <;> omega) | fail) only [go_sem, reduceIte, Nat.reduceEqDiff, e5], by simp (maxSteps := 2000000) (disch := first | omega | assumption | exact idP rfl | exact idP (bL rfl) | (simp only [alloc_size, upd_size] <;> omega) | fail) only [go_sem, reduceIte, Nat.reduceEqDiff, e21], by simp (maxSteps := 2000000) (disch := first | omega | assumption | exact idP rfl | exact idP (bL rfl) | (simp only [alloc_size, upd_size] <;> omega) | fail) only [go_sem, reduceIte, Nat.reduceEqDiff, e22], by simp (maxSteps := 2000000) (disch := first | omega | assumption | exact idP rfl | exact idP (bL rfl) | (simp only [alloc_size, upd_size] <;> omega) | fail) only [go_sem, reduceIte, Nat.reduceEqDiff]; rfl, by simp (maxSteps := 2000000) (disch := first | omega | assumption | exact idP rfl | exact idP (bL rfl) | (simp only [alloc_size, upd_size] <;> omega) | fail) only [go_sem, reduceIte, Nat.reduceEqDiff, e8], by simp (maxSteps := 2000000) (disch := first | omega | assumption | exact idP rfl | exact idP (bL rfl) | (simp only [alloc_size, upd_size] <;> omega) | fail) only [go_sem, reduceIte, Nat.reduceEqDiff, e9], by simp (maxSteps := 2000000) (disch := first | omega | assumption | exact idP rfl | exact idP (bL rfl) | (simp only [alloc_size, upd_size] <;> omega) | fail) only [go_sem, reduceIte, Nat.reduceEqDiff, e10], by omega, by omega, hd1, hd2⟩ (by simp (maxSteps := 2000000) (disch := first | omega | assumption | exact idP rfl | exact idP (bL rfl) | (simp only [alloc_size, upd_size] <;> omega) | fail) only [go_sem, reduceIte, Nat.reduceEqDiff, ctr_int, e23]; omega)
            · obtain rfl : i = xss[j].length := by omega
              rw [List.drop_length] at hd1
              simp only [leftF] at hd1
              simp (maxSteps := 2000000) (disch := first | omega | assumption | exact idP rfl | exact idP (bL rfl) | (simp only [alloc_size, upd_size] <;> omega) | fail) only [go_sem, reduceIte, Nat.reduceEqDiff, e10]
              cases dn with
              | true =>
                have hm1 := hd2 rfl
                rw [passF_open (by omega) (by omega)] at hpass
                simp (maxSteps := 2000000) (disch := first | omega | assumption | exact idP rfl | exact idP (bL rfl) | (simp only [alloc_size, upd_size] <;> omega) | fail) only [go_sem, reduceIte, Nat.reduceEqDiff, e17]
                exact hK2 _ _ ⟨j + 1, mi, ai, by omega, by simp (maxSteps := 2000000) (disch := first | omega | assumption | exact idP rfl | exact idP (bL rfl) | (simp only [alloc_size, upd_size] <;> omega) | fail) only [go_sem, reduceIte, Nat.reduceEqDiff, e0], by simp (maxSteps := 2000000) (disch := first | omega | assumption | exact idP rfl | exact idP (bL rfl) | (simp only [alloc_size, upd_size] <;> omega) | fail) only [go_sem, reduceIte, Nat.reduceEqDiff, e15], by simp (maxSteps := 2000000) (disch := first | omega | assumption | exact idP rfl | exact idP (bL rfl) | (simp only [alloc_size, upd_size] <;> omega) | fail) only [go_sem, reduceIte, Nat.reduceEqDiff, e16], by simp (maxSteps := 2000000) (disch := first | omega | assumption | exact idP rfl | exact idP (bL rfl) | (simp only [alloc_size, upd_size] <;> omega) | fail) only [go_sem, reduceIte, Nat.reduceEqDiff, e1], by simp (maxSteps := 2000000) (disch := first | omega | assumption | exact idP rfl | exact idP (bL rfl) | (simp only [alloc_size, upd_size] <;> omega) | fail) only [go_sem, reduceIte, Nat.reduceEqDiff]; rfl, by simp (maxSteps := 2000000) (disch := first | omega | assumption | exact idP rfl | exact idP (bL rfl) | (simp only [alloc_size, upd_size] <;> omega) | fail) only [go_sem, reduceIte, Nat.reduceEqDiff, e5], hr2, hmi, hmk2, hle2, hpass, hz⟩ (by simp (maxSteps := 2000000) (disch := first | omega | assumption | exact idP rfl | exact idP (bL rfl) | (simp only [alloc_size, upd_size] <;> omega) | fail) only [go_sem, reduceIte, Nat.reduceEqDiff, ctr_int, e17o]; omega)
              | false =>
                have hd1 := hd1 rfl
                simp (maxSteps := 2000000) (disch := first | omega | assumption | exact idP rfl | exact idP (bL rfl) | (simp only [alloc_size, upd_size] <;> omega) | fail) only [go_sem, reduceIte, Nat.reduceEqDiff, e9]
                refine condV_dec (fun h0 => ?_) (fun h0 => ?_)
                · simp (maxSteps := 2000000) (disch := first | omega | assumption | exact idP rfl | exact idP (bL rfl) | (simp only [alloc_size, upd_size] <;> omega) | fail) only [go_sem, reduceIte, Nat.reduceEqDiff]
                  rw [passF_none (by rw [hd1]; exact h0)] at hpass
                  exact hR _ _ ⟨none, hag _ (.bad hpass), hle2, hr2.lt, fun _ => rfl, fun m' h => (by cases h)⟩
                · simp (maxSteps := 2000000) (disch := first | omega | assumption | exact idP rfl | exact idP (bL rfl) | (simp only [alloc_size, upd_size] <;> omega) | fail) only [go_sem, reduceIte, Nat.reduceEqDiff, e9]
                  refine condV_dec (fun h1 => ?_) (fun h1 => ?_)
                  · have hone : (leftF mi xss[j] 0 0).1 = 1 := by rw [hd1]; exact h1
                    obtain ⟨h3, h4⟩ := leftF_one hone
                    rw [passF_one hone] at hpass
                    rw [hd1] at h3 h4 hpass
                    have h5 := hxj _ h3
                    simp only at h3 h4 hpass h5
                    simp (maxSteps := 2000000) (disch := first | omega | assumption | exact idP rfl | exact idP (bL rfl) | (simp only [alloc_size, upd_size] <;> omega) | fail) only [go_sem, reduceIte, Nat.reduceEqDiff, e1, e8]
                    refine (s_atomOf (n := l) (by omega) (by omega)).mono ?_
                    rintro r H4 ⟨rfl, rfl⟩
                    simp (maxSteps := 2000000) (disch := first | omega | assumption | exact idP rfl | exact idP (bL rfl) | (simp only [alloc_size, upd_size] <;> omega) | fail) only [go_sem, reduceIte, Nat.reduceEqDiff, e1, e8]
                    refine s_bit.mono ?_
                    rintro r H5 ⟨rfl, rfl⟩
                    have hsg : (1 : Int) - 2 * (if decide (l < 0) = true then 1 else 0) = sgn l := by
                      by_cases hlt : l < 0 <;> simp [sgn, hlt, h5.1]
                    have hw1 : IntKind.i64.wrap (2 * (if decide (l < 0) = true then 1 else 0)) = 2 * (if decide (l < 0) = true then 1 else 0) := wrap_in (by split <;> omega) (by split <;> omega)
                    have hw2 : IntKind.i64.wrap (sgn l) = sgn l := wrap_in (by unfold sgn; split <;> (try split) <;> omega) (by unfold sgn; split <;> (try split) <;> omega)
                    simp (maxSteps := 2000000) (disch := first | omega | assumption | exact idP rfl | exact idP (bL rfl) | (simp only [alloc_size, upd_size] <;> omega) | fail) only [go_sem, reduceIte, Nat.reduceEqDiff, hr2.rw, hw1, hsg, hw2]
                    rw [stoK_1 rfl (by simp only [List.length_map, hmi]; omega)]
                    simp (maxSteps := 2000000) (disch := first | omega | assumption | exact idP rfl | exact idP (bL rfl) | (simp only [alloc_size, upd_size] <;> omega) | fail) only [go_sem, reduceIte, Nat.reduceEqDiff, e17]
                    refine hK2 _ _ ⟨j + 1, mi.set l.natAbs l, true, by omega, by simp (maxSteps := 2000000) (disch := first | omega | assumption | exact idP rfl | exact idP (bL rfl) | (simp only [alloc_size, upd_size] <;> omega) | fail) only [go_sem, reduceIte, Nat.reduceEqDiff, e0], by simp (maxSteps := 2000000) (disch := first | omega | assumption | exact idP rfl | exact idP (bL rfl) | (simp only [alloc_size, upd_size] <;> omega) | fail) only [go_sem, reduceIte, Nat.reduceEqDiff, e15], by simp (maxSteps := 2000000) (disch := first | omega | assumption | exact idP rfl | exact idP (bL rfl) | (simp only [alloc_size, upd_size] <;> omega) | fail) only [go_sem, reduceIte, Nat.reduceEqDiff, e16], by simp (maxSteps := 2000000) (disch := first | omega | assumption | exact idP rfl | exact idP (bL rfl) | (simp only [alloc_size, upd_size] <;> omega) | fail) only [go_sem, reduceIte, Nat.reduceEqDiff, e1], by simp (maxSteps := 2000000) (disch := first | omega | assumption | exact idP rfl | exact idP (bL rfl) | (simp only [alloc_size, upd_size] <;> omega) | fail) only [go_sem, reduceIte, Nat.reduceEqDiff]; rfl, by simp (maxSteps := 2000000) (disch := first | omega | assumption | exact idP rfl | exact idP (bL rfl) | (simp only [alloc_size, upd_size] <;> omega) | fail) only [go_sem, reduceIte, Nat.reduceEqDiff], ?_, by simpa using hmi, hmk2.set, ?_, hpass, ?_⟩ (by simp (maxSteps := 2000000) (disch := first | omega | assumption | exact idP rfl | exact idP (bL rfl) | (simp only [alloc_size, upd_size] <;> omega) | fail) only [go_sem, reduceIte, Nat.reduceEqDiff, ctr_int, e17o]; omega)
                    · rw [map_sgn_set]; exact hr2.set _ _
                    · rw [upd_kill]; exact hle2
                    · have := zer_set h4 (by omega) h5.1
                      simp only [if_true]
                      split at hz <;> omega
                  · rw [passF_open (by rw [hd1]; exact h0) (by rw [hd1]; exact h1)] at hpass
                    simp (maxSteps := 2000000) (disch := first | omega | assumption | exact idP rfl | exact idP (bL rfl) | (simp only [alloc_size, upd_size] <;> omega) | fail) only [go_sem, reduceIte, Nat.reduceEqDiff, e17]
                    exact hK2 _ _ ⟨j + 1, mi, ai, by omega, by simp (maxSteps := 2000000) (disch := first | omega | assumption | exact idP rfl | exact idP (bL rfl) | (simp only [alloc_size, upd_size] <;> omega) | fail) only [go_sem, reduceIte, Nat.reduceEqDiff, e0], by simp (maxSteps := 2000000) (disch := first | omega | assumption | exact idP rfl | exact idP (bL rfl) | (simp only [alloc_size, upd_size] <;> omega) | fail) only [go_sem, reduceIte, Nat.reduceEqDiff, e15], by simp (maxSteps := 2000000) (disch := first | omega | assumption | exact idP rfl | exact idP (bL rfl) | (simp only [alloc_size, upd_size] <;> omega) | fail) only [go_sem, reduceIte, Nat.reduceEqDiff, e16], by simp (maxSteps := 2000000) (disch := first | omega | assumption | exact idP rfl | exact idP (bL rfl) | (simp only [alloc_size, upd_size] <;> omega) | fail) only [go_sem, reduceIte, Nat.reduceEqDiff, e1], by simp (maxSteps := 2000000) (disch := first | omega | assumption | exact idP rfl | exact idP (bL rfl) | (simp only [alloc_size, upd_size] <;> omega) | fail) only [go_sem, reduceIte, Nat.reduceEqDiff]; rfl, by simp (maxSteps := 2000000) (disch := first | omega | assumption | exact idP rfl | exact idP (bL rfl) | (simp only [alloc_size, upd_size] <;> omega) | fail) only [go_sem, reduceIte, Nat.reduceEqDiff, e5], hr2, hmi, hmk2, hle2, hpass, hz⟩ (by simp (maxSteps := 2000000) (disch := first | omega | assumption | exact idP rfl | exact idP (bL rfl) | (simp only [alloc_size, upd_size] <;> omega) | fail) only [go_sem, reduceIte, Nat.reduceEqDiff, ctr_int, e17o]; omega)
        · obtain rfl : j = xss.length := by omega
          rw [List.drop_length] at hpass
          simp only [passF] at hpass
          simp (maxSteps := 2000000) (disch := first | omega | assumption | exact idP rfl | exact idP (bL rfl) | (simp only [alloc_size, upd_size] <;> omega) | fail) only [go_sem, reduceIte, Nat.reduceEqDiff]
          refine hK _ _ _ ?_ ⟨mi, ai, hr2, hmi, hmk2, by simp (maxSteps := 2000000) (disch := first | omega | assumption | exact idP rfl | exact idP (bL rfl) | (simp only [alloc_size, upd_size] <;> omega) | fail) only [go_sem, reduceIte, Nat.reduceEqDiff, e0], by simp (maxSteps := 2000000) (disch := first | omega | assumption | exact idP rfl | exact idP (bL rfl) | (simp only [alloc_size, upd_size] <;> omega) | fail) only [go_sem, reduceIte, Nat.reduceEqDiff, e1], by simp (maxSteps := 2000000) (disch := first | omega | assumption | exact idP rfl | exact idP (bL rfl) | (simp only [alloc_size, upd_size] <;> omega) | fail) only [go_sem, reduceIte, Nat.reduceEqDiff, e5], hle2, rfl, ?_, ?_⟩
          · simp only [if_true]; omega
          · rintro rfl r hf
            exact hag _ (.go hpass hf)
          · rintro rfl
            exact hag _ (.stop hpass)
end Go.M2

namespace Go.M2
open Go.Proofs
variable {H : Heap}
def IsNext (m : List Int) (a : Nat) : Prop := (a = 0 ∧ ∀ i (h : i < m.length), 1 ≤ i → m[i] ≠ 0) ∨ (1 ≤ a ∧ (∃ h : a < m.length, m[a] = 0) ∧ ∀ i (h : i < m.length), 1 ≤ i → i < a → m[i] ≠ 0)
theorem s_l12Next {H0 : Heap} {b N : Nat} {m : List Int} (hrow : Row H0 H b m) (hm : m.length = N) (hN : N ≤ 701) :
    ACall Try.prog n_Z66 [.sl (some (b, 0)) N N true 1] H (fun r H' => H' = H ∧ ∃ a : Nat, r = .int .i64 (a : Int) ∧ IsNext m a) := by
  refine ACall.of fun R hR => a_Z66 rfl ?_
  simp (maxSteps := 2000000) (disch := first | omega | assumption | exact idP rfl | exact idP (bL rfl) | (simp only [alloc_size, upd_size] <;> omega) | fail) only [go_sem, reduceIte, Nat.reduceEqDiff]
  refine wp_loop_k (fun e H' => H' = H ∧ ∃ (i : Nat), 1 ≤ i ∧ (i ≤ N ∨ i = 1) ∧ e 0 = .sl (some (b, 0)) N N true 1 ∧ e 3 = .int .i64 (i : Int) ∧ ∀ j (h : j < m.length), 1 ≤ j → j < i → m[j] ≠ 0) (fun e _ => ctr N (e 3)) ?_ ?_
  · exact ⟨rfl, 1, by omega, .inr rfl, by simp (maxSteps := 2000000) (disch := first | omega | assumption | exact idP rfl | exact idP (bL rfl) | (simp only [alloc_size, upd_size] <;> omega) | fail) only [go_sem, reduceIte, Nat.reduceEqDiff], by simp (maxSteps := 2000000) (disch := first | omega | assumption | exact idP rfl | exact idP (bL rfl) | (simp only [alloc_size, upd_size] <;> omega) | fail) only [go_sem, reduceIte, Nat.reduceEqDiff]; rfl, fun j _ h1 h2 => by omega⟩
  · rintro e H1 ⟨rfl, i, hi1, hi, e0, e3, hj⟩ K hK
    simp (maxSteps := 2000000) (disch := first | omega | assumption | exact idP rfl | exact idP (bL rfl) | (simp only [alloc_size, upd_size] <;> omega) | fail) only [go_sem, reduceIte, Nat.reduceEqDiff, e0, e3]
    refine condV_dec (fun h => ?_) (fun h => ?_)
    · have hi' : i < m.length := by omega
      have hg := hrow.get hi'
      simp (maxSteps := 2000000) (disch := first | omega | assumption | exact idP rfl | exact idP (bL rfl) | (simp only [alloc_size, upd_size] <;> omega) | fail) only [go_sem, reduceIte, Nat.reduceEqDiff, e0, e3, hg]
      refine condV_dec (fun h0 => ?_) (fun h0 => ?_)
      · simp (maxSteps := 2000000) (disch := first | omega | assumption | exact idP rfl | exact idP (bL rfl) | (simp only [alloc_size, upd_size] <;> omega) | fail) only [go_sem, reduceIte, Nat.reduceEqDiff, e3]
        exact hR _ _ ⟨rfl, i, rfl, .inr ⟨hi1, ⟨hi', h0⟩, hj⟩⟩
      · simp (maxSteps := 2000000) (disch := first | omega | assumption | exact idP rfl | exact idP (bL rfl) | (simp only [alloc_size, upd_size] <;> omega) | fail) only [go_sem, reduceIte, Nat.reduceEqDiff, e3]
        refine hK _ _ ⟨rfl, i + 1, by omega, .inl (by omega), by simp (maxSteps := 2000000) (disch := first | omega | assumption | exact idP rfl | exact idP (bL rfl) | (simp only [alloc_size, upd_size] <;> omega) | fail) only [go_sem, reduceIte, Nat.reduceEqDiff, e0], by simp (maxSteps := 2000000) (disch := first | omega | assumption | exact idP rfl | exact idP (bL rfl) | (simp only [alloc_size, upd_size] <;> omega) | fail) only [go_sem, reduceIte, Nat.reduceEqDiff]; rfl, fun j hj1 hj2 hj3 => ?_⟩ (by simp (maxSteps := 2000000) (disch := first | omega | assumption | exact idP rfl | exact idP (bL rfl) | (simp only [alloc_size, upd_size] <;> omega) | fail) only [go_sem, reduceIte, Nat.reduceEqDiff, ctr_int, e3]; omega)
        by_cases hji : j = i
        · subst hji; exact h0
        · exact hj j hj1 hj2 (by omega)
    · simp (maxSteps := 2000000) (disch := first | omega | assumption | exact idP rfl | exact idP (bL rfl) | (simp only [alloc_size, upd_size] <;> omega) | fail) only [go_sem, reduceIte, Nat.reduceEqDiff]
      exact hR _ _ ⟨rfl, 0, rfl, .inl ⟨rfl, fun j hj1 hj2 => hj j hj1 hj2 (by omega)⟩⟩
def valF (x : Int) : Int := if 0 < x then 1 else 0
theorem drop_take_succ {m : List Int} {i : Nat} (h : i + 1 < m.length) : (m.drop 1).take (i + 1) = (m.drop 1).take i ++ [m[i + 1]] := by
  rw [List.take_succ_eq_append_getElem (by simp; omega)]
  simp [Nat.add_comm]
theorem s_l12Values {H0 : Heap} {b N : Nat} {m : List Int} (hrow : Row H0 H b m) (hm : m.length = N) (hN : N ≤ 701) (hN1 : 1 ≤ N) :
    ACall Try.prog n_Z71 [.sl (some (b, 0)) N N true 1] H (fun r H' => Own 1 H' r (((m.drop 1).map valF).map (AV.int .i64)) ∧ Le H (base H' r) ∧ newer H.size r) := by
  refine ACall.of fun R hR => a_Z71 rfl ?_
  simp (maxSteps := 2000000) (disch := first | omega | assumption | exact idP rfl | exact idP (bL rfl) | (simp only [alloc_size, upd_size] <;> omega) | fail) only [go_sem, reduceIte, Nat.reduceEqDiff]
  refine wp_loop_k (fun e H' => ∃ (i : Nat), i + 1 ≤ N ∧ e 0 = .sl (some (b, 0)) N N true 1 ∧ e 4 = .int .i64 ((i : Int) + 1) ∧ Own 1 H' (e 3) ((((m.drop 1).take i).map valF).map (AV.int .i64)) ∧ Le H (base H' (e 3)) ∧ newer H.size (e 3)) (fun e _ => ctr N (e 4)) ?_ ?_
  · exact ⟨0, by omega, by simp (maxSteps := 2000000) (disch := first | omega | assumption | exact idP rfl | exact idP (bL rfl) | (simp only [alloc_size, upd_size] <;> omega) | fail) only [go_sem, reduceIte, Nat.reduceEqDiff], by simp (maxSteps := 2000000) (disch := first | omega | assumption | exact idP rfl | exact idP (bL rfl) | (simp only [alloc_size, upd_size] <;> omega) | fail) only [go_sem, reduceIte, Nat.reduceEqDiff]; rfl, by simp (maxSteps := 2000000) (disch := first | omega | assumption | exact idP rfl | exact idP (bL rfl) | (simp only [alloc_size, upd_size] <;> omega) | fail) only [go_sem, reduceIte, Nat.reduceEqDiff]; exact Own.new rfl, by simp (maxSteps := 2000000) (disch := first | omega | assumption | exact idP rfl | exact idP (bL rfl) | (simp only [alloc_size, upd_size] <;> omega) | fail) only [go_sem, reduceIte, Nat.reduceEqDiff]; exact (Le.alloc _ _).killFresh (Nat.le_refl _), by simp (maxSteps := 2000000) (disch := first | omega | assumption | exact idP rfl | exact idP (bL rfl) | (simp only [alloc_size, upd_size] <;> omega) | fail) only [go_sem, reduceIte, Nat.reduceEqDiff]; exact Nat.le_refl _⟩
  · rintro e H1 ⟨i, hi, e0, e4, ho, hle, hnew⟩ K hK
    simp (maxSteps := 2000000) (disch := first | omega | assumption | exact idP rfl | exact idP (bL rfl) | (simp only [alloc_size, upd_size] <;> omega) | fail) only [go_sem, reduceIte, Nat.reduceEqDiff, e0, e4]
    refine condV_dec (fun h => ?_) (fun h => ?_)
    · have hi' : i + 1 < m.length := by omega
      have hg := (hle.trans (base_le _ _)).get (hrow.get hi')
      have e1 : ((i : Int) + 1).toNat = i + 1 := by omega
      have fin : ∀ (w : Int) (Q : Env → Heap → Prop) (e2 : Env), w = valF m[i + 1] → (∀ s' H', Own 1 H' s' ((((m.drop 1).take (i + 1)).map valF).map (AV.int .i64)) → Le H (base H' s') → newer H.size s' → Q (upd e2 19 s') H') →
          appP 1 8 (e 3) (.sl (some (H1.size, 0)) 1 1 true 1) (H1.alloc [.int .i64 w]) (fun s' H' => Q (upd e2 19 s') H') := by
        rintro w Q e2 rfl hq
        refine app_own (sz := 1) (by omega) (ho.le (Le.alloc _ _)) (Rd.blk (Nat.lt_succ_self _) (alloc_new _ _)) rfl rfl (by simp [mostCells]; omega) (by simp [mostCells]; omega) ?_
        intro s H2 hs hle2 hn2
        refine hq s H2 ?_ (hle.trans ((base_mono (Le.alloc _ _) _).trans hle2)) (hn2 _ (Nat.le_trans (hle.trans (base_le _ _)).1 (Nat.le_succ _)) hnew)
        rw [drop_take_succ hi']; simpa using hs
      simp (maxSteps := 2000000) (disch := first | omega | assumption | exact idP rfl | exact idP (bL rfl) | (simp only [alloc_size, upd_size] <;> omega) | fail) only [go_sem, reduceIte, Nat.reduceEqDiff, e0, e4, e1, hg]
      refine condV_dec (fun h0 => ?_) (fun h0 => ?_)
      · simp (maxSteps := 2000000) (disch := first | omega | assumption | exact idP rfl | exact idP (bL rfl) | (simp only [alloc_size, upd_size] <;> omega) | fail) only [go_sem, reduceIte, Nat.reduceEqDiff, e0, e4]
        refine app_own (sz := 1) (by omega) (ho.le (Le.alloc _ _)) (Rd.blk (Nat.lt_succ_self _) (alloc_new _ _)) rfl rfl (by simp [mostCells]; omega) (by simp [mostCells]; omega) ?_
        intro s H2 hs hle2 hn2
        simp (maxSteps := 2000000) (disch := first | omega | assumption | exact idP rfl | exact idP (bL rfl) | (simp only [alloc_size, upd_size] <;> omega) | fail) only [go_sem, reduceIte, Nat.reduceEqDiff, e0, e4]
        refine hK _ _ ⟨i + 1, by omega, by simp (maxSteps := 2000000) (disch := first | omega | assumption | exact idP rfl | exact idP (bL rfl) | (simp only [alloc_size, upd_size] <;> omega) | fail) only [go_sem, reduceIte, Nat.reduceEqDiff, e0], by simp (maxSteps := 2000000) (disch := first | omega | assumption | exact idP rfl | exact idP (bL rfl) | (simp only [alloc_size, upd_size] <;> omega) | fail) only [go_sem, reduceIte, Nat.reduceEqDiff]; rfl, ?_, ?_, ?_⟩ (by simp (maxSteps := 2000000) (disch := first | omega | assumption | exact idP rfl | exact idP (bL rfl) | (simp only [alloc_size, upd_size] <;> omega) | fail) only [go_sem, reduceIte, Nat.reduceEqDiff, ctr_int, e4]; omega)
        · simp (maxSteps := 2000000) (disch := first | omega | assumption | exact idP rfl | exact idP (bL rfl) | (simp only [alloc_size, upd_size] <;> omega) | fail) only [go_sem, reduceIte, Nat.reduceEqDiff]
          rw [drop_take_succ hi']
          have hv : valF m[i + 1] = 1 := by simp [valF, h0]
          simpa [hv] using hs
        · simp (maxSteps := 2000000) (disch := first | omega | assumption | exact idP rfl | exact idP (bL rfl) | (simp only [alloc_size, upd_size] <;> omega) | fail) only [go_sem, reduceIte, Nat.reduceEqDiff]; exact hle.trans ((base_mono (Le.alloc _ _) _).trans hle2)
        · simp (maxSteps := 2000000) (disch := first | omega | assumption | exact idP rfl | exact idP (bL rfl) | (simp only [alloc_size, upd_size] <;> omega) | fail) only [go_sem, reduceIte, Nat.reduceEqDiff]; exact hn2 _ (Nat.le_trans (hle.trans (base_le _ _)).1 (Nat.le_succ _)) hnew
      · simp (maxSteps := 2000000) (disch := first | omega | assumption | exact idP rfl | exact idP (bL rfl) | (simp only [alloc_size, upd_size] <;> omega) | fail) only [go_sem, reduceIte, Nat.reduceEqDiff, e0, e4]
        refine app_own (sz := 1) (by omega) (ho.le (Le.alloc _ _)) (Rd.blk (Nat.lt_succ_self _) (alloc_new _ _)) rfl rfl (by simp [mostCells]; omega) (by simp [mostCells]; omega) ?_
        intro s H2 hs hle2 hn2
        simp (maxSteps := 2000000) (disch := first | omega | assumption | exact idP rfl | exact idP (bL rfl) | (simp only [alloc_size, upd_size] <;> omega) | fail) only [go_sem, reduceIte, Nat.reduceEqDiff, e0, e4]
        refine hK _ _ ⟨i + 1, by omega, by simp (maxSteps := 2000000) (disch := first | omega | assumption | exact idP rfl | exact idP (bL rfl) | (simp only [alloc_size, upd_size] <;> omega) | fail) only [go_sem, reduceIte, Nat.reduceEqDiff, e0], by simp (maxSteps := 2000000) (disch := first | omega | assumption | exact idP rfl | exact idP (bL rfl) | (simp only [alloc_size, upd_size] <;> omega) | fail) only [go_sem, reduceIte, Nat.reduceEqDiff]; rfl, ?_, ?_, ?_⟩ (by simp (maxSteps := 2000000) (disch := first | omega | assumption | exact idP rfl | exact idP (bL rfl) | (simp only [alloc_size, upd_size] <;> omega) | fail) only [go_sem, reduceIte, Nat.reduceEqDiff, ctr_int, e4]; omega)
        · simp (maxSteps := 2000000) (disch := first | omega | assumption | exact idP rfl | exact idP (bL rfl) | (simp only [alloc_size, upd_size] <;> omega) | fail) only [go_sem, reduceIte, Nat.reduceEqDiff]
          rw [drop_take_succ hi']
          have hv : valF m[i + 1] = 0 := by simp [valF]; omega
          simpa [hv] using hs
        · simp (maxSteps := 2000000) (disch := first | omega | assumption | exact idP rfl | exact idP (bL rfl) | (simp only [alloc_size, upd_size] <;> omega) | fail) only [go_sem, reduceIte, Nat.reduceEqDiff]; exact hle.trans ((base_mono (Le.alloc _ _) _).trans hle2)
        · simp (maxSteps := 2000000) (disch := first | omega | assumption | exact idP rfl | exact idP (bL rfl) | (simp only [alloc_size, upd_size] <;> omega) | fail) only [go_sem, reduceIte, Nat.reduceEqDiff]; exact hn2 _ (Nat.le_trans (hle.trans (base_le _ _)).1 (Nat.le_succ _)) hnew
    · simp (maxSteps := 2000000) (disch := first | omega | assumption | exact idP rfl | exact idP (bL rfl) | (simp only [alloc_size, upd_size] <;> omega) | fail) only [go_sem, reduceIte, Nat.reduceEqDiff]
      have hix : (m.drop 1).take i = m.drop 1 := by rw [List.take_of_length_le]; simp; omega
      rw [hix] at ho
      exact hR _ _ ⟨ho, hle, hnew⟩
end Go.M2

namespace Go.M2
open Go.Proofs
variable {H : Heap}
theorem app1 {H0 : Heap} {by_ : Nat} {s x : AV} {l : List AV} {K : AV → Heap → Prop} (ho : Own 1 H s l) (hle : Le H0 (base H s)) (hnew : newer H0.size s) (hx : oneA x = true) (hb : l.length + 1 ≤ 68719476736) (hby : by_ ≤ 16)
    (hk : ∀ s' H', Own 1 H' s' (l ++ [x]) → Le H0 (base H' s') → newer H0.size s' → Le (base H s) (base H' s') → K s' H') : appP 1 by_ s (.sl (some (H.size, 0)) 1 1 true 1) (H.alloc [x]) K := by
  refine app_own (sz := 1) (by omega) (ho.le (Le.alloc _ _)) (Rd.blk (Nat.lt_succ_self _) (alloc_new _ _)) rfl (by simp [hx]) ?_ (by simp [mostCells]; omega) ?_
  · have : (l.length + 1) * by_ ≤ (l.length + 1) * 16 := Nat.mul_le_mul_left _ hby
    simp only [mostCells]; omega
  · intro s' H' h1 h2 h3
    exact hk s' H' h1 (hle.trans ((base_mono (Le.alloc _ _) _).trans h2)) (h3 _ (Nat.le_trans (hle.trans (base_le _ _)).1 (Nat.le_succ _)) hnew) ((base_mono (Le.alloc _ _) _).trans h2)
def Contr (n : Nat) (xs : List Int) : Prop := ∃ i, ∃ h : i < xs.length, (givenF (xs.take i) (List.replicate (n + 1) 0)).getD xs[i].natAbs 0 ≠ 0 ∧ (givenF (xs.take i) (List.replicate (n + 1) 0)).getD xs[i].natAbs 0 ≠ xs[i]
def marked (m : List Int) : List Int := (m.drop 1).filter (· ≠ 0)
theorem s_l11Clause {v : AV} {xs : List Int} {n : Nat} (hv : IsI H v xs) (hl : xs.length ≤ 1048576) (hn : n ≤ 700) (hx : Lits n xs) :
    ACall Try.prog n_Z58 [v, .int .i64 (n : Int)] H (fun r H' => (Contr n xs → r = .tup [.sl none 0 0 true 0, .bool false] ∧ Le H H') ∧
      (¬ Contr n xs → ∃ u, r = .tup [u, .bool true] ∧ Own 1 H' u ((marked (given n xs)).map (AV.int .i64)) ∧ Le H (base H' u) ∧ newer H.size u)) := by
  refine ACall.of fun R hR => a_Z58 rfl ?_
  obtain ⟨A, c, ex, k, rfl, hr⟩ := hv.parts
  simp (maxSteps := 2000000) (disch := first | omega | assumption | exact idP rfl | exact idP (bL rfl) | (simp only [alloc_size, upd_size] <;> omega) | fail) only [go_sem, reduceIte, Nat.reduceEqDiff]
  refine mks_own (by omega) (by simp [mostCells]; omega) (by simp [mostCells]; omega) ?_
  have e1 : ((n : Int) + 1).toNat = n + 1 := by omega
  rw [e1]
  simp (maxSteps := 2000000) (disch := first | omega | assumption | exact idP rfl | exact idP (bL rfl) | (simp only [alloc_size, upd_size] <;> omega) | fail) only [go_sem, reduceIte, Nat.reduceEqDiff]
  refine wp_loop_k (fun e H' => ∃ (i : Nat), i ≤ xs.length ∧ e 0 = .sl A xs.length c ex k ∧ e 1 = .int .i64 (n : Int) ∧ e 6 = .sl (some (H.size, 0)) (n + 1) (n + 1) true 1 ∧ e 7 = .int .i64 (i : Int) ∧ Row H H' H.size (givenF (xs.take i) (List.replicate (n + 1) 0)) ∧
    ∀ j (h : j < xs.length), j < i → (givenF (xs.take j) (List.replicate (n + 1) 0)).getD xs[j].natAbs 0 = 0 ∨ (givenF (xs.take j) (List.replicate (n + 1) 0)).getD xs[j].natAbs 0 = xs[j]) (fun e _ => ctr xs.length (e 7)) ?_ ?_
  · exact ⟨0, Nat.zero_le _, by simp (maxSteps := 2000000) (disch := first | omega | assumption | exact idP rfl | exact idP (bL rfl) | (simp only [alloc_size, upd_size] <;> omega) | fail) only [go_sem, reduceIte, Nat.reduceEqDiff], by simp (maxSteps := 2000000) (disch := first | omega | assumption | exact idP rfl | exact idP (bL rfl) | (simp only [alloc_size, upd_size] <;> omega) | fail) only [go_sem, reduceIte, Nat.reduceEqDiff], by simp (maxSteps := 2000000) (disch := first | omega | assumption | exact idP rfl | exact idP (bL rfl) | (simp only [alloc_size, upd_size] <;> omega) | fail) only [go_sem, reduceIte, Nat.reduceEqDiff]; rfl, by simp (maxSteps := 2000000) (disch := first | omega | assumption | exact idP rfl | exact idP (bL rfl) | (simp only [alloc_size, upd_size] <;> omega) | fail) only [go_sem, reduceIte, Nat.reduceEqDiff]; rfl, Row.new (Le.refl _) _, fun j _ h => by omega⟩
  · rintro e H1 ⟨i, hi, e0, e1, e6, e7, hrow, hok⟩ K hK
    have hlen : (givenF (xs.take i) (List.replicate (n + 1) 0)).length = n + 1 := by rw [givenF_len]; simp
    simp (maxSteps := 2000000) (disch := first | omega | assumption | exact idP rfl | exact idP (bL rfl) | (simp only [alloc_size, upd_size] <;> omega) | fail) only [go_sem, reduceIte, Nat.reduceEqDiff, e0, e6, e7]
    refine condV_dec (fun h => ?_) (fun h => ?_)
    · have hi' : i < xs.length := by omega
      have hg := hrow.le'.get (hr i hi')
      rw [Nat.mul_one] at hg
      have hxi := hx _ (List.getElem_mem hi')
      have hml : xs[i].natAbs < (givenF (xs.take i) (List.replicate (n + 1) 0)).length := by omega
      have hgm := hrow.get hml
      have hgd : (givenF (xs.take i) (List.replicate (n + 1) 0)).getD xs[i].natAbs 0 = (givenF (xs.take i) (List.replicate (n + 1) 0))[xs[i].natAbs] := by simp [List.getD, hml]
      simp (maxSteps := 2000000) (disch := first | omega | assumption | exact idP rfl | exact idP (bL rfl) | (simp only [alloc_size, upd_size] <;> omega) | fail) only [go_sem, reduceIte, Nat.reduceEqDiff, e0, e6, e7, hg]
      refine (s_l11Abs (n := xs[i]) (by omega) (by omega)).mono ?_
      rintro r H2 ⟨rfl, rfl⟩
      have go : (givenF (xs.take i) (List.replicate (n + 1) 0)).getD xs[i].natAbs 0 = 0 ∨ (givenF (xs.take i) (List.replicate (n + 1) 0)).getD xs[i].natAbs 0 = xs[i] →
          ∀ j (h : j < xs.length), j < i + 1 → (givenF (xs.take j) (List.replicate (n + 1) 0)).getD xs[j].natAbs 0 = 0 ∨ (givenF (xs.take j) (List.replicate (n + 1) 0)).getD xs[j].natAbs 0 = xs[j] := by
        intro hq j hj1 hj2
        by_cases hji : j = i
        · subst hji; exact hq
        · exact hok j hj1 (by omega)
      simp (maxSteps := 2000000) (disch := first | omega | assumption | exact idP rfl | exact idP (bL rfl) | (simp only [alloc_size, upd_size] <;> omega) | fail) only [go_sem, reduceIte, Nat.reduceEqDiff, e0, e6, e7, hg, hgm]
      by_cases hz : (givenF (xs.take i) (List.replicate (n + 1) 0))[xs[i].natAbs] = 0
      · simp (maxSteps := 2000000) (disch := first | omega | assumption | exact idP rfl | exact idP (bL rfl) | (simp only [alloc_size, upd_size] <;> omega) | fail) only [go_sem, reduceIte, Nat.reduceEqDiff, e0, e6, e7, hz, hg, hrow.rw]
        rw [stoK_1 rfl (by simp only [List.length_map]; exact hml)]
        simp (maxSteps := 2000000) (disch := first | omega | assumption | exact idP rfl | exact idP (bL rfl) | (simp only [alloc_size, upd_size] <;> omega) | fail) only [go_sem, reduceIte, Nat.reduceEqDiff, e0, e6, e7]
        refine hK _ _ ⟨i + 1, by omega, by simp (maxSteps := 2000000) (disch := first | omega | assumption | exact idP rfl | exact idP (bL rfl) | (simp only [alloc_size, upd_size] <;> omega) | fail) only [go_sem, reduceIte, Nat.reduceEqDiff, e0], by simp (maxSteps := 2000000) (disch := first | omega | assumption | exact idP rfl | exact idP (bL rfl) | (simp only [alloc_size, upd_size] <;> omega) | fail) only [go_sem, reduceIte, Nat.reduceEqDiff, e1], by simp (maxSteps := 2000000) (disch := first | omega | assumption | exact idP rfl | exact idP (bL rfl) | (simp only [alloc_size, upd_size] <;> omega) | fail) only [go_sem, reduceIte, Nat.reduceEqDiff, e6], by simp (maxSteps := 2000000) (disch := first | omega | assumption | exact idP rfl | exact idP (bL rfl) | (simp only [alloc_size, upd_size] <;> omega) | fail) only [go_sem, reduceIte, Nat.reduceEqDiff]; rfl, ?_, go (.inl (hgd.trans hz))⟩ (by simp (maxSteps := 2000000) (disch := first | omega | assumption | exact idP rfl | exact idP (bL rfl) | (simp only [alloc_size, upd_size] <;> omega) | fail) only [go_sem, reduceIte, Nat.reduceEqDiff, ctr_int, e7]; omega)
        rw [givenF_take hi']; exact hrow.set _ _
      · by_cases hq : (givenF (xs.take i) (List.replicate (n + 1) 0))[xs[i].natAbs] = xs[i]
        · simp (maxSteps := 2000000) (disch := first | omega | assumption | exact idP rfl | exact idP (bL rfl) | (simp only [alloc_size, upd_size] <;> omega) | fail) only [go_sem, reduceIte, Nat.reduceEqDiff, e0, e6, e7, hgm, hq, hxi.1, hg, hrow.rw]
          rw [stoK_1 rfl (by simp only [List.length_map]; exact hml)]
          simp (maxSteps := 2000000) (disch := first | omega | assumption | exact idP rfl | exact idP (bL rfl) | (simp only [alloc_size, upd_size] <;> omega) | fail) only [go_sem, reduceIte, Nat.reduceEqDiff, e0, e6, e7]
          refine hK _ _ ⟨i + 1, by omega, by simp (maxSteps := 2000000) (disch := first | omega | assumption | exact idP rfl | exact idP (bL rfl) | (simp only [alloc_size, upd_size] <;> omega) | fail) only [go_sem, reduceIte, Nat.reduceEqDiff, e0], by simp (maxSteps := 2000000) (disch := first | omega | assumption | exact idP rfl | exact idP (bL rfl) | (simp only [alloc_size, upd_size] <;> omega) | fail) only [go_sem, reduceIte, Nat.reduceEqDiff, e1], by simp (maxSteps := 2000000) (disch := first | omega | assumption | exact idP rfl | exact idP (bL rfl) | (simp only [alloc_size, upd_size] <;> omega) | fail) only [go_sem, reduceIte, Nat.reduceEqDiff, e6], by simp (maxSteps := 2000000) (disch := first | omega | assumption | exact idP rfl | exact idP (bL rfl) | (simp only [alloc_size, upd_size] <;> omega) | fail) only [go_sem, reduceIte, Nat.reduceEqDiff]; rfl, ?_, go (.inr (hgd.trans hq))⟩ (by simp (maxSteps := 2000000) (disch := first | omega | assumption | exact idP rfl | exact idP (bL rfl) | (simp only [alloc_size, upd_size] <;> omega) | fail) only [go_sem, reduceIte, Nat.reduceEqDiff, ctr_int, e7]; omega)
          rw [givenF_take hi']; exact hrow.set _ _
        · simp (maxSteps := 2000000) (disch := first | omega | assumption | exact idP rfl | exact idP (bL rfl) | (simp only [alloc_size, upd_size] <;> omega) | fail) only [go_sem, reduceIte, Nat.reduceEqDiff, e0, e6, e7, hgm, hq, hz, hg]
          exact hR _ _ ⟨fun _ => ⟨rfl, hrow.le'⟩, fun hc => absurd ⟨i, hi', by rw [hgd]; exact hz, by rw [hgd]; exact hq⟩ hc⟩
    · obtain rfl : i = xs.length := by omega
      rw [List.take_length] at hrow hlen
      have hnc : ¬ Contr n xs := by
        rintro ⟨j, hj1, h1, h2⟩
        rcases hok j hj1 hj1 with h3 | h3
        · exact h1 h3
        · exact h2 h3
      generalize hmg : givenF xs (List.replicate (n + 1) 0) = m at hrow hlen
      have hmm : given n xs = m := hmg
      simp (maxSteps := 2000000) (disch := first | omega | assumption | exact idP rfl | exact idP (bL rfl) | (simp only [alloc_size, upd_size] <;> omega) | fail) only [go_sem, reduceIte, Nat.reduceEqDiff, e1]
      refine wp_loop_k (fun e H' => ∃ (i : Nat), i ≤ n ∧ e 6 = .sl (some (H.size, 0)) (n + 1) (n + 1) true 1 ∧ e 1 = .int .i64 (n : Int) ∧ e 10 = .int .i64 ((i : Int) + 1) ∧ Own 1 H' (e 9) ((((m.drop 1).take i).filter (· ≠ 0)).map (AV.int .i64)) ∧ Le H1 (base H' (e 9)) ∧ newer H1.size (e 9)) (fun e _ => ctr (n + 1) (e 10)) ?_ ?_
      · exact ⟨0, by omega, by simp (maxSteps := 2000000) (disch := first | omega | assumption | exact idP rfl | exact idP (bL rfl) | (simp only [alloc_size, upd_size] <;> omega) | fail) only [go_sem, reduceIte, Nat.reduceEqDiff, e6], by simp (maxSteps := 2000000) (disch := first | omega | assumption | exact idP rfl | exact idP (bL rfl) | (simp only [alloc_size, upd_size] <;> omega) | fail) only [go_sem, reduceIte, Nat.reduceEqDiff, e1], by simp (maxSteps := 2000000) (disch := first | omega | assumption | exact idP rfl | exact idP (bL rfl) | (simp only [alloc_size, upd_size] <;> omega) | fail) only [go_sem, reduceIte, Nat.reduceEqDiff]; rfl, by simp (maxSteps := 2000000) (disch := first | omega | assumption | exact idP rfl | exact idP (bL rfl) | (simp only [alloc_size, upd_size] <;> omega) | fail) only [go_sem, reduceIte, Nat.reduceEqDiff]; exact Own.new rfl, by simp (maxSteps := 2000000) (disch := first | omega | assumption | exact idP rfl | exact idP (bL rfl) | (simp only [alloc_size, upd_size] <;> omega) | fail) only [go_sem, reduceIte, Nat.reduceEqDiff]; exact (Le.alloc _ _).killFresh (Nat.le_refl _), by simp (maxSteps := 2000000) (disch := first | omega | assumption | exact idP rfl | exact idP (bL rfl) | (simp only [alloc_size, upd_size] <;> omega) | fail) only [go_sem, reduceIte, Nat.reduceEqDiff]; exact Nat.le_refl _⟩
      · rintro e H2 ⟨i, hi, e6, e1, e10, ho, hle, hnew⟩ K2 hK2
        simp (maxSteps := 2000000) (disch := first | omega | assumption | exact idP rfl | exact idP (bL rfl) | (simp only [alloc_size, upd_size] <;> omega) | fail) only [go_sem, reduceIte, Nat.reduceEqDiff, e1, e10]
        refine condV_dec (fun h => ?_) (fun h => ?_)
        · have hi' : i + 1 < m.length := by omega
          have hg := (hle.trans (base_le _ _)).get (hrow.get hi')
          have e2 : ((i : Int) + 1).toNat = i + 1 := by omega
          have hll : (((m.drop 1).take i).filter (· ≠ 0)).length ≤ 701 := by
            refine Nat.le_trans (List.length_filter_le _ _) ?_
            rw [List.length_take]; omega
          simp (maxSteps := 2000000) (disch := first | omega | assumption | exact idP rfl | exact idP (bL rfl) | (simp only [alloc_size, upd_size] <;> omega) | fail) only [go_sem, reduceIte, Nat.reduceEqDiff, e6, e10, e2, hg]
          refine condV_split (fun h0 => ?_) (fun h0 => ?_)
          · have h0 : ¬ m[i + 1] = 0 := by simpa using h0
            simp (maxSteps := 2000000) (disch := first | omega | assumption | exact idP rfl | exact idP (bL rfl) | (simp only [alloc_size, upd_size] <;> omega) | fail) only [go_sem, reduceIte, Nat.reduceEqDiff, e6, e10, e2, hg]
            refine app1 ho hle hnew rfl (by simp only [List.length_map]; omega) (by omega) ?_
            intro s H3 hs hle2 hn2 _
            simp (maxSteps := 2000000) (disch := first | omega | assumption | exact idP rfl | exact idP (bL rfl) | (simp only [alloc_size, upd_size] <;> omega) | fail) only [go_sem, reduceIte, Nat.reduceEqDiff, e10]
            refine hK2 _ _ ⟨i + 1, by omega, by simp (maxSteps := 2000000) (disch := first | omega | assumption | exact idP rfl | exact idP (bL rfl) | (simp only [alloc_size, upd_size] <;> omega) | fail) only [go_sem, reduceIte, Nat.reduceEqDiff, e6], by simp (maxSteps := 2000000) (disch := first | omega | assumption | exact idP rfl | exact idP (bL rfl) | (simp only [alloc_size, upd_size] <;> omega) | fail) only [go_sem, reduceIte, Nat.reduceEqDiff, e1], by simp (maxSteps := 2000000) (disch := first | omega | assumption | exact idP rfl | exact idP (bL rfl) | (simp only [alloc_size, upd_size] <;> omega) | fail) only [go_sem, reduceIte, Nat.reduceEqDiff]; rfl, ?_, by simp (maxSteps := 2000000) (disch := first | omega | assumption | exact idP rfl | exact idP (bL rfl) | (simp only [alloc_size, upd_size] <;> omega) | fail) only [go_sem, reduceIte, Nat.reduceEqDiff]; exact hle2, by simp (maxSteps := 2000000) (disch := first | omega | assumption | exact idP rfl | exact idP (bL rfl) | (simp only [alloc_size, upd_size] <;> omega) | fail) only [go_sem, reduceIte, Nat.reduceEqDiff]; exact hn2⟩ (by simp (maxSteps := 2000000) (disch := first | omega | assumption | exact idP rfl | exact idP (bL rfl) | (simp only [alloc_size, upd_size] <;> omega) | fail) only [go_sem, reduceIte, Nat.reduceEqDiff, ctr_int, e10]; omega)
            simp (maxSteps := 2000000) (disch := first | omega | assumption | exact idP rfl | exact idP (bL rfl) | (simp only [alloc_size, upd_size] <;> omega) | fail) only [go_sem, reduceIte, Nat.reduceEqDiff]
            rw [drop_take_succ hi', List.filter_append, List.map_append]
            simpa [h0] using hs
          · have h0 : m[i + 1] = 0 := by simpa using h0
            simp (maxSteps := 2000000) (disch := first | omega | assumption | exact idP rfl | exact idP (bL rfl) | (simp only [alloc_size, upd_size] <;> omega) | fail) only [go_sem, reduceIte, Nat.reduceEqDiff, e10]
            refine hK2 _ _ ⟨i + 1, by omega, by simp (maxSteps := 2000000) (disch := first | omega | assumption | exact idP rfl | exact idP (bL rfl) | (simp only [alloc_size, upd_size] <;> omega) | fail) only [go_sem, reduceIte, Nat.reduceEqDiff, e6], by simp (maxSteps := 2000000) (disch := first | omega | assumption | exact idP rfl | exact idP (bL rfl) | (simp only [alloc_size, upd_size] <;> omega) | fail) only [go_sem, reduceIte, Nat.reduceEqDiff, e1], by simp (maxSteps := 2000000) (disch := first | omega | assumption | exact idP rfl | exact idP (bL rfl) | (simp only [alloc_size, upd_size] <;> omega) | fail) only [go_sem, reduceIte, Nat.reduceEqDiff]; rfl, ?_, by simp (maxSteps := 2000000) (disch := first | omega | assumption | exact idP rfl | exact idP (bL rfl) | (simp only [alloc_size, upd_size] <;> omega) | fail) only [go_sem, reduceIte, Nat.reduceEqDiff]; exact hle, by simp (maxSteps := 2000000) (disch := first | omega | assumption | exact idP rfl | exact idP (bL rfl) | (simp only [alloc_size, upd_size] <;> omega) | fail) only [go_sem, reduceIte, Nat.reduceEqDiff]; exact hnew⟩ (by simp (maxSteps := 2000000) (disch := first | omega | assumption | exact idP rfl | exact idP (bL rfl) | (simp only [alloc_size, upd_size] <;> omega) | fail) only [go_sem, reduceIte, Nat.reduceEqDiff, ctr_int, e10]; omega)
            simp (maxSteps := 2000000) (disch := first | omega | assumption | exact idP rfl | exact idP (bL rfl) | (simp only [alloc_size, upd_size] <;> omega) | fail) only [go_sem, reduceIte, Nat.reduceEqDiff]
            rw [drop_take_succ hi', List.filter_append, List.map_append]
            simpa [h0] using ho
        · simp (maxSteps := 2000000) (disch := first | omega | assumption | exact idP rfl | exact idP (bL rfl) | (simp only [alloc_size, upd_size] <;> omega) | fail) only [go_sem, reduceIte, Nat.reduceEqDiff]
          have hix : (m.drop 1).take i = m.drop 1 := by rw [List.take_of_length_le]; simp; omega
          rw [hix] at ho
          exact hR _ _ ⟨fun hc => absurd hc hnc, fun _ => ⟨_, rfl, by rw [hmm]; exact ho, hrow.le'.trans hle, hnew.mono hrow.le'.1⟩⟩
end Go.M2

namespace Go.M2
open Go.Proofs
variable {H : Heap}
def Asc (xs : List Int) : Prop := xs.Pairwise fun x y => x.natAbs < y.natAbs
theorem givenF_getD {a : Nat} : ∀ {xs m : List Int}, (∀ x ∈ xs, x.natAbs ≠ a) → (givenF xs m).getD a 0 = m.getD a 0
  | [], m, h => rfl
  | x :: t, m, h => by
    have := givenF_getD (a := a) (xs := t) (m := m.set x.natAbs x) fun y hy => h y (List.mem_cons_of_mem _ hy)
    simp only [givenF, List.foldl_cons] at this ⊢
    rw [this]
    have hne : x.natAbs ≠ a := h x (by simp)
    simp [List.getD, List.getElem?_set_ne hne]
theorem zero_getD (n a : Nat) : (List.replicate n (0 : Int)).getD a 0 = 0 := by
  simp only [List.getD, List.getElem?_replicate]
  split <;> rfl
theorem asc_take {xs : List Int} (h : Asc xs) {i : Nat} (hi : i < xs.length) : ∀ x ∈ xs.take i, x.natAbs < xs[i].natAbs := by
  intro x hx
  obtain ⟨j, hj, rfl⟩ := List.getElem_of_mem hx
  have hj' : j < i := by simp at hj; omega
  have := List.pairwise_iff_getElem.1 h j i (by omega) hi hj'
  simpa using this
theorem asc_contr {xs : List Int} {n : Nat} (h : Asc xs) : ¬ Contr n xs := by
  rintro ⟨i, hi, h1, _⟩
  rw [givenF_getD fun x hx => by have := asc_take h hi x hx; omega, zero_getD] at h1
  exact h1 rfl
theorem filter_set : ∀ {l : List Int} {i : Nat} {x : Int}, x ≠ 0 → i < l.length → (∀ j, i ≤ j → l.getD j 0 = 0) → (l.set i x).filter (· ≠ 0) = l.filter (· ≠ 0) ++ [x]
  | [], i, x, _, h, _ => by simp at h
  | y :: t, 0, x, hx, _, h => by
    have h0 : y = 0 := by simpa using h 0 (Nat.le_refl _)
    have ht : t.filter (· ≠ 0) = [] := by
      rw [List.filter_eq_nil_iff]
      intro z hz
      obtain ⟨j, hj, rfl⟩ := List.getElem_of_mem hz
      have := h (j + 1) (Nat.zero_le _)
      simp [List.getD, hj] at this
      simp [this]
    subst h0
    simp only [List.set_cons_zero, List.filter_cons, ht]
    simp [hx]
  | y :: t, i + 1, x, hx, hi, h => by
    have := filter_set (l := t) (i := i) hx (by simpa using hi) fun j hj => by simpa using h (j + 1) (by omega)
    simp only [List.set_cons_succ, List.filter_cons, this]
    split <;> simp
theorem marked_given {n : Nat} : ∀ {xs : List Int}, Asc xs → Lits n xs → marked (given n xs) = xs := by
  intro xs h hx
  have key : ∀ i, i ≤ xs.length → marked (givenF (xs.take i) (List.replicate (n + 1) 0)) = xs.take i := by
    intro i
    induction i with
    | zero =>
      intro _
      simp only [List.take_zero, givenF, List.foldl_nil, marked]
      rw [List.filter_eq_nil_iff]
      intro z hz
      have := List.eq_of_mem_replicate (List.mem_of_mem_drop hz)
      simp [this]
    | succ i ih =>
      intro hi
      have hi' : i < xs.length := by omega
      have hxi := hx _ (List.getElem_mem hi')
      have hlen : (givenF (xs.take i) (List.replicate (n + 1) 0)).length = n + 1 := by rw [givenF_len]; simp
      rw [givenF_take hi', List.take_succ_eq_append_getElem hi']
      refine Eq.trans ?_ (congrArg (· ++ [xs[i]]) (ih (by omega)))
      simp only [marked]
      have hpos : 1 ≤ xs[i].natAbs := by have := hxi.1; omega
      obtain ⟨a, ha⟩ : ∃ a, xs[i].natAbs = a + 1 := ⟨xs[i].natAbs - 1, by omega⟩
      rw [List.drop_set, if_neg (by omega), ha, show a + 1 - 1 = a by omega]
      have hla : a < ((givenF (xs.take i) (List.replicate (n + 1) 0)).drop 1).length := by have := hxi.2; rw [List.length_drop, hlen]; omega
      refine filter_set (l := (givenF (xs.take i) (List.replicate (n + 1) 0)).drop 1) (i := a) (x := xs[i]) hxi.1 hla fun j hj => ?_
      have e : ((givenF (xs.take i) (List.replicate (n + 1) 0)).drop 1).getD j 0 = (givenF (xs.take i) (List.replicate (n + 1) 0)).getD (j + 1) 0 := by
        simp [List.getD, List.getElem?_drop, Nat.add_comm]
      rw [e, givenF_getD fun x hx2 => by have := asc_take h hi' x hx2; omega, zero_getD]
  have := key xs.length (Nat.le_refl _)
  rwa [List.take_length] at this
def negs (xs : List Int) : List Int := xs.map (0 - ·)
theorem negs_asc {xs : List Int} (h : Asc xs) : Asc (negs xs) := by
  unfold Asc negs
  rw [List.pairwise_map]
  exact h.imp fun h => by omega
theorem negs_lits {n : Nat} {xs : List Int} (h : Lits n xs) : Lits n (negs xs) := by
  intro x hx
  obtain ⟨y, hy, rfl⟩ := List.mem_map.1 hx
  have := h y hy
  omega
theorem negs_take {xs : List Int} {i : Nat} (h : i < xs.length) : negs (xs.take (i + 1)) = negs (xs.take i) ++ [0 - xs[i]] := by
  unfold negs
  rw [List.take_succ_eq_append_getElem h, List.map_append]; rfl
theorem s_l12Not {v : AV} {xs : List Int} {n : Nat} (hv : IsI H v xs) (hl : xs.length ≤ 1048576) (hn : n ≤ 700) (hx : Lits n xs) (ha : Asc xs) :
    ACall Try.prog n_Z67 [v, .int .i64 (n : Int)] H (fun r H' => Own 1 H' r ((negs xs).map (AV.int .i64)) ∧ Le H (base H' r) ∧ newer H.size r) := by
  refine ACall.of fun R hR => a_Z67 rfl ?_
  obtain ⟨A, c, ex, k, rfl, hr⟩ := hv.parts
  simp (maxSteps := 2000000) (disch := first | omega | assumption | exact idP rfl | exact idP (bL rfl) | (simp only [alloc_size, upd_size] <;> omega) | fail) only [go_sem, reduceIte, Nat.reduceEqDiff]
  refine wp_loop_k (fun e H' => ∃ i : Nat, i ≤ xs.length ∧ e 0 = .sl A xs.length c ex k ∧ e 1 = .int .i64 (n : Int) ∧ e 6 = .int .i64 (i : Int) ∧ Own 1 H' (e 5) ((negs (xs.take i)).map (AV.int .i64)) ∧ Le H (base H' (e 5)) ∧ newer H.size (e 5)) (fun e _ => ctr xs.length (e 6)) ?_ ?_
  · exact ⟨0, Nat.zero_le _, by simp (maxSteps := 2000000) (disch := first | omega | assumption | exact idP rfl | exact idP (bL rfl) | (simp only [alloc_size, upd_size] <;> omega) | fail) only [go_sem, reduceIte, Nat.reduceEqDiff], by simp (maxSteps := 2000000) (disch := first | omega | assumption | exact idP rfl | exact idP (bL rfl) | (simp only [alloc_size, upd_size] <;> omega) | fail) only [go_sem, reduceIte, Nat.reduceEqDiff], by simp (maxSteps := 2000000) (disch := first | omega | assumption | exact idP rfl | exact idP (bL rfl) | (simp only [alloc_size, upd_size] <;> omega) | fail) only [go_sem, reduceIte, Nat.reduceEqDiff]; rfl, by simp (maxSteps := 2000000) (disch := first | omega | assumption | exact idP rfl | exact idP (bL rfl) | (simp only [alloc_size, upd_size] <;> omega) | fail) only [go_sem, reduceIte, Nat.reduceEqDiff]; exact Own.new rfl, by simp (maxSteps := 2000000) (disch := first | omega | assumption | exact idP rfl | exact idP (bL rfl) | (simp only [alloc_size, upd_size] <;> omega) | fail) only [go_sem, reduceIte, Nat.reduceEqDiff]; exact (Le.alloc _ _).killFresh (Nat.le_refl _), by simp (maxSteps := 2000000) (disch := first | omega | assumption | exact idP rfl | exact idP (bL rfl) | (simp only [alloc_size, upd_size] <;> omega) | fail) only [go_sem, reduceIte, Nat.reduceEqDiff]; exact Nat.le_refl _⟩
  · rintro e H1 ⟨i, hi, e0, e1, e6, ho, hle, hnew⟩ K hK
    simp (maxSteps := 2000000) (disch := first | omega | assumption | exact idP rfl | exact idP (bL rfl) | (simp only [alloc_size, upd_size] <;> omega) | fail) only [go_sem, reduceIte, Nat.reduceEqDiff, e0, e6]
    refine condV_dec (fun h => ?_) (fun h => ?_)
    · have hi' : i < xs.length := by omega
      have hg := (hle.trans (base_le _ _)).get (hr i hi')
      rw [Nat.mul_one] at hg
      have hxi := hx _ (List.getElem_mem hi')
      simp (maxSteps := 2000000) (disch := first | omega | assumption | exact idP rfl | exact idP (bL rfl) | (simp only [alloc_size, upd_size] <;> omega) | fail) only [go_sem, reduceIte, Nat.reduceEqDiff, e0, e6, hg]
      refine app1 ho hle hnew rfl (by simp [negs]; omega) (by omega) ?_
      intro s H2 hs hle2 hn2 _
      simp (maxSteps := 2000000) (disch := first | omega | assumption | exact idP rfl | exact idP (bL rfl) | (simp only [alloc_size, upd_size] <;> omega) | fail) only [go_sem, reduceIte, Nat.reduceEqDiff, e6]
      refine hK _ _ ⟨i + 1, by omega, by simp (maxSteps := 2000000) (disch := first | omega | assumption | exact idP rfl | exact idP (bL rfl) | (simp only [alloc_size, upd_size] <;> omega) | fail) only [go_sem, reduceIte, Nat.reduceEqDiff, e0], by simp (maxSteps := 2000000) (disch := first | omega | assumption | exact idP rfl | exact idP (bL rfl) | (simp only [alloc_size, upd_size] <;> omega) | fail) only [go_sem, reduceIte, Nat.reduceEqDiff, e1], by simp (maxSteps := 2000000) (disch := first | omega | assumption | exact idP rfl | exact idP (bL rfl) | (simp only [alloc_size, upd_size] <;> omega) | fail) only [go_sem, reduceIte, Nat.reduceEqDiff]; rfl, ?_, by simp (maxSteps := 2000000) (disch := first | omega | assumption | exact idP rfl | exact idP (bL rfl) | (simp only [alloc_size, upd_size] <;> omega) | fail) only [go_sem, reduceIte, Nat.reduceEqDiff]; exact hle2, by simp (maxSteps := 2000000) (disch := first | omega | assumption | exact idP rfl | exact idP (bL rfl) | (simp only [alloc_size, upd_size] <;> omega) | fail) only [go_sem, reduceIte, Nat.reduceEqDiff]; exact hn2⟩ (by simp (maxSteps := 2000000) (disch := first | omega | assumption | exact idP rfl | exact idP (bL rfl) | (simp only [alloc_size, upd_size] <;> omega) | fail) only [go_sem, reduceIte, Nat.reduceEqDiff, ctr_int, e6]; omega)
      simp (maxSteps := 2000000) (disch := first | omega | assumption | exact idP rfl | exact idP (bL rfl) | (simp only [alloc_size, upd_size] <;> omega) | fail) only [go_sem, reduceIte, Nat.reduceEqDiff]
      rw [negs_take hi', List.map_append]; exact hs
    · simp (maxSteps := 2000000) (disch := first | omega | assumption | exact idP rfl | exact idP (bL rfl) | (simp only [alloc_size, upd_size] <;> omega) | fail) only [go_sem, reduceIte, Nat.reduceEqDiff, e1]
      obtain rfl : i = xs.length := by omega
      rw [List.take_length] at ho
      refine (s_l11Clause ho.isI (by simp [negs]; omega) hn (negs_lits hx)).mono ?_
      rintro r H2 ⟨_, h2⟩
      obtain ⟨u, rfl, h3, h4, h5⟩ := h2 (asc_contr (negs_asc ha))
      rw [marked_given (negs_asc ha) (negs_lits hx)] at h3
      simp (maxSteps := 2000000) (disch := first | omega | assumption | exact idP rfl | exact idP (bL rfl) | (simp only [alloc_size, upd_size] <;> omega) | fail) only [go_sem, reduceIte, Nat.reduceEqDiff]
      refine hR _ _ ⟨h3, (hle.trans (base_le _ _)).trans h4, h5.mono (hle.trans (base_le _ _)).1⟩
end Go.M2

namespace Go.M2
theorem IsNext.det {m : List Int} {a b : Nat} (h : IsNext m a) (k : IsNext m b) : a = b := by
  rcases h with ⟨rfl, h⟩ | ⟨h1, ⟨h2, h3⟩, h4⟩
  · rcases k with ⟨rfl, _⟩ | ⟨k1, ⟨k2, k3⟩, k4⟩
    · rfl
    · exact absurd k3 (h b k2 k1)
  · rcases k with ⟨rfl, k⟩ | ⟨k1, ⟨k2, k3⟩, k4⟩
    · exact absurd h3 (k a h2 h1)
    · rcases Nat.lt_trichotomy a b with hab | hab | hab
      · exact absurd h3 (k4 a h2 h1 hab)
      · exact hab
      · exact absurd k3 (h4 b k2 k1 hab)
inductive Res where
  | sat (m : List Int)
  | cut
  | no
inductive Try (cl : List (List Int)) (n : Nat) : List Int → List (List Int) → Nat → Res → List (List Int) → Nat → Prop
  | sat {g : List Int} {P : List (List Int)} {d : Nat} {m : List Int} : Force cl (given n g) (some m) → IsNext m 0 → Try cl n g P d (.sat m) P d
  | left {g : List Int} {P P1 : List (List Int)} {d d1 a : Nat} {m : List Int} {r : Res} : Force cl (given n g) (some m) → IsNext m a → a ≠ 0 → Try cl n (g ++ [-(a : Int)]) P (d + 1) r P1 d1 → r ≠ .no → Try cl n g P d r P1 d1
  | right {g : List Int} {P P1 P2 : List (List Int)} {d d1 d2 a : Nat} {m : List Int} {r : Res} : Force cl (given n g) (some m) → IsNext m a → a ≠ 0 → Try cl n (g ++ [-(a : Int)]) P (d + 1) .no P1 d1 → Try cl n (g ++ [(a : Int)]) P1 d1 r P2 d2 → r ≠ .no → Try cl n g P d r P2 d2
  | bothC {g : List Int} {P P1 P2 : List (List Int)} {d d1 d2 a : Nat} {m : List Int} : Force cl (given n g) (some m) → IsNext m a → a ≠ 0 → Try cl n (g ++ [-(a : Int)]) P (d + 1) .no P1 d1 → Try cl n (g ++ [(a : Int)]) P1 d1 .no P2 d2 → P2.length = 600 → Try cl n g P d .cut P2 d2
  | bothN {g : List Int} {P P1 P2 : List (List Int)} {d d1 d2 a : Nat} {m : List Int} : Force cl (given n g) (some m) → IsNext m a → a ≠ 0 → Try cl n (g ++ [-(a : Int)]) P (d + 1) .no P1 d1 → Try cl n (g ++ [(a : Int)]) P1 d1 .no P2 d2 → P2.length ≠ 600 → Try cl n g P d .no (P2 ++ [negs g]) d2
  | confC {g : List Int} {P : List (List Int)} {d : Nat} : Force cl (given n g) none → P.length = 600 → Try cl n g P d .cut P d
  | confN {g : List Int} {P : List (List Int)} {d : Nat} : Force cl (given n g) none → P.length ≠ 600 → Try cl n g P d .no (P ++ [negs g]) d
theorem step_det {cl : List (List Int)} {n : Nat} {g : List Int} {m m' : List Int} {a a' : Nat} (h : Force cl (given n g) (some m)) (h' : Force cl (given n g) (some m')) (k : IsNext m a) (k' : IsNext m' a') : m = m' ∧ a = a' := by
  have := h.det h'
  cases this
  exact ⟨rfl, k.det k'⟩
theorem Try.det {cl : List (List Int)} {n : Nat} {g : List Int} {P P1 P2 : List (List Int)} {d d1 d2 : Nat} {r r' : Res} (h : Try cl n g P d r P1 d1) (h' : Try cl n g P d r' P2 d2) : r = r' ∧ P1 = P2 ∧ d1 = d2 := by
  induction h generalizing r' P2 d2 with
  | sat f k =>
    cases h' with
    | sat f' k' => obtain ⟨rfl, _⟩ := step_det f f' k k'; exact ⟨rfl, rfl, rfl⟩
    | left f' k' ha _ _ => exact absurd (step_det f f' k k').2.symm ha
    | right f' k' ha _ _ _ => exact absurd (step_det f f' k k').2.symm ha
    | bothC f' k' ha _ _ _ => exact absurd (step_det f f' k k').2.symm ha
    | bothN f' k' ha _ _ _ => exact absurd (step_det f f' k k').2.symm ha
    | confC f' _ => cases f.det f'
    | confN f' _ => cases f.det f'
  | left f k ha t hr ih =>
    cases h' with
    | sat f' k' => exact absurd (step_det f f' k k').2 ha
    | left f' k' ha' t' hr' => obtain ⟨rfl, rfl⟩ := step_det f f' k k'; exact ih t'
    | right f' k' ha' t' _ _ => obtain ⟨rfl, rfl⟩ := step_det f f' k k'; exact absurd (ih t').1 hr
    | bothC f' k' ha' t' _ _ => obtain ⟨rfl, rfl⟩ := step_det f f' k k'; exact absurd (ih t').1 hr
    | bothN f' k' ha' t' _ _ => obtain ⟨rfl, rfl⟩ := step_det f f' k k'; exact absurd (ih t').1 hr
    | confC f' _ => cases f.det f'
    | confN f' _ => cases f.det f'
  | right f k ha t u hr ih1 ih2 =>
    cases h' with
    | sat f' k' => exact absurd (step_det f f' k k').2 ha
    | left f' k' ha' t' hr' => obtain ⟨rfl, rfl⟩ := step_det f f' k k'; exact absurd (ih1 t').1.symm hr'
    | right f' k' ha' t' u' hr' => obtain ⟨rfl, rfl⟩ := step_det f f' k k'; obtain ⟨_, rfl, rfl⟩ := ih1 t'; exact ih2 u'
    | bothC f' k' ha' t' u' _ => obtain ⟨rfl, rfl⟩ := step_det f f' k k'; obtain ⟨_, rfl, rfl⟩ := ih1 t'; exact absurd (ih2 u').1 hr
    | bothN f' k' ha' t' u' _ => obtain ⟨rfl, rfl⟩ := step_det f f' k k'; obtain ⟨_, rfl, rfl⟩ := ih1 t'; exact absurd (ih2 u').1 hr
    | confC f' _ => cases f.det f'
    | confN f' _ => cases f.det f'
  | bothC f k ha t u hp ih1 ih2 =>
    cases h' with
    | sat f' k' => exact absurd (step_det f f' k k').2 ha
    | left f' k' ha' t' hr' => obtain ⟨rfl, rfl⟩ := step_det f f' k k'; exact absurd (ih1 t').1.symm hr'
    | right f' k' ha' t' u' hr' => obtain ⟨rfl, rfl⟩ := step_det f f' k k'; obtain ⟨_, rfl, rfl⟩ := ih1 t'; exact absurd (ih2 u').1.symm hr'
    | bothC f' k' ha' t' u' _ => obtain ⟨rfl, rfl⟩ := step_det f f' k k'; obtain ⟨_, rfl, rfl⟩ := ih1 t'; obtain ⟨_, rfl, rfl⟩ := ih2 u'; exact ⟨rfl, rfl, rfl⟩
    | bothN f' k' ha' t' u' hp' => obtain ⟨rfl, rfl⟩ := step_det f f' k k'; obtain ⟨_, rfl, rfl⟩ := ih1 t'; obtain ⟨_, rfl, rfl⟩ := ih2 u'; exact absurd hp hp'
    | confC f' _ => cases f.det f'
    | confN f' _ => cases f.det f'
  | bothN f k ha t u hp ih1 ih2 =>
    cases h' with
    | sat f' k' => exact absurd (step_det f f' k k').2 ha
    | left f' k' ha' t' hr' => obtain ⟨rfl, rfl⟩ := step_det f f' k k'; exact absurd (ih1 t').1.symm hr'
    | right f' k' ha' t' u' hr' => obtain ⟨rfl, rfl⟩ := step_det f f' k k'; obtain ⟨_, rfl, rfl⟩ := ih1 t'; exact absurd (ih2 u').1.symm hr'
    | bothC f' k' ha' t' u' hp' => obtain ⟨rfl, rfl⟩ := step_det f f' k k'; obtain ⟨_, rfl, rfl⟩ := ih1 t'; obtain ⟨_, rfl, rfl⟩ := ih2 u'; exact absurd hp' hp
    | bothN f' k' ha' t' u' _ => obtain ⟨rfl, rfl⟩ := step_det f f' k k'; obtain ⟨_, rfl, rfl⟩ := ih1 t'; obtain ⟨_, rfl, rfl⟩ := ih2 u'; exact ⟨rfl, rfl, rfl⟩
    | confC f' _ => cases f.det f'
    | confN f' _ => cases f.det f'
  | confC f hp =>
    cases h' with
    | sat f' _ => cases f.det f'
    | left f' _ _ _ _ => cases f.det f'
    | right f' _ _ _ _ _ => cases f.det f'
    | bothC f' _ _ _ _ _ => cases f.det f'
    | bothN f' _ _ _ _ _ => cases f.det f'
    | confC _ _ => exact ⟨rfl, rfl, rfl⟩
    | confN _ hp' => exact absurd hp hp'
  | confN f hp =>
    cases h' with
    | sat f' _ => cases f.det f'
    | left f' _ _ _ _ => cases f.det f'
    | right f' _ _ _ _ _ => cases f.det f'
    | bothC f' _ _ _ _ _ => cases f.det f'
    | bothN f' _ _ _ _ _ => cases f.det f'
    | confC _ hp' => exact absurd hp' hp
    | confN _ _ => exact ⟨rfl, rfl, rfl⟩
end Go.M2

namespace Go.M2
def Sub (m M : List Int) : Prop := ∀ a, m.getD a 0 ≠ 0 → M.getD a 0 = m.getD a 0
def Fix (cl : List (List Int)) (M : List Int) : Prop := ∀ c ∈ cl, (leftF M c 0 0).1 ≠ 0 ∧ (leftF M c 0 0).1 ≠ 1
theorem Sub.refl (m : List Int) : Sub m m := fun _ _ => rfl
theorem Sub.trans {a b c : List Int} (h : Sub a b) (k : Sub b c) : Sub a c := fun i hi => by rw [k i (by rw [h i hi]; exact hi), h i hi]
theorem getD_set_eq {m : List Int} {i : Nat} {v : Int} (h : i < m.length) : (m.set i v).getD i 0 = v := by simp [List.getD, h]
theorem getD_set_ne {m : List Int} {i j : Nat} {v : Int} (h : i ≠ j) : (m.set i v).getD j 0 = m.getD j 0 := by simp [List.getD, List.getElem?_set_ne h]
theorem getD_set_out {m : List Int} {i j : Nat} {v : Int} (h : ¬ i < m.length) : (m.set i v).getD j 0 = m.getD j 0 := by rw [List.set_eq_of_length_le (by omega)]
theorem Sub.set {m M : List Int} {i : Nat} {v : Int} (h : Sub m M) (hv : M.getD i 0 = v) : Sub (m.set i v) M := by
  intro a ha
  by_cases hi : i = a
  · subst hi
    by_cases hl : i < m.length
    · rw [getD_set_eq hl]; exact hv
    · rw [getD_set_out hl] at ha ⊢; exact h _ ha
  · rw [getD_set_ne hi] at ha ⊢; exact h _ ha
theorem Sub.up {m : List Int} {i : Nat} {v : Int} (h : m.getD i 0 = 0) : Sub m (m.set i v) := by
  intro a ha
  by_cases hi : i = a
  · subst hi; exact absurd h ha
  · rw [getD_set_ne hi]
theorem leftF_shut {m M : List Int} (hs : Sub m M) : ∀ {c : List Int} {o l l' : Int}, 0 ≤ o → leftF m c o l = (o, l') → ∀ o1 l1, leftF M c o1 l1 = (o1, l1)
  | [], o, l, l', _, h, o1, l1 => rfl
  | y :: t, o, l, l', ho, h, o1, l1 => by
    simp only [leftF] at h ⊢
    split at h
    · simp only [Prod.mk.injEq] at h; omega
    · rename_i h1
      split at h
      · rcases leftF_last h with ⟨h2, _⟩ | ⟨h2, _⟩ | ⟨_, _, h2, _⟩ <;> omega
      · rename_i h2
        have h3 := hs y.natAbs h2
        rw [h3, if_neg h1, if_neg h2]
        exact leftF_shut hs ho h o1 l1
theorem leftF_mono {m M : List Int} (hs : Sub m M) : ∀ {c : List Int} {o l x : Int}, 0 ≤ o → leftF m c o l = (o + 1, x) → M.getD x.natAbs 0 = x ∨ (leftF M c o l).1 = o ∨ (leftF M c o l).1 = o + 1
  | [], o, l, x, _, h => by simp only [leftF, Prod.mk.injEq] at h; omega
  | y :: t, o, l, x, ho, h => by
    simp only [leftF] at h ⊢
    split at h
    · simp only [Prod.mk.injEq] at h; omega
    · rename_i h1
      split at h
      · rename_i h2
        have hx : x = y := by
          rcases leftF_last h with ⟨h3, _⟩ | ⟨_, h3⟩ | ⟨_, _, h3, _⟩
          · omega
          · exact h3
          · omega
        subst hx
        have h4 := leftF_shut hs (by omega) h
        by_cases h5 : M.getD x.natAbs 0 = x
        · exact .inl h5
        · rw [if_neg h5, h4]
          by_cases h6 : M.getD x.natAbs 0 = 0
          · rw [if_pos h6]; exact .inr (.inr rfl)
          · rw [if_neg h6, h4]; exact .inr (.inl rfl)
      · rename_i h2
        have h3 := hs y.natAbs h2
        rw [h3, if_neg h1, if_neg h2]
        exact leftF_mono hs ho h
theorem passF_sub {M : List Int} : ∀ {t : List (List Int)} {m m' : List Int} {ag ag' : Bool}, Fix t M → Sub m M → passF t m ag = some (m', ag') → Sub m' M
  | [], m, m', ag, ag', hf, hs, h => by simp only [passF, Option.some.injEq, Prod.mk.injEq] at h; obtain ⟨rfl, _⟩ := h; exact hs
  | c :: t, m, m', ag, ag', hf, hs, h => by
    have hft : Fix t M := fun c hc => hf c (List.mem_cons_of_mem _ hc)
    simp only [passF] at h
    split at h
    · cases h
    · split at h
      · rename_i h1
        refine passF_sub hft (hs.set ?_) h
        have h2 : leftF m c 0 0 = ((0 : Int) + 1, (leftF m c 0 0).2) := Prod.ext (by simpa using h1) rfl
        have hc := hf c (by simp)
        rcases leftF_mono hs (by omega) h2 with h3 | h3 | h3
        · exact h3
        · exact absurd h3 hc.1
        · exact absurd h3 hc.2
      · exact passF_sub hft hs h
theorem passF_up : ∀ {t : List (List Int)} {m m' : List Int} {ag ag' : Bool}, passF t m ag = some (m', ag') → Sub m m'
  | [], m, m', ag, ag', h => by simp only [passF, Option.some.injEq, Prod.mk.injEq] at h; obtain ⟨rfl, _⟩ := h; exact Sub.refl _
  | c :: t, m, m', ag, ag', h => by
    simp only [passF] at h
    split at h
    · cases h
    · split at h
      · rename_i h1
        exact (Sub.up (leftF_one h1).2).trans (passF_up h)
      · exact passF_up h
theorem passF_true : ∀ {t : List (List Int)} {m m' : List Int} {ag' : Bool}, passF t m true = some (m', ag') → ag' = true
  | [], m, m', ag', h => by simp only [passF, Option.some.injEq, Prod.mk.injEq] at h; exact h.2.symm
  | c :: t, m, m', ag', h => by
    simp only [passF] at h
    split at h
    · cases h
    · split at h
      · exact passF_true h
      · exact passF_true h
theorem passF_fix : ∀ {t : List (List Int)} {m m' : List Int}, passF t m false = some (m', false) → m' = m ∧ Fix t m
  | [], m, m', h => by simp only [passF, Option.some.injEq, Prod.mk.injEq] at h; exact ⟨h.1.symm, fun c hc => nomatch hc⟩
  | c :: t, m, m', h => by
    simp only [passF] at h
    split at h
    · cases h
    · rename_i h0
      split at h
      · have := passF_true h; cases this
      · rename_i h1
        obtain ⟨rfl, h2⟩ := passF_fix h
        refine ⟨rfl, fun c' hc => ?_⟩
        rcases List.mem_cons.1 hc with rfl | hc
        · exact ⟨h0, h1⟩
        · exact h2 c' hc
theorem Force.up {cl : List (List Int)} {m : List Int} {r : Option (List Int)} (h : Force cl m r) : ∀ m', r = some m' → Sub m m' ∧ Fix cl m' := by
  induction h with
  | bad _ => intro m' e; cases e
  | stop h => intro m' e; cases e; obtain ⟨rfl, hf⟩ := passF_fix h; exact ⟨Sub.refl _, hf⟩
  | go h _ ih => intro m' e; obtain ⟨h1, h2⟩ := ih m' e; exact ⟨(passF_up h).trans h1, h2⟩
theorem Force.mono {cl : List (List Int)} {m M : List Int} {r : Option (List Int)} (h : Force cl m r) (hM : Fix cl M) : Sub m M → ∀ m', r = some m' → Sub m' M := by
  induction h with
  | bad _ => intro _ m' e; cases e
  | stop h => intro hs m' e; cases e; exact passF_sub hM hs h
  | go h _ ih => intro hs m' e; exact ih (passF_sub hM hs h) m' e
structure Low (cl : List (List Int)) (n : Nat) (g : List Int) (k : Nat) : Prop where
  asc : Asc g
  lits : Lits n g
  le : ∀ x ∈ g, x.natAbs ≤ k
  low : ∀ m, Force cl (given n g) (some m) → ∀ i, 1 ≤ i → i ≤ k → m.getD i 0 ≠ 0
theorem Low.nil (cl : List (List Int)) (n : Nat) : Low cl n [] 0 := ⟨List.Pairwise.nil, fun x h => (nomatch h), fun x h => (nomatch h), fun m _ i h1 h2 => by omega⟩
theorem given_snoc {n : Nat} {g : List Int} {x : Int} : given n (g ++ [x]) = (given n g).set x.natAbs x := by simp [given, givenF, List.foldl_append]
theorem given_len {n : Nat} {g : List Int} : (given n g).length = n + 1 := by rw [given, givenF_len]; simp
theorem Low.next {cl : List (List Int)} {n : Nat} {g m : List Int} {k a : Nat} {x : Int} (h : Low cl n g k) (hm : Force cl (given n g) (some m)) (hlm : m.length = n + 1) (ha : IsNext m a) (h0 : a ≠ 0) (hx : x.natAbs = a) : k < a ∧ Low cl n (g ++ [x]) a := by
  obtain ⟨e, _⟩ | ⟨h1, ⟨h2, h3⟩, h4⟩ := ha
  · exact absurd e h0
  have hka : k < a := by
    refine Classical.byContradiction fun hn => ?_
    have := h.low m hm a h1 (by omega)
    exact this (by simp [List.getD, h2, h3])
  refine ⟨hka, ?_, ?_, ?_, ?_⟩
  · refine List.pairwise_append.2 ⟨h.asc, List.pairwise_singleton _ _, fun y hy z hz => ?_⟩
    simp only [List.mem_singleton] at hz
    subst hz
    have := h.le y hy
    omega
  · intro y hy
    rcases List.mem_append.1 hy with hy | hy
    · exact h.lits y hy
    · simp only [List.mem_singleton] at hy
      subst hy
      exact ⟨by intro e; subst e; simp at hx; omega, by omega⟩
  · intro y hy
    rcases List.mem_append.1 hy with hy | hy
    · have := h.le y hy; omega
    · simp only [List.mem_singleton] at hy
      subst hy; omega
  · intro M hM i hi1 hi2
    obtain ⟨u1, u2⟩ := hM.up M rfl
    have hz : (given n g).getD x.natAbs 0 = 0 := by
      rw [given, givenF_getD fun y hy => by have := h.le y hy; omega, zero_getD]
    rw [given_snoc] at u1
    by_cases hia : i = a
    · subst hia
      have := u1 x.natAbs (by rw [getD_set_eq (by rw [given_len]; omega)]; intro e; subst e; simp at hx; omega)
      rw [hx] at this
      rw [this, ← hx, getD_set_eq (by rw [given_len]; omega)]
      intro e; subst e; simp at hx; omega
    · have h5 : m.getD i 0 ≠ 0 := by
        have hil : i < m.length := by omega
        have := h4 i hil hi1 (by omega)
        simpa [List.getD, hil] using this
      have h6 := hm.mono u2 ((Sub.up hz).trans u1) m rfl i h5
      rw [h6]; exact h5
end Go.M2

namespace Go.M2
open Go.Proofs
variable {H : Heap}
theorem asc_len {g : List Int} {k : Nat} (h : Asc g) (h1 : ∀ x ∈ g, x ≠ 0) (h2 : ∀ x ∈ g, x.natAbs ≤ k) : g.length ≤ k := by
  have key : ∀ i (hi : i < g.length), i + 1 ≤ g[i].natAbs := by
    intro i
    induction i with
    | zero => intro hi; have := h1 _ (List.getElem_mem hi); omega
    | succ i ih =>
      intro hi
      have h3 := ih (by omega)
      have h4 := List.pairwise_iff_getElem.1 h i (i + 1) (by omega) hi (by omega)
      omega
  rcases Nat.eq_zero_or_pos g.length with h3 | h3
  · omega
  · have h4 := key (g.length - 1) (by omega)
    have h5 := h2 _ (List.getElem_mem (show g.length - 1 < g.length by omega))
    omega
def apart (b : Nat) : AV → Prop
  | .sl (some (b', _)) _ _ _ _ => b' ≠ b
  | _ => True
theorem base_blk {v : AV} {b : Nat} (h : apart b v) : (base H v).blk b = H.blk b := by
  unfold base
  unfold apart at h
  split
  · exact kill_ne (fun e => h e.symm)
  · rfl
theorem base_size {v : AV} : (base H v).size = H.size := by
  unfold base
  split <;> rfl
theorem base_rw {v : AV} {b : Nat} {c : List AV} (h : apart b v) (hc : H.rwCells b = some c) : (base H v).rwCells b = some c := by
  obtain ⟨h1, h2⟩ := Heap.rwCells_blk hc
  exact rwCells_of (by rw [base_size]; exact h1) (by rw [base_blk h]; exact h2)
theorem apart_of {v : AV} {b : Nat} {c : List AV} (h : (base H v).rwCells b = some c) : apart b v := by
  obtain ⟨_, h2⟩ := Heap.rwCells_blk h
  unfold apart
  split
  · rintro rfl
    simp only [base] at h2
    rw [kill_dead] at h2; cases h2
  · trivial
theorem base_upd {v : AV} {b : Nat} {x : Blk} (h : apart b v) : base (H.upd b x) v = (base H v).upd b x := by
  unfold base
  unfold apart at h
  split
  · simp only at h
    rename_i b' _ _ _ _ _
    unfold Heap.kill Heap.upd
    simp only [Heap.mk.injEq, true_and]
    funext i
    by_cases h1 : i = b
    · subst h1; rw [if_neg (fun e => h e.symm), if_pos rfl, if_pos rfl]
    · by_cases h2 : i = b'
      · subst h2; rw [if_pos rfl, if_neg h1, if_pos rfl]
      · rw [if_neg h2, if_neg h1, if_neg h1, if_neg h2]
  · rfl
theorem apart_fresh {sz : Nat} {v : AV} {l : List AV} (h : Own sz H v l) {b : Nat} (hb : H.size ≤ b) : apart b v := by
  obtain ⟨A, n, ex, k, rfl, h1, h2, h3⟩ := h
  unfold apart
  split
  · rename_i b' o n' c' ex' k' e
    cases e
    have := (h3 b' o rfl).2.2.1
    omega
  · trivial
def Nd (B B' : Heap) : Prop := Le B B' ∧ ∀ b, b < B.size → B.blk b = .dead → B'.blk b = .dead
theorem Nd.refl (B : Heap) : Nd B B := ⟨Le.refl _, fun _ _ h => h⟩
theorem Nd.trans {A B C : Heap} (h : Nd A B) (k : Nd B C) : Nd A C := ⟨h.1.trans k.1, fun b hb hd => k.2 b (Nat.lt_of_lt_of_le hb h.1.1) (h.2 b hb hd)⟩
def Heap.pad (B : Heap) (n : Nat) : Heap := ⟨n, fun b => if b < B.size then B.blk b else .dead⟩
theorem pad_nd {B : Heap} {n : Nat} (h : B.size ≤ n) : Nd B (B.pad n) := ⟨⟨h, fun b hb => .inr (by simp [Heap.pad, hb])⟩, fun b hb hd => by simp [Heap.pad, hb, hd]⟩
theorem pad_dead {B : Heap} {n b : Nat} (h : B.size ≤ b) : (B.pad n).blk b = .dead := by simp [Heap.pad, Nat.not_lt.2 h]
theorem pad_size (B : Heap) (n : Nat) : (B.pad n).size = n := rfl
theorem pad_le {B H : Heap} {n : Nat} (h : Le B H) (hn : n ≤ H.size) : Le (B.pad n) H := ⟨hn, fun b hb => by
  by_cases h1 : b < B.size
  · simp only [Heap.pad, h1, if_true]; exact h.2 b h1
  · simp only [Heap.pad, h1, if_false]; exact .inl trivial⟩
def Heap.over (B H : Heap) : Heap := ⟨H.size, fun b => if b < B.size then B.blk b else H.blk b⟩
theorem over_nd {B H : Heap} (h : B.size ≤ H.size) : Nd B (B.over H) := ⟨⟨h, fun b hb => .inr (by simp [Heap.over, hb])⟩, fun b hb hd => by simp [Heap.over, hb, hd]⟩
theorem over_le {B H H' : Heap} (h : Le B H') (hs : H.size = H'.size) (hf : ∀ b, B.size ≤ b → H'.blk b = H.blk b) : Le (B.over H) H' := ⟨by simp only [Heap.over]; omega, fun b hb => by
  by_cases h1 : b < B.size
  · simp only [Heap.over, h1, if_true]; exact h.2 b h1
  · simp only [Heap.over, h1, if_false]; exact .inr (hf b (by omega))⟩
theorem later_over (B H : Heap) : Le (H.later B.size) (B.over H) := ⟨Nat.le_refl _, fun b hb => by
  by_cases h1 : b < B.size
  · simp only [Heap.later, h1, if_true]; exact .inl trivial
  · simp only [Heap.later, Heap.over, h1, if_false]; exact .inr trivial⟩
def PL (B H : Heap) (p : AV) (P : List (List Int)) : Prop := Le B (base H p) ∧ ∃ pc : List AV, Own 1 H p pc ∧ pc.length = P.length ∧ ∀ i (h : i < P.length), ∃ u, pc[i]? = some u ∧ IsI B u P[i]
theorem PL.own {B : Heap} {p : AV} {P : List (List Int)} (h : PL B H p P) : ∃ pc, Own 1 H p pc ∧ pc.length = P.length := by
  obtain ⟨_, pc, h1, h2, _⟩ := h; exact ⟨pc, h1, h2⟩
theorem PL.len {B : Heap} {p : AV} {P : List (List Int)} (h : PL B H p P) : lenF p = some (.int .i64 (P.length : Int)) := by
  obtain ⟨_, pc, h1, h2, _⟩ := h
  obtain ⟨A, n, ex, k, rfl, h3, _⟩ := h1
  have : n = P.length := by omega
  subst this; rfl
theorem PL.one {B : Heap} {p : AV} {P : List (List Int)} (h : PL B H p P) : oneA p = true ∧ cellsOf p = some [p] := by
  obtain ⟨_, pc, h1, _⟩ := h
  obtain ⟨A, n, ex, k, rfl, _⟩ := h1
  exact ⟨rfl, rfl⟩
theorem PL.le {B H' : Heap} {p : AV} {P : List (List Int)} (h : PL B H p P) (hl : Le H H') : PL B H' p P := by
  obtain ⟨h0, pc, h1, h2, h3⟩ := h
  exact ⟨h0.trans (base_mono hl p), pc, h1.le hl, h2, h3⟩
theorem PL.at {B B' : Heap} {p : AV} {P : List (List Int)} (h : PL B H p P) (hB : Le B B') (hl : Le B' (base H p)) : PL B' H p P := by
  obtain ⟨h0, pc, h1, h2, h3⟩ := h
  refine ⟨hl, pc, h1, h2, fun i hi => ?_⟩
  obtain ⟨u, h4, h5⟩ := h3 i hi
  exact ⟨u, h4, h5.le hB⟩
theorem PL.upd {B : Heap} {p : AV} {P : List (List Int)} {b : Nat} {x : Blk} (h : PL B H p P) (ha : apart b p) (hd : B.blk b = .dead) : PL B (H.upd b x) p P := by
  obtain ⟨h0, pc, h1, h2, h3⟩ := h
  refine ⟨by rw [base_upd ha]; exact h0.updDead hd x, pc, ?_, h2, h3⟩
  obtain ⟨A, n, ex, k, rfl, q1, q2, q3⟩ := h1
  refine ⟨A, n, ex, k, rfl, q1, q2, fun b' o e => ?_⟩
  subst e
  obtain ⟨r1, r2, r3, r4⟩ := q3 b' o rfl
  have hne : b' ≠ b := ha
  exact ⟨r1, r2, r3, by rw [upd_blk_ne hne]; exact r4⟩
theorem pl_app {B B1 : Heap} {by_ : Nat} {p u : AV} {P : List (List Int)} {c : List Int} {K : AV → Heap → Prop} (h : PL B H p P) (hB : Le B B1) (hB1 : Le B1 (base H p)) (hu : IsI B1 u c) (hb : P.length ≤ 1048576) (hby : by_ ≤ 64)
    (hk : ∀ p' H', PL B1 H' p' (P ++ [c]) → Le (base H p) (base H' p') → K p' H') : appP 1 by_ p (.sl (some (H.size, 0)) 1 1 true 1) (H.alloc [u]) K := by
  obtain ⟨_, pc, h1, h2, h3⟩ := h
  have ho : oneA u = true := by obtain ⟨A, c, ex, k, rfl, _⟩ := hu; rfl
  refine app_own (sz := 1) (by omega) (h1.le (Le.alloc _ _)) (Rd.blk (Nat.lt_succ_self _) (alloc_new _ _)) rfl (by simp [ho]) ?_ (by simp [mostCells]; omega) ?_
  · have : (pc.length + 1) * by_ ≤ (pc.length + 1) * 64 := Nat.mul_le_mul_left _ hby
    simp only [mostCells]; omega
  · intro p' H' q1 q2 _
    have q3 := (base_mono (Le.alloc H [u]) p).trans q2
    refine hk p' H' ⟨hB1.trans q3, pc ++ [u], q1, by simp [h2], fun i hi => ?_⟩ q3
    by_cases hi2 : i < P.length
    · obtain ⟨w, h4, h5⟩ := h3 i hi2
      refine ⟨w, by rw [List.getElem?_append_left (by omega)]; exact h4, ?_⟩
      rw [List.getElem_append_left hi2]; exact h5.le hB
    · have : i = P.length := by simp at hi; omega
      subst this
      refine ⟨u, by rw [List.getElem?_append_right (by omega), h2]; simp, ?_⟩
      rw [List.getElem_append_right (by omega)]
      simpa using hu
end Go.M2

namespace Go.M2
open Go.Proofs
variable {H : Heap}
@[go_sem] theorem retP_ctt {R : AV → Heap → Prop} {e : Env} {a n b c : Nat} {ag : Bool} : retP [.c a n ag, .t b, .t c] R e H = optP ((loadF H n ag (e a)).map fun v => .tup [v, e b, e c]) H R := by
  unfold retP retV optP
  simp only [resVs, resV]
  cases loadF H n ag (e a) <;> rfl
theorem try_leaf {B : Heap} {e : Env} {t3 t6 n d : Nat} {g : List Int} {P : List (List Int)} {fl p gv : AV} {c6 : List AV} {R : AV → Heap → Prop} (hn : n ≤ 700) (hasc : Asc g) (hlits : Lits n g) (hlg : g.length ≤ 700) (hP : P.length ≤ 600) (hof : oneA fl = true)
    (e1 : e 1 = gv) (e2 : e 2 = .int .i64 (n : Int)) (e3 : e 3 = .ptr (some (t3, 0))) (e6 : e 6 = .ptr (some (t6, 0))) (h36 : t3 ≠ t6) (h6 : c6.length = 4) (hs : B.size = H.size) (hd3 : B.blk t3 = .dead) (hd6 : B.blk t6 = .dead)
    (w3 : (base H p).rwCells t3 = some [fl, p, .int .i64 (d : Int), .bool false]) (w6 : (base H p).rwCells t6 = some c6) (hp : PL B H p P) (hgv : IsI B gv g)
    (hR : ∀ B' H' p', Nd B B' → PL B' H' p' (P ++ [negs g]) → Le (((base H p).kill t3).kill t6) (base H' p') → R (.tup [.agg [fl, p', .int .i64 (d : Int), .bool (decide ((600 : Int) < (((P ++ [negs g]).length : Nat) : Int)))], .sl none 0 0 true 0, .bool false]) H') :
    wp Try.prog (.seq Z70_18 (.seq Z70_19 (.seq Z70_20 .ret))) (postQ [RV.c 6 4 true, RV.t 7, RV.t 8] R) e H := by
  have g3 : H.get t3 1 = some p := by
    obtain ⟨q1, q2⟩ := Heap.rwCells_blk ((base_le H p).rwCells w3)
    exact Rd.blk q1 q2 1 p rfl
  have hBH : Le B H := hp.1.trans (base_le H p)
  simp (maxSteps := 2000000) (disch := first | omega | assumption | exact idP rfl | exact idP (bL rfl) | (simp only [alloc_size, upd_size] <;> omega) | fail) only [go_sem, reduceIte, Nat.reduceEqDiff, e1, e2, e3, e6, g3]
  refine (s_l12Not (hgv.le hBH) (by omega) hn hlits hasc).mono ?_
  rintro u H1 ⟨hu, hle1, hnew⟩
  obtain ⟨pc, hown, hpc⟩ := hp.own
  have hH1 : Le H H1 := hle1.trans (base_le _ _)
  have g3' := hH1.get g3
  have hui : IsI (B.over H1) u (negs g) := (hu.later hnew).isI.le (by rw [← hs]; exact later_over B H1)
  have hB1 : Le (B.over H1) (base H1 p) := over_le (hp.1.trans (base_mono hH1 p)) base_size.symm fun b hb => base_blk (apart_fresh hown (by omega))
  have hnd : Nd B (B.over H1) := over_nd (by have := hH1.1; omega)
  have hu1 := oneA_isS hui
  simp (maxSteps := 2000000) (disch := first | omega | assumption | exact idP rfl | exact idP (bL rfl) | (simp only [alloc_size, upd_size] <;> omega) | fail) only [go_sem, reduceIte, Nat.reduceEqDiff, e1, e2, e3, e6, g3', hu1.2]
  refine pl_app (hp.le hH1) hnd.1 hB1 hui (by omega) (by omega) ?_
  intro p' H2 hp2 hle2
  have b3 := hle2.rwCells ((base_mono hH1 p).rwCells w3)
  have b6 := hle2.rwCells ((base_mono hH1 p).rwCells w6)
  have a3 := apart_of b3
  have a6 := apart_of b6
  have w3' := (base_le H2 p').rwCells b3
  have w6' := (base_le H2 p').rwCells b6
  have hp2o := hp2.one.1
  have l3 := (Heap.rwCells_blk w3').1
  have l6 := (Heap.rwCells_blk w6').1
  have h63 : t6 ≠ t3 := fun e => h36 e.symm
  have d3 := hnd.2 t3 (by rw [hs]; exact (Heap.rwCells_blk ((base_le H p).rwCells w3)).1) hd3
  have d6 := hnd.2 t6 (by rw [hs]; exact (Heap.rwCells_blk ((base_le H p).rwCells w6)).1) hd6
  obtain ⟨x1, x2, x3, x4, rfl⟩ : ∃ x1 x2 x3 x4, c6 = [x1, x2, x3, x4] := by
    match c6, h6 with
    | [x1, x2, x3, x4], _ => exact ⟨x1, x2, x3, x4, rfl⟩
  simp (maxSteps := 2000000) (disch := first | omega | assumption | exact idP rfl | exact idP (bL rfl) | (simp only [alloc_size, upd_size] <;> omega) | fail) only [go_sem, reduceIte, Nat.reduceEqDiff, e3, e6, w3', w6', hp2.one.2, hp2.len]
  refine hR (B.over H1) _ p' hnd ?_ ?_
  · exact ((hp2.upd a3 d3).upd a3 d3).upd a6 d6
  · rw [base_upd a6, base_upd a3, base_upd a3]
    have hL : Le (((base H p).kill t3).kill t6) (base H2 p') := ((Le.kill _ _).trans (Le.kill _ _)).trans ((base_mono hH1 p).trans hle2)
    have k3 : (((base H p).kill t3).kill t6).blk t3 = .dead := by rw [kill_ne h36]; exact kill_dead _ _
    have k6 : (((base H p).kill t3).kill t6).blk t6 = .dead := kill_dead _ _
    exact ((hL.updDead k3 _).updDead k3 _).updDead k6 _
end Go.M2

namespace Go.M2
open Go.Proofs
variable {H : Heap}
theorem s_l3Copy {v : AV} {xs : List Int} (hv : IsI H v xs) (hl : xs.length ≤ 1048576) :
    ACall Try.prog n_Z74 [v] H (fun r H' => Own 1 H' r (xs.map (AV.int .i64)) ∧ Le H (base H' r) ∧ newer H.size r) := by
  refine ACall.of fun R hR => a_Z74 rfl ?_
  obtain ⟨A, c, ex, k, rfl, hr⟩ := hv.parts
  simp (maxSteps := 2000000) (disch := first | omega | assumption | exact idP rfl | exact idP (bL rfl) | (simp only [alloc_size, upd_size] <;> omega) | fail) only [go_sem, reduceIte, Nat.reduceEqDiff]
  refine wp_loop_k (fun e H' => ∃ i : Nat, i ≤ xs.length ∧ e 0 = .sl A xs.length c ex k ∧ e 4 = .int .i64 (i : Int) ∧ Own 1 H' (e 3) ((xs.take i).map (AV.int .i64)) ∧ Le H (base H' (e 3)) ∧ newer H.size (e 3)) (fun e _ => ctr xs.length (e 4)) ?_ ?_
  · exact ⟨0, Nat.zero_le _, by simp (maxSteps := 2000000) (disch := first | omega | assumption | exact idP rfl | exact idP (bL rfl) | (simp only [alloc_size, upd_size] <;> omega) | fail) only [go_sem, reduceIte, Nat.reduceEqDiff], by simp (maxSteps := 2000000) (disch := first | omega | assumption | exact idP rfl | exact idP (bL rfl) | (simp only [alloc_size, upd_size] <;> omega) | fail) only [go_sem, reduceIte, Nat.reduceEqDiff]; rfl, by simp (maxSteps := 2000000) (disch := first | omega | assumption | exact idP rfl | exact idP (bL rfl) | (simp only [alloc_size, upd_size] <;> omega) | fail) only [go_sem, reduceIte, Nat.reduceEqDiff]; exact Own.new rfl, by simp (maxSteps := 2000000) (disch := first | omega | assumption | exact idP rfl | exact idP (bL rfl) | (simp only [alloc_size, upd_size] <;> omega) | fail) only [go_sem, reduceIte, Nat.reduceEqDiff]; exact (Le.alloc _ _).killFresh (Nat.le_refl _), by simp (maxSteps := 2000000) (disch := first | omega | assumption | exact idP rfl | exact idP (bL rfl) | (simp only [alloc_size, upd_size] <;> omega) | fail) only [go_sem, reduceIte, Nat.reduceEqDiff]; exact Nat.le_refl _⟩
  · rintro e H1 ⟨i, hi, e0, e4, ho, hle, hnew⟩ K hK
    simp (maxSteps := 2000000) (disch := first | omega | assumption | exact idP rfl | exact idP (bL rfl) | (simp only [alloc_size, upd_size] <;> omega) | fail) only [go_sem, reduceIte, Nat.reduceEqDiff, e0, e4]
    refine condV_dec (fun h => ?_) (fun h => ?_)
    · have hi' : i < xs.length := by omega
      have hg := (hle.trans (base_le _ _)).get (hr i hi')
      rw [Nat.mul_one] at hg
      simp (maxSteps := 2000000) (disch := first | omega | assumption | exact idP rfl | exact idP (bL rfl) | (simp only [alloc_size, upd_size] <;> omega) | fail) only [go_sem, reduceIte, Nat.reduceEqDiff, e0, e4, hg]
      refine app1 ho hle hnew rfl (by simp; omega) (by omega) ?_
      intro s H2 hs hle2 hn2 _
      simp (maxSteps := 2000000) (disch := first | omega | assumption | exact idP rfl | exact idP (bL rfl) | (simp only [alloc_size, upd_size] <;> omega) | fail) only [go_sem, reduceIte, Nat.reduceEqDiff, e4]
      refine hK _ _ ⟨i + 1, by omega, by simp (maxSteps := 2000000) (disch := first | omega | assumption | exact idP rfl | exact idP (bL rfl) | (simp only [alloc_size, upd_size] <;> omega) | fail) only [go_sem, reduceIte, Nat.reduceEqDiff, e0], by simp (maxSteps := 2000000) (disch := first | omega | assumption | exact idP rfl | exact idP (bL rfl) | (simp only [alloc_size, upd_size] <;> omega) | fail) only [go_sem, reduceIte, Nat.reduceEqDiff]; rfl, ?_, by simp (maxSteps := 2000000) (disch := first | omega | assumption | exact idP rfl | exact idP (bL rfl) | (simp only [alloc_size, upd_size] <;> omega) | fail) only [go_sem, reduceIte, Nat.reduceEqDiff]; exact hle2, by simp (maxSteps := 2000000) (disch := first | omega | assumption | exact idP rfl | exact idP (bL rfl) | (simp only [alloc_size, upd_size] <;> omega) | fail) only [go_sem, reduceIte, Nat.reduceEqDiff]; exact hn2⟩ (by simp (maxSteps := 2000000) (disch := first | omega | assumption | exact idP rfl | exact idP (bL rfl) | (simp only [alloc_size, upd_size] <;> omega) | fail) only [go_sem, reduceIte, Nat.reduceEqDiff, ctr_int, e4]; omega)
      simp (maxSteps := 2000000) (disch := first | omega | assumption | exact idP rfl | exact idP (bL rfl) | (simp only [alloc_size, upd_size] <;> omega) | fail) only [go_sem, reduceIte, Nat.reduceEqDiff]
      rw [← take_map_succ hi']; exact hs
    · simp (maxSteps := 2000000) (disch := first | omega | assumption | exact idP rfl | exact idP (bL rfl) | (simp only [alloc_size, upd_size] <;> omega) | fail) only [go_sem, reduceIte, Nat.reduceEqDiff]
      obtain rfl : i = xs.length := by omega
      rw [List.take_length] at ho
      exact hR _ _ ⟨ho, hle, hnew⟩
def TryPost (cl : List (List Int)) (n : Nat) (g : List Int) (P : List (List Int)) (d : Nat) (B H : Heap) (p fl : AV) (r : AV) (H' : Heap) : Prop :=
  ∃ (res : Res) (P' : List (List Int)) (d' : Nat) (p' w : AV) (ok ct : Bool) (B' : Heap), Try cl n g P d res P' d' ∧ r = .tup [.agg [fl, p', .int .i64 (d' : Int), .bool ct], w, .bool ok] ∧ Nd B B' ∧ Le (base H p) (base H' p') ∧ (∀ b, H'.size ≤ b → apart b p') ∧ oneA p' = true ∧ oneA w = true ∧
    (res = .no → ct = false ∧ ok = false ∧ PL B' H' p' P' ∧ P'.length ≤ 600 ∧ d' ≤ P'.length + g.length ∧ w = .sl none 0 0 true 0) ∧ (res = .cut → ct = true ∧ ok = false ∧ w = .sl none 0 0 true 0) ∧
    (∀ m, res = .sat m → ct = false ∧ ok = true ∧ PL B' H' p' P' ∧ IsI B' w ((m.drop 1).map valF))
theorem PL.updFresh {B : Heap} {p : AV} {P : List (List Int)} {b : Nat} {x : Blk} (h : PL B H p P) (ha : apart b p) (hd : B.size ≤ b) : PL B (H.upd b x) p P := by
  obtain ⟨h0, pc, h1, h2, h3⟩ := h
  refine ⟨by rw [base_upd ha]; exact h0.updFresh hd, pc, ?_, h2, h3⟩
  obtain ⟨A, n, ex, k, rfl, q1, q2, q3⟩ := h1
  refine ⟨A, n, ex, k, rfl, q1, q2, fun b' o e => ?_⟩
  subst e
  obtain ⟨r1, r2, r3, r4⟩ := q3 b' o rfl
  have hne : b' ≠ b := ha
  exact ⟨r1, r2, r3, by rw [upd_blk_ne hne]; exact r4⟩
attribute [-go_sem] w_Z70_18
set_option maxHeartbeats 4000000 in
theorem s_l12Try {xss : List (List Int)} {n : Nat} (hn : n ≤ 700) (hl : xss.length ≤ 1048576) (hxl : ∀ xs ∈ xss, xs.length ≤ 1048576) (hx : ∀ xs ∈ xss, Lits n xs) : ∀ (N : Nat) {B H : Heap} {g : List Int} {P : List (List Int)} {d k : Nat} {fl p gv : AV},
    n - k < N → k ≤ n → Low xss n g k → B.size = H.size → IsII B fl xss → IsI B gv g → PL B H p P → P.length ≤ 600 → d ≤ P.length + g.length →
    ACall Try.prog n_Z70 [.agg [fl, p, .int .i64 (d : Int), .bool false], gv, .int .i64 (n : Int)] H (TryPost xss n g P d B H p fl) := by
  intro N
  induction N with
  | zero => intro B H g P d k fl p gv hN; omega
  | succ N ih =>
    intro B H g P d k fl p gv hN hk hlow hs hfl hgv hp hP hd
    refine ACall.of fun R hR => a_Z70 rfl ?_
    have hlen : g.length ≤ k := asc_len hlow.asc (fun x h => (hlow.lits x h).1) hlow.le
    have hBH : Le B H := hp.1.trans (base_le H p)
    have hof : oneA fl = true ∧ cellsOf fl = some [fl] := oneA_isS hfl
    obtain ⟨pc, hown, hpc⟩ := hp.own
    simp (maxSteps := 2000000) (disch := first | omega | assumption | exact idP rfl | exact idP (bL rfl) | (simp only [alloc_size, upd_size] <;> omega) | fail) only [go_sem, reduceIte, Nat.reduceEqDiff]
    have hHA : Le H ((H.alloc [fl, p, .int .i64 (d : Int), .bool false]).alloc [.sl none 0 0 true 0, .sl none 0 0 true 0, .int .i64 0, .bool false]) := (Le.refl _).allocs.allocs
    refine (s_l11Given (hgv.le (hBH.trans hHA)) (by omega) hn hlow.lits).mono ?_
    rintro r H1 ⟨rfl, hrow⟩
    simp (maxSteps := 2000000) (disch := first | omega | assumption | exact idP rfl | exact idP (bL rfl) | (simp only [alloc_size, upd_size] <;> omega) | fail) only [go_sem, reduceIte, Nat.reduceEqDiff]
    simp only [alloc_size] at hrow
    have w3 : H1.rwCells H.size = some [fl, p, .int .i64 (d : Int), .bool false] := hrow.le'.rwCells (by simp (maxSteps := 2000000) (disch := first | omega | assumption | exact idP rfl | exact idP (bL rfl) | (simp only [alloc_size, upd_size] <;> omega) | fail) only [go_sem, reduceIte, Nat.reduceEqDiff])
    have g3 : H1.get H.size 0 = some fl := hrow.le'.get (by simp (maxSteps := 2000000) (disch := first | omega | assumption | exact idP rfl | exact idP (bL rfl) | (simp only [alloc_size, upd_size] <;> omega) | fail) only [go_sem, reduceIte, Nat.reduceEqDiff])
    simp (maxSteps := 2000000) (disch := first | omega | assumption | exact idP rfl | exact idP (bL rfl) | (simp only [alloc_size, upd_size] <;> omega) | fail) only [go_sem, reduceIte, Nat.reduceEqDiff, g3]
    refine (s_l11Force (hfl.le (hBH.trans hHA)) hl hxl hn hx hrow given_len).mono ?_
    rintro r H2 ⟨res, hforce, hle2, hb2, hnone, hsome⟩
    have hA2 : Le ((H.alloc [fl, p, .int .i64 (d : Int), .bool false]).alloc [.sl none 0 0 true 0, .sl none 0 0 true 0, .int .i64 0, .bool false]) (H2.kill (H.size + 1 + 1)) := hrow.le.trans hle2
    have hA2' := hA2.trans (Le.kill _ _)
    have hH2 : Le H H2 := hHA.trans hA2'
    have hsz2 : H.size + 1 + 1 < H2.size := hb2
    have a3 : apart H.size p := apart_fresh hown (Nat.le_refl _)
    have a6 : apart (H.size + 1) p := apart_fresh hown (by omega)
    have hp2 : PL (B.pad H2.size) H2 p P := (hp.le hH2).at (pad_nd (by omega)).1 (pad_le (hp.1.trans (base_mono hH2 p)) (by rw [base_size]; exact Nat.le_refl _))
    have u3 : H2.rwCells H.size = some [fl, p, .int .i64 (d : Int), .bool false] := hA2'.rwCells (by simp (maxSteps := 2000000) (disch := first | omega | assumption | exact idP rfl | exact idP (bL rfl) | (simp only [alloc_size, upd_size] <;> omega) | fail) only [go_sem, reduceIte, Nat.reduceEqDiff])
    have u6 : H2.rwCells (H.size + 1) = some [.sl none 0 0 true 0, .sl none 0 0 true 0, .int .i64 0, .bool false] := hA2'.rwCells (by simp (maxSteps := 2000000) (disch := first | omega | assumption | exact idP rfl | exact idP (bL rfl) | (simp only [alloc_size, upd_size] <;> omega) | fail) only [go_sem, reduceIte, Nat.reduceEqDiff])
    have hnd : Nd B (B.pad H2.size) := pad_nd (by omega)
    have hLend : Le (base H p) (((base H2 p).kill H.size).kill (H.size + 1)) := ((base_mono hH2 p).killFresh (by rw [base_size]; exact Nat.le_refl _)).killFresh (by rw [base_size]; omega)
    cases res with
    | none =>
      obtain rfl := hnone rfl
      simp (maxSteps := 2000000) (disch := first | omega | assumption | exact idP rfl | exact idP (bL rfl) | (simp only [alloc_size, upd_size] <;> omega) | fail) only [go_sem, reduceIte, Nat.reduceEqDiff]
      refine wp_seq'.mp (try_leaf (B := B.pad H2.size) (d := d) (t3 := H.size) (t6 := H.size + 1) hn hlow.asc hlow.lits (by omega) hP hof.1 ?_ ?_ ?_ ?_ (by omega) rfl (pad_size _ _) (pad_dead (by omega)) (pad_dead (by omega)) (base_rw a3 u3) (base_rw a6 u6) hp2 (hgv.le hnd.1) ?_)
      · simp (maxSteps := 2000000) (disch := first | omega | assumption | exact idP rfl | exact idP (bL rfl) | (simp only [alloc_size, upd_size] <;> omega) | fail) only [go_sem, reduceIte, Nat.reduceEqDiff]
      · simp (maxSteps := 2000000) (disch := first | omega | assumption | exact idP rfl | exact idP (bL rfl) | (simp only [alloc_size, upd_size] <;> omega) | fail) only [go_sem, reduceIte, Nat.reduceEqDiff]
      · simp (maxSteps := 2000000) (disch := first | omega | assumption | exact idP rfl | exact idP (bL rfl) | (simp only [alloc_size, upd_size] <;> omega) | fail) only [go_sem, reduceIte, Nat.reduceEqDiff]
      · simp (maxSteps := 2000000) (disch := first | omega | assumption | exact idP rfl | exact idP (bL rfl) | (simp only [alloc_size, upd_size] <;> omega) | fail) only [go_sem, reduceIte, Nat.reduceEqDiff]
      intro B' H' p' hn' hp' hle'
      have hap' : ∀ b, H'.size ≤ b → apart b p' := fun b hb => by obtain ⟨_, q, _⟩ := hp'.own; exact apart_fresh q hb
      by_cases h6 : P.length = 600
      · refine hR _ _ ⟨.cut, P, d, p', _, _, _, B', .confC hforce h6, rfl, hnd.trans hn', hLend.trans hle', hap', hp'.one.1, rfl, fun h => (by cases h), fun _ => ⟨?_, rfl, rfl⟩, fun m h => (by cases h)⟩
        simp [h6]
      · refine hR _ _ ⟨.no, _, d, p', _, _, _, B', .confN hforce h6, rfl, hnd.trans hn', hLend.trans hle', hap', hp'.one.1, rfl, fun _ => ⟨?_, rfl, hp', ?_, ?_, rfl⟩, fun h => (by cases h), fun m h => (by cases h)⟩
        · simp; omega
        · simp; omega
        · simp; omega
    | some m =>
      obtain ⟨rfl, hrow2, hml⟩ := hsome m rfl
      simp (maxSteps := 2000000) (disch := first | omega | assumption | exact idP rfl | exact idP (bL rfl) | (simp only [alloc_size, upd_size] <;> omega) | fail) only [go_sem, reduceIte, Nat.reduceEqDiff]
      refine (s_l12Next hrow2 hml (by omega)).mono ?_
      rintro r H3 ⟨rfl, a, rfl, hnext⟩
      simp (maxSteps := 2000000) (disch := first | omega | assumption | exact idP rfl | exact idP (bL rfl) | (simp only [alloc_size, upd_size] <;> omega) | fail) only [go_sem, reduceIte, Nat.reduceEqDiff]
      refine condV_dec (fun h0 => ?_) (fun h0 => ?_)
      · obtain rfl : a = 0 := by omega
        have l0 : H3.get H.size 0 = some fl := by obtain ⟨q1, q2⟩ := Heap.rwCells_blk u3; exact Rd.blk q1 q2 0 fl rfl
        have l1 : H3.get H.size 1 = some p := by obtain ⟨q1, q2⟩ := Heap.rwCells_blk u3; exact Rd.blk q1 q2 1 p rfl
        have l2 : H3.get H.size 2 = some (.int .i64 (d : Int)) := by obtain ⟨q1, q2⟩ := Heap.rwCells_blk u3; exact Rd.blk q1 q2 2 _ rfl
        have l3 : H3.get H.size 3 = some (.bool false) := by obtain ⟨q1, q2⟩ := Heap.rwCells_blk u3; exact Rd.blk q1 q2 3 _ rfl
        have hpo := hp.one
        simp (maxSteps := 2000000) (disch := first | omega | assumption | exact idP rfl | exact idP (bL rfl) | (simp only [alloc_size, upd_size] <;> omega) | fail) only [go_sem, reduceIte, Nat.reduceEqDiff, l0, l1, l2, l3]
        refine (s_l12Values hrow2 hml (by omega) (by omega)).mono ?_
        rintro w H4 ⟨hw, hle4, hnw⟩
        have hH4 : Le H3 H4 := hle4.trans (base_le _ _)
        have m0 := hH4.get l0
        have m1 := hH4.get l1
        have m2 := hH4.get l2
        have m3 := hH4.get l3
        have u6' := hH4.rwCells u6
        have hof1 := hof.1
        have hpo1 := hpo.1
        have hsz6 := (Heap.rwCells_blk u6').1
        simp (maxSteps := 2000000) (disch := first | omega | assumption | exact idP rfl | exact idP (bL rfl) | (simp only [alloc_size, upd_size] <;> omega) | fail) only [go_sem, reduceIte, Nat.reduceEqDiff, m0, m1, m2, m3, u6']
        have hsB : (B.pad H3.size).size = H3.size := pad_size _ _
        have hB4 : Le ((B.pad H3.size).over H4) (base H4 p) := over_le (hp2.1.trans (base_mono hH4 p)) base_size.symm fun b hb => base_blk (apart_fresh hown (by have := hH2.1; omega))
        have hnd4 : Nd (B.pad H3.size) ((B.pad H3.size).over H4) := over_nd (by have := hH4.1; omega)
        have hp4 := (hp2.le hH4).at hnd4.1 hB4
        have hwi : IsI ((B.pad H3.size).over H4) w ((m.drop 1).map valF) := (hw.later hnw).isI.le (by have := later_over (B.pad H3.size) H4; rwa [hsB] at this)
        have d6 := hnd4.2 (H.size + 1) (by omega) (pad_dead (by omega))
        refine hR _ _ ⟨.sat m, P, d, p, w, true, false, (B.pad H3.size).over H4, .sat hforce hnext, rfl, hnd.trans hnd4, ?_, fun b hb => apart_fresh hown (Nat.le_trans (hH2.trans hH4).1 hb), hpo.1, (oneA_isS hwi).1, fun h => (by cases h), fun h => (by cases h), fun m' h => ?_⟩
        · rw [base_upd a6]
          exact (base_mono (hH2.trans hH4) p).updFresh (by rw [base_size]; omega)
        · cases h
          exact ⟨rfl, rfl, hp4.upd a6 d6, hwi⟩
      · have ha0 : a ≠ 0 := by omega
        have han : a ≤ n := by
          rcases hnext with ⟨e, _⟩ | ⟨_, ⟨h1, _⟩, _⟩
          · exact absurd e ha0
          · omega
        obtain ⟨hka, hlow1⟩ := hlow.next (x := -(a : Int)) hforce hml hnext ha0 (by omega)
        obtain ⟨_, hlow2⟩ := hlow.next (x := (a : Int)) hforce hml hnext ha0 (by omega)
        have l0 : H3.get H.size 0 = some fl := by obtain ⟨q1, q2⟩ := Heap.rwCells_blk u3; exact Rd.blk q1 q2 0 fl rfl
        have l1 : H3.get H.size 1 = some p := by obtain ⟨q1, q2⟩ := Heap.rwCells_blk u3; exact Rd.blk q1 q2 1 p rfl
        have l2 : H3.get H.size 2 = some (.int .i64 (d : Int)) := by obtain ⟨q1, q2⟩ := Heap.rwCells_blk u3; exact Rd.blk q1 q2 2 _ rfl
        have l3 : H3.get H.size 3 = some (.bool false) := by obtain ⟨q1, q2⟩ := Heap.rwCells_blk u3; exact Rd.blk q1 q2 3 _ rfl
        have hs3 : H.size < H3.size := by omega
        simp (maxSteps := 2000000) (disch := first | omega | assumption | exact idP rfl | exact idP (bL rfl) | (simp only [alloc_size, upd_size] <;> omega) | fail) only [go_sem, reduceIte, Nat.reduceEqDiff, l2, u3]
        have hH3B : Le B (H3.upd H.size (.cells [fl, p, .int .i64 ((d : Int) + 1), .bool false] true)) := (hBH.trans hH2).updFresh (by omega)
        refine (s_l3Copy (hgv.le hH3B) (by omega)).mono ?_
        rintro c H4 ⟨hc, hle4, hnc⟩
        have hH4 := hle4.trans (base_le _ _)
        have v3 : H4.rwCells H.size = some [fl, p, .int .i64 ((d : Int) + 1), .bool false] := hH4.rwCells (by simp (maxSteps := 2000000) (disch := first | omega | assumption | exact idP rfl | exact idP (bL rfl) | (simp only [alloc_size, upd_size] <;> omega) | fail) only [go_sem, reduceIte, Nat.reduceEqDiff])
        have m0 : H4.get H.size 0 = some fl := by obtain ⟨q1, q2⟩ := Heap.rwCells_blk v3; exact Rd.blk q1 q2 0 fl rfl
        have m1 : H4.get H.size 1 = some p := by obtain ⟨q1, q2⟩ := Heap.rwCells_blk v3; exact Rd.blk q1 q2 1 p rfl
        have m2 : H4.get H.size 2 = some (.int .i64 ((d : Int) + 1)) := by obtain ⟨q1, q2⟩ := Heap.rwCells_blk v3; exact Rd.blk q1 q2 2 _ rfl
        have m3 : H4.get H.size 3 = some (.bool false) := by obtain ⟨q1, q2⟩ := Heap.rwCells_blk v3; exact Rd.blk q1 q2 3 _ rfl
        simp (maxSteps := 2000000) (disch := first | omega | assumption | exact idP rfl | exact idP (bL rfl) | (simp only [alloc_size, upd_size] <;> omega) | fail) only [go_sem, reduceIte, Nat.reduceEqDiff, m0, m1, m2, m3]
        have hgl : g.length ≤ 700 := by omega
        refine app1 hc hle4 hnc rfl (by simp; omega) (by omega) ?_
        intro c1 H5 hc1 hle5 hnc1 hstep
        have hH5 := hle5.trans (base_le _ _)
        have x3 : H5.rwCells H.size = some [fl, p, .int .i64 ((d : Int) + 1), .bool false] := hH5.rwCells (by simp (maxSteps := 2000000) (disch := first | omega | assumption | exact idP rfl | exact idP (bL rfl) | (simp only [alloc_size, upd_size] <;> omega) | fail) only [go_sem, reduceIte, Nat.reduceEqDiff])
        have n0 : H5.get H.size 0 = some fl := by obtain ⟨q1, q2⟩ := Heap.rwCells_blk x3; exact Rd.blk q1 q2 0 fl rfl
        have n1 : H5.get H.size 1 = some p := by obtain ⟨q1, q2⟩ := Heap.rwCells_blk x3; exact Rd.blk q1 q2 1 p rfl
        have n2 : H5.get H.size 2 = some (.int .i64 ((d : Int) + 1)) := by obtain ⟨q1, q2⟩ := Heap.rwCells_blk x3; exact Rd.blk q1 q2 2 _ rfl
        have n3 : H5.get H.size 3 = some (.bool false) := by obtain ⟨q1, q2⟩ := Heap.rwCells_blk x3; exact Rd.blk q1 q2 3 _ rfl
        have x6 : H5.rwCells (H.size + 1) = some [.sl none 0 0 true 0, .sl none 0 0 true 0, .int .i64 0, .bool false] := hH5.rwCells (by simp (maxSteps := 2000000) (disch := first | omega | assumption | exact idP rfl | exact idP (bL rfl) | (simp only [alloc_size, upd_size] <;> omega) | fail) only [go_sem, reduceIte, Nat.reduceEqDiff, u6])
        have hHU : Le H (H3.upd H.size (.cells [fl, p, .int .i64 ((d : Int) + 1), .bool false] true)) := hH2.updFresh (Nat.le_refl _)
        have hH05 : Le H H5 := hHU.trans hH5
        have hsz5 : H3.size ≤ H5.size := hH5.1
        have hsB : (B.pad H3.size).size = H3.size := pad_size _ _
        have hBp5 : Le (B.pad H3.size) (base H5 p) := pad_le (hp.1.trans (base_mono hH05 p)) (by rw [base_size]; exact hsz5)
        have hB5 : Le ((B.pad H3.size).over H5) (base H5 p) := over_le hBp5 base_size.symm fun b hb => base_blk (apart_fresh hown (by have := hH2.1; omega))
        have hnd5 : Nd (B.pad H3.size) ((B.pad H3.size).over H5) := over_nd (by omega)
        have hp5 : PL ((B.pad H3.size).over H5) H5 p P := (hp.le hH05).at (hnd.trans hnd5).1 hB5
        have hci : IsI ((B.pad H3.size).over H5) c1 (g ++ [-(a : Int)]) := by
          have h1 : Own 1 H5 c1 ((g ++ [-(a : Int)]).map (AV.int .i64)) := by
            have e : (0 : Int) - (a : Int) = -(a : Int) := by omega
            rw [List.map_append, ← e]; exact hc1
          exact (h1.later hnc1).isI.le (later_over (B.pad H3.size) H5)
        simp (maxSteps := 2000000) (disch := first | omega | assumption | exact idP rfl | exact idP (bL rfl) | (simp only [alloc_size, upd_size] <;> omega) | fail) only [go_sem, reduceIte, Nat.reduceEqDiff, n0, n1, n2, n3]
        have hd1 : ((d : Int) + 1) = ((d + 1 : Nat) : Int) := by omega
        rw [hd1]
        refine (ih (B := (B.pad H3.size).over H5) (H := H5) (k := a) (by omega) han hlow1 rfl (hfl.le (hnd.trans hnd5).1) hci hp5 hP (by simp; omega)).mono ?_
        rintro r H6 ⟨res1, P1, d1, p1, w1, ok1, ct1, B6, htry1, rfl, hnd6, hle6, hap1, ho1, how1, hno1, hcut1, hsat1⟩
        have y3 : (base H6 p1).rwCells H.size = some [fl, p, .int .i64 ((d : Int) + 1), .bool false] := hle6.rwCells (base_rw a3 x3)
        have y6 : (base H6 p1).rwCells (H.size + 1) = some [.sl none 0 0 true 0, .sl none 0 0 true 0, .int .i64 0, .bool false] := hle6.rwCells (base_rw a6 x6)
        have z6 := (base_le H6 p1).rwCells y6
        have hsz6 := (Heap.rwCells_blk z6).1
        have hof1 := hof.1
        have hndB6 := (hnd.trans hnd5).trans hnd6
        have q6 := apart_of y6
        have hdead : ∀ b, H.size ≤ b → b < H3.size → B6.blk b = .dead := fun b h1 h2 => hnd6.2 b (Nat.lt_of_lt_of_le h2 hsz5) (hnd5.2 b (by rw [hsB]; exact h2) (pad_dead (by omega)))
        have fin1 : ∀ (c4 d4 : List AV), Le (base H p) (base (((H6.alloc c4).upd H6.size (.cells d4 true)).upd (H.size + 1) (.cells d4 true)) p1) := by
          intro c4 d4
          rw [base_upd q6, base_upd (hap1 _ (Nat.le_refl _))]
          exact ((((base_mono hH05 p).trans hle6).trans (base_mono (Le.alloc _ _) p1)).updFresh (by rw [base_size]; omega)).updFresh (by rw [base_size]; omega)
        simp (maxSteps := 2000000) (disch := first | omega | assumption | exact idP rfl | exact idP (bL rfl) | (simp only [alloc_size, upd_size] <;> omega) | fail) only [go_sem, reduceIte, Nat.reduceEqDiff]
        cases res1 with
        | sat m1 =>
          obtain ⟨rfl, rfl, hpl, hwi⟩ := hsat1 m1 rfl
          have ho1' := hpl.one
          simp (maxSteps := 2000000) (disch := first | omega | assumption | exact idP rfl | exact idP (bL rfl) | (simp only [alloc_size, upd_size] <;> omega) | fail) only [go_sem, reduceIte, Nat.reduceEqDiff, z6]
          refine hR _ _ ⟨.sat m1, P1, d1, p1, w1, true, false, B6, .left hforce hnext ha0 htry1 (by intro h; cases h), rfl, hndB6, fin1 _ _, fun b hb => hap1 b (Nat.le_trans (Nat.le_succ _) hb), ho1, how1, fun h => (by cases h), fun h => (by cases h), fun m' h => ?_⟩
          cases h
          exact ⟨rfl, rfl, ((hpl.le (Le.alloc _ _)).updFresh (hap1 _ (Nat.le_refl _)) (by have := hpl.1.1; rw [base_size] at this; exact this)).upd q6 (hdead _ (by omega) (by omega)), hwi⟩
        | cut =>
          obtain ⟨rfl, rfl, rfl⟩ := hcut1 rfl
          have hc1 : cellsOf p1 = some [p1] := by cases p1 <;> first | rfl | cases ho1
          simp (maxSteps := 2000000) (disch := first | omega | assumption | exact idP rfl | exact idP (bL rfl) | (simp only [alloc_size, upd_size] <;> omega) | fail) only [go_sem, reduceIte, Nat.reduceEqDiff, z6, hc1]
          exact hR _ _ ⟨.cut, P1, d1, p1, _, false, true, B6, .left hforce hnext ha0 htry1 (by intro h; cases h), rfl, hndB6, fin1 _ _, fun b hb => hap1 b (Nat.le_trans (Nat.le_succ _) hb), ho1, how1, fun h => (by cases h), fun _ => ⟨rfl, rfl, rfl⟩, fun m' h => (by cases h)⟩
        | no =>
          obtain ⟨rfl, rfl, hpl, hlen1, hd1', _⟩ := hno1 rfl
          have hgl1 : (g ++ [-(a : Int)]).length = g.length + 1 := by simp
          have hdl1 : d1 ≤ 1400 := by omega
          have hpo1 := hpl.one
          have hB6s : B6.size ≤ H6.size := by have := hpl.1.1; rw [base_size] at this; exact this
          have z3 := (base_le H6 p1).rwCells y3
          have hsz3 := (Heap.rwCells_blk z3).1
          have q3 := apart_of y3
          have q11 := hap1 _ (Nat.le_refl H6.size)
          obtain ⟨pc1, hown1, _⟩ := hpl.own
          simp (maxSteps := 2000000) (disch := first | omega | assumption | exact idP rfl | exact idP (bL rfl) | (simp only [alloc_size, upd_size] <;> omega) | fail) only [go_sem, reduceIte, Nat.reduceEqDiff]
          have hB7 : Le B6 ((H6.alloc [.sl none 0 0 true 0, .sl none 0 0 true 0, .int .i64 0, .bool false]).upd H6.size (.cells [fl, p1, .int .i64 (d1 : Int), .bool false] true)) := ((hpl.1.trans (base_le H6 p1)).allocs).updFresh hB6s
          refine (s_l3Copy ((hgv.le hndB6.1).le hB7) (by omega)).mono ?_
          rintro c2 H8 ⟨hc2, hle8, hnc2⟩
          have hH8 := hle8.trans (base_le _ _)
          have v11 : H8.rwCells H6.size = some [fl, p1, .int .i64 (d1 : Int), .bool false] := hH8.rwCells (by simp (maxSteps := 2000000) (disch := first | omega | assumption | exact idP rfl | exact idP (bL rfl) | (simp only [alloc_size, upd_size] <;> omega) | fail) only [go_sem, reduceIte, Nat.reduceEqDiff])
          have m0 : H8.get H6.size 0 = some fl := by obtain ⟨q1, q2⟩ := Heap.rwCells_blk v11; exact Rd.blk q1 q2 0 fl rfl
          have m1 : H8.get H6.size 1 = some p1 := by obtain ⟨q1, q2⟩ := Heap.rwCells_blk v11; exact Rd.blk q1 q2 1 p1 rfl
          have m2 : H8.get H6.size 2 = some (.int .i64 (d1 : Int)) := by obtain ⟨q1, q2⟩ := Heap.rwCells_blk v11; exact Rd.blk q1 q2 2 _ rfl
          have m3 : H8.get H6.size 3 = some (.bool false) := by obtain ⟨q1, q2⟩ := Heap.rwCells_blk v11; exact Rd.blk q1 q2 3 _ rfl
          simp (maxSteps := 2000000) (disch := first | omega | assumption | exact idP rfl | exact idP (bL rfl) | (simp only [alloc_size, upd_size] <;> omega) | fail) only [go_sem, reduceIte, Nat.reduceEqDiff, m0, m1, m2, m3]
          refine app1 hc2 hle8 hnc2 rfl (by simp; omega) (by omega) ?_
          intro c3 H9 hc3 hle9 hnc3 _
          have hH9 := hle9.trans (base_le _ _)
          have x11 : H9.rwCells H6.size = some [fl, p1, .int .i64 (d1 : Int), .bool false] := hH9.rwCells (by simp (maxSteps := 2000000) (disch := first | omega | assumption | exact idP rfl | exact idP (bL rfl) | (simp only [alloc_size, upd_size] <;> omega) | fail) only [go_sem, reduceIte, Nat.reduceEqDiff])
          have n0 : H9.get H6.size 0 = some fl := by obtain ⟨q1, q2⟩ := Heap.rwCells_blk x11; exact Rd.blk q1 q2 0 fl rfl
          have n1 : H9.get H6.size 1 = some p1 := by obtain ⟨q1, q2⟩ := Heap.rwCells_blk x11; exact Rd.blk q1 q2 1 p1 rfl
          have n2 : H9.get H6.size 2 = some (.int .i64 (d1 : Int)) := by obtain ⟨q1, q2⟩ := Heap.rwCells_blk x11; exact Rd.blk q1 q2 2 _ rfl
          have n3 : H9.get H6.size 3 = some (.bool false) := by obtain ⟨q1, q2⟩ := Heap.rwCells_blk x11; exact Rd.blk q1 q2 3 _ rfl
          simp (maxSteps := 2000000) (disch := first | omega | assumption | exact idP rfl | exact idP (bL rfl) | (simp only [alloc_size, upd_size] <;> omega) | fail) only [go_sem, reduceIte, Nat.reduceEqDiff, n0, n1, n2, n3]
          have hL69 : Le H6 H9 := ((Le.alloc H6 _).updFresh (Nat.le_refl _)).trans hH9
          have hsz9 : H6.size + 1 ≤ H9.size := hH9.1
          have hsB7 : (B6.pad (H6.size + 1)).size = H6.size + 1 := pad_size _ _
          have hndp : Nd B6 (B6.pad (H6.size + 1)) := pad_nd (by omega)
          have hBp9 : Le (B6.pad (H6.size + 1)) (base H9 p1) := pad_le (hpl.1.trans (base_mono hL69 p1)) (by rw [base_size]; exact hsz9)
          have hB9 : Le ((B6.pad (H6.size + 1)).over H9) (base H9 p1) := over_le hBp9 base_size.symm fun b hb => base_blk (apart_fresh hown1 (by omega))
          have hnd9 : Nd (B6.pad (H6.size + 1)) ((B6.pad (H6.size + 1)).over H9) := over_nd (by omega)
          have hp9 := (hpl.le hL69).at (hndp.trans hnd9).1 hB9
          have hci3 : IsI ((B6.pad (H6.size + 1)).over H9) c3 (g ++ [(a : Int)]) := by
            have h1 : Own 1 H9 c3 ((g ++ [(a : Int)]).map (AV.int .i64)) := by rw [List.map_append]; exact hc3
            have h2 : newer (H6.size + 1) c3 := hnc3
            have := later_over (B6.pad (H6.size + 1)) H9
            rw [hsB7] at this
            exact (h1.later h2).isI.le this
          refine (ih (B := (B6.pad (H6.size + 1)).over H9) (H := H9) (k := a) (by omega) han hlow2 rfl (hfl.le ((hndB6.trans hndp).trans hnd9).1) hci3 hp9 hlen1 (by simp; omega)).mono ?_
          rintro r H10 ⟨res2, P2, d2, p2, w2, ok2, ct2, B10, htry2, rfl, hnd10, hle10, hap2, ho2, how2, hno2, hcut2, hsat2⟩
          have hLb : Le (base H6 p1) (base H10 p2) := (base_mono hL69 p1).trans hle10
          have yy3 := hLb.rwCells y3
          have yy6 := hLb.rwCells y6
          have zz3 := (base_le H10 p2).rwCells yy3
          have zz6 := (base_le H10 p2).rwCells yy6
          have hsz63 := (Heap.rwCells_blk zz6).1
          have hsz33 := (Heap.rwCells_blk zz3).1
          have qq3 := apart_of yy3
          have qq6 := apart_of yy6
          have hndB10 := ((hndB6.trans hndp).trans hnd9).trans hnd10
          have hdead2 : ∀ b, H.size ≤ b → b < H3.size → B10.blk b = .dead := fun b h1 h2 => by
            have e6 := hdead b h1 h2
            have hb6 : b < B6.size := Nat.lt_of_lt_of_le h2 (Nat.le_trans hsz5 hnd6.1.1)
            exact ((hndp.trans hnd9).trans hnd10).2 b hb6 e6
          have hLe10 : Le (base H p) (base H10 p2) := ((base_mono hH05 p).trans hle6).trans hLb
          have fin2 : ∀ (c4 d4 : List AV), Le (base H p) (base (((H10.alloc c4).upd H10.size (.cells d4 true)).upd (H.size + 1) (.cells d4 true)) p2) := by
            intro c4 d4
            rw [base_upd qq6, base_upd (hap2 _ (Nat.le_refl _))]
            exact ((hLe10.trans (base_mono (Le.alloc _ _) p2)).updFresh (by rw [base_size]; omega)).updFresh (by rw [base_size]; omega)
          simp (maxSteps := 2000000) (disch := first | omega | assumption | exact idP rfl | exact idP (bL rfl) | (simp only [alloc_size, upd_size] <;> omega) | fail) only [go_sem, reduceIte, Nat.reduceEqDiff]
          cases res2 with
          | sat m2 =>
            obtain ⟨rfl, rfl, hpl2, hwi2⟩ := hsat2 m2 rfl
            have ho2' := hpl2.one
            simp (maxSteps := 2000000) (disch := first | omega | assumption | exact idP rfl | exact idP (bL rfl) | (simp only [alloc_size, upd_size] <;> omega) | fail) only [go_sem, reduceIte, Nat.reduceEqDiff, zz6]
            refine hR _ _ ⟨.sat m2, P2, d2, p2, w2, true, false, B10, .right hforce hnext ha0 htry1 htry2 (by intro h; cases h), rfl, hndB10, fin2 _ _, fun b hb => hap2 b (Nat.le_trans (Nat.le_succ _) hb), ho2, how2, fun h => (by cases h), fun h => (by cases h), fun m' h => ?_⟩
            cases h
            exact ⟨rfl, rfl, ((hpl2.le (Le.alloc _ _)).updFresh (hap2 _ (Nat.le_refl _)) (by have := hpl2.1.1; rw [base_size] at this; exact this)).upd qq6 (hdead2 _ (by omega) (by omega)), hwi2⟩
          | cut =>
            obtain ⟨rfl, rfl, rfl⟩ := hcut2 rfl
            have hc2' : cellsOf p2 = some [p2] := by cases p2 <;> first | rfl | cases ho2
            simp (maxSteps := 2000000) (disch := first | omega | assumption | exact idP rfl | exact idP (bL rfl) | (simp only [alloc_size, upd_size] <;> omega) | fail) only [go_sem, reduceIte, Nat.reduceEqDiff, zz6, hc2']
            exact hR _ _ ⟨.cut, P2, d2, p2, _, false, true, B10, .right hforce hnext ha0 htry1 htry2 (by intro h; cases h), rfl, hndB10, fin2 _ _, fun b hb => hap2 b (Nat.le_trans (Nat.le_succ _) hb), ho2, how2, fun h => (by cases h), fun _ => ⟨rfl, rfl, rfl⟩, fun m' h => (by cases h)⟩
          | no =>
            obtain ⟨rfl, rfl, hpl2, hlen2, hd2', _⟩ := hno2 rfl
            have ho2' := hpl2.one
            have hb10 : B10.size ≤ H10.size := by have := hpl2.1.1; rw [base_size] at this; exact this
            have hs3b : H3.size ≤ B10.size := Nat.le_trans (Nat.le_trans hsz5 hnd6.1.1) ((hndp.trans hnd9).trans hnd10).1.1
            have hndq : Nd B10 (B10.pad (H10.size + 1)) := pad_nd (by omega)
            simp (maxSteps := 2000000) (disch := first | omega | assumption | exact idP rfl | exact idP (bL rfl) | (simp only [alloc_size, upd_size] <;> omega) | fail) only [go_sem, reduceIte, Nat.reduceEqDiff, zz3]
            refine wp_seq'.mp (try_leaf (B := B10.pad (H10.size + 1)) (c6 := [.sl none 0 0 true 0, .sl none 0 0 true 0, .int .i64 0, .bool false]) (p := p2) (d := d2) (t3 := H.size) (t6 := H.size + 1) hn hlow.asc hlow.lits (by omega) hlen2 hof.1 ?_ ?_ ?_ ?_ (by omega) rfl rfl (hndq.2 _ (by omega) (hdead2 _ (by omega) (by omega))) (hndq.2 _ (by omega) (hdead2 _ (by omega) (by omega))) (base_rw qq3 (by simp (maxSteps := 2000000) (disch := first | omega | assumption | exact idP rfl | exact idP (bL rfl) | (simp only [alloc_size, upd_size] <;> omega) | fail) only [go_sem, reduceIte, Nat.reduceEqDiff])) (base_rw qq6 (by simp (maxSteps := 2000000) (disch := first | omega | assumption | exact idP rfl | exact idP (bL rfl) | (simp only [alloc_size, upd_size] <;> omega) | fail) only [go_sem, reduceIte, Nat.reduceEqDiff, zz6])) ?_ (hgv.le (hndB10.trans hndq).1) ?_)
            · simp (maxSteps := 2000000) (disch := first | omega | assumption | exact idP rfl | exact idP (bL rfl) | (simp only [alloc_size, upd_size] <;> omega) | fail) only [go_sem, reduceIte, Nat.reduceEqDiff]
            · simp (maxSteps := 2000000) (disch := first | omega | assumption | exact idP rfl | exact idP (bL rfl) | (simp only [alloc_size, upd_size] <;> omega) | fail) only [go_sem, reduceIte, Nat.reduceEqDiff]
            · simp (maxSteps := 2000000) (disch := first | omega | assumption | exact idP rfl | exact idP (bL rfl) | (simp only [alloc_size, upd_size] <;> omega) | fail) only [go_sem, reduceIte, Nat.reduceEqDiff]
            · simp (maxSteps := 2000000) (disch := first | omega | assumption | exact idP rfl | exact idP (bL rfl) | (simp only [alloc_size, upd_size] <;> omega) | fail) only [go_sem, reduceIte, Nat.reduceEqDiff]
            · have hplu := ((hpl2.le (Le.alloc H10 [.sl none 0 0 true 0, .sl none 0 0 true 0, .int .i64 0, .bool false])).updFresh (x := .cells [fl, p2, .int .i64 (d2 : Int), .bool false] true) (hap2 _ (Nat.le_refl _)) hb10).upd (x := .cells [fl, p2, .int .i64 (d2 : Int), .bool false] true) qq3 (hdead2 _ (by omega) (by omega))
              exact hplu.at hndq.1 (pad_le hplu.1 (by rw [base_size]; exact Nat.le_refl _))
            · intro B' H' p' hn' hp' hle'
              have hap' : ∀ b, H'.size ≤ b → apart b p' := fun b hb => by obtain ⟨_, q, _⟩ := hp'.own; exact apart_fresh q hb
              have hLz : Le (base H p) (base H' p') := by
                refine Le.trans ?_ hle'
                rw [base_upd qq3, base_upd (hap2 _ (Nat.le_refl _))]
                exact ((((hLe10.trans (base_mono (Le.alloc _ _) p2)).updFresh (by rw [base_size]; omega)).updFresh (by rw [base_size]; exact Nat.le_refl _)).killFresh (by rw [base_size]; exact Nat.le_refl _)).killFresh (by rw [base_size]; omega)
              by_cases h6 : P2.length = 600
              · refine hR _ _ ⟨.cut, P2, d2, p', _, _, _, B', .bothC hforce hnext ha0 htry1 htry2 h6, rfl, (hndB10.trans hndq).trans hn', hLz, hap', hp'.one.1, rfl, fun h => (by cases h), fun _ => ⟨?_, rfl, rfl⟩, fun m h => (by cases h)⟩
                simp [h6]
              · refine hR _ _ ⟨.no, _, d2, p', _, _, _, B', .bothN hforce hnext ha0 htry1 htry2 h6, rfl, (hndB10.trans hndq).trans hn', hLz, hap', hp'.one.1, rfl, fun _ => ⟨?_, rfl, hp', ?_, ?_, rfl⟩, fun h => (by cases h), fun m h => (by cases h)⟩
                · simp; omega
                · simp; omega
                · simp at hd2' ⊢; omega
end Go.M2

namespace Go.M2
open Go.Proofs
variable {H : Heap}
theorem clOk_lits {n : Nat} {xs : List Int} (h : ClOk (n : Int) xs) : Lits n xs := by
  intro x hx
  obtain ⟨i, hi, rfl⟩ := List.getElem_of_mem hx
  have := litOk_iff.1 (h i hi).1
  omega
def SearchPost (cl : List (List Int)) (n : Nat) (H : Heap) (r : AV) (H' : Heap) : Prop :=
  ∃ (res : Res) (P' : List (List Int)) (d' : Nat) (fl p' w : AV) (ok ct : Bool) (B' : Heap), Try cl n [] [] 0 res P' d' ∧ r = .tup [.agg [fl, p', .int .i64 (d' : Int), .bool ct], w, .bool ok] ∧ Le H H' ∧ oneA fl = true ∧ oneA p' = true ∧ oneA w = true ∧
    (res = .no → ct = false ∧ ok = false ∧ PL B' H' p' P' ∧ w = .sl none 0 0 true 0) ∧ (res = .cut → ct = true ∧ ok = false ∧ w = .sl none 0 0 true 0) ∧ (∀ m, res = .sat m → ct = false ∧ ok = true ∧ IsI B' w ((m.drop 1).map valF) ∧ Le B' (base H' p'))
theorem s_l12Search {x : AV} {n : Nat} {xss : List (List Int)} (hx : IsCl H x (n : Int) xss) (hok : ClsOk (n : Int) xss) (hl : xss.length ≤ 1048576) (hxl : ∀ xs ∈ xss, xs.length ≤ 1048576) :
    ACall Try.prog n_Z68 [x] H (SearchPost xss n H) := by
  refine ACall.of fun R hR => a_Z68 rfl ?_
  obtain ⟨fl, rfl, hv⟩ := hx
  have hof := oneA_isS hv
  have hof1 := hof.1
  have hn := hok.hi
  simp (maxSteps := 2000000) (disch := first | omega | assumption | exact idP rfl | exact idP (bL rfl) | (simp only [alloc_size, upd_size] <;> omega) | fail) only [go_sem, reduceIte, Nat.reduceEqDiff, hof.2]
  have hH3 : Le H (((H.alloc [.int .i64 (n : Int), fl]).alloc [.sl none 0 0 true 0, .sl none 0 0 true 0, .int .i64 0, .bool false]).alloc []) := (Le.refl _).allocs.allocs.allocs
  have hnp : Nd H (H.pad (H.size + 1 + 1 + 1)) := pad_nd (by omega)
  have hpl : PL (H.pad (H.size + 1 + 1 + 1)) (((H.alloc [.int .i64 (n : Int), fl]).alloc [.sl none 0 0 true 0, .sl none 0 0 true 0, .int .i64 0, .bool false]).alloc []) (.sl none 0 0 true 0) [] :=
    ⟨pad_le hH3 (Nat.le_refl _), [], Own.nil, rfl, fun i h => by simp at h⟩
  refine (s_l12Try (n := n) (xss := xss) (by omega) hl hxl (fun xs h => clOk_lits (hok.all xs h)) (n + 1) (B := H.pad (H.size + 1 + 1 + 1)) (H := ((H.alloc [.int .i64 (n : Int), fl]).alloc [.sl none 0 0 true 0, .sl none 0 0 true 0, .int .i64 0, .bool false]).alloc []) (g := []) (P := []) (d := 0) (k := 0) (by omega) (by omega) (Low.nil _ _) rfl (hv.le hnp.1) ⟨_, 0, true, 1, rfl, fun i h => by simp at h⟩ hpl (by simp) (by simp)).mono ?_
  rintro r H4 ⟨res, P', d', p', w, ok, ct, B', htry, rfl, hnd, hle, hap, ho1, how, hno, hcut, hsat⟩
  have hle' : Le (((H.alloc [.int .i64 (n : Int), fl]).alloc [.sl none 0 0 true 0, .sl none 0 0 true 0, .int .i64 0, .bool false]).alloc []) (base H4 p') := hle
  have z2b : (base H4 p').rwCells (H.size + 1) = some [.sl none 0 0 true 0, .sl none 0 0 true 0, .int .i64 0, .bool false] := hle'.rwCells (by simp (maxSteps := 2000000) (disch := first | omega | assumption | exact idP rfl | exact idP (bL rfl) | (simp only [alloc_size, upd_size] <;> omega) | fail) only [go_sem, reduceIte, Nat.reduceEqDiff])
  have q2 := apart_of z2b
  have z2 := (base_le H4 p').rwCells z2b
  have hsz := (Heap.rwCells_blk z2).1
  have hc1 : cellsOf p' = some [p'] := by cases p' <;> first | rfl | cases ho1
  have hd2 : B'.blk (H.size + 1) = .dead := hnd.2 _ (by rw [pad_size]; omega) (pad_dead (by omega))
  simp (maxSteps := 2000000) (disch := first | omega | assumption | exact idP rfl | exact idP (bL rfl) | (simp only [alloc_size, upd_size] <;> omega) | fail) only [go_sem, reduceIte, Nat.reduceEqDiff, z2, hc1]
  refine hR _ _ ⟨res, P', d', fl, p', w, ok, ct, B', htry, rfl, ((hH3.trans (hle'.trans (base_le _ _))).updFresh (by omega)), hof1, ho1, how, fun h => ?_, hcut, fun m h => ?_⟩
  · obtain ⟨h1, h2, h3, _, _, h4⟩ := hno h
    exact ⟨h1, h2, h3.upd q2 hd2, h4⟩
  · obtain ⟨h1, h2, h3, h4⟩ := hsat m h
    exact ⟨h1, h2, h4, (h3.upd q2 hd2).1⟩
end Go.M2

namespace Go.M2
open Go.Proofs
variable {H : Heap}
end Go.M2

namespace Go.M2
open Go.Proofs
variable {H : Heap}
def cmpI (a b : Int) : Int := if a < b then -1 else if b < a then 1 else 0
theorem s_isNaN {a : Int} : ACall Try.prog n_Z2 [.int .i64 a] H (fun r H' => H' = H ∧ r = .bool false) := by
  refine ACall.of fun R hR => a_Z2 rfl ?_
  simp (maxSteps := 2000000) (disch := first | omega | assumption | exact idP rfl | exact idP (bL rfl) | (simp only [alloc_size, upd_size] <;> omega) | fail) only [go_sem, reduceIte, Nat.reduceEqDiff]
  exact hR _ _ ⟨rfl, rfl⟩
theorem s_Compare {a b : Int} : ACall Try.prog n_Z0 [.int .i64 a, .int .i64 b] H (fun r H' => H' = H ∧ r = .int .i64 (cmpI a b)) := by
  refine ACall.of fun R hR => a_Z0 rfl ?_
  simp (maxSteps := 2000000) (disch := first | omega | assumption | exact idP rfl | exact idP (bL rfl) | (simp only [alloc_size, upd_size] <;> omega) | fail) only [go_sem, reduceIte, Nat.reduceEqDiff]
  refine s_isNaN.mono ?_
  rintro r H1 ⟨rfl, rfl⟩
  simp (maxSteps := 2000000) (disch := first | omega | assumption | exact idP rfl | exact idP (bL rfl) | (simp only [alloc_size, upd_size] <;> omega) | fail) only [go_sem, reduceIte, Nat.reduceEqDiff]
  refine s_isNaN.mono ?_
  rintro r H2 ⟨rfl, rfl⟩
  by_cases h : a < b
  · simp (maxSteps := 2000000) (disch := first | omega | assumption | exact idP rfl | exact idP (bL rfl) | (simp only [alloc_size, upd_size] <;> omega) | fail) only [go_sem, reduceIte, Nat.reduceEqDiff, h]
    exact hR _ _ ⟨rfl, by simp [cmpI, h]⟩
  · by_cases h2 : b < a
    · simp (maxSteps := 2000000) (disch := first | omega | assumption | exact idP rfl | exact idP (bL rfl) | (simp only [alloc_size, upd_size] <;> omega) | fail) only [go_sem, reduceIte, Nat.reduceEqDiff, h, h2]
      exact hR _ _ ⟨rfl, by simp [cmpI, h, h2]⟩
    · simp (maxSteps := 2000000) (disch := first | omega | assumption | exact idP rfl | exact idP (bL rfl) | (simp only [alloc_size, upd_size] <;> omega) | fail) only [go_sem, reduceIte, Nat.reduceEqDiff, h, h2]
      exact hR _ _ ⟨rfl, by simp [cmpI, h, h2]⟩
theorem s_Or2 {b : Nat} {x y : Int} (hx : H.get b 0 = some (.int .i64 x)) (hy : H.get b 1 = some (.int .i64 y)) : ACall Try.prog n_Z1 [.sl (some (b, 0)) 2 2 true 1] H (fun r H' => H' = H ∧ r = .int .i64 (if x ≠ 0 then x else y)) := by
  refine ACall.of fun R hR => a_Z1 rfl ?_
  simp (maxSteps := 2000000) (disch := first | omega | assumption | exact idP rfl | exact idP (bL rfl) | (simp only [alloc_size, upd_size] <;> omega) | fail) only [go_sem, reduceIte, Nat.reduceEqDiff]
  refine wp_loop_k (fun e H' => H' = H ∧ ∃ (i : Nat), i ≤ 2 ∧ e 3 = .int .i64 0 ∧ e 6 = .sl (some (b, 0)) 2 2 true 1 ∧ e 7 = .int .i64 ((2 : Nat) : Int) ∧ e 8 = .int .i64 (i : Int) ∧ (1 ≤ i → x = 0) ∧ (2 ≤ i → y = 0)) (fun e _ => ctr 2 (e 8)) ?_ ?_
  · exact ⟨rfl, 0, by omega, by simp (maxSteps := 2000000) (disch := first | omega | assumption | exact idP rfl | exact idP (bL rfl) | (simp only [alloc_size, upd_size] <;> omega) | fail) only [go_sem, reduceIte, Nat.reduceEqDiff], by simp (maxSteps := 2000000) (disch := first | omega | assumption | exact idP rfl | exact idP (bL rfl) | (simp only [alloc_size, upd_size] <;> omega) | fail) only [go_sem, reduceIte, Nat.reduceEqDiff], by simp (maxSteps := 2000000) (disch := first | omega | assumption | exact idP rfl | exact idP (bL rfl) | (simp only [alloc_size, upd_size] <;> omega) | fail) only [go_sem, reduceIte, Nat.reduceEqDiff], by simp (maxSteps := 2000000) (disch := first | omega | assumption | exact idP rfl | exact idP (bL rfl) | (simp only [alloc_size, upd_size] <;> omega) | fail) only [go_sem, reduceIte, Nat.reduceEqDiff]; rfl, by omega, by omega⟩
  · rintro e H1 ⟨rfl, i, hi, e3, e6, e7, e8, h1, h2⟩ K hK
    simp (maxSteps := 2000000) (disch := first | omega | assumption | exact idP rfl | exact idP (bL rfl) | (simp only [alloc_size, upd_size] <;> omega) | fail) only [go_sem, reduceIte, Nat.reduceEqDiff, e7, e8]
    refine condV_dec (fun h => ?_) (fun h => ?_)
    · obtain ⟨z, hz, hz2⟩ : ∃ z, H1.get b i = some (.int .i64 z) ∧ (i = 0 → z = x) ∧ (i = 1 → z = y) := by
        rcases (show i = 0 ∨ i = 1 by omega) with rfl | rfl
        · exact ⟨x, hx, fun _ => rfl, fun h => by omega⟩
        · exact ⟨y, hy, fun h => by omega, fun _ => rfl⟩
      simp (maxSteps := 2000000) (disch := first | omega | assumption | exact idP rfl | exact idP (bL rfl) | (simp only [alloc_size, upd_size] <;> omega) | fail) only [go_sem, reduceIte, Nat.reduceEqDiff, e3, e6, e8, hz]
      by_cases hz0 : z = 0
      · simp (maxSteps := 2000000) (disch := first | omega | assumption | exact idP rfl | exact idP (bL rfl) | (simp only [alloc_size, upd_size] <;> omega) | fail) only [go_sem, reduceIte, Nat.reduceEqDiff, hz0, e8]
        exact hK _ _ ⟨rfl, i + 1, by omega, by simp (maxSteps := 2000000) (disch := first | omega | assumption | exact idP rfl | exact idP (bL rfl) | (simp only [alloc_size, upd_size] <;> omega) | fail) only [go_sem, reduceIte, Nat.reduceEqDiff, e3], by simp (maxSteps := 2000000) (disch := first | omega | assumption | exact idP rfl | exact idP (bL rfl) | (simp only [alloc_size, upd_size] <;> omega) | fail) only [go_sem, reduceIte, Nat.reduceEqDiff, e6], by simp (maxSteps := 2000000) (disch := first | omega | assumption | exact idP rfl | exact idP (bL rfl) | (simp only [alloc_size, upd_size] <;> omega) | fail) only [go_sem, reduceIte, Nat.reduceEqDiff, e7], by simp (maxSteps := 2000000) (disch := first | omega | assumption | exact idP rfl | exact idP (bL rfl) | (simp only [alloc_size, upd_size] <;> omega) | fail) only [go_sem, reduceIte, Nat.reduceEqDiff]; rfl, fun _ => by
          by_cases h0 : i = 0
          · rw [← hz2.1 h0]; exact hz0
          · exact h1 (by omega), fun _ => by rw [← hz2.2 (by omega)]; exact hz0⟩ (by simp (maxSteps := 2000000) (disch := first | omega | assumption | exact idP rfl | exact idP (bL rfl) | (simp only [alloc_size, upd_size] <;> omega) | fail) only [go_sem, reduceIte, Nat.reduceEqDiff, ctr_int, e8]; omega)
      · simp (maxSteps := 2000000) (disch := first | omega | assumption | exact idP rfl | exact idP (bL rfl) | (simp only [alloc_size, upd_size] <;> omega) | fail) only [go_sem, reduceIte, Nat.reduceEqDiff, hz0]
        refine hR _ _ ⟨rfl, ?_⟩
        rcases (show i = 0 ∨ i = 1 by omega) with rfl | rfl
        · obtain rfl := hz2.1 rfl; simp [hz0]
        · obtain rfl := hz2.2 rfl; simp [h1 (by omega)]
    · simp (maxSteps := 2000000) (disch := first | omega | assumption | exact idP rfl | exact idP (bL rfl) | (simp only [alloc_size, upd_size] <;> omega) | fail) only [go_sem, reduceIte, Nat.reduceEqDiff, e3]
      exact hR _ _ ⟨rfl, by simp [h1 (by omega), h2 (by omega)]⟩
def cmpL (a b : Int) : Int := if cmpI a.natAbs b.natAbs ≠ 0 then cmpI a.natAbs b.natAbs else cmpI a b
theorem s_clauseOf1 {a b : Int} (ha : -9223372036854775808 < a ∧ a ≤ 9223372036854775807) (hb : -9223372036854775808 < b ∧ b ≤ 9223372036854775807) :
    ACall Try.prog n_Z12_1 [.int .i64 a, .int .i64 b] H (fun r H' => Le H H' ∧ r = .int .i64 (cmpL a b)) := by
  refine ACall.of fun R hR => a_Z12_1 rfl ?_
  simp (maxSteps := 2000000) (disch := first | omega | assumption | exact idP rfl | exact idP (bL rfl) | (simp only [alloc_size, upd_size] <;> omega) | fail) only [go_sem, reduceIte, Nat.reduceEqDiff]
  refine (s_atomOf ha.1 ha.2).mono ?_
  rintro r H1 ⟨rfl, rfl⟩
  simp (maxSteps := 2000000) (disch := first | omega | assumption | exact idP rfl | exact idP (bL rfl) | (simp only [alloc_size, upd_size] <;> omega) | fail) only [go_sem, reduceIte, Nat.reduceEqDiff]
  refine (s_atomOf hb.1 hb.2).mono ?_
  rintro r H2 ⟨rfl, rfl⟩
  simp (maxSteps := 2000000) (disch := first | omega | assumption | exact idP rfl | exact idP (bL rfl) | (simp only [alloc_size, upd_size] <;> omega) | fail) only [go_sem, reduceIte, Nat.reduceEqDiff]
  refine s_Compare.mono ?_
  rintro r H3 ⟨rfl, rfl⟩
  simp (maxSteps := 2000000) (disch := first | omega | assumption | exact idP rfl | exact idP (bL rfl) | (simp only [alloc_size, upd_size] <;> omega) | fail) only [go_sem, reduceIte, Nat.reduceEqDiff]
  refine s_Compare.mono ?_
  rintro r H4 ⟨rfl, rfl⟩
  have z2 : zeros [.int .i64 0] 2 = [.int .i64 0, .int .i64 0] := rfl
  simp (maxSteps := 2000000) (disch := first | omega | assumption | exact idP rfl | exact idP (bL rfl) | (simp only [alloc_size, upd_size] <;> omega) | fail) only [go_sem, reduceIte, Nat.reduceEqDiff, z2]
  refine (s_Or2 (x := cmpI (a.natAbs : Int) (b.natAbs : Int)) (y := cmpI a b) (by simp (maxSteps := 2000000) (disch := first | omega | assumption | exact idP rfl | exact idP (bL rfl) | (simp only [alloc_size, upd_size] <;> omega) | fail) only [go_sem, reduceIte, Nat.reduceEqDiff]) (by simp (maxSteps := 2000000) (disch := first | omega | assumption | exact idP rfl | exact idP (bL rfl) | (simp only [alloc_size, upd_size] <;> omega) | fail) only [go_sem, reduceIte, Nat.reduceEqDiff])).mono ?_
  rintro r H5 ⟨rfl, rfl⟩
  simp (maxSteps := 2000000) (disch := first | omega | assumption | exact idP rfl | exact idP (bL rfl) | (simp only [alloc_size, upd_size] <;> omega) | fail) only [go_sem, reduceIte, Nat.reduceEqDiff]
  exact hR _ _ ⟨Le.alloc _ _, rfl⟩
theorem app_full {by_ n k : Nat} {A : AA} {xs : List Int} {y : Int} {K : AV → Heap → Prop} (hv : IsI H (.sl A n n true k) xs) (hl : xs.length ≤ 1048576) (hby : by_ ≤ 16)
    (hk : ∀ s' H', Own 1 H' s' ((xs ++ [y]).map (AV.int .i64)) → Le H (base H' s') → newer H.size s' → K s' H') : appP 1 by_ (.sl A n n true k) (.sl (some (H.size, 0)) 1 1 true 1) (H.alloc [.int .i64 y]) K := by
  obtain ⟨hn, hrd⟩ := hv.rd
  subst hn
  have hld : loadN (H.alloc [.int .i64 y]) A.b A.o (xs.length * 1) = some (xs.map (AV.int .i64)) := by
    have := (hrd.le (Le.alloc H [.int .i64 y])).loadN
    rwa [List.length_map, ← Nat.mul_one xs.length] at this
  have hnew : loadN (H.alloc [.int .i64 y]) H.size 0 (1 * 1) = some [.int .i64 y] := by
    have := (Rd.blk (H := H.alloc [.int .i64 y]) (b := H.size) (Nat.lt_succ_self _) (alloc_new _ _)).loadN
    simpa using this
  unfold appP
  simp only [AA.b_some, AA.o_some, hnew]
  rw [if_neg (by omega), if_neg (by omega)]
  refine ⟨?_, by simp [mostCells]; omega, ?_⟩
  · have : (xs.length + 1) * by_ ≤ (xs.length + 1) * 16 := Nat.mul_le_mul_left _ hby
    simp only [mostCells]; omega
  · simp only [if_true, hld]
    refine hk _ _ ?_ ?_ ?_
    · rw [List.map_append]
      exact Own.new (by simp)
    · exact ((Le.alloc H [.int .i64 y]).trans (Le.alloc _ _)).killFresh (Nat.le_succ _)
    · exact Nat.le_succ _
theorem s_Clip {A : AA} {n c k : Nat} {ex : Bool} {xs : List Int} (hv : IsI H (.sl A n c ex k) xs) (hl : xs.length ≤ 1048576) (hc : n ≤ c) (hex : ex = true ∨ 0 < n) (hk : k = 1 ∨ True) :
    ACall Try.prog n_Z29 [.sl A n c ex k] H (fun r H' => H' = H ∧ ∃ A' k', r = .sl A' n n true k' ∧ IsI H r xs) := by
  refine ACall.of fun R hR => a_Z29 rfl ?_
  obtain ⟨hn, hrd⟩ := hv.rd
  subst hn
  simp (maxSteps := 2000000) (disch := first | omega | assumption | exact idP rfl | exact idP (bL rfl) | (simp only [alloc_size, upd_size] <;> omega) | fail) only [go_sem, reduceIte, Nat.reduceEqDiff]
  have e : slcF 1 none (some (.int .i64 (xs.length : Int))) (some (.int .i64 (xs.length : Int))) (.sl A xs.length c ex k) = some (.sl (if xs.length = 0 then A else some (A.b, A.o + 0 * 1)) xs.length xs.length true k) := by
    have c1 : (0 : Int) ≤ xs.length ∧ (xs.length : Int) ≤ (c : Int) := by omega
    have c2 : (0 : Int) ≤ xs.length ∧ (xs.length : Int) ≤ (xs.length : Int) := by omega
    have b1 : bnds xs.length c none (some (.int .i64 (xs.length : Int))) (some (.int .i64 (xs.length : Int))) = some (0, xs.length, xs.length) := by
      simp only [bnds, natIn, if_pos c1, if_pos c2, Int.toNat_natCast]
    simp only [slcF, b1]
    rw [if_neg (by simp)]
    simp
  simp (maxSteps := 2000000) (disch := first | omega | assumption | exact idP rfl | exact idP (bL rfl) | (simp only [alloc_size, upd_size] <;> omega) | fail) only [go_sem, reduceIte, Nat.reduceEqDiff, e]
  refine hR _ _ ⟨rfl, _, k, rfl, ?_⟩
  refine ⟨_, xs.length, true, k, rfl, fun i hi => ⟨[.int .i64 xs[i]], rfl, ?_, rfl⟩⟩
  intro j z hj
  cases j with
  | zero =>
    simp at hj; subst hj
    have := hrd i (.int .i64 xs[i]) (by simp [hi])
    rw [if_neg (by omega)]
    simpa using this
  | succ j => simp at hj
end Go.M2

namespace Go.M2
open Go.Proofs
variable {H : Heap}
theorem s_Clone {A : AA} {n c k : Nat} {ex : Bool} {xs : List Int} (hv : IsI H (.sl A n c ex k) xs) (hl : xs.length ≤ 1048576) (hA : A = none → xs = []) :
    ACall Try.prog n_Z30 [.sl A n c ex k] H (fun r H' => Own 1 H' r (xs.map (AV.int .i64)) ∧ Le H (base H' r) ∧ newer H.size r) := by
  refine ACall.of fun R hR => a_Z30 rfl ?_
  obtain ⟨hn, hrd⟩ := hv.rd
  cases A with
  | none =>
    obtain rfl := hA rfl
    simp (maxSteps := 2000000) (disch := first | omega | assumption | exact idP rfl | exact idP (bL rfl) | (simp only [alloc_size, upd_size] <;> omega) | fail) only [go_sem, reduceIte, Nat.reduceEqDiff]
    exact hR _ _ ⟨Own.nil, Le.refl _, trivial⟩
  | some p =>
    obtain ⟨b, o⟩ := p
    simp (maxSteps := 2000000) (disch := first | omega | assumption | exact idP rfl | exact idP (bL rfl) | (simp only [alloc_size, upd_size] <;> omega) | fail) only [go_sem, reduceIte, Nat.reduceEqDiff]
    refine app_own (sz := 1) (by omega) (Own.new (l := []) (n := 0) rfl) (hrd.le (Le.alloc _ _)) (by simp [hn]) (by simp [List.all_map, oneA]) (by simp [mostCells]; omega) (by simp [mostCells]; omega) ?_
    intro s H2 hs hle hn2
    simp (maxSteps := 2000000) (disch := first | omega | assumption | exact idP rfl | exact idP (bL rfl) | (simp only [alloc_size, upd_size] <;> omega) | fail) only [go_sem, reduceIte, Nat.reduceEqDiff]
    refine hR _ _ ⟨by simpa using hs, ?_, hn2 _ (Nat.le_succ _) (Nat.le_refl _)⟩
    exact ((Le.alloc H []).killFresh (Nat.le_refl _)).trans hle
theorem setAt_all : ∀ (l z pre : List AV), z.length = l.length → setAt (pre ++ z) pre.length l = pre ++ l
  | [], z, pre, h => by
    have : z = [] := List.eq_nil_of_length_eq_zero (by simpa using h)
    subst this; rfl
  | x :: t, [], pre, h => by simp at h
  | x :: t, y :: u, pre, h => by
    simp only [setAt]
    have e1 : (pre ++ y :: u).set pre.length x = (pre ++ [x]) ++ u := by simp
    have e2 : pre.length + 1 = (pre ++ [x]).length := by simp
    rw [e1, e2, setAt_all t u (pre ++ [x]) (by simpa using h)]
    simp
theorem s_implClone {A : AA} {n c k : Nat} {ex : Bool} {xs : List Int} (hv : IsI H (.sl A n c ex k) xs) (hl : xs.length ≤ 1048576) :
    ACall Try.prog n_Z14 [.sl A n c ex k] H (fun r H' => Own 1 H' r (xs.map (AV.int .i64)) ∧ Le H (base H' r) ∧ newer H.size r) := by
  refine ACall.of fun R hR => a_Z14 rfl ?_
  obtain ⟨hn, hrd⟩ := hv.rd
  subst hn
  simp (maxSteps := 2000000) (disch := first | omega | assumption | exact idP rfl | exact idP (bL rfl) | (simp only [alloc_size, upd_size] <;> omega) | fail) only [go_sem, reduceIte, Nat.reduceEqDiff]
  refine condV_dec (fun h => ?_) (fun h => ?_)
  · have : xs = [] := List.eq_nil_of_length_eq_zero (by omega)
    subst this
    simp (maxSteps := 2000000) (disch := first | omega | assumption | exact idP rfl | exact idP (bL rfl) | (simp only [alloc_size, upd_size] <;> omega) | fail) only [go_sem, reduceIte, Nat.reduceEqDiff]
    exact hR _ _ ⟨Own.nil, Le.refl _, trivial⟩
  · simp (maxSteps := 2000000) (disch := first | omega | assumption | exact idP rfl | exact idP (bL rfl) | (simp only [alloc_size, upd_size] <;> omega) | fail) only [go_sem, reduceIte, Nat.reduceEqDiff]
    refine mks_own (by omega) (by simp [mostCells]; omega) (by simp [mostCells]; omega) ?_
    simp (maxSteps := 2000000) (disch := first | omega | assumption | exact idP rfl | exact idP (bL rfl) | (simp only [alloc_size, upd_size] <;> omega) | fail) only [go_sem, reduceIte, Nat.reduceEqDiff]
    have hld : loadN (H.alloc (zeros [.int .i64 0] xs.length)) A.b A.o xs.length = some (xs.map (AV.int .i64)) := by
      have := (hrd.le (Le.alloc H (zeros [.int .i64 0] xs.length))).loadN
      rw [List.length_map] at this
      exact this
    unfold copyP
    simp only [AA.b_some, AA.o_some, Nat.min_self, Nat.mul_one, hld]
    rw [if_neg (by omega), rw_alloc_new rfl]
    refine ⟨by simp [List.all_map, oneA], by rw [zeros_len rfl]; omega, ?_⟩
    have hz := setAt_all (xs.map (AV.int .i64)) (zeros [.int .i64 0] xs.length) [] (by rw [zeros_len rfl]; simp)
    simp only [List.nil_append, List.length_nil] at hz
    rw [hz]
    simp (maxSteps := 2000000) (disch := first | omega | assumption | exact idP rfl | exact idP (bL rfl) | (simp only [alloc_size, upd_size] <;> omega) | fail) only [go_sem, reduceIte, Nat.reduceEqDiff]
    refine hR _ _ ⟨⟨some (H.size, 0), xs.length, true, 1, rfl, by simp, fun h => (nomatch h), fun b o e => ?_⟩, ?_, Nat.le_refl _⟩
    · cases e; exact ⟨rfl, rfl, Nat.lt_succ_self _, upd_blk_same'⟩
    · show Le H ((_ : Heap).kill H.size)
      exact (((Le.alloc H _).updFresh (Nat.le_refl _))).killFresh (Nat.le_refl _)
end Go.M2

namespace Go.M2
open Go.Proofs Go.Shelf Go.Sort
variable {w0 w : World} {ρ : Nat → BI} {H : Heap}
structure LitS where
  val : Int
  ok : -9223372036854775808 < val ∧ val ≤ 9223372036854775807
theorem LitS.ext' {x y : LitS} (h : x.1 = y.1) : x = y := by
  cases x; cases y; simp only at h; subst h; rfl
instance : Inhabited LitS := ⟨⟨0, by omega, by omega⟩⟩
def encL (x : LitS) : Value := .int .i64 x.1
def eaL (x : LitS) : AV := .int .i64 x.1
def cfL (x y : LitS) : Int := cmpL x.1 y.1
theorem ltL_iff {x y : LitS} : ltOf cfL x y = true ↔ x.1.natAbs < y.1.natAbs ∨ (x.1.natAbs = y.1.natAbs ∧ x.1 < y.1) := by
  unfold ltOf cfL cmpL cmpI
  rw [decide_eq_true_eq]
  by_cases h1 : (x.1.natAbs : Int) < (y.1.natAbs : Int)
  · simp [h1]; omega
  · by_cases h2 : (y.1.natAbs : Int) < (x.1.natAbs : Int)
    · simp [h1, h2]; omega
    · by_cases h3 : x.1 < y.1
      · simp [h1, h2, h3]; omega
      · by_cases h4 : y.1 < x.1
        · simp [h1, h2, h3, h4]; omega
        · simp [h1, h2, h3, h4]; omega
theorem ltL_false {x y : LitS} : ltOf cfL x y = false ↔ ¬ (x.1.natAbs < y.1.natAbs ∨ (x.1.natAbs = y.1.natAbs ∧ x.1 < y.1)) := by
  rw [← ltL_iff]; simp
theorem swoL : SWO (ltOf cfL) where
  irrefl x := by rw [ltL_false]; omega
  trans x y z h1 h2 := by rw [ltL_iff] at h1 h2 ⊢; omega
  ntrans x y z h1 h2 := by rw [ltL_false] at h1 h2 ⊢; omega
theorem totL (x y : LitS) (h1 : ltOf cfL x y = false) (h2 : ltOf cfL y x = false) : x = y := by
  rw [ltL_false] at h1 h2
  exact LitS.ext' (by omega)
theorem HI.growB : ∀ (l : List Obj) {w : World}, HI w0 ρ H w → HI w0 ρ H (Sort.grow w l.toArray) ∧ Evol ρ H w ρ H (Sort.grow w l.toArray)
  | [], w, h => by
    have e : Sort.grow w ([] : List Obj).toArray = w := Sort.grow_empty w
    rw [e]; exact ⟨h, Evol.refl _ _ _⟩
  | o :: t, w, h => by
    have e : Sort.grow w (o :: t).toArray = Sort.grow (w.alloc o) t.toArray := by
      rw [Sort.alloc_eq_grow, Sort.grow_grow]
      congr 1
      simp
    rw [e]
    obtain ⟨h1, h2⟩ := HI.growB t (h.grow o)
    exact ⟨h1, (Evol.grow ρ H w o).trans h2⟩
theorem take_set_dropB {α : Type} {ys zs : List α} (hl : ys.length = zs.length) {k : Nat} (hk : k < ys.length) : (ys.take k ++ zs.drop k).set k ys[k] = ys.take (k + 1) ++ zs.drop (k + 1) := by
  rw [List.set_append_right _ _ (by simp; omega), List.length_take, Nat.min_eq_left (by omega), Nat.sub_self, List.drop_eq_getElem_cons (by omega : k < zs.length), List.set_cons_zero, List.take_succ_eq_append_getElem hk, List.append_assoc]
  rfl
theorem HI.putL {b : Nat} {zs : List LitS} {rest : List AV} (h : HI w0 ρ H w) (hb : b < H.size) (hblk : H.blk b = .cells (zs.map eaL ++ rest) true) {ys : List LitS} (hl : ys.length = zs.length) :
    ∀ k, k ≤ ys.length → HI w0 ρ (H.upd b (.cells ((ys.take k ++ zs.drop k).map eaL ++ rest) true)) (Sort.putRow encL w (ρ b).blk (ρ b).off (ys.take k ++ zs.drop k).toArray) ∧
      Evol ρ H w ρ (H.upd b (.cells ((ys.take k ++ zs.drop k).map eaL ++ rest) true)) (Sort.putRow encL w (ρ b).blk (ρ b).off (ys.take k ++ zs.drop k).toArray)
  | 0, _ => by
    simp only [List.take_zero, List.drop_zero, List.nil_append]
    have e : H.upd b (.cells (zs.map eaL ++ rest) true) = H := by
      cases H with
      | mk n f =>
        simp only [Heap.upd, Heap.mk.injEq, true_and]
        funext b'
        split
        · rename_i e; subst e; exact hblk.symm
        · rfl
    obtain ⟨o1, o2, cs, t, o3, o4⟩ := h.own b _ hb hblk
    have e2 : Sort.putRow encL w (ρ b).blk (ρ b).off zs.toArray = w := by
      refine Sort.mapBlock_id w _ _ fun c e fr hc => ?_
      rw [o3] at hc
      cases hc
      apply Array.ext_getElem?
      intro k
      simp only [Sort.putCells, Array.getElem?_mapIdx]
      cases hk : cs[k]? with
      | none => rfl
      | some y =>
        simp only [Option.map_some]
        split
        · rename_i hr
          obtain ⟨r1, r2⟩ := hr
          have hz : k - (ρ b).off < zs.length := by simpa using (by omega : k - (ρ b).off < zs.toArray.size)
          obtain ⟨v, hv, hr⟩ := h.cell b _ true hb hblk (k - (ρ b).off) (eaL (zs[k - (ρ b).off]'hz)) (by
            rw [List.getElem?_append_left (by simpa using hz)]; simp [hz])
          rw [show (ρ b).off + (k - (ρ b).off) = k by omega] at hv
          simp only [World.cell?, o3] at hv
          have hv : cs[k]? = some v := by simpa using hv
          rw [hk] at hv
          cases hv
          cases hr
          rw [getElem!_pos _ _ (by simpa using hz)]
          simp [encL]
        · rfl
    rw [e, e2]; exact ⟨h, Evol.refl _ _ _⟩
  | k + 1, hk => by
    obtain ⟨h1, h2⟩ := HI.putL h hb hblk hl k (by omega)
    have hk' : k < ys.length := hk
    have hsz := (h1.own b _ hb (Heap.upd_blk_same _ _ _)).2.1
    have hst := take_set_dropB hl hk'
    have hlen : (ys.take k ++ zs.drop k).length = ys.length := by simp; omega
    have h3 := h1.write (c := ((ys.take k ++ zs.drop k).map eaL ++ rest)) hb (Heap.upd_blk_same _ _ _) k (by simp at hsz; omega) ((ys.take (k + 1) ++ zs.drop (k + 1)).map eaL ++ rest) (by simp at hsz ⊢; omega) (encL ys[k])
      (fun j y hy hj => by
        rw [← hst, List.map_set, ← List.set_append_left _ _ (by simp; omega), List.getElem?_set_ne (by omega)] at hy
        exact hy)
      (fun y hy => by
        rw [← hst, List.map_set, ← List.set_append_left _ _ (by simp; omega), List.getElem?_set_self (by simp; omega)] at hy
        cases hy; exact .int _ _)
    have hd : (ys.take k ++ zs.drop k).toArray.setIfInBounds k ys[k] = (ys.take (k + 1) ++ zs.drop (k + 1)).toArray := by rw [← hst]; simp
    have hp := Sort.putRow_set encL w (ρ b).blk (ρ b).off (ys.take k ++ zs.drop k).toArray k ys[k] (by simp; omega)
    rw [hd] at hp
    obtain ⟨_, _, h4, h5⟩ := h3
    rw [hp, Heap.upd_upd] at h4 h5
    exact ⟨h4, h2.trans h5⟩
theorem grown_of {W w' : World} (hb : Go.RowKit.Below W.heap.size W w') (hm : W.drawn ≤ w'.drawn) : ∃ q os', w' = Sort.grow (W.drewN q) os' := by
  refine ⟨w'.drawn - W.drawn, w'.heap.extract W.heap.size w'.heap.size, ?_⟩
  obtain ⟨b1, b2, b3, b4, b5⟩ := hb
  have hh : w'.heap = W.heap ++ w'.heap.extract W.heap.size w'.heap.size := by
    apply Array.ext_getElem?
    intro i
    by_cases hi : i < W.heap.size
    · rw [b5 i hi, Array.getElem?_append_left hi]
    · rw [Array.getElem?_append_right (by omega), Array.getElem?_extract]
      split
      · congr 1; omega
      · rw [Array.getElem?_eq_none]; omega
  have hd : w'.drawn = W.drawn + (w'.drawn - W.drawn) := by omega
  cases W with
  | mk =>
    cases w' with
    | mk =>
      simp only at b1 b2 b3 hh hd
      subst b1 b2 b3
      simp only [Sort.grow, World.drewN, World.mk.injEq, true_and, and_true]
      first | exact ⟨hh, hd⟩ | exact ⟨hd, hh⟩ | (constructor <;> assumption)
theorem cmpL_lays {blk off size : Nat} {w : World} : CmpLays1 Try.prog n_Z12_1 #[] encL cfL blk off size w := by
  intro m os dk hs x y
  generalize sortWorld encL w blk off m dk os = W
  have hi : HI W (fun _ => ⟨0, 0, 0, false⟩) ⟨0, fun _ => .dead⟩ W := ⟨Go.RowKit.Below.refl _ _, fun b h => absurd h (Nat.not_lt_zero _), fun b c h => absurd h (Nat.not_lt_zero _), fun b c r h => absurd h (Nat.not_lt_zero _), fun b c r h => absurd h (Nat.not_lt_zero _), fun b c h => absurd h (Nat.not_lt_zero _), fun b es h => absurd h (Nat.not_lt_zero _), fun b b' h => absurd h (Nat.not_lt_zero _), trivial⟩
  refine ((s_clauseOf1 x.2 y.2).2 W _ W [encL x, encL y] hi ?_).mono ?_
  · refine ⟨rfl, fun i a v h1 h2 => ?_⟩
    match i with
    | 0 => simp at h1 h2; subst h1 h2; exact .int _ _
    | 1 => simp at h1 h2; subst h1 h2; exact .int _ _
    | i + 2 => simp at h1
  · rintro e w' ⟨r, H', ρ', v, rfl, hv, hev, hi', _, rfl⟩
    cases hv
    exact ⟨rfl, grown_of hi'.below hev.mono⟩
def sortS (zs : List LitS) : List LitS := zs.mergeSort fun x y => !(ltOf cfL) y x
theorem sortS_len {zs : List LitS} : (sortS zs).length = zs.length := by simp [sortS]
theorem s_SortFunc {rn : Ren} (Ly : SlLaysF.n6 Try.prog rn) (hcb : callable Try.prog (rn.f 6) = true)
    (eg : ∀ args w, (callFunc n_Z12_1 args).run Try.prog w = .ok (.enter n_Z12_1 args) w) {b n c : Nat} {ex : Bool} {zs : List LitS} {rest : List AV}
    (hb : H.rwCells b = some (zs.map eaL ++ rest)) (hn : n = zs.length) (h62 : zs.length < 4611686018427387904) :
    ACall Try.prog (rn.f 6) [.sl (some (b, 0)) n c ex 1, .fn n_Z12_1 []] H (fun r H' => r = .tup [] ∧ H' = H.upd b (.cells ((sortS zs).map eaL ++ rest) true)) := by
  subst hn
  obtain ⟨hbs, hblk⟩ := Heap.rwCells_blk hb
  refine ⟨hcb, fun w0 ρ w vs hi hvs => ?_⟩
  obtain ⟨v, t, rfl, hv, ht⟩ := hvs.uncons
  obtain ⟨u, t, rfl, hu, ht⟩ := ht.uncons
  have := ht.unnil; subst this
  generalize hq : (AV.sl (some (b, 0)) zs.length c ex 1) = q at hv
  cases hv <;> cases hq
  rename_i c' h1 h2 h3 h4 h5
  cases hu
  rename_i a ha1 ha2
  obtain rfl : a = #[] := by
    have : a.size = 0 := ha1.symm
    exact Array.eq_empty_of_size_eq_zero this
  obtain ⟨o1, o2, cs, t, o3, o4⟩ := hi.own b _ hbs hblk
  have hH : Sort.Holds encL w (ρ b).blk ((ρ b).off + 0) zs.toArray := by
    intro j hj
    have hj : j < zs.length := by simpa using hj
    obtain ⟨v, hv, hr⟩ := hi.cell b _ true hbs hblk j (eaL zs[j]) (by rw [List.getElem?_append_left (by simpa using hj)]; simp [hj])
    cases hr
    refine ⟨?_, by simp [World.frozen?, o3]⟩
    rw [Nat.add_zero, hv, getElem!_pos _ _ (by simpa using hj)]
    simp [encL]
  have hc := Any.slices_SortFunc_total Ly encL (fun _ => rfl) cfL swoL n_Z12_1 #[] (ρ b).blk ((ρ b).off + 0) c' zs.toArray w eg cmpL_lays hH (hi.bound b hbs) (by simpa using h62) totL
  refine (show Calls Try.prog (rn.f 6) #[.slice (some ⟨(ρ b).blk, (ρ b).off + 0, none⟩) zs.length c', .func (.func n_Z12_1) #[] #[]] w _ from hc).mono ?_
  rintro e w' ⟨rfl, N, os, rfl⟩
  have d1 : HI w0 ρ H (Sort.ahead w N) := hi.drawn _
  have d2 : Evol ρ H w ρ H (Sort.ahead w N) := Evol.drawn ρ H w _
  obtain ⟨p1, p2⟩ := d1.putL hbs hblk (ys := sortS zs) sortS_len (sortS zs).length (Nat.le_refl _)
  have e0 : (sortS zs).take (sortS zs).length ++ zs.drop (sortS zs).length = sortS zs := by rw [List.take_length, sortS_len, List.drop_length, List.append_nil]
  rw [e0] at p1 p2
  obtain ⟨g1, g2⟩ := HI.growB os.toList p1
  refine ⟨.tup [], _, ρ, .tuple #[], rfl, .tup [] #[] rfl (fun i x v h => by simp at h), (d2.trans p2).trans g2, g1, rfl, rfl⟩
theorem s_SortFuncNone {rn : Ren} (Ly : SlLaysF.n6 Try.prog rn) (hcb : callable Try.prog (rn.f 6) = true) {k : Nat} {fv : AV} :
    ACall Try.prog (rn.f 6) [.sl none 0 0 true k, fv] H (fun r H' => r = .tup [] ∧ H' = H) := by
  refine ⟨hcb, fun w0 ρ w vs hi hvs => ?_⟩
  obtain ⟨v, t, rfl, hv, ht⟩ := hvs.uncons
  obtain ⟨u, t, rfl, hu, ht⟩ := ht.uncons
  have := ht.unnil; subst this
  cases hv
  refine (show Calls Try.prog (rn.f 6) #[.slice none 0 0, u] w _ from AnyF.slices_SortFunc_none { Ly with } none 0 u w).mono ?_
  rintro e w' ⟨rfl, rfl⟩
  exact ⟨.tup [], H, ρ, .tuple #[], rfl, .tup [] #[] rfl (fun i x v h => by simp at h), Evol.refl _ _ _, hi, rfl, rfl⟩
end Go.M2

namespace Go.M2
open Go.Proofs Go.Shelf
set_option maxRecDepth 100000
def sortf_ren : Ren := ⟨fun | 6 => 126 | 14 => 139 | 15 => 140 | 20 => 147 | 21 => 148 | 22 => 149 | 23 => 150 | 24 => 151 | 25 => 152 | 26 => 153 | 27 => 154 | 28 => 155 | 29 => 156 | 46 => 158 | 47 => 159 | 48 => 160 | 49 => 161 | 50 => 162 | 57 => 163 | n => n, fun | 0 => 0 | 3 => 3 | 4 => 4 | 5 => 5 | 9 => 9 | 22 => 44 | 24 => 3 | 25 => 122 | 39 => 130 | 45 => 139 | 46 => 140 | 50 => 36 | 53 => 146 | 55 => 148 | 66 => 150 | 70 => 154 | 76 => 156 | 77 => 131 | n => n, fun n => n⟩
theorem laysf : SlLaysF.n6 Try.prog sortf_ren where
  mixed := by kernel_rfl
  f6 := ⟨ "slices.SortFunc[[]int,int]", by kernel_rfl, Try.func126.trans (congrArg some (by kernel_rfl))⟩
  f14 := ⟨ "slices.pdqsortCmpFunc[int]", by kernel_rfl, Try.func139.trans (congrArg some (by kernel_rfl))⟩
  f15 := Try.func140.trans (congrArg some (by kernel_rfl))
  f20 := ⟨ "slices.insertionSortCmpFunc[int]", by kernel_rfl, Try.func147.trans (congrArg some (by kernel_rfl))⟩
  f21 := ⟨ "slices.heapSortCmpFunc[int]", by kernel_rfl, Try.func148.trans (congrArg some (by kernel_rfl))⟩
  f22 := ⟨ "slices.breakPatternsCmpFunc[int]", by kernel_rfl, Try.func149.trans (congrArg some (by kernel_rfl))⟩
  f23 := ⟨ "slices.choosePivotCmpFunc[int]", by kernel_rfl, Try.func150.trans (congrArg some (by kernel_rfl))⟩
  f24 := ⟨ "slices.reverseRangeCmpFunc[int]", by kernel_rfl, Try.func151.trans (congrArg some (by kernel_rfl))⟩
  f25 := ⟨ "slices.partialInsertionSortCmpFunc[int]", by kernel_rfl, Try.func152.trans (congrArg some (by kernel_rfl))⟩
  f26 := ⟨ "slices.partitionEqualCmpFunc[int]", by kernel_rfl, Try.func153.trans (congrArg some (by kernel_rfl))⟩
  f27 := ⟨ "slices.partitionCmpFunc[int]", by kernel_rfl, Try.func154.trans (congrArg some (by kernel_rfl))⟩
  f28 := Try.func155.trans (congrArg some (by kernel_rfl))
  f29 := Try.func156.trans (congrArg some (by kernel_rfl))
  f46 := ⟨ "slices.siftDownCmpFunc[int]", by kernel_rfl, Try.func158.trans (congrArg some (by kernel_rfl))⟩
  f47 := Try.func159.trans (congrArg some (by kernel_rfl))
  f48 := Try.func160.trans (congrArg some (by kernel_rfl))
  f49 := ⟨ "slices.medianAdjacentCmpFunc[int]", by kernel_rfl, Try.func161.trans (congrArg some (by kernel_rfl))⟩
  f50 := ⟨ "slices.medianCmpFunc[int]", by kernel_rfl, Try.func162.trans (congrArg some (by kernel_rfl))⟩
  f57 := ⟨ "slices.order2CmpFunc[int]", by kernel_rfl, Try.func163.trans (congrArg some (by kernel_rfl))⟩
  t0 := Try.underlying0
  a0 := Try.isAgg0
  z0 := Try.sizeOf0
  v0 := Try.zeroValue0
  t3 := Try.underlying3
  a3 := Try.isAgg3
  z3 := Try.sizeOf3
  v3 := Try.zeroValue3
  t4 := Try.underlying4
  a4 := Try.isAgg4
  z4 := Try.sizeOf4
  v4 := Try.zeroValue4
  t5 := Try.underlying5
  a5 := Try.isAgg5
  z5 := Try.sizeOf5
  v5 := Try.zeroValue5
  t9 := Try.underlying9
  a9 := Try.isAgg9
  z9 := Try.sizeOf9
  v9 := Try.zeroValue9
  t22 := Try.underlying44
  a22 := Try.isAgg44
  z22 := Try.sizeOf44
  v22 := Try.zeroValue44
  a24 := Try.isAgg3
  z24 := Try.sizeOf3
  t25 := Try.underlying122
  a25 := Try.isAgg122
  z25 := Try.sizeOf122
  v25 := Try.zeroValue122
  t39 := Try.underlying130
  a39 := Try.isAgg130
  z39 := Try.sizeOf130
  v39 := Try.zeroValue130
  t45 := Try.underlying139
  a45 := Try.isAgg139
  z45 := Try.sizeOf139
  v45 := Try.zeroValue139
  t46 := Try.underlying140
  a46 := Try.isAgg140
  z46 := Try.sizeOf140
  v46 := Try.zeroValue140
  t50 := Try.underlying36
  a50 := Try.isAgg36
  z50 := Try.sizeOf36
  v50 := Try.zeroValue36
  t53 := Try.underlying146
  a53 := Try.isAgg146
  z53 := Try.sizeOf146
  v53 := Try.zeroValue146
  t55 := Try.underlying148
  a55 := Try.isAgg148
  z55 := Try.sizeOf148
  v55 := Try.zeroValue148
  t66 := Try.underlying150
  a66 := Try.isAgg150
  z66 := Try.sizeOf150
  v66 := Try.zeroValue150
  t70 := Try.underlying154
  a70 := Try.isAgg154
  z70 := Try.sizeOf154
  v70 := Try.zeroValue154
  t76 := Try.underlying156
  a76 := Try.isAgg156
  z76 := Try.sizeOf156
  v76 := Try.zeroValue156
  t77 := Try.underlying131
  a77 := Try.isAgg131
  z77 := Try.sizeOf131
  v77 := Try.zeroValue131
variable {H : Heap}
theorem s_SortLits {b n c : Nat} {ex : Bool} {zs : List LitS} {rest : List AV}
    (hb : H.rwCells b = some (zs.map eaL ++ rest)) (hn : n = zs.length) (h62 : zs.length < 4611686018427387904) :
    ACall Try.prog n_Z36 [.sl (some (b, 0)) n c ex 1, .fn n_Z12_1 []] H (fun r H' => r = .tup [] ∧ H' = H.upd b (.cells ((sortS zs).map eaL ++ rest) true)) :=
  s_SortFunc laysf (by kernel_rfl) (enters_of Try.func127 (by kernel_rfl) rfl) hb hn h62
theorem s_SortLitsNone {k : Nat} {fv : AV} : ACall Try.prog n_Z36 [.sl none 0 0 true k, fv] H (fun r H' => r = .tup [] ∧ H' = H) :=
  s_SortFuncNone laysf (by kernel_rfl)
end Go.M2

namespace Go.M2
open Go.Proofs
variable {H : Heap}
theorem s_CompactId {v : AV} {xs : List Int} (hv : IsI H v xs) (hl : xs.length ≤ 1048576) (hne : ∀ i (h : i < xs.length), 0 < i → xs[i] ≠ xs[i - 1]) :
    ACall Try.prog n_Z31 [v] H (fun r H' => r = v ∧ H' = H) := by
  refine ACall.of fun R hR => a_Z31 rfl ?_
  obtain ⟨A, c, ex, k, rfl, hr⟩ := hv.parts
  simp (maxSteps := 2000000) (disch := first | omega | assumption | exact idP rfl | exact idP (bL rfl) | (simp only [alloc_size, upd_size] <;> omega) | fail) only [go_sem, reduceIte, Nat.reduceEqDiff]
  refine condV_dec (fun h => ?_) (fun h => ?_)
  · simp (maxSteps := 2000000) (disch := first | omega | assumption | exact idP rfl | exact idP (bL rfl) | (simp only [alloc_size, upd_size] <;> omega) | fail) only [go_sem, reduceIte, Nat.reduceEqDiff]
    exact hR _ _ ⟨rfl, rfl⟩
  · simp (maxSteps := 2000000) (disch := first | omega | assumption | exact idP rfl | exact idP (bL rfl) | (simp only [alloc_size, upd_size] <;> omega) | fail) only [go_sem, reduceIte, Nat.reduceEqDiff]
    refine wp_loop_k (fun e H' => H' = H ∧ ∃ i : Nat, 1 ≤ i ∧ i ≤ xs.length ∧ e 0 = .sl A xs.length c ex k ∧ e 3 = .int .i64 (i : Int)) (fun e _ => ctr xs.length (e 3)) ?_ ?_
    · exact ⟨rfl, 1, by omega, by omega, by simp (maxSteps := 2000000) (disch := first | omega | assumption | exact idP rfl | exact idP (bL rfl) | (simp only [alloc_size, upd_size] <;> omega) | fail) only [go_sem, reduceIte, Nat.reduceEqDiff], by simp (maxSteps := 2000000) (disch := first | omega | assumption | exact idP rfl | exact idP (bL rfl) | (simp only [alloc_size, upd_size] <;> omega) | fail) only [go_sem, reduceIte, Nat.reduceEqDiff]; rfl⟩
    · rintro e H1 ⟨rfl, i, hi1, hi, e0, e3⟩ K hK
      simp (maxSteps := 2000000) (disch := first | omega | assumption | exact idP rfl | exact idP (bL rfl) | (simp only [alloc_size, upd_size] <;> omega) | fail) only [go_sem, reduceIte, Nat.reduceEqDiff, e0, e3]
      refine condV_dec (fun h => ?_) (fun h => ?_)
      · have hi' : i < xs.length := by omega
        have hg := hr i hi'
        have hg2 := hr (i - 1) (by omega)
        rw [Nat.mul_one] at hg hg2
        have hsub : ((i : Int) - 1).toNat = i - 1 := by omega
        simp (maxSteps := 2000000) (disch := first | omega | assumption | exact idP rfl | exact idP (bL rfl) | (simp only [alloc_size, upd_size] <;> omega) | fail) only [go_sem, reduceIte, Nat.reduceEqDiff, e0, e3, hg, hsub, hg2]
        refine condV_dec (fun heq => absurd heq (hne i hi' hi1)) (fun heq => ?_)
        simp (maxSteps := 2000000) (disch := first | omega | assumption | exact idP rfl | exact idP (bL rfl) | (simp only [alloc_size, upd_size] <;> omega) | fail) only [go_sem, reduceIte, Nat.reduceEqDiff, e0, e3]
        exact hK _ _ ⟨rfl, i + 1, by omega, by omega, by simp (maxSteps := 2000000) (disch := first | omega | assumption | exact idP rfl | exact idP (bL rfl) | (simp only [alloc_size, upd_size] <;> omega) | fail) only [go_sem, reduceIte, Nat.reduceEqDiff, e0], by simp (maxSteps := 2000000) (disch := first | omega | assumption | exact idP rfl | exact idP (bL rfl) | (simp only [alloc_size, upd_size] <;> omega) | fail) only [go_sem, reduceIte, Nat.reduceEqDiff]; rfl⟩ (by simp (maxSteps := 2000000) (disch := first | omega | assumption | exact idP rfl | exact idP (bL rfl) | (simp only [alloc_size, upd_size] <;> omega) | fail) only [go_sem, reduceIte, Nat.reduceEqDiff, ctr_int, e3]; omega)
      · simp (maxSteps := 2000000) (disch := first | omega | assumption | exact idP rfl | exact idP (bL rfl) | (simp only [alloc_size, upd_size] <;> omega) | fail) only [go_sem, reduceIte, Nat.reduceEqDiff, e0]
        exact hR _ _ ⟨rfl, rfl⟩
theorem upd_self {b : Nat} {x : Blk} (h : H.blk b = x) : H.upd b x = H := by
  cases H with
  | mk n f =>
    simp only [Heap.upd, Heap.mk.injEq, true_and]
    funext b'
    split
    · rename_i e; subst e; exact h.symm
    · rfl
theorem sortS_asc {zs : List LitS} (h : zs.Pairwise fun x y => x.1.natAbs < y.1.natAbs) : sortS zs = zs := by
  unfold sortS
  refine List.mergeSort_of_pairwise (h.imp fun {x y} hxy => ?_)
  have : Go.Proofs.ltOf cfL y x = false := by rw [ltL_false]; omega
  simp [this]
theorem s_SortAsc {v : AV} {xs : List Int} {n : Nat} (hv : Own 1 H v (xs.map (AV.int .i64))) (hl : xs.length ≤ 1048576) (hn : n ≤ 700) (hx : Lits n xs) (ha : Asc xs) :
    ACall Try.prog n_Z36 [v, .fn n_Z12_1 []] H (fun r H' => r = .tup [] ∧ H' = H) := by
  obtain ⟨A, m, ex, k, rfl, h1, h2, h3⟩ := hv
  have h1 : xs.length = m := by simpa using h1
  cases A with
  | none =>
    obtain ⟨rfl, rfl⟩ := h2 rfl
    exact s_SortLitsNone
  | some p =>
    obtain ⟨b, o⟩ := p
    obtain ⟨rfl, rfl, h4, h5⟩ := h3 b o rfl
    have hr : ∀ x ∈ xs, -9223372036854775808 < x ∧ x ≤ 9223372036854775807 := fun x hx' => by have := hx x hx'; omega
    have ez : (xs.pmap LitS.mk hr : List LitS).map eaL = xs.map (AV.int .i64) := by
      rw [List.map_pmap]
      exact List.pmap_eq_map (f := AV.int .i64) _
    have hasc : (xs.pmap LitS.mk hr : List LitS).Pairwise fun x y => x.1.natAbs < y.1.natAbs := by
      rw [List.pairwise_pmap]
      exact ha.imp fun h _ _ => h
    refine (s_SortLits (zs := xs.pmap LitS.mk hr) (rest := []) (by rw [ez, List.append_nil]; exact rwCells_of h4 h5) (by simp [h1]) (by simp; omega)).mono ?_
    rintro r H' ⟨rfl, rfl⟩
    rw [sortS_asc hasc, ez, List.append_nil]
    exact ⟨rfl, upd_self h5⟩
theorem s_clauseOf {A : AA} {m c k : Nat} {ex : Bool} {xs : List Int} {n : Nat} (hv : IsI H (.sl A m c ex k) xs) (hA : A = none → xs = []) (hl : xs.length ≤ 1048576) (hn : n ≤ 700) (hx : Lits n xs) (ha : Asc xs) :
    ACall Try.prog n_Z12 [.sl A m c ex k] H (fun r H' => ∃ u, r = .tup [u, .bool true] ∧ Own 1 H' u (xs.map (AV.int .i64)) ∧ Le H (base H' u) ∧ newer H.size u) := by
  refine ACall.of fun R hR => a_Z12 rfl ?_
  simp (maxSteps := 2000000) (disch := first | omega | assumption | exact idP rfl | exact idP (bL rfl) | (simp only [alloc_size, upd_size] <;> omega) | fail) only [go_sem, reduceIte, Nat.reduceEqDiff]
  refine (s_Clone hv hl hA).mono ?_
  rintro v1 H1 ⟨ho1, hle1, hn1⟩
  simp (maxSteps := 2000000) (disch := first | omega | assumption | exact idP rfl | exact idP (bL rfl) | (simp only [alloc_size, upd_size] <;> omega) | fail) only [go_sem, reduceIte, Nat.reduceEqDiff]
  refine (s_SortAsc ho1 hl hn hx ha).mono ?_
  rintro r H2 ⟨rfl, rfl⟩
  simp (maxSteps := 2000000) (disch := first | omega | assumption | exact idP rfl | exact idP (bL rfl) | (simp only [alloc_size, upd_size] <;> omega) | fail) only [go_sem, reduceIte, Nat.reduceEqDiff]
  have hv1 : IsI H2 v1 xs := ho1.isI
  refine (s_CompactId hv1 hl fun i h h0 e => ?_).mono ?_
  · have := List.pairwise_iff_getElem.1 ha (i - 1) i (by omega) h (by omega)
    rw [e] at this; omega
  rintro r H3 ⟨rfl, rfl⟩
  obtain ⟨A', c', ex', k', rfl, hr⟩ := hv1.parts
  simp (maxSteps := 2000000) (disch := first | omega | assumption | exact idP rfl | exact idP (bL rfl) | (simp only [alloc_size, upd_size] <;> omega) | fail) only [go_sem, reduceIte, Nat.reduceEqDiff]
  refine wp_loop_k (fun e H' => H' = H3 ∧ ∃ i : Nat, 1 ≤ i ∧ (i ≤ xs.length ∨ i = 1) ∧ e 4 = .sl A' xs.length c' ex' k' ∧ e 5 = .int .i64 (i : Int)) (fun e _ => ctr xs.length (e 5)) ?_ ?_
  · exact ⟨rfl, 1, by omega, .inr rfl, by simp (maxSteps := 2000000) (disch := first | omega | assumption | exact idP rfl | exact idP (bL rfl) | (simp only [alloc_size, upd_size] <;> omega) | fail) only [go_sem, reduceIte, Nat.reduceEqDiff], by simp (maxSteps := 2000000) (disch := first | omega | assumption | exact idP rfl | exact idP (bL rfl) | (simp only [alloc_size, upd_size] <;> omega) | fail) only [go_sem, reduceIte, Nat.reduceEqDiff]; rfl⟩
  · rintro e H4 ⟨rfl, i, hi1, hi, e4, e5⟩ K hK
    simp (maxSteps := 2000000) (disch := first | omega | assumption | exact idP rfl | exact idP (bL rfl) | (simp only [alloc_size, upd_size] <;> omega) | fail) only [go_sem, reduceIte, Nat.reduceEqDiff, e4, e5]
    refine condV_dec (fun h => ?_) (fun h => ?_)
    · have hi' : i < xs.length := by omega
      have hg := hr i hi'
      have hg2 := hr (i - 1) (by omega)
      rw [Nat.mul_one] at hg hg2
      have hsub : ((i : Int) - 1).toNat = i - 1 := by omega
      have hb := hx _ (List.getElem_mem (show i - 1 < xs.length by omega))
      simp (maxSteps := 2000000) (disch := first | omega | assumption | exact idP rfl | exact idP (bL rfl) | (simp only [alloc_size, upd_size] <;> omega) | fail) only [go_sem, reduceIte, Nat.reduceEqDiff, e4, e5, hg, hsub, hg2]
      refine condV_dec (fun heq => ?_) (fun heq => ?_)
      · have := List.pairwise_iff_getElem.1 ha (i - 1) i (by omega) hi' (by omega)
        rw [heq] at this; omega
      · simp (maxSteps := 2000000) (disch := first | omega | assumption | exact idP rfl | exact idP (bL rfl) | (simp only [alloc_size, upd_size] <;> omega) | fail) only [go_sem, reduceIte, Nat.reduceEqDiff, e4, e5]
        exact hK _ _ ⟨rfl, i + 1, by omega, .inl (by omega), by simp (maxSteps := 2000000) (disch := first | omega | assumption | exact idP rfl | exact idP (bL rfl) | (simp only [alloc_size, upd_size] <;> omega) | fail) only [go_sem, reduceIte, Nat.reduceEqDiff, e4], by simp (maxSteps := 2000000) (disch := first | omega | assumption | exact idP rfl | exact idP (bL rfl) | (simp only [alloc_size, upd_size] <;> omega) | fail) only [go_sem, reduceIte, Nat.reduceEqDiff]; rfl⟩ (by simp (maxSteps := 2000000) (disch := first | omega | assumption | exact idP rfl | exact idP (bL rfl) | (simp only [alloc_size, upd_size] <;> omega) | fail) only [go_sem, reduceIte, Nat.reduceEqDiff, ctr_int, e5]; omega)
    · simp (maxSteps := 2000000) (disch := first | omega | assumption | exact idP rfl | exact idP (bL rfl) | (simp only [alloc_size, upd_size] <;> omega) | fail) only [go_sem, reduceIte, Nat.reduceEqDiff, e4]
      refine (s_implClone hv1 hl).mono ?_
      rintro u H5 ⟨ho5, hle5, hn5⟩
      simp (maxSteps := 2000000) (disch := first | omega | assumption | exact idP rfl | exact idP (bL rfl) | (simp only [alloc_size, upd_size] <;> omega) | fail) only [go_sem, reduceIte, Nat.reduceEqDiff]
      exact hR _ _ ⟨u, rfl, ho5, (hle1.trans (base_le _ _)).trans hle5, hn5.mono (hle1.trans (base_le _ _)).1⟩
end Go.M2

namespace Go.M2
open Go.Proofs
variable {H : Heap}
def marks (k : Int) (n : Nat) : List Int := (List.range n).map fun (i : Nat) => k + i
end Go.M2
