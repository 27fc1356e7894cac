/- Contracts: the clause that two clauses imply; clauses compared. -/
import Derived.Test.YthpjcfjemogbeaaCc5
set_option linter.unusedVariables false
set_option linter.unusedSimpArgs false
set_option maxRecDepth 10000
set_option maxHeartbeats 4000000
namespace Go.M2
open Go.Proofs
variable {H : Heap}
theorem filter_take {xs : List Int} {p : Int} {i : Nat} (h : i < xs.length) : (xs.take (i + 1)).filter (· ≠ p) = (xs.take i).filter (· ≠ p) ++ (if xs[i] = p then [] else [xs[i]]) := by
  rw [List.take_succ_eq_append_getElem h, List.filter_append]
  congr 1
  by_cases e : xs[i] = p <;> simp [e]
theorem filter_short {xs : List Int} {q : Int → Bool} : (xs.filter q).length ≤ xs.length := List.length_filter_le _ _
theorem s_l11Without {v : AV} {xs : List Int} {p : Int} (hv : IsI H v xs) (hl : xs.length ≤ 1048576) :
    ACall Try.prog n_spec_l11Without [v, .int .i64 p] H (fun r H' => Own 1 H' r ((xs.filter (· ≠ p)).map (AV.int .i64)) ∧ Le H (base H' r) ∧ newer H.size r) := by
  refine ACall.of fun R hR => a_spec_l11Without rfl ?_
  obtain ⟨A, c, ex, k, rfl, hr⟩ := hv.parts
  simp (maxSteps := 2000000) (disch := first | omega | assumption | exact idP rfl | exact idP (bL rfl) | (simp only [alloc_size, upd_size]; done) | (simp only [alloc_size, upd_size]; omega) | fail) only [go_sem, reduceIte, Nat.reduceEqDiff]
  refine wp_loop_k (fun e H' => ∃ i : Nat, i ≤ xs.length ∧ e 0 = .sl A xs.length c ex k ∧ e 1 = .int .i64 p ∧ e 6 = .int .i64 (i : Int) ∧ Own 1 H' (e 5) (((xs.take i).filter (· ≠ p)).map (AV.int .i64)) ∧ Le H (base H' (e 5)) ∧ newer H.size (e 5)) (fun e _ => ctr xs.length (e 6)) ?_ ?_
  · exact ⟨0, Nat.zero_le _, by simp (maxSteps := 2000000) (disch := first | omega | assumption | exact idP rfl | exact idP (bL rfl) | (simp only [alloc_size, upd_size]; done) | (simp only [alloc_size, upd_size]; omega) | fail) only [go_sem, reduceIte, Nat.reduceEqDiff], by simp (maxSteps := 2000000) (disch := first | omega | assumption | exact idP rfl | exact idP (bL rfl) | (simp only [alloc_size, upd_size]; done) | (simp only [alloc_size, upd_size]; omega) | fail) only [go_sem, reduceIte, Nat.reduceEqDiff], by simp (maxSteps := 2000000) (disch := first | omega | assumption | exact idP rfl | exact idP (bL rfl) | (simp only [alloc_size, upd_size]; done) | (simp only [alloc_size, upd_size]; omega) | fail) only [go_sem, reduceIte, Nat.reduceEqDiff]; rfl, by simp (maxSteps := 2000000) (disch := first | omega | assumption | exact idP rfl | exact idP (bL rfl) | (simp only [alloc_size, upd_size]; done) | (simp only [alloc_size, upd_size]; omega) | fail) only [go_sem, reduceIte, Nat.reduceEqDiff]; exact Own.new rfl, by simp (maxSteps := 2000000) (disch := first | omega | assumption | exact idP rfl | exact idP (bL rfl) | (simp only [alloc_size, upd_size]; done) | (simp only [alloc_size, upd_size]; omega) | fail) only [go_sem, reduceIte, Nat.reduceEqDiff]; exact (Le.alloc _ _).killFresh (Nat.le_refl _), by simp (maxSteps := 2000000) (disch := first | omega | assumption | exact idP rfl | exact idP (bL rfl) | (simp only [alloc_size, upd_size]; done) | (simp only [alloc_size, upd_size]; omega) | fail) only [go_sem, reduceIte, Nat.reduceEqDiff]; exact Nat.le_refl _⟩
  · rintro e H1 ⟨i, hi, e0, e1, e6, ho, hle, hnew⟩ K hK
    simp (maxSteps := 2000000) (disch := first | omega | assumption | exact idP rfl | exact idP (bL rfl) | (simp only [alloc_size, upd_size]; done) | (simp only [alloc_size, upd_size]; omega) | fail) only [go_sem, reduceIte, Nat.reduceEqDiff, e0, e6]
    refine condV_dec (fun h => ?_) (fun h => ?_)
    · have hi' : i < xs.length := by omega
      have hg := (hle.trans (base_le _ _)).get (hr i hi')
      rw [Nat.mul_one] at hg
      have e6' := e6
      have hft := filter_take (p := p) hi'
      have hfl := filter_short (xs := xs.take i) (q := (· ≠ p))
      simp only [List.length_take] at hfl
      simp (maxSteps := 2000000) (disch := first | omega | assumption | exact idP rfl | exact idP (bL rfl) | (simp only [alloc_size, upd_size]; done) | (simp only [alloc_size, upd_size]; omega) | fail) only [go_sem, reduceIte, Nat.reduceEqDiff, e0, e1, e6, hg]
      refine condV_dec (fun h0 => ?_) (fun h0 => ?_)
      · rw [if_neg h0] at hft
        simp (maxSteps := 2000000) (disch := first | omega | assumption | exact idP rfl | exact idP (bL rfl) | (simp only [alloc_size, upd_size]; done) | (simp only [alloc_size, upd_size]; omega) | fail) only [go_sem, reduceIte, Nat.reduceEqDiff, e0, e1, e6, hg]
        refine app1 ho hle hnew rfl (by simp only [List.length_map]; omega) (by omega) ?_
        intro s H2 hs hle2 hn2 _
        simp (maxSteps := 2000000) (disch := first | omega | assumption | exact idP rfl | exact idP (bL rfl) | (simp only [alloc_size, upd_size]; done) | (simp only [alloc_size, upd_size]; omega) | fail) only [go_sem, reduceIte, Nat.reduceEqDiff, e6]
        refine hK _ _ ⟨i + 1, by omega, by simp (maxSteps := 2000000) (disch := first | omega | assumption | exact idP rfl | exact idP (bL rfl) | (simp only [alloc_size, upd_size]; done) | (simp only [alloc_size, upd_size]; omega) | fail) only [go_sem, reduceIte, Nat.reduceEqDiff, e0], by simp (maxSteps := 2000000) (disch := first | omega | assumption | exact idP rfl | exact idP (bL rfl) | (simp only [alloc_size, upd_size]; done) | (simp only [alloc_size, upd_size]; omega) | fail) only [go_sem, reduceIte, Nat.reduceEqDiff, e1], by simp (maxSteps := 2000000) (disch := first | omega | assumption | exact idP rfl | exact idP (bL rfl) | (simp only [alloc_size, upd_size]; done) | (simp only [alloc_size, upd_size]; omega) | fail) only [go_sem, reduceIte, Nat.reduceEqDiff]; rfl, ?_, by simp (maxSteps := 2000000) (disch := first | omega | assumption | exact idP rfl | exact idP (bL rfl) | (simp only [alloc_size, upd_size]; done) | (simp only [alloc_size, upd_size]; omega) | fail) only [go_sem, reduceIte, Nat.reduceEqDiff]; exact hle2, by simp (maxSteps := 2000000) (disch := first | omega | assumption | exact idP rfl | exact idP (bL rfl) | (simp only [alloc_size, upd_size]; done) | (simp only [alloc_size, upd_size]; omega) | fail) only [go_sem, reduceIte, Nat.reduceEqDiff]; exact hn2⟩ (by simp (maxSteps := 2000000) (disch := first | omega | assumption | exact idP rfl | exact idP (bL rfl) | (simp only [alloc_size, upd_size]; done) | (simp only [alloc_size, upd_size]; omega) | fail) only [go_sem, reduceIte, Nat.reduceEqDiff, ctr_int, e6']; omega)
        simp (maxSteps := 2000000) (disch := first | omega | assumption | exact idP rfl | exact idP (bL rfl) | (simp only [alloc_size, upd_size]; done) | (simp only [alloc_size, upd_size]; omega) | fail) only [go_sem, reduceIte, Nat.reduceEqDiff]
        rw [hft, List.map_append]; exact hs
      · rw [if_pos (Decidable.not_not.1 h0), List.append_nil] at hft
        simp (maxSteps := 2000000) (disch := first | omega | assumption | exact idP rfl | exact idP (bL rfl) | (simp only [alloc_size, upd_size]; done) | (simp only [alloc_size, upd_size]; omega) | fail) only [go_sem, reduceIte, Nat.reduceEqDiff, e6]
        refine hK _ _ ⟨i + 1, by omega, by simp (maxSteps := 2000000) (disch := first | omega | assumption | exact idP rfl | exact idP (bL rfl) | (simp only [alloc_size, upd_size]; done) | (simp only [alloc_size, upd_size]; omega) | fail) only [go_sem, reduceIte, Nat.reduceEqDiff, e0], by simp (maxSteps := 2000000) (disch := first | omega | assumption | exact idP rfl | exact idP (bL rfl) | (simp only [alloc_size, upd_size]; done) | (simp only [alloc_size, upd_size]; omega) | fail) only [go_sem, reduceIte, Nat.reduceEqDiff, e1], by simp (maxSteps := 2000000) (disch := first | omega | assumption | exact idP rfl | exact idP (bL rfl) | (simp only [alloc_size, upd_size]; done) | (simp only [alloc_size, upd_size]; omega) | fail) only [go_sem, reduceIte, Nat.reduceEqDiff]; rfl, ?_, by simp (maxSteps := 2000000) (disch := first | omega | assumption | exact idP rfl | exact idP (bL rfl) | (simp only [alloc_size, upd_size]; done) | (simp only [alloc_size, upd_size]; omega) | fail) only [go_sem, reduceIte, Nat.reduceEqDiff]; exact hle, by simp (maxSteps := 2000000) (disch := first | omega | assumption | exact idP rfl | exact idP (bL rfl) | (simp only [alloc_size, upd_size]; done) | (simp only [alloc_size, upd_size]; omega) | fail) only [go_sem, reduceIte, Nat.reduceEqDiff]; exact hnew⟩ (by simp (maxSteps := 2000000) (disch := first | omega | assumption | exact idP rfl | exact idP (bL rfl) | (simp only [alloc_size, upd_size]; done) | (simp only [alloc_size, upd_size]; omega) | fail) only [go_sem, reduceIte, Nat.reduceEqDiff, ctr_int, e6']; omega)
        simp (maxSteps := 2000000) (disch := first | omega | assumption | exact idP rfl | exact idP (bL rfl) | (simp only [alloc_size, upd_size]; done) | (simp only [alloc_size, upd_size]; omega) | fail) only [go_sem, reduceIte, Nat.reduceEqDiff]
        rw [hft]; exact ho
    · simp (maxSteps := 2000000) (disch := first | omega | assumption | exact idP rfl | exact idP (bL rfl) | (simp only [alloc_size, upd_size]; done) | (simp only [alloc_size, upd_size]; omega) | fail) only [go_sem, reduceIte, Nat.reduceEqDiff]
      obtain rfl : i = xs.length := by omega
      rw [List.take_length] at ho
      exact hR _ _ ⟨ho, hle, hnew⟩
theorem s_l11Join {u v : AV} {xs ys : List Int} (hu : IsI H u xs) (hv : IsI H v ys) (hl : xs.length ≤ 1048576) (hl2 : ys.length ≤ 1048576) :
    ACall Try.prog n_spec_l11Join [u, v] H (fun r H' => Own 1 H' r ((xs ++ ys).map (AV.int .i64)) ∧ Le H (base H' r) ∧ newer H.size r) := by
  refine ACall.of fun R hR => a_spec_l11Join rfl ?_
  obtain ⟨A, c, ex, k, rfl, hr⟩ := hv.parts
  simp (maxSteps := 2000000) (disch := first | omega | assumption | exact idP rfl | exact idP (bL rfl) | (simp only [alloc_size, upd_size]; done) | (simp only [alloc_size, upd_size]; omega) | fail) only [go_sem, reduceIte, Nat.reduceEqDiff]
  refine (s_l3Copy hu hl).mono ?_
  rintro s0 H0 ⟨ho0, hle0, hn0⟩
  simp (maxSteps := 2000000) (disch := first | omega | assumption | exact idP rfl | exact idP (bL rfl) | (simp only [alloc_size, upd_size]; done) | (simp only [alloc_size, upd_size]; omega) | fail) only [go_sem, reduceIte, Nat.reduceEqDiff]
  refine wp_loop_k (fun e H' => ∃ i : Nat, i ≤ ys.length ∧ e 1 = .sl A ys.length c ex k ∧ e 6 = .int .i64 (i : Int) ∧ Own 1 H' (e 5) ((xs ++ ys.take i).map (AV.int .i64)) ∧ Le H (base H' (e 5)) ∧ newer H.size (e 5)) (fun e _ => ctr ys.length (e 6)) ?_ ?_
  · exact ⟨0, Nat.zero_le _, by simp (maxSteps := 2000000) (disch := first | omega | assumption | exact idP rfl | exact idP (bL rfl) | (simp only [alloc_size, upd_size]; done) | (simp only [alloc_size, upd_size]; omega) | fail) only [go_sem, reduceIte, Nat.reduceEqDiff], by simp (maxSteps := 2000000) (disch := first | omega | assumption | exact idP rfl | exact idP (bL rfl) | (simp only [alloc_size, upd_size]; done) | (simp only [alloc_size, upd_size]; omega) | fail) only [go_sem, reduceIte, Nat.reduceEqDiff]; rfl, by simp (maxSteps := 2000000) (disch := first | omega | assumption | exact idP rfl | exact idP (bL rfl) | (simp only [alloc_size, upd_size]; done) | (simp only [alloc_size, upd_size]; omega) | fail) only [go_sem, reduceIte, Nat.reduceEqDiff]; simpa using ho0, by simp (maxSteps := 2000000) (disch := first | omega | assumption | exact idP rfl | exact idP (bL rfl) | (simp only [alloc_size, upd_size]; done) | (simp only [alloc_size, upd_size]; omega) | fail) only [go_sem, reduceIte, Nat.reduceEqDiff]; exact hle0, by simp (maxSteps := 2000000) (disch := first | omega | assumption | exact idP rfl | exact idP (bL rfl) | (simp only [alloc_size, upd_size]; done) | (simp only [alloc_size, upd_size]; omega) | fail) only [go_sem, reduceIte, Nat.reduceEqDiff]; exact hn0⟩
  · rintro e H1 ⟨i, hi, e1, e6, ho, hle, hnew⟩ K hK
    simp (maxSteps := 2000000) (disch := first | omega | assumption | exact idP rfl | exact idP (bL rfl) | (simp only [alloc_size, upd_size]; done) | (simp only [alloc_size, upd_size]; omega) | fail) only [go_sem, reduceIte, Nat.reduceEqDiff, e1, e6]
    refine condV_dec (fun h => ?_) (fun h => ?_)
    · have hi' : i < ys.length := by omega
      have hg := (hle.trans (base_le _ _)).get (hr i hi')
      rw [Nat.mul_one] at hg
      have e6' := e6
      simp (maxSteps := 2000000) (disch := first | omega | assumption | exact idP rfl | exact idP (bL rfl) | (simp only [alloc_size, upd_size]; done) | (simp only [alloc_size, upd_size]; omega) | fail) only [go_sem, reduceIte, Nat.reduceEqDiff, e1, e6, hg]
      refine app1 ho hle hnew rfl (by simp; omega) (by omega) ?_
      intro s H2 hs hle2 hn2 _
      simp (maxSteps := 2000000) (disch := first | omega | assumption | exact idP rfl | exact idP (bL rfl) | (simp only [alloc_size, upd_size]; done) | (simp only [alloc_size, upd_size]; omega) | fail) only [go_sem, reduceIte, Nat.reduceEqDiff, e6]
      refine hK _ _ ⟨i + 1, by omega, by simp (maxSteps := 2000000) (disch := first | omega | assumption | exact idP rfl | exact idP (bL rfl) | (simp only [alloc_size, upd_size]; done) | (simp only [alloc_size, upd_size]; omega) | fail) only [go_sem, reduceIte, Nat.reduceEqDiff, e1], by simp (maxSteps := 2000000) (disch := first | omega | assumption | exact idP rfl | exact idP (bL rfl) | (simp only [alloc_size, upd_size]; done) | (simp only [alloc_size, upd_size]; omega) | fail) only [go_sem, reduceIte, Nat.reduceEqDiff]; rfl, ?_, by simp (maxSteps := 2000000) (disch := first | omega | assumption | exact idP rfl | exact idP (bL rfl) | (simp only [alloc_size, upd_size]; done) | (simp only [alloc_size, upd_size]; omega) | fail) only [go_sem, reduceIte, Nat.reduceEqDiff]; exact hle2, by simp (maxSteps := 2000000) (disch := first | omega | assumption | exact idP rfl | exact idP (bL rfl) | (simp only [alloc_size, upd_size]; done) | (simp only [alloc_size, upd_size]; omega) | fail) only [go_sem, reduceIte, Nat.reduceEqDiff]; exact hn2⟩ (by simp (maxSteps := 2000000) (disch := first | omega | assumption | exact idP rfl | exact idP (bL rfl) | (simp only [alloc_size, upd_size]; done) | (simp only [alloc_size, upd_size]; omega) | fail) only [go_sem, reduceIte, Nat.reduceEqDiff, ctr_int, e6']; omega)
      simp (maxSteps := 2000000) (disch := first | omega | assumption | exact idP rfl | exact idP (bL rfl) | (simp only [alloc_size, upd_size]; done) | (simp only [alloc_size, upd_size]; omega) | fail) only [go_sem, reduceIte, Nat.reduceEqDiff]
      rw [List.take_succ_eq_append_getElem hi', ← List.append_assoc, List.map_append]; exact hs
    · simp (maxSteps := 2000000) (disch := first | omega | assumption | exact idP rfl | exact idP (bL rfl) | (simp only [alloc_size, upd_size]; done) | (simp only [alloc_size, upd_size]; omega) | fail) only [go_sem, reduceIte, Nat.reduceEqDiff]
      obtain rfl : i = ys.length := by omega
      rw [List.take_length] at ho
      exact hR _ _ ⟨ho, hle, hnew⟩
structure ResOk (xs ys : List Int) (p : Int) : Prop where
  a : ClOk 700 xs
  b : ClOk 700 ys
  c : 1 ≤ p
  d : p ∈ xs
  e : -p ∈ ys
def resL (xs ys : List Int) (p : Int) : List Int := xs.filter (· ≠ p) ++ ys.filter (· ≠ -p)
def ResRes (xs ys : List Int) (p : Int) (zs : List Int) (ok : Bool) : Prop :=
  (¬ ResOk xs ys p ∧ zs = [] ∧ ok = false) ∨ (ResOk xs ys p ∧ ((Opp (resL xs ys p) ∧ zs = [] ∧ ok = false) ∨ (¬ Opp (resL xs ys p) ∧ zs = marked (given 700 (resL xs ys p)) ∧ ok = true)))
theorem ResRes.det {xs ys zs zs' : List Int} {p : Int} {ok ok' : Bool} (h : ResRes xs ys p zs ok) (h' : ResRes xs ys p zs' ok') : zs = zs' ∧ ok = ok' := by
  rcases h with ⟨h1, rfl, rfl⟩ | ⟨h1, ⟨h2, rfl, rfl⟩ | ⟨h2, rfl, rfl⟩⟩ <;> rcases h' with ⟨k1, rfl, rfl⟩ | ⟨k1, ⟨k2, rfl, rfl⟩ | ⟨k2, rfl, rfl⟩⟩ <;> first | exact ⟨rfl, rfl⟩ | exact absurd k1 h1 | exact absurd h1 k1 | exact absurd k2 h2 | exact absurd h2 k2
theorem ResRes.short {xs ys zs : List Int} {p : Int} {ok : Bool} (h : ResRes xs ys p zs ok) : zs.length ≤ 700 := by
  rcases h with ⟨h1, rfl, rfl⟩ | ⟨h1, ⟨h2, rfl, rfl⟩ | ⟨h2, rfl, rfl⟩⟩
  · simp
  · simp
  · exact marked_short
theorem clOk_lits7 {xs : List Int} (h : ClOk 700 xs) : Lits 700 xs := clOk_lits (n := 700) h
theorem ResOk.lits {xs ys : List Int} {p : Int} (h : ResOk xs ys p) : Lits 700 (resL xs ys p) := by
  intro x hx
  rcases List.mem_append.1 hx with hx | hx
  · exact clOk_lits7 h.a x (List.mem_filter.1 hx).1
  · exact clOk_lits7 h.b x (List.mem_filter.1 hx).1
theorem clOk_asc {n : Int} {xs : List Int} (h : ClOk n xs) : Asc xs := by
  have key : ∀ (d i : Nat) (hj : i + d + 1 < xs.length), xs[i].natAbs < xs[i + d + 1].natAbs := by
    intro d
    induction d with
    | zero => intro i hj; have := (h (i + 0 + 1) hj).2 (by omega); simpa using this
    | succ d ih =>
      intro i hj
      have h1 := ih i (by omega)
      have h2 := (h (i + (d + 1) + 1) hj).2 (by omega)
      have e : i + (d + 1) + 1 - 1 = i + d + 1 := by omega
      simp only [e] at h2
      omega
  refine List.pairwise_iff_getElem.2 fun i j hi hj hij => ?_
  have := key (j - i - 1) i (by omega)
  have e : i + (j - i - 1) + 1 = j := by omega
  simp only [e] at this
  exact this
theorem clOk_len {xs : List Int} (h : ClOk 700 xs) : xs.length ≤ 700 := asc_len (clOk_asc h) (fun x hx => (clOk_lits7 h x hx).1) fun x hx => (clOk_lits7 h x hx).2
theorem ResOk.len {xs ys : List Int} {p : Int} (h : ResOk xs ys p) : (resL xs ys p).length ≤ 1400 := by
  have h1 := clOk_len h.a
  have h2 := clOk_len h.b
  have f1 := filter_short (xs := xs) (q := (· ≠ p))
  have f2 := filter_short (xs := ys) (q := (· ≠ -p))
  unfold resL
  rw [List.length_append]; omega
theorem nilI (H' : Heap) : IsI H' (.sl none 0 0 true 0) [] := ⟨none, 0, true, 0, rfl, fun i h => by simp at h⟩
theorem s_specResolved {u v : AV} {xs ys : List Int} {p : Int} (hu : IsI H u xs) (hv : IsI H v ys) (hl : xs.length ≤ 1048576) (hl2 : ys.length ≤ 1048576) :
    ACall Try.prog n_spec_Resolved [u, v, .int .i64 p] H (fun r H' => Le H H' ∧ ∃ w zs ok, r = .tup [w, .bool ok] ∧ IsI H' w zs ∧ ResRes xs ys p zs ok) := by
  refine ACall.of fun R hR => a_spec_Resolved rfl ?_
  have bad : ¬ ResOk xs ys p → R (.tup [.sl none 0 0 true 0, .bool false]) H := fun h => hR _ _ ⟨Le.refl _, _, [], false, rfl, nilI _, .inl ⟨h, rfl, rfl⟩⟩
  simp (maxSteps := 2000000) (disch := first | omega | assumption | exact idP rfl | exact idP (bL rfl) | (simp only [alloc_size, upd_size]; done) | (simp only [alloc_size, upd_size]; omega) | fail) only [go_sem, reduceIte, Nat.reduceEqDiff]
  refine (s_specClauseValid hu hl (by omega) (by omega)).mono ?_
  rintro r H1 ⟨rfl, b1, rfl, hb1⟩
  cases b1 with
  | false =>
    simp (maxSteps := 2000000) (disch := first | omega | assumption | exact idP rfl | exact idP (bL rfl) | (simp only [alloc_size, upd_size]; done) | (simp only [alloc_size, upd_size]; omega) | fail) only [go_sem, reduceIte, Nat.reduceEqDiff]
    exact bad fun h => by have := hb1.2 h.a; cases this
  | true =>
  simp (maxSteps := 2000000) (disch := first | omega | assumption | exact idP rfl | exact idP (bL rfl) | (simp only [alloc_size, upd_size]; done) | (simp only [alloc_size, upd_size]; omega) | fail) only [go_sem, reduceIte, Nat.reduceEqDiff]
  refine (s_specClauseValid hv hl2 (by omega) (by omega)).mono ?_
  rintro r H2 ⟨rfl, b2, rfl, hb2⟩
  cases b2 with
  | false =>
    simp (maxSteps := 2000000) (disch := first | omega | assumption | exact idP rfl | exact idP (bL rfl) | (simp only [alloc_size, upd_size]; done) | (simp only [alloc_size, upd_size]; omega) | fail) only [go_sem, reduceIte, Nat.reduceEqDiff]
    exact bad fun h => by have := hb2.2 h.b; cases this
  | true =>
  by_cases hp1 : p < 1
  · simp (maxSteps := 2000000) (disch := first | omega | assumption | exact idP rfl | exact idP (bL rfl) | (simp only [alloc_size, upd_size]; done) | (simp only [alloc_size, upd_size]; omega) | fail) only [go_sem, reduceIte, Nat.reduceEqDiff, hp1, decide_true]
    exact bad fun h => by have := h.c; omega
  · simp (maxSteps := 2000000) (disch := first | omega | assumption | exact idP rfl | exact idP (bL rfl) | (simp only [alloc_size, upd_size]; done) | (simp only [alloc_size, upd_size]; omega) | fail) only [go_sem, reduceIte, Nat.reduceEqDiff, hp1, decide_false]
    refine (s_l2Has hu hl).mono ?_
    rintro r H3 ⟨rfl, b3, rfl, hb3⟩
    cases b3 with
    | false =>
      simp (maxSteps := 2000000) (disch := first | omega | assumption | exact idP rfl | exact idP (bL rfl) | (simp only [alloc_size, upd_size]; done) | (simp only [alloc_size, upd_size]; omega) | fail) only [go_sem, reduceIte, Nat.reduceEqDiff]
      exact bad fun h => by have := hb3.2 h.d; cases this
    | true =>
    have hpb := clOk_lits7 (hb1.1 rfl) p (hb3.1 rfl)
    have en : (0 : Int) - p = -p := by omega
    simp (maxSteps := 2000000) (disch := first | omega | assumption | exact idP rfl | exact idP (bL rfl) | (simp only [alloc_size, upd_size]; done) | (simp only [alloc_size, upd_size]; omega) | fail) only [go_sem, reduceIte, Nat.reduceEqDiff, en]
    refine (s_l2Has hv hl2).mono ?_
    rintro r H4 ⟨rfl, b4, rfl, hb4⟩
    cases b4 with
    | false =>
      simp (maxSteps := 2000000) (disch := first | omega | assumption | exact idP rfl | exact idP (bL rfl) | (simp only [alloc_size, upd_size]; done) | (simp only [alloc_size, upd_size]; omega) | fail) only [go_sem, reduceIte, Nat.reduceEqDiff]
      exact bad fun h => by have := hb4.2 h.e; cases this
    | true =>
    have hok : ResOk xs ys p := ⟨hb1.1 rfl, hb2.1 rfl, by omega, hb3.1 rfl, hb4.1 rfl⟩
    simp (maxSteps := 2000000) (disch := first | omega | assumption | exact idP rfl | exact idP (bL rfl) | (simp only [alloc_size, upd_size]; done) | (simp only [alloc_size, upd_size]; omega) | fail) only [go_sem, reduceIte, Nat.reduceEqDiff]
    refine (s_l11Without hu hl).mono ?_
    rintro w1 H5 ⟨o1, l1, n1⟩
    simp (maxSteps := 2000000) (disch := first | omega | assumption | exact idP rfl | exact idP (bL rfl) | (simp only [alloc_size, upd_size]; done) | (simp only [alloc_size, upd_size]; omega) | fail) only [go_sem, reduceIte, Nat.reduceEqDiff, en]
    refine (s_l11Without (hv.le (l1.trans (base_le _ _))) hl2).mono ?_
    rintro w2 H6 ⟨o2, l2, n2⟩
    simp (maxSteps := 2000000) (disch := first | omega | assumption | exact idP rfl | exact idP (bL rfl) | (simp only [alloc_size, upd_size]; done) | (simp only [alloc_size, upd_size]; omega) | fail) only [go_sem, reduceIte, Nat.reduceEqDiff]
    have f1 := filter_short (xs := xs) (q := (· ≠ p))
    have f2 := filter_short (xs := ys) (q := (· ≠ -p))
    refine (s_l11Join (o1.isI.le (l2.trans (base_le _ _))) o2.isI (by omega) (by omega)).mono ?_
    rintro w3 H7 ⟨o3, l3, n3⟩
    simp (maxSteps := 2000000) (disch := first | omega | assumption | exact idP rfl | exact idP (bL rfl) | (simp only [alloc_size, upd_size]; done) | (simp only [alloc_size, upd_size]; omega) | fail) only [go_sem, reduceIte, Nat.reduceEqDiff]
    have hlen := hok.len
    have hL : Le H4 H7 := (l1.trans (base_le _ _)).trans ((l2.trans (base_le _ _)).trans (l3.trans (base_le _ _)))
    refine (s_l11Clause (n := 700) (xs := resL xs ys p) o3.isI (by omega) (by omega) hok.lits).mono ?_
    rintro r H8 ⟨hc1, hc2⟩
    by_cases hO : Opp (resL xs ys p)
    · obtain ⟨rfl, l4⟩ := hc1 ((contr_opp hok.lits).2 hO)
      simp (maxSteps := 2000000) (disch := first | omega | assumption | exact idP rfl | exact idP (bL rfl) | (simp only [alloc_size, upd_size]; done) | (simp only [alloc_size, upd_size]; omega) | fail) only [go_sem, reduceIte, Nat.reduceEqDiff]
      exact hR _ _ ⟨hL.trans l4, _, [], false, rfl, nilI _, .inr ⟨hok, .inl ⟨hO, rfl, rfl⟩⟩⟩
    · obtain ⟨w4, rfl, o4, l4, n4⟩ := hc2 fun h => hO ((contr_opp hok.lits).1 h)
      simp (maxSteps := 2000000) (disch := first | omega | assumption | exact idP rfl | exact idP (bL rfl) | (simp only [alloc_size, upd_size]; done) | (simp only [alloc_size, upd_size]; omega) | fail) only [go_sem, reduceIte, Nat.reduceEqDiff]
      exact hR _ _ ⟨hL.trans (l4.trans (base_le _ _)), w4, _, true, rfl, o4.isI, .inr ⟨hok, .inr ⟨hO, rfl, rfl⟩⟩⟩
set_option maxHeartbeats 4000000 in
theorem s_implResolved {u v : AV} {xs ys : List Int} {p : Int} (hu : IsI H u xs) (hv : IsI H v ys) (hl : xs.length ≤ 1048576) (hl2 : ys.length ≤ 1048576) :
    ACall Try.prog n_impl_Resolved [u, v, .int .i64 p] H (fun r H' => Le H H' ∧ ∃ w zs ok, r = .tup [w, .bool ok] ∧ IsI H' w zs ∧ ResRes xs ys p zs ok) := by
  refine ACall.of fun R hR => a_impl_Resolved rfl ?_
  have bad : ¬ ResOk xs ys p → R (.tup [.sl none 0 0 true 0, .bool false]) H := fun h => hR _ _ ⟨Le.refl _, _, [], false, rfl, nilI _, .inl ⟨h, rfl, rfl⟩⟩
  simp (maxSteps := 2000000) (disch := first | omega | assumption | exact idP rfl | exact idP (bL rfl) | (simp only [alloc_size, upd_size]; done) | (simp only [alloc_size, upd_size]; omega) | fail) only [go_sem, reduceIte, Nat.reduceEqDiff]
  refine (s_implClauseValid hu hl (by omega) (by omega)).mono ?_
  rintro r H1 ⟨rfl, b1, rfl, hb1⟩
  cases b1 with
  | false =>
    simp (maxSteps := 2000000) (disch := first | omega | assumption | exact idP rfl | exact idP (bL rfl) | (simp only [alloc_size, upd_size]; done) | (simp only [alloc_size, upd_size]; omega) | fail) only [go_sem, reduceIte, Nat.reduceEqDiff]
    exact bad fun h => by have := hb1.2 h.a; cases this
  | true =>
  simp (maxSteps := 2000000) (disch := first | omega | assumption | exact idP rfl | exact idP (bL rfl) | (simp only [alloc_size, upd_size]; done) | (simp only [alloc_size, upd_size]; omega) | fail) only [go_sem, reduceIte, Nat.reduceEqDiff]
  refine (s_implClauseValid hv hl2 (by omega) (by omega)).mono ?_
  rintro r H2 ⟨rfl, b2, rfl, hb2⟩
  cases b2 with
  | false =>
    simp (maxSteps := 2000000) (disch := first | omega | assumption | exact idP rfl | exact idP (bL rfl) | (simp only [alloc_size, upd_size]; done) | (simp only [alloc_size, upd_size]; omega) | fail) only [go_sem, reduceIte, Nat.reduceEqDiff]
    exact bad fun h => by have := hb2.2 h.b; cases this
  | true =>
  by_cases hp1 : p ≤ 0
  · simp (maxSteps := 2000000) (disch := first | omega | assumption | exact idP rfl | exact idP (bL rfl) | (simp only [alloc_size, upd_size]; done) | (simp only [alloc_size, upd_size]; omega) | fail) only [go_sem, reduceIte, Nat.reduceEqDiff, hp1, decide_true]
    exact bad fun h => by have := h.c; omega
  · simp (maxSteps := 2000000) (disch := first | omega | assumption | exact idP rfl | exact idP (bL rfl) | (simp only [alloc_size, upd_size]; done) | (simp only [alloc_size, upd_size]; omega) | fail) only [go_sem, reduceIte, Nat.reduceEqDiff, hp1, decide_false]
    refine (s_Contains hu hl).mono ?_
    rintro r H3 ⟨rfl, b3, rfl, hb3⟩
    cases b3 with
    | false =>
      simp (maxSteps := 2000000) (disch := first | omega | assumption | exact idP rfl | exact idP (bL rfl) | (simp only [alloc_size, upd_size]; done) | (simp only [alloc_size, upd_size]; omega) | fail) only [go_sem, reduceIte, Nat.reduceEqDiff]
      exact bad fun h => by have := hb3.2 h.d; cases this
    | true =>
    have hpb := clOk_lits7 (hb1.1 rfl) p (hb3.1 rfl)
    have en : (0 : Int) - p = -p := by omega
    simp (maxSteps := 2000000) (disch := first | omega | assumption | exact idP rfl | exact idP (bL rfl) | (simp only [alloc_size, upd_size]; done) | (simp only [alloc_size, upd_size]; omega) | fail) only [go_sem, reduceIte, Nat.reduceEqDiff, en]
    refine (s_Contains hv hl2).mono ?_
    rintro r H4 ⟨rfl, b4, rfl, hb4⟩
    cases b4 with
    | false =>
      simp (maxSteps := 2000000) (disch := first | omega | assumption | exact idP rfl | exact idP (bL rfl) | (simp only [alloc_size, upd_size]; done) | (simp only [alloc_size, upd_size]; omega) | fail) only [go_sem, reduceIte, Nat.reduceEqDiff]
      exact bad fun h => by have := hb4.2 h.e; cases this
    | true =>
    have hok : ResOk xs ys p := ⟨hb1.1 rfl, hb2.1 rfl, by omega, hb3.1 rfl, hb4.1 rfl⟩
    have hx7 := clOk_len hok.a
    have hy7 := clOk_len hok.b
    obtain ⟨A, c, ex, k, rfl, hr⟩ := hu.parts
    obtain ⟨A2, c2, ex2, k2, rfl, hr2⟩ := hv.parts
    simp (maxSteps := 2000000) (disch := first | omega | assumption | exact idP rfl | exact idP (bL rfl) | (simp only [alloc_size, upd_size]; done) | (simp only [alloc_size, upd_size]; omega) | fail) only [go_sem, reduceIte, Nat.reduceEqDiff]
    refine wp_loop_k (fun e H' => ∃ i : Nat, i ≤ xs.length ∧ e 1 = .sl A2 ys.length c2 ex2 k2 ∧ e 2 = .int .i64 p ∧ e 38 = .sl A xs.length c ex k ∧ e 39 = .int .i64 (xs.length : Int) ∧ e 40 = .int .i64 (i : Int) ∧ Own 1 H' (e 8) (((xs.take i).filter (· ≠ p)).map (AV.int .i64)) ∧ Le H4 (base H' (e 8)) ∧ newer H4.size (e 8)) (fun e _ => ctr xs.length (e 40)) ?_ ?_
    · exact ⟨0, Nat.zero_le _, by simp (maxSteps := 2000000) (disch := first | omega | assumption | exact idP rfl | exact idP (bL rfl) | (simp only [alloc_size, upd_size]; done) | (simp only [alloc_size, upd_size]; omega) | fail) only [go_sem, reduceIte, Nat.reduceEqDiff], by simp (maxSteps := 2000000) (disch := first | omega | assumption | exact idP rfl | exact idP (bL rfl) | (simp only [alloc_size, upd_size]; done) | (simp only [alloc_size, upd_size]; omega) | fail) only [go_sem, reduceIte, Nat.reduceEqDiff], by simp (maxSteps := 2000000) (disch := first | omega | assumption | exact idP rfl | exact idP (bL rfl) | (simp only [alloc_size, upd_size]; done) | (simp only [alloc_size, upd_size]; omega) | fail) only [go_sem, reduceIte, Nat.reduceEqDiff], by simp (maxSteps := 2000000) (disch := first | omega | assumption | exact idP rfl | exact idP (bL rfl) | (simp only [alloc_size, upd_size]; done) | (simp only [alloc_size, upd_size]; omega) | fail) only [go_sem, reduceIte, Nat.reduceEqDiff], by simp (maxSteps := 2000000) (disch := first | omega | assumption | exact idP rfl | exact idP (bL rfl) | (simp only [alloc_size, upd_size]; done) | (simp only [alloc_size, upd_size]; omega) | fail) only [go_sem, reduceIte, Nat.reduceEqDiff]; rfl, by simp (maxSteps := 2000000) (disch := first | omega | assumption | exact idP rfl | exact idP (bL rfl) | (simp only [alloc_size, upd_size]; done) | (simp only [alloc_size, upd_size]; omega) | fail) only [go_sem, reduceIte, Nat.reduceEqDiff]; exact Own.nil, by simp (maxSteps := 2000000) (disch := first | omega | assumption | exact idP rfl | exact idP (bL rfl) | (simp only [alloc_size, upd_size]; done) | (simp only [alloc_size, upd_size]; omega) | fail) only [go_sem, reduceIte, Nat.reduceEqDiff]; exact Le.refl _, by simp (maxSteps := 2000000) (disch := first | omega | assumption | exact idP rfl | exact idP (bL rfl) | (simp only [alloc_size, upd_size]; done) | (simp only [alloc_size, upd_size]; omega) | fail) only [go_sem, reduceIte, Nat.reduceEqDiff]; trivial⟩
    rintro e H5 ⟨i, hi, e1, e2, e38, e39, e40, ho, hle, hnew⟩ K hK
    simp (maxSteps := 2000000) (disch := first | omega | assumption | exact idP rfl | exact idP (bL rfl) | (simp only [alloc_size, upd_size]; done) | (simp only [alloc_size, upd_size]; omega) | fail) only [go_sem, reduceIte, Nat.reduceEqDiff, e38, e39, e40]
    refine condV_dec (fun h => ?_) (fun h => ?_)
    · have hi' : i < xs.length := by omega
      have hg := (hle.trans (base_le _ _)).get (hr i hi')
      rw [Nat.mul_one] at hg
      have e40' := e40
      have hft := filter_take (p := p) hi'
      have hfl := filter_short (xs := xs.take i) (q := (· ≠ p))
      simp only [List.length_take] at hfl
      simp (maxSteps := 2000000) (disch := first | omega | assumption | exact idP rfl | exact idP (bL rfl) | (simp only [alloc_size, upd_size]; done) | (simp only [alloc_size, upd_size]; omega) | fail) only [go_sem, reduceIte, Nat.reduceEqDiff, e2, e38, e40, hg]
      refine condV_dec (fun h0 => ?_) (fun h0 => ?_)
      · rw [if_neg h0] at hft
        simp (maxSteps := 2000000) (disch := first | omega | assumption | exact idP rfl | exact idP (bL rfl) | (simp only [alloc_size, upd_size]; done) | (simp only [alloc_size, upd_size]; omega) | fail) only [go_sem, reduceIte, Nat.reduceEqDiff]
        refine app1 ho hle hnew rfl (by simp only [List.length_map]; omega) (by omega) ?_
        intro s H6 hs hle2 hn2 _
        simp (maxSteps := 2000000) (disch := first | omega | assumption | exact idP rfl | exact idP (bL rfl) | (simp only [alloc_size, upd_size]; done) | (simp only [alloc_size, upd_size]; omega) | fail) only [go_sem, reduceIte, Nat.reduceEqDiff, e40]
        refine hK _ _ ⟨i + 1, by omega, by simp (maxSteps := 2000000) (disch := first | omega | assumption | exact idP rfl | exact idP (bL rfl) | (simp only [alloc_size, upd_size]; done) | (simp only [alloc_size, upd_size]; omega) | fail) only [go_sem, reduceIte, Nat.reduceEqDiff, e1], by simp (maxSteps := 2000000) (disch := first | omega | assumption | exact idP rfl | exact idP (bL rfl) | (simp only [alloc_size, upd_size]; done) | (simp only [alloc_size, upd_size]; omega) | fail) only [go_sem, reduceIte, Nat.reduceEqDiff, e2], by simp (maxSteps := 2000000) (disch := first | omega | assumption | exact idP rfl | exact idP (bL rfl) | (simp only [alloc_size, upd_size]; done) | (simp only [alloc_size, upd_size]; omega) | fail) only [go_sem, reduceIte, Nat.reduceEqDiff, e38], by simp (maxSteps := 2000000) (disch := first | omega | assumption | exact idP rfl | exact idP (bL rfl) | (simp only [alloc_size, upd_size]; done) | (simp only [alloc_size, upd_size]; omega) | fail) only [go_sem, reduceIte, Nat.reduceEqDiff, e39], by simp (maxSteps := 2000000) (disch := first | omega | assumption | exact idP rfl | exact idP (bL rfl) | (simp only [alloc_size, upd_size]; done) | (simp only [alloc_size, upd_size]; omega) | fail) only [go_sem, reduceIte, Nat.reduceEqDiff]; rfl, ?_, by simp (maxSteps := 2000000) (disch := first | omega | assumption | exact idP rfl | exact idP (bL rfl) | (simp only [alloc_size, upd_size]; done) | (simp only [alloc_size, upd_size]; omega) | fail) only [go_sem, reduceIte, Nat.reduceEqDiff]; exact hle2, by simp (maxSteps := 2000000) (disch := first | omega | assumption | exact idP rfl | exact idP (bL rfl) | (simp only [alloc_size, upd_size]; done) | (simp only [alloc_size, upd_size]; omega) | fail) only [go_sem, reduceIte, Nat.reduceEqDiff]; exact hn2⟩ (by simp (maxSteps := 2000000) (disch := first | omega | assumption | exact idP rfl | exact idP (bL rfl) | (simp only [alloc_size, upd_size]; done) | (simp only [alloc_size, upd_size]; omega) | fail) only [go_sem, reduceIte, Nat.reduceEqDiff, ctr_int, e40']; omega)
        simp (maxSteps := 2000000) (disch := first | omega | assumption | exact idP rfl | exact idP (bL rfl) | (simp only [alloc_size, upd_size]; done) | (simp only [alloc_size, upd_size]; omega) | fail) only [go_sem, reduceIte, Nat.reduceEqDiff]
        rw [hft, List.map_append]; exact hs
      · rw [if_pos (Decidable.not_not.1 h0), List.append_nil] at hft
        simp (maxSteps := 2000000) (disch := first | omega | assumption | exact idP rfl | exact idP (bL rfl) | (simp only [alloc_size, upd_size]; done) | (simp only [alloc_size, upd_size]; omega) | fail) only [go_sem, reduceIte, Nat.reduceEqDiff, e40]
        refine hK _ _ ⟨i + 1, by omega, by simp (maxSteps := 2000000) (disch := first | omega | assumption | exact idP rfl | exact idP (bL rfl) | (simp only [alloc_size, upd_size]; done) | (simp only [alloc_size, upd_size]; omega) | fail) only [go_sem, reduceIte, Nat.reduceEqDiff, e1], by simp (maxSteps := 2000000) (disch := first | omega | assumption | exact idP rfl | exact idP (bL rfl) | (simp only [alloc_size, upd_size]; done) | (simp only [alloc_size, upd_size]; omega) | fail) only [go_sem, reduceIte, Nat.reduceEqDiff, e2], by simp (maxSteps := 2000000) (disch := first | omega | assumption | exact idP rfl | exact idP (bL rfl) | (simp only [alloc_size, upd_size]; done) | (simp only [alloc_size, upd_size]; omega) | fail) only [go_sem, reduceIte, Nat.reduceEqDiff, e38], by simp (maxSteps := 2000000) (disch := first | omega | assumption | exact idP rfl | exact idP (bL rfl) | (simp only [alloc_size, upd_size]; done) | (simp only [alloc_size, upd_size]; omega) | fail) only [go_sem, reduceIte, Nat.reduceEqDiff, e39], by simp (maxSteps := 2000000) (disch := first | omega | assumption | exact idP rfl | exact idP (bL rfl) | (simp only [alloc_size, upd_size]; done) | (simp only [alloc_size, upd_size]; omega) | fail) only [go_sem, reduceIte, Nat.reduceEqDiff]; rfl, ?_, by simp (maxSteps := 2000000) (disch := first | omega | assumption | exact idP rfl | exact idP (bL rfl) | (simp only [alloc_size, upd_size]; done) | (simp only [alloc_size, upd_size]; omega) | fail) only [go_sem, reduceIte, Nat.reduceEqDiff]; exact hle, by simp (maxSteps := 2000000) (disch := first | omega | assumption | exact idP rfl | exact idP (bL rfl) | (simp only [alloc_size, upd_size]; done) | (simp only [alloc_size, upd_size]; omega) | fail) only [go_sem, reduceIte, Nat.reduceEqDiff]; exact hnew⟩ (by simp (maxSteps := 2000000) (disch := first | omega | assumption | exact idP rfl | exact idP (bL rfl) | (simp only [alloc_size, upd_size]; done) | (simp only [alloc_size, upd_size]; omega) | fail) only [go_sem, reduceIte, Nat.reduceEqDiff, ctr_int, e40']; omega)
        simp (maxSteps := 2000000) (disch := first | omega | assumption | exact idP rfl | exact idP (bL rfl) | (simp only [alloc_size, upd_size]; done) | (simp only [alloc_size, upd_size]; omega) | fail) only [go_sem, reduceIte, Nat.reduceEqDiff]
        rw [hft]; exact ho
    obtain rfl : i = xs.length := by omega
    rw [List.take_length] at ho
    clear hK
    simp (maxSteps := 2000000) (disch := first | omega | assumption | exact idP rfl | exact idP (bL rfl) | (simp only [alloc_size, upd_size]; done) | (simp only [alloc_size, upd_size]; omega) | fail) only [go_sem, reduceIte, Nat.reduceEqDiff, e1]
    have f1 := filter_short (xs := xs) (q := (· ≠ p))
    refine wp_loop_k (fun e H' => ∃ i : Nat, i ≤ ys.length ∧ e 2 = .int .i64 p ∧ e 52 = .sl A2 ys.length c2 ex2 k2 ∧ e 53 = .int .i64 (ys.length : Int) ∧ e 54 = .int .i64 (i : Int) ∧ Own 1 H' (e 8) ((xs.filter (· ≠ p) ++ (ys.take i).filter (· ≠ -p)).map (AV.int .i64)) ∧ Le H4 (base H' (e 8)) ∧ newer H4.size (e 8)) (fun e _ => ctr ys.length (e 54)) ?_ ?_
    · exact ⟨0, Nat.zero_le _, by simp (maxSteps := 2000000) (disch := first | omega | assumption | exact idP rfl | exact idP (bL rfl) | (simp only [alloc_size, upd_size]; done) | (simp only [alloc_size, upd_size]; omega) | fail) only [go_sem, reduceIte, Nat.reduceEqDiff, e2], by simp (maxSteps := 2000000) (disch := first | omega | assumption | exact idP rfl | exact idP (bL rfl) | (simp only [alloc_size, upd_size]; done) | (simp only [alloc_size, upd_size]; omega) | fail) only [go_sem, reduceIte, Nat.reduceEqDiff], by simp (maxSteps := 2000000) (disch := first | omega | assumption | exact idP rfl | exact idP (bL rfl) | (simp only [alloc_size, upd_size]; done) | (simp only [alloc_size, upd_size]; omega) | fail) only [go_sem, reduceIte, Nat.reduceEqDiff], by simp (maxSteps := 2000000) (disch := first | omega | assumption | exact idP rfl | exact idP (bL rfl) | (simp only [alloc_size, upd_size]; done) | (simp only [alloc_size, upd_size]; omega) | fail) only [go_sem, reduceIte, Nat.reduceEqDiff]; rfl, by simp (maxSteps := 2000000) (disch := first | omega | assumption | exact idP rfl | exact idP (bL rfl) | (simp only [alloc_size, upd_size]; done) | (simp only [alloc_size, upd_size]; omega) | fail) only [go_sem, reduceIte, Nat.reduceEqDiff]; simpa using ho, by simp (maxSteps := 2000000) (disch := first | omega | assumption | exact idP rfl | exact idP (bL rfl) | (simp only [alloc_size, upd_size]; done) | (simp only [alloc_size, upd_size]; omega) | fail) only [go_sem, reduceIte, Nat.reduceEqDiff]; exact hle, by simp (maxSteps := 2000000) (disch := first | omega | assumption | exact idP rfl | exact idP (bL rfl) | (simp only [alloc_size, upd_size]; done) | (simp only [alloc_size, upd_size]; omega) | fail) only [go_sem, reduceIte, Nat.reduceEqDiff]; exact hnew⟩
    clear ho hle hnew e1 e2 e38 e39 e40 h hi
    rintro e H5 ⟨i, hi, e2, e52, e53, e54, ho, hle, hnew⟩ K hK
    simp (maxSteps := 2000000) (disch := first | omega | assumption | exact idP rfl | exact idP (bL rfl) | (simp only [alloc_size, upd_size]; done) | (simp only [alloc_size, upd_size]; omega) | fail) only [go_sem, reduceIte, Nat.reduceEqDiff, e52, e53, e54]
    refine condV_dec (fun h => ?_) (fun h => ?_)
    · have hi' : i < ys.length := by omega
      have hg := (hle.trans (base_le _ _)).get (hr2 i hi')
      rw [Nat.mul_one] at hg
      have e54' := e54
      have hft := filter_take (p := -p) hi'
      have hfl := filter_short (xs := ys.take i) (q := (· ≠ -p))
      simp only [List.length_take] at hfl
      simp (maxSteps := 2000000) (disch := first | omega | assumption | exact idP rfl | exact idP (bL rfl) | (simp only [alloc_size, upd_size]; done) | (simp only [alloc_size, upd_size]; omega) | fail) only [go_sem, reduceIte, Nat.reduceEqDiff, e2, e52, e54, hg, en]
      refine condV_dec (fun h0 => ?_) (fun h0 => ?_)
      · rw [if_neg h0] at hft
        simp (maxSteps := 2000000) (disch := first | omega | assumption | exact idP rfl | exact idP (bL rfl) | (simp only [alloc_size, upd_size]; done) | (simp only [alloc_size, upd_size]; omega) | fail) only [go_sem, reduceIte, Nat.reduceEqDiff]
        refine app1 ho hle hnew rfl (by simp only [List.length_map, List.length_append]; omega) (by omega) ?_
        intro s H6 hs hle2 hn2 _
        simp (maxSteps := 2000000) (disch := first | omega | assumption | exact idP rfl | exact idP (bL rfl) | (simp only [alloc_size, upd_size]; done) | (simp only [alloc_size, upd_size]; omega) | fail) only [go_sem, reduceIte, Nat.reduceEqDiff, e54]
        refine hK _ _ ⟨i + 1, by omega, by simp (maxSteps := 2000000) (disch := first | omega | assumption | exact idP rfl | exact idP (bL rfl) | (simp only [alloc_size, upd_size]; done) | (simp only [alloc_size, upd_size]; omega) | fail) only [go_sem, reduceIte, Nat.reduceEqDiff, e2], by simp (maxSteps := 2000000) (disch := first | omega | assumption | exact idP rfl | exact idP (bL rfl) | (simp only [alloc_size, upd_size]; done) | (simp only [alloc_size, upd_size]; omega) | fail) only [go_sem, reduceIte, Nat.reduceEqDiff, e52], by simp (maxSteps := 2000000) (disch := first | omega | assumption | exact idP rfl | exact idP (bL rfl) | (simp only [alloc_size, upd_size]; done) | (simp only [alloc_size, upd_size]; omega) | fail) only [go_sem, reduceIte, Nat.reduceEqDiff, e53], by simp (maxSteps := 2000000) (disch := first | omega | assumption | exact idP rfl | exact idP (bL rfl) | (simp only [alloc_size, upd_size]; done) | (simp only [alloc_size, upd_size]; omega) | fail) only [go_sem, reduceIte, Nat.reduceEqDiff]; rfl, ?_, by simp (maxSteps := 2000000) (disch := first | omega | assumption | exact idP rfl | exact idP (bL rfl) | (simp only [alloc_size, upd_size]; done) | (simp only [alloc_size, upd_size]; omega) | fail) only [go_sem, reduceIte, Nat.reduceEqDiff]; exact hle2, by simp (maxSteps := 2000000) (disch := first | omega | assumption | exact idP rfl | exact idP (bL rfl) | (simp only [alloc_size, upd_size]; done) | (simp only [alloc_size, upd_size]; omega) | fail) only [go_sem, reduceIte, Nat.reduceEqDiff]; exact hn2⟩ (by simp (maxSteps := 2000000) (disch := first | omega | assumption | exact idP rfl | exact idP (bL rfl) | (simp only [alloc_size, upd_size]; done) | (simp only [alloc_size, upd_size]; omega) | fail) only [go_sem, reduceIte, Nat.reduceEqDiff, ctr_int, e54']; omega)
        simp (maxSteps := 2000000) (disch := first | omega | assumption | exact idP rfl | exact idP (bL rfl) | (simp only [alloc_size, upd_size]; done) | (simp only [alloc_size, upd_size]; omega) | fail) only [go_sem, reduceIte, Nat.reduceEqDiff]
        rw [hft, ← List.append_assoc, List.map_append]; exact hs
      · rw [if_pos (Decidable.not_not.1 h0), List.append_nil] at hft
        simp (maxSteps := 2000000) (disch := first | omega | assumption | exact idP rfl | exact idP (bL rfl) | (simp only [alloc_size, upd_size]; done) | (simp only [alloc_size, upd_size]; omega) | fail) only [go_sem, reduceIte, Nat.reduceEqDiff, e54]
        refine hK _ _ ⟨i + 1, by omega, by simp (maxSteps := 2000000) (disch := first | omega | assumption | exact idP rfl | exact idP (bL rfl) | (simp only [alloc_size, upd_size]; done) | (simp only [alloc_size, upd_size]; omega) | fail) only [go_sem, reduceIte, Nat.reduceEqDiff, e2], by simp (maxSteps := 2000000) (disch := first | omega | assumption | exact idP rfl | exact idP (bL rfl) | (simp only [alloc_size, upd_size]; done) | (simp only [alloc_size, upd_size]; omega) | fail) only [go_sem, reduceIte, Nat.reduceEqDiff, e52], by simp (maxSteps := 2000000) (disch := first | omega | assumption | exact idP rfl | exact idP (bL rfl) | (simp only [alloc_size, upd_size]; done) | (simp only [alloc_size, upd_size]; omega) | fail) only [go_sem, reduceIte, Nat.reduceEqDiff, e53], by simp (maxSteps := 2000000) (disch := first | omega | assumption | exact idP rfl | exact idP (bL rfl) | (simp only [alloc_size, upd_size]; done) | (simp only [alloc_size, upd_size]; omega) | fail) only [go_sem, reduceIte, Nat.reduceEqDiff]; rfl, ?_, by simp (maxSteps := 2000000) (disch := first | omega | assumption | exact idP rfl | exact idP (bL rfl) | (simp only [alloc_size, upd_size]; done) | (simp only [alloc_size, upd_size]; omega) | fail) only [go_sem, reduceIte, Nat.reduceEqDiff]; exact hle, by simp (maxSteps := 2000000) (disch := first | omega | assumption | exact idP rfl | exact idP (bL rfl) | (simp only [alloc_size, upd_size]; done) | (simp only [alloc_size, upd_size]; omega) | fail) only [go_sem, reduceIte, Nat.reduceEqDiff]; exact hnew⟩ (by simp (maxSteps := 2000000) (disch := first | omega | assumption | exact idP rfl | exact idP (bL rfl) | (simp only [alloc_size, upd_size]; done) | (simp only [alloc_size, upd_size]; omega) | fail) only [go_sem, reduceIte, Nat.reduceEqDiff, ctr_int, e54']; omega)
        simp (maxSteps := 2000000) (disch := first | omega | assumption | exact idP rfl | exact idP (bL rfl) | (simp only [alloc_size, upd_size]; done) | (simp only [alloc_size, upd_size]; omega) | fail) only [go_sem, reduceIte, Nat.reduceEqDiff]
        rw [hft]; exact ho
    obtain rfl : i = ys.length := by omega
    rw [List.take_length] at ho
    clear hK
    have hoi := ho.isI
    obtain ⟨A3, n3, ex3, k3, e8, q1, q2, q3⟩ := ho
    rw [e8] at hoi hle hnew
    have hlen := hok.len
    simp (maxSteps := 2000000) (disch := first | omega | assumption | exact idP rfl | exact idP (bL rfl) | (simp only [alloc_size, upd_size]; done) | (simp only [alloc_size, upd_size]; omega) | fail) only [go_sem, reduceIte, Nat.reduceEqDiff, e8]
    refine (s_clauseOfG (n := 700) (xs := resL xs ys p) hoi (fun h => ?_) (by omega) (by omega) hok.lits).mono ?_
    · have := (q2 h).1
      simp only [List.length_map] at q1
      exact List.eq_nil_of_length_eq_zero (by unfold resL; omega)
    rintro r H7 ⟨hc1, hc2⟩
    have hL := hle.trans (base_le _ _)
    by_cases hO : Opp (resL xs ys p)
    · obtain ⟨rfl, l4⟩ := hc1 hO
      simp (maxSteps := 2000000) (disch := first | omega | assumption | exact idP rfl | exact idP (bL rfl) | (simp only [alloc_size, upd_size]; done) | (simp only [alloc_size, upd_size]; omega) | fail) only [go_sem, reduceIte, Nat.reduceEqDiff]
      exact hR _ _ ⟨hL.trans l4, _, [], false, rfl, nilI _, .inr ⟨hok, .inl ⟨hO, rfl, rfl⟩⟩⟩
    · obtain ⟨w4, rfl, o4, l4, n4⟩ := hc2 hO
      simp (maxSteps := 2000000) (disch := first | omega | assumption | exact idP rfl | exact idP (bL rfl) | (simp only [alloc_size, upd_size]; done) | (simp only [alloc_size, upd_size]; omega) | fail) only [go_sem, reduceIte, Nat.reduceEqDiff]
      exact hR _ _ ⟨hL.trans (l4.trans (base_le _ _)), w4, _, true, rfl, o4.isI, .inr ⟨hok, .inr ⟨hO, rfl, rfl⟩⟩⟩
theorem s_l2Same {u v : AV} {xs ys : List Int} (hu : IsI H u xs) (hv : IsI H v ys) (hl : xs.length ≤ 1048576) (hl2 : ys.length ≤ 1048576) : ACall Try.prog n_spec_l2Same [u, v] H (fun r H' => H' = H ∧ ∃ b, r = .bool b ∧ (b = true ↔ xs = ys)) := by
  refine ACall.of fun R hR => a_spec_l2Same rfl ?_
  obtain ⟨A, c, ex, k, rfl, hr⟩ := hu.parts
  obtain ⟨A', c', ex', k', rfl, hr'⟩ := hv.parts
  simp (maxSteps := 2000000) (disch := first | omega | assumption | exact idP rfl | exact idP (bL rfl) | (simp only [alloc_size, upd_size]; done) | (simp only [alloc_size, upd_size]; omega) | fail) only [go_sem, reduceIte, Nat.reduceEqDiff]
  refine condV_dec (fun h => ?_) (fun h => ?_)
  · simp (maxSteps := 2000000) (disch := first | omega | assumption | exact idP rfl | exact idP (bL rfl) | (simp only [alloc_size, upd_size]; done) | (simp only [alloc_size, upd_size]; omega) | fail) only [go_sem, reduceIte, Nat.reduceEqDiff]
    exact hR _ _ ⟨rfl, false, rfl, by simp only [Bool.false_eq_true, false_iff]; intro e; subst e; exact h rfl⟩
  · have hlen : xs.length = ys.length := by omega
    simp (maxSteps := 2000000) (disch := first | omega | assumption | exact idP rfl | exact idP (bL rfl) | (simp only [alloc_size, upd_size]; done) | (simp only [alloc_size, upd_size]; omega) | fail) only [go_sem, reduceIte, Nat.reduceEqDiff]
    refine wp_loop_k (fun e H' => H = H' ∧ ∃ i : Nat, i ≤ xs.length ∧ e 0 = .sl A xs.length c ex k ∧ e 1 = .sl A' ys.length c' ex' k' ∧ e 5 = .int .i64 (i : Int) ∧ ∀ j, j < i → xs[j]? = ys[j]?) (fun e _ => ctr xs.length (e 5)) ?_ ?_
    · exact ⟨rfl, 0, Nat.zero_le _, by simp (maxSteps := 2000000) (disch := first | omega | assumption | exact idP rfl | exact idP (bL rfl) | (simp only [alloc_size, upd_size]; done) | (simp only [alloc_size, upd_size]; omega) | fail) only [go_sem, reduceIte, Nat.reduceEqDiff], by simp (maxSteps := 2000000) (disch := first | omega | assumption | exact idP rfl | exact idP (bL rfl) | (simp only [alloc_size, upd_size]; done) | (simp only [alloc_size, upd_size]; omega) | fail) only [go_sem, reduceIte, Nat.reduceEqDiff], by simp (maxSteps := 2000000) (disch := first | omega | assumption | exact idP rfl | exact idP (bL rfl) | (simp only [alloc_size, upd_size]; done) | (simp only [alloc_size, upd_size]; omega) | fail) only [go_sem, reduceIte, Nat.reduceEqDiff]; rfl, fun j h => by omega⟩
    · rintro e H1 ⟨rfl, i, hi, e0, e1, e5, hj⟩ K hK
      simp (maxSteps := 2000000) (disch := first | omega | assumption | exact idP rfl | exact idP (bL rfl) | (simp only [alloc_size, upd_size]; done) | (simp only [alloc_size, upd_size]; omega) | fail) only [go_sem, reduceIte, Nat.reduceEqDiff, e0, e5]
      refine condV_dec (fun h => ?_) (fun h => ?_)
      · have hi' : i < xs.length := by omega
        have hi2 : i < ys.length := by omega
        have hg := hr i hi'
        have hg' := hr' i hi2
        rw [Nat.mul_one] at hg hg'
        have e5' := e5
        simp (maxSteps := 2000000) (disch := first | omega | assumption | exact idP rfl | exact idP (bL rfl) | (simp only [alloc_size, upd_size]; done) | (simp only [alloc_size, upd_size]; omega) | fail) only [go_sem, reduceIte, Nat.reduceEqDiff, e0, e1, e5, hg, hg']
        refine condV_dec (fun h0 => ?_) (fun h0 => ?_)
        · simp (maxSteps := 2000000) (disch := first | omega | assumption | exact idP rfl | exact idP (bL rfl) | (simp only [alloc_size, upd_size]; done) | (simp only [alloc_size, upd_size]; omega) | fail) only [go_sem, reduceIte, Nat.reduceEqDiff]
          refine hR _ _ ⟨rfl, false, rfl, ?_⟩
          simp only [Bool.false_eq_true, false_iff]
          intro e; subst e; exact h0 rfl
        · simp (maxSteps := 2000000) (disch := first | omega | assumption | exact idP rfl | exact idP (bL rfl) | (simp only [alloc_size, upd_size]; done) | (simp only [alloc_size, upd_size]; omega) | fail) only [go_sem, reduceIte, Nat.reduceEqDiff, e5]
          refine hK _ _ ⟨rfl, i + 1, by omega, by simp (maxSteps := 2000000) (disch := first | omega | assumption | exact idP rfl | exact idP (bL rfl) | (simp only [alloc_size, upd_size]; done) | (simp only [alloc_size, upd_size]; omega) | fail) only [go_sem, reduceIte, Nat.reduceEqDiff, e0], by simp (maxSteps := 2000000) (disch := first | omega | assumption | exact idP rfl | exact idP (bL rfl) | (simp only [alloc_size, upd_size]; done) | (simp only [alloc_size, upd_size]; omega) | fail) only [go_sem, reduceIte, Nat.reduceEqDiff, e1], by simp (maxSteps := 2000000) (disch := first | omega | assumption | exact idP rfl | exact idP (bL rfl) | (simp only [alloc_size, upd_size]; done) | (simp only [alloc_size, upd_size]; omega) | fail) only [go_sem, reduceIte, Nat.reduceEqDiff]; rfl, fun j q1 => ?_⟩ (by simp (maxSteps := 2000000) (disch := first | omega | assumption | exact idP rfl | exact idP (bL rfl) | (simp only [alloc_size, upd_size]; done) | (simp only [alloc_size, upd_size]; omega) | fail) only [go_sem, reduceIte, Nat.reduceEqDiff, ctr_int, e5']; omega)
          by_cases e : j = i
          · subst e
            rw [List.getElem?_eq_getElem hi', List.getElem?_eq_getElem hi2, Decidable.not_not.1 h0]
          · exact hj j (by omega)
      · simp (maxSteps := 2000000) (disch := first | omega | assumption | exact idP rfl | exact idP (bL rfl) | (simp only [alloc_size, upd_size]; done) | (simp only [alloc_size, upd_size]; omega) | fail) only [go_sem, reduceIte, Nat.reduceEqDiff]
        refine hR _ _ ⟨rfl, true, rfl, ?_⟩
        simp only [true_iff]
        apply List.ext_getElem?
        intro j
        by_cases hjl : j < i
        · exact hj j hjl
        · rw [List.getElem?_eq_none (by omega), List.getElem?_eq_none (by omega)]
theorem s_Equal {u v : AV} {xs ys : List Int} (hu : IsI H u xs) (hv : IsI H v ys) (hl : xs.length ≤ 1048576) (hl2 : ys.length ≤ 1048576) : ACall Try.prog n_slices_Equal_Sint_int [u, v] H (fun r H' => H' = H ∧ ∃ b, r = .bool b ∧ (b = true ↔ xs = ys)) := by
  refine ACall.of fun R hR => a_slices_Equal_Sint_int rfl ?_
  obtain ⟨A, c, ex, k, rfl, hr⟩ := hu.parts
  obtain ⟨A', c', ex', k', rfl, hr'⟩ := hv.parts
  simp (maxSteps := 2000000) (disch := first | omega | assumption | exact idP rfl | exact idP (bL rfl) | (simp only [alloc_size, upd_size]; done) | (simp only [alloc_size, upd_size]; omega) | fail) only [go_sem, reduceIte, Nat.reduceEqDiff]
  refine condV_dec (fun h => ?_) (fun h => ?_)
  · simp (maxSteps := 2000000) (disch := first | omega | assumption | exact idP rfl | exact idP (bL rfl) | (simp only [alloc_size, upd_size]; done) | (simp only [alloc_size, upd_size]; omega) | fail) only [go_sem, reduceIte, Nat.reduceEqDiff]
    exact hR _ _ ⟨rfl, false, rfl, by simp only [Bool.false_eq_true, false_iff]; intro e; subst e; exact h rfl⟩
  · have hlen : xs.length = ys.length := by omega
    simp (maxSteps := 2000000) (disch := first | omega | assumption | exact idP rfl | exact idP (bL rfl) | (simp only [alloc_size, upd_size]; done) | (simp only [alloc_size, upd_size]; omega) | fail) only [go_sem, reduceIte, Nat.reduceEqDiff]
    refine wp_loop_k (fun e H' => H = H' ∧ ∃ i : Nat, i ≤ xs.length ∧ e 0 = .sl A xs.length c ex k ∧ e 1 = .sl A' ys.length c' ex' k' ∧ e 12 = .int .i64 (xs.length : Int) ∧ e 13 = .int .i64 (i : Int) ∧ ∀ j, j < i → xs[j]? = ys[j]?) (fun e _ => ctr xs.length (e 13)) ?_ ?_
    · exact ⟨rfl, 0, Nat.zero_le _, by simp (maxSteps := 2000000) (disch := first | omega | assumption | exact idP rfl | exact idP (bL rfl) | (simp only [alloc_size, upd_size]; done) | (simp only [alloc_size, upd_size]; omega) | fail) only [go_sem, reduceIte, Nat.reduceEqDiff], by simp (maxSteps := 2000000) (disch := first | omega | assumption | exact idP rfl | exact idP (bL rfl) | (simp only [alloc_size, upd_size]; done) | (simp only [alloc_size, upd_size]; omega) | fail) only [go_sem, reduceIte, Nat.reduceEqDiff], by simp (maxSteps := 2000000) (disch := first | omega | assumption | exact idP rfl | exact idP (bL rfl) | (simp only [alloc_size, upd_size]; done) | (simp only [alloc_size, upd_size]; omega) | fail) only [go_sem, reduceIte, Nat.reduceEqDiff], by simp (maxSteps := 2000000) (disch := first | omega | assumption | exact idP rfl | exact idP (bL rfl) | (simp only [alloc_size, upd_size]; done) | (simp only [alloc_size, upd_size]; omega) | fail) only [go_sem, reduceIte, Nat.reduceEqDiff]; rfl, fun j h => by omega⟩
    · rintro e H1 ⟨rfl, i, hi, e0, e1, e12, e13, hj⟩ K hK
      simp (maxSteps := 2000000) (disch := first | omega | assumption | exact idP rfl | exact idP (bL rfl) | (simp only [alloc_size, upd_size]; done) | (simp only [alloc_size, upd_size]; omega) | fail) only [go_sem, reduceIte, Nat.reduceEqDiff, e12, e13]
      refine condV_dec (fun h => ?_) (fun h => ?_)
      · have hi' : i < xs.length := by omega
        have hi2 : i < ys.length := by omega
        have hg := hr i hi'
        have hg' := hr' i hi2
        rw [Nat.mul_one] at hg hg'
        have e13' := e13
        simp (maxSteps := 2000000) (disch := first | omega | assumption | exact idP rfl | exact idP (bL rfl) | (simp only [alloc_size, upd_size]; done) | (simp only [alloc_size, upd_size]; omega) | fail) only [go_sem, reduceIte, Nat.reduceEqDiff, e0, e1, e13, hg, hg']
        refine condV_dec (fun h0 => ?_) (fun h0 => ?_)
        · simp (maxSteps := 2000000) (disch := first | omega | assumption | exact idP rfl | exact idP (bL rfl) | (simp only [alloc_size, upd_size]; done) | (simp only [alloc_size, upd_size]; omega) | fail) only [go_sem, reduceIte, Nat.reduceEqDiff]
          refine hR _ _ ⟨rfl, false, rfl, ?_⟩
          simp only [Bool.false_eq_true, false_iff]
          intro e; subst e; exact h0 rfl
        · simp (maxSteps := 2000000) (disch := first | omega | assumption | exact idP rfl | exact idP (bL rfl) | (simp only [alloc_size, upd_size]; done) | (simp only [alloc_size, upd_size]; omega) | fail) only [go_sem, reduceIte, Nat.reduceEqDiff, e13]
          refine hK _ _ ⟨rfl, i + 1, by omega, by simp (maxSteps := 2000000) (disch := first | omega | assumption | exact idP rfl | exact idP (bL rfl) | (simp only [alloc_size, upd_size]; done) | (simp only [alloc_size, upd_size]; omega) | fail) only [go_sem, reduceIte, Nat.reduceEqDiff, e0], by simp (maxSteps := 2000000) (disch := first | omega | assumption | exact idP rfl | exact idP (bL rfl) | (simp only [alloc_size, upd_size]; done) | (simp only [alloc_size, upd_size]; omega) | fail) only [go_sem, reduceIte, Nat.reduceEqDiff, e1], by simp (maxSteps := 2000000) (disch := first | omega | assumption | exact idP rfl | exact idP (bL rfl) | (simp only [alloc_size, upd_size]; done) | (simp only [alloc_size, upd_size]; omega) | fail) only [go_sem, reduceIte, Nat.reduceEqDiff, e12], by simp (maxSteps := 2000000) (disch := first | omega | assumption | exact idP rfl | exact idP (bL rfl) | (simp only [alloc_size, upd_size]; done) | (simp only [alloc_size, upd_size]; omega) | fail) only [go_sem, reduceIte, Nat.reduceEqDiff]; rfl, fun j q1 => ?_⟩ (by simp (maxSteps := 2000000) (disch := first | omega | assumption | exact idP rfl | exact idP (bL rfl) | (simp only [alloc_size, upd_size]; done) | (simp only [alloc_size, upd_size]; omega) | fail) only [go_sem, reduceIte, Nat.reduceEqDiff, ctr_int, e13']; omega)
          by_cases e : j = i
          · subst e
            rw [List.getElem?_eq_getElem hi', List.getElem?_eq_getElem hi2, Decidable.not_not.1 h0]
          · exact hj j (by omega)
      · simp (maxSteps := 2000000) (disch := first | omega | assumption | exact idP rfl | exact idP (bL rfl) | (simp only [alloc_size, upd_size]; done) | (simp only [alloc_size, upd_size]; omega) | fail) only [go_sem, reduceIte, Nat.reduceEqDiff]
        refine hR _ _ ⟨rfl, true, rfl, ?_⟩
        simp only [true_iff]
        apply List.ext_getElem?
        intro j
        by_cases hjl : j < i
        · exact hj j hjl
        · rw [List.getElem?_eq_none (by omega), List.getElem?_eq_none (by omega)]
end Go.M2

namespace Go.M2
open Go.Proofs
variable {H : Heap}
structure Ch where
  a : Int
  b : Int
  c : Int
  p : Int
  cl : List Int
def ECh (H : Heap) (x : Ch) (l : List AV) : Prop := ∃ w, l = [.int .i64 x.a, .int .i64 x.b, .int .i64 x.c, .int .i64 x.p, w] ∧ IsI H w x.cl
def ENCh (H : Heap) (x : Ch) (l : List AV) : Prop := ∃ w, l = [.int .i64 x.a, .int .i64 x.b, .int .i64 x.c, .int .i64 x.p, w] ∧ InS 1 EI H w x.cl
theorem mono_Ch : Mono ECh := fun H H' x l h ⟨w, h1, h2⟩ => ⟨w, h1, h2.le h⟩
theorem mono_NCh : Mono ENCh := fun H H' x l h ⟨w, h1, h2⟩ => ⟨w, h1, h2.le mono_I h⟩
abbrev IsChs : Heap → AV → List Ch → Prop := IsS 5 ECh
theorem IsChs.le {H H' : Heap} (h : Le H H') {v : AV} {cs : List Ch} (hv : IsChs H v cs) : IsChs H' v cs := IsS.le mono_Ch h hv
structure G5 (H : Heap) (b o : Nat) (x : Ch) (w : AV) : Prop where
  g0 : H.get b o = some (.int .i64 x.a)
  g1 : H.get b (o + 1) = some (.int .i64 x.b)
  g2 : H.get b (o + 2) = some (.int .i64 x.c)
  g3 : H.get b (o + 3) = some (.int .i64 x.p)
  g4 : H.get b (o + 4) = some w
theorem G5.of {b o : Nat} {x : Ch} {w : AV} (h : Rd H b o [.int .i64 x.a, .int .i64 x.b, .int .i64 x.c, .int .i64 x.p, w]) : G5 H b o x w := ⟨h 0 _ rfl, h 1 _ rfl, h 2 _ rfl, h 3 _ rfl, h 4 _ rfl⟩
theorem G5.le {H' : Heap} {b o : Nat} {x : Ch} {w : AV} (h : G5 H b o x w) (hl : Le H H') : G5 H' b o x w := ⟨hl.get h.g0, hl.get h.g1, hl.get h.g2, hl.get h.g3, hl.get h.g4⟩
theorem IsChs.parts {v : AV} {cs : List Ch} (h : IsChs H v cs) : ∃ A c ex k, v = .sl A cs.length c ex k ∧ ∀ i (h : i < cs.length), ∃ w, G5 H A.b (A.o + i * 5) cs[i] w ∧ IsI H w cs[i].cl := by
  obtain ⟨A, c, ex, k, rfl, hr⟩ := h
  refine ⟨A, c, ex, k, rfl, fun i hi => ?_⟩
  obtain ⟨l, h1, h2, w, rfl, h4⟩ := hr i hi
  exact ⟨w, G5.of h2, h4⟩
theorem inCh_get {v : AV} {cs : List Ch} (h : InS 5 ENCh H v cs) {i : Nat} (hi : i < cs.length) : ∃ A c ex k w, v = .sl A cs.length c ex k ∧ G5 H A.b (A.o + i * 5) cs[i] w ∧ InS 1 EI H w cs[i].cl := by
  rcases h with ⟨A, c, ex, k, rfl, hr⟩ | ⟨rfl, rfl⟩
  · obtain ⟨l, h1, h2, w, rfl, h4⟩ := hr i hi
    exact ⟨A, c, ex, k, w, rfl, G5.of h2, h4⟩
  · simp at hi
theorem setAt_get : ∀ {c l : List AV} {o j : Nat}, o + c.length ≤ l.length → (setAt l o c)[j]? = if o ≤ j ∧ j < o + c.length then c[j - o]? else l[j]?
  | [], l, o, j, h => by rw [setAt, if_neg (by simp)]
  | x :: t, l, o, j, h => by
    simp only [List.length_cons] at h ⊢
    rw [setAt, setAt_get (by simp; omega)]
    by_cases h1 : j = o
    · subst h1
      rw [if_neg (by omega), if_pos (by omega), Nat.sub_self, List.getElem?_set_self (by omega)]; rfl
    · by_cases h2 : o + 1 ≤ j ∧ j < o + 1 + t.length
      · rw [if_pos h2, if_pos (by omega), show j - o = (j - (o + 1)) + 1 by omega]; rfl
      · rw [if_neg h2, if_neg (by omega), List.getElem?_set_ne (by omega)]
theorem s_szChain {x : Ch} {w : AV} {left : Int} (hw : InS 1 EI H w x.cl) (h0 : x.cl.length ≤ 9223372036854775807) (h1 : 0 ≤ left) (h2 : left ≤ 1048576) :
    ACall Try.prog n_laws_szChain [.agg [.int .i64 x.a, .int .i64 x.b, .int .i64 x.c, .int .i64 x.p, w], .int .i64 left] H (fun r H' => Le H H' ∧ ∃ k : Int, r = .int .i64 k ∧ k ≤ left ∧ (0 ≤ k → x.cl.length ≤ 1048576)) := by
  refine ACall.of fun R hR => a_laws_szChain rfl ?_
  simp (maxSteps := 2000000) (disch := first | omega | assumption | exact idP rfl | exact idP (bL rfl) | (simp only [alloc_size, upd_size]; done) | (simp only [alloc_size, upd_size]; omega) | fail) only [go_sem, reduceIte, Nat.reduceEqDiff]
  refine (s_szIntS (hw.le mono_I (Le.alloc _ _)) h0 h1 h2).mono ?_
  rintro r H1 ⟨rfl, k, rfl, hk1, hk2⟩
  simp (maxSteps := 2000000) (disch := first | omega | assumption | exact idP rfl | exact idP (bL rfl) | (simp only [alloc_size, upd_size]; done) | (simp only [alloc_size, upd_size]; omega) | fail) only [go_sem, reduceIte, Nat.reduceEqDiff]
  refine condV_dec (fun h => ?_) (fun h => ?_)
  · simp (maxSteps := 2000000) (disch := first | omega | assumption | exact idP rfl | exact idP (bL rfl) | (simp only [alloc_size, upd_size]; done) | (simp only [alloc_size, upd_size]; omega) | fail) only [go_sem, reduceIte, Nat.reduceEqDiff]
    exact hR _ _ ⟨Le.alloc _ _, -1, rfl, by omega, by omega⟩
  · simp (maxSteps := 2000000) (disch := first | omega | assumption | exact idP rfl | exact idP (bL rfl) | (simp only [alloc_size, upd_size]; done) | (simp only [alloc_size, upd_size]; omega) | fail) only [go_sem, reduceIte, Nat.reduceEqDiff]
    exact hR _ _ ⟨Le.alloc _ _, k, rfl, hk1, hk2⟩
theorem s_szChainS {v : AV} {cs : List Ch} {left : Int} (hv : InS 5 ENCh H v cs) (h0 : cs.length ≤ 9223372036854775807) (hx : ∀ x ∈ cs, x.cl.length ≤ 9223372036854775807) (h1 : 0 ≤ left) (h2 : left ≤ 1048576) :
    ACall Try.prog n_laws_szChainS [v, .int .i64 left] H (fun r H' => Le H H' ∧ ∃ k : Int, r = .int .i64 k ∧ k ≤ left ∧ (0 ≤ k → cs.length ≤ 1048576 ∧ ∀ x ∈ cs, x.cl.length ≤ 1048576)) := by
  refine ACall.of fun R hR => a_laws_szChainS rfl ?_
  have hl := hv.len
  simp (maxSteps := 2000000) (disch := first | omega | assumption | exact idP rfl | exact idP (bL rfl) | (simp only [alloc_size, upd_size]; done) | (simp only [alloc_size, upd_size]; omega) | fail) only [go_sem, reduceIte, Nat.reduceEqDiff, hl]
  refine condV_dec (fun h => ?_) (fun h => ?_)
  · simp (maxSteps := 2000000) (disch := first | omega | assumption | exact idP rfl | exact idP (bL rfl) | (simp only [alloc_size, upd_size]; done) | (simp only [alloc_size, upd_size]; omega) | fail) only [go_sem, reduceIte, Nat.reduceEqDiff]
    exact hR _ _ ⟨Le.refl _, -1, rfl, by omega, by omega⟩
  · simp (maxSteps := 2000000) (disch := first | omega | assumption | exact idP rfl | exact idP (bL rfl) | (simp only [alloc_size, upd_size]; done) | (simp only [alloc_size, upd_size]; omega) | fail) only [go_sem, reduceIte, Nat.reduceEqDiff]
    refine wp_loop_k (fun e H' => Le H H' ∧ ∃ (i : Nat) (k : Int), i ≤ cs.length ∧ e 0 = v ∧ e 5 = .int .i64 (i : Int) ∧ e 1 = .int .i64 k ∧ 0 ≤ k ∧ k ≤ left ∧ ∀ j (hj : j < cs.length), j < i → cs[j].cl.length ≤ 1048576) (fun e _ => ctr cs.length (e 5)) ?_ ?_
    · refine ⟨Le.refl _, 0, left - cs.length, Nat.zero_le _, by simp (maxSteps := 2000000) (disch := first | omega | assumption | exact idP rfl | exact idP (bL rfl) | (simp only [alloc_size, upd_size]; done) | (simp only [alloc_size, upd_size]; omega) | fail) only [go_sem, reduceIte, Nat.reduceEqDiff], by simp (maxSteps := 2000000) (disch := first | omega | assumption | exact idP rfl | exact idP (bL rfl) | (simp only [alloc_size, upd_size]; done) | (simp only [alloc_size, upd_size]; omega) | fail) only [go_sem, reduceIte, Nat.reduceEqDiff]; rfl, by simp (maxSteps := 2000000) (disch := first | omega | assumption | exact idP rfl | exact idP (bL rfl) | (simp only [alloc_size, upd_size]; done) | (simp only [alloc_size, upd_size]; omega) | fail) only [go_sem, reduceIte, Nat.reduceEqDiff], by omega, by omega, fun j _ hj => by omega⟩
    · rintro e H1 ⟨hle, i, k, hi, e0, e5, e1, hk0, hk1, hj⟩ K hK
      simp (maxSteps := 2000000) (disch := first | omega | assumption | exact idP rfl | exact idP (bL rfl) | (simp only [alloc_size, upd_size]; done) | (simp only [alloc_size, upd_size]; omega) | fail) only [go_sem, reduceIte, Nat.reduceEqDiff, e0, e5, e1, hl]
      refine condV_dec (fun h => ?_) (fun h => ?_)
      · obtain ⟨A, c, ex, kk, w, rfl, hg, hw⟩ := inCh_get hv (i := i) (by omega)
        have hg := hg.le hle
        have q2 : H1.get A.b (A.o + i * 5 + 1 + 1) = some (.int .i64 cs[i].c) := hg.g2
        have q3 : H1.get A.b (A.o + i * 5 + 1 + 1 + 1) = some (.int .i64 cs[i].p) := hg.g3
        have q4 : H1.get A.b (A.o + i * 5 + 1 + 1 + 1 + 1) = some w := hg.g4
        have e5' := e5
        simp (maxSteps := 2000000) (disch := first | omega | assumption | exact idP rfl | exact idP (bL rfl) | (simp only [alloc_size, upd_size]; done) | (simp only [alloc_size, upd_size]; omega) | fail) only [go_sem, reduceIte, Nat.reduceEqDiff, e0, e5, e1, hg.g0, hg.g1, q2, q3, q4]
        refine (s_szChain (x := cs[i]) (hw.le mono_I hle) (hx _ (List.getElem_mem _)) hk0 (by omega)).mono ?_
        rintro r H2 ⟨hle2, k2, rfl, hk2, hk3⟩
        simp (maxSteps := 2000000) (disch := first | omega | assumption | exact idP rfl | exact idP (bL rfl) | (simp only [alloc_size, upd_size]; done) | (simp only [alloc_size, upd_size]; omega) | fail) only [go_sem, reduceIte, Nat.reduceEqDiff]
        refine condV_dec (fun h4 => ?_) (fun h4 => ?_)
        · simp (maxSteps := 2000000) (disch := first | omega | assumption | exact idP rfl | exact idP (bL rfl) | (simp only [alloc_size, upd_size]; done) | (simp only [alloc_size, upd_size]; omega) | fail) only [go_sem, reduceIte, Nat.reduceEqDiff]
          exact hR _ _ ⟨hle.trans hle2, -1, rfl, by omega, by omega⟩
        · simp (maxSteps := 2000000) (disch := first | omega | assumption | exact idP rfl | exact idP (bL rfl) | (simp only [alloc_size, upd_size]; done) | (simp only [alloc_size, upd_size]; omega) | fail) only [go_sem, reduceIte, Nat.reduceEqDiff, e0, e5]
          refine hK _ _ ⟨hle.trans hle2, i + 1, k2, by omega, by simp (maxSteps := 2000000) (disch := first | omega | assumption | exact idP rfl | exact idP (bL rfl) | (simp only [alloc_size, upd_size]; done) | (simp only [alloc_size, upd_size]; omega) | fail) only [go_sem, reduceIte, Nat.reduceEqDiff, e0], by simp (maxSteps := 2000000) (disch := first | omega | assumption | exact idP rfl | exact idP (bL rfl) | (simp only [alloc_size, upd_size]; done) | (simp only [alloc_size, upd_size]; omega) | fail) only [go_sem, reduceIte, Nat.reduceEqDiff]; rfl, by simp (maxSteps := 2000000) (disch := first | omega | assumption | exact idP rfl | exact idP (bL rfl) | (simp only [alloc_size, upd_size]; done) | (simp only [alloc_size, upd_size]; omega) | fail) only [go_sem, reduceIte, Nat.reduceEqDiff], by omega, by omega, fun j hj1 hj2 => ?_⟩ (by simp (maxSteps := 2000000) (disch := first | omega | assumption | exact idP rfl | exact idP (bL rfl) | (simp only [alloc_size, upd_size]; done) | (simp only [alloc_size, upd_size]; omega) | fail) only [go_sem, reduceIte, Nat.reduceEqDiff, ctr_int, e5']; omega)
          by_cases hji : j = i
          · subst hji; exact hk3 (by omega)
          · exact hj j hj1 (by omega)
      · simp (maxSteps := 2000000) (disch := first | omega | assumption | exact idP rfl | exact idP (bL rfl) | (simp only [alloc_size, upd_size]; done) | (simp only [alloc_size, upd_size]; omega) | fail) only [go_sem, reduceIte, Nat.reduceEqDiff, e1]
        refine hR _ _ ⟨hle, k, rfl, hk1, fun _ => ⟨by omega, fun xs hxs => ?_⟩⟩
        obtain ⟨j, hj1, rfl⟩ := List.getElem_of_mem hxs
        exact hj j hj1 (by omega)
theorem s_toChain {x : Ch} {w : AV} (hw : InS 1 EI H w x.cl) (h0 : x.cl.length ≤ 1048576) :
    ACall Try.prog n_laws_toChain [.agg [.int .i64 x.a, .int .i64 x.b, .int .i64 x.c, .int .i64 x.p, w]] H (fun r H' => Le H H' ∧ ∃ u, r = .agg [.int .i64 x.a, .int .i64 x.b, .int .i64 x.c, .int .i64 x.p, u] ∧ IsI (H'.later H.size) u x.cl) := by
  refine ACall.of fun R hR => a_laws_toChain rfl ?_
  simp (maxSteps := 2000000) (disch := first | omega | assumption | exact idP rfl | exact idP (bL rfl) | (simp only [alloc_size, upd_size]; done) | (simp only [alloc_size, upd_size]; omega) | fail) only [go_sem, reduceIte, Nat.reduceEqDiff]
  refine (s_toIntS (hw.le mono_I ((((((Le.refl _).allocs.allocs.allocs).updFresh (by omega)).updFresh (by omega)).updFresh (by omega)).updFresh (by omega))) h0).mono ?_
  rintro u H2 ⟨ho, hle, hnew, _⟩
  have hle2 := hle.trans (base_le _ _)
  have w2 : H2.rwCells (H.size + 1 + 1) = some [.int .i64 x.a, .int .i64 x.b, .int .i64 x.c, .int .i64 x.p, .sl none 0 0 true 0] := hle2.rwCells (by simp (maxSteps := 2000000) (disch := first | omega | assumption | exact idP rfl | exact idP (bL rfl) | (simp only [alloc_size, upd_size]; done) | (simp only [alloc_size, upd_size]; omega) | fail) only [go_sem, reduceIte, Nat.reduceEqDiff])
  have w1 : H2.rwCells (H.size + 1) = some [.int .i64 0, .int .i64 0, .int .i64 0, .int .i64 0, .sl none 0 0 true 0] := hle2.rwCells (by simp (maxSteps := 2000000) (disch := first | omega | assumption | exact idP rfl | exact idP (bL rfl) | (simp only [alloc_size, upd_size]; done) | (simp only [alloc_size, upd_size]; omega) | fail) only [go_sem, reduceIte, Nat.reduceEqDiff])
  have hsz := hle2.1
  simp only [alloc_size, upd_size] at hsz hnew
  have hu := (ho.later hnew).isI
  have hu1 := (oneA_isS hu).1
  simp (maxSteps := 2000000) (disch := first | omega | assumption | exact idP rfl | exact idP (bL rfl) | (simp only [alloc_size, upd_size]; done) | (simp only [alloc_size, upd_size]; omega) | fail) only [go_sem, reduceIte, Nat.reduceEqDiff, w2, w1, (oneA_isS hu).2]
  refine hR _ _ ⟨?_, u, rfl, ?_⟩
  · exact ((((((((Le.refl _).allocs.allocs.allocs).updFresh (by omega)).updFresh (by omega)).updFresh (by omega)).updFresh (by omega)).trans hle2).updFresh (by omega)).updFresh (by omega)
  · exact hu.le ((later_upd (by omega) (Nat.le_refl _)).trans (later_upd (by omega) (by omega)))
theorem zeros_len5 {z : List AV} {n : Nat} (h : z.length = 5) : (zeros z n).length = n * 5 := by
  induction n with
  | zero => rfl
  | succ n ih => simp only [zeros, List.length_append, h, ih]; omega
theorem s_toChainS {v : AV} {cs : List Ch} (hv : InS 5 ENCh H v cs) (h0 : cs.length ≤ 1048576) (hx : ∀ x ∈ cs, x.cl.length ≤ 1048576) :
    ACall Try.prog n_laws_toChainS [v] H (fun r H' => IsChs (H'.later H.size) r cs ∧ Le H H') := by
  refine ACall.of fun R hR => a_laws_toChainS rfl ?_
  have hl := hv.len
  simp (maxSteps := 2000000) (disch := first | omega | assumption | exact idP rfl | exact idP (bL rfl) | (simp only [alloc_size, upd_size]; done) | (simp only [alloc_size, upd_size]; omega) | fail) only [go_sem, reduceIte, Nat.reduceEqDiff, hl]
  refine mks_own (by omega) (by simp [mostCells]; omega) (by simp [mostCells]; omega) ?_
  simp (maxSteps := 2000000) (disch := first | omega | assumption | exact idP rfl | exact idP (bL rfl) | (simp only [alloc_size, upd_size]; done) | (simp only [alloc_size, upd_size]; omega) | fail) only [go_sem, reduceIte, Nat.reduceEqDiff]
  refine wp_loop_k (fun e H' => ∃ (i : Nat) (l : List AV), i ≤ cs.length ∧ e 0 = v ∧ e 4 = .int .i64 (i : Int) ∧ e 3 = .sl (some (H.size, 0)) cs.length cs.length true 5 ∧ H.size < H'.size ∧ H'.blk H.size = .cells l true ∧ l.length = cs.length * 5 ∧
    (∀ j (hj : j < cs.length), j < i → ∃ u, (∀ k x, [AV.int .i64 cs[j].a, .int .i64 cs[j].b, .int .i64 cs[j].c, .int .i64 cs[j].p, u][k]? = some x → l[j * 5 + k]? = some x) ∧ IsI ((H'.kill H.size).later H.size) u cs[j].cl) ∧ Le H (H'.kill H.size)) (fun e _ => ctr cs.length (e 4)) ?_ ?_
  · exact ⟨0, _, Nat.zero_le _, by simp (maxSteps := 2000000) (disch := first | omega | assumption | exact idP rfl | exact idP (bL rfl) | (simp only [alloc_size, upd_size]; done) | (simp only [alloc_size, upd_size]; omega) | fail) only [go_sem, reduceIte, Nat.reduceEqDiff], by simp (maxSteps := 2000000) (disch := first | omega | assumption | exact idP rfl | exact idP (bL rfl) | (simp only [alloc_size, upd_size]; done) | (simp only [alloc_size, upd_size]; omega) | fail) only [go_sem, reduceIte, Nat.reduceEqDiff]; rfl, by simp (maxSteps := 2000000) (disch := first | omega | assumption | exact idP rfl | exact idP (bL rfl) | (simp only [alloc_size, upd_size]; done) | (simp only [alloc_size, upd_size]; omega) | fail) only [go_sem, reduceIte, Nat.reduceEqDiff]; rfl, Nat.lt_succ_self _, alloc_new _ _, by rw [zeros_len5 rfl], fun j _ h => by omega, (Le.alloc _ _).killFresh (Nat.le_refl _)⟩
  · rintro e H1 ⟨i, l, hi, e0, e4, e3, hb, hblk, hll, hj, hle⟩ K hK
    simp (maxSteps := 2000000) (disch := first | omega | assumption | exact idP rfl | exact idP (bL rfl) | (simp only [alloc_size, upd_size]; done) | (simp only [alloc_size, upd_size]; omega) | fail) only [go_sem, reduceIte, Nat.reduceEqDiff, e0, e4, e3, hl]
    refine condV_dec (fun h => ?_) (fun h => ?_)
    · have hi' : i < cs.length := by omega
      obtain ⟨A, c, ex, kk, w, rfl, hg, hw⟩ := inCh_get hv hi'
      have hle1 := hle.trans (Le.kill _ _)
      have hg := hg.le hle1
      have q2 : H1.get A.b (A.o + i * 5 + 1 + 1) = some (.int .i64 cs[i].c) := hg.g2
      have q3 : H1.get A.b (A.o + i * 5 + 1 + 1 + 1) = some (.int .i64 cs[i].p) := hg.g3
      have q4 : H1.get A.b (A.o + i * 5 + 1 + 1 + 1 + 1) = some w := hg.g4
      have e4' := e4
      simp (maxSteps := 2000000) (disch := first | omega | assumption | exact idP rfl | exact idP (bL rfl) | (simp only [alloc_size, upd_size]; done) | (simp only [alloc_size, upd_size]; omega) | fail) only [go_sem, reduceIte, Nat.reduceEqDiff, e0, e4, e3, hg.g0, hg.g1, q2, q3, q4]
      refine (s_toChain (x := cs[i]) (hw.le mono_I hle1) (hx _ (List.getElem_mem _))).mono ?_
      rintro r H2 ⟨hle3, u, rfl, hri⟩
      have hb2 : H.size < H2.size := Nat.lt_of_lt_of_le hb hle3.1
      have hblk2 := hle3.cells hb hblk
      have ho1 := (oneA_isS hri).1
      simp (maxSteps := 2000000) (disch := first | omega | assumption | exact idP rfl | exact idP (bL rfl) | (simp only [alloc_size, upd_size]; done) | (simp only [alloc_size, upd_size]; omega) | fail) only [go_sem, reduceIte, Nat.reduceEqDiff, e0, e4, e3, rwCells_of hb2 hblk2]
      refine hK _ _ ⟨i + 1, setAt l (i * 5) [.int .i64 cs[i].a, .int .i64 cs[i].b, .int .i64 cs[i].c, .int .i64 cs[i].p, u], by omega, by simp (maxSteps := 2000000) (disch := first | omega | assumption | exact idP rfl | exact idP (bL rfl) | (simp only [alloc_size, upd_size]; done) | (simp only [alloc_size, upd_size]; omega) | fail) only [go_sem, reduceIte, Nat.reduceEqDiff, e0], by simp (maxSteps := 2000000) (disch := first | omega | assumption | exact idP rfl | exact idP (bL rfl) | (simp only [alloc_size, upd_size]; done) | (simp only [alloc_size, upd_size]; omega) | fail) only [go_sem, reduceIte, Nat.reduceEqDiff]; rfl, by simp (maxSteps := 2000000) (disch := first | omega | assumption | exact idP rfl | exact idP (bL rfl) | (simp only [alloc_size, upd_size]; done) | (simp only [alloc_size, upd_size]; omega) | fail) only [go_sem, reduceIte, Nat.reduceEqDiff, e3], hb2, upd_blk_same', by rw [setAt_len]; exact hll, fun j hj1 hj2 => ?_, ?_⟩ (by simp (maxSteps := 2000000) (disch := first | omega | assumption | exact idP rfl | exact idP (bL rfl) | (simp only [alloc_size, upd_size]; done) | (simp only [alloc_size, upd_size]; omega) | fail) only [go_sem, reduceIte, Nat.reduceEqDiff, ctr_int, e4']; omega)
      · rw [upd_kill]
        by_cases hji : j = i
        · subst hji
          refine ⟨u, fun k x hk => ?_, hri.le (later_kill' (by omega) (by omega))⟩
          have hk5 : k < 5 := (List.getElem?_eq_some_iff.1 hk).1
          rw [setAt_get (by simp; omega), if_pos (by simp; omega), show j * 5 + k - j * 5 = k by omega]
          exact hk
        · obtain ⟨u', h1, h2⟩ := hj j hj1 (by omega)
          refine ⟨u', fun k x hk => ?_, h2.le (later_mono (hle3.kills _) (Nat.le_refl _))⟩
          have hk5 : k < 5 := (List.getElem?_eq_some_iff.1 hk).1
          rw [setAt_get (by simp; omega), if_neg (by simp; omega)]
          exact h1 k x hk
      · rw [upd_kill]; exact hle.trans (hle3.kills _)
    · simp (maxSteps := 2000000) (disch := first | omega | assumption | exact idP rfl | exact idP (bL rfl) | (simp only [alloc_size, upd_size]; done) | (simp only [alloc_size, upd_size]; omega) | fail) only [go_sem, reduceIte, Nat.reduceEqDiff, e3]
      refine hR _ _ ⟨⟨some (H.size, 0), cs.length, true, 5, rfl, fun j hj1 => ?_⟩, hle.trans (Le.kill _ _)⟩
      obtain ⟨u', h1, h2⟩ := hj j hj1 (by omega)
      refine ⟨_, rfl, fun k x hk => ?_, u', rfl, h2.le (later_mono (Le.kill _ _) (Nat.le_refl _))⟩
      have := Rd.blk (H := H1.later H.size) (b := H.size) (l := l) hb (by rw [later_blk (Nat.le_refl _)]; exact hblk) (j * 5 + k) x (h1 k x hk)
      simpa using this
theorem s_eqChain {x : Ch} {u w : AV} (hu : IsI H u x.cl) (hw : IsI H w x.cl) (h0 : x.cl.length ≤ 1048576) :
    ACall Try.prog n_laws_eqChain [.agg [.int .i64 x.a, .int .i64 x.b, .int .i64 x.c, .int .i64 x.p, u], .agg [.int .i64 x.a, .int .i64 x.b, .int .i64 x.c, .int .i64 x.p, w]] H (fun r H' => r = .bool true ∧ Le H H') := by
  refine ACall.of fun R hR => a_laws_eqChain rfl ?_
  simp (maxSteps := 2000000) (disch := first | omega | assumption | exact idP rfl | exact idP (bL rfl) | (simp only [alloc_size, upd_size]; done) | (simp only [alloc_size, upd_size]; omega) | fail) only [go_sem, reduceIte, Nat.reduceEqDiff, decide_true]
  refine (s_eqIntS (hu.le (Le.refl _).allocs.allocs) (hw.le (Le.refl _).allocs.allocs) h0).mono ?_
  rintro r H2 ⟨rfl, rfl⟩
  simp (maxSteps := 2000000) (disch := first | omega | assumption | exact idP rfl | exact idP (bL rfl) | (simp only [alloc_size, upd_size]; done) | (simp only [alloc_size, upd_size]; omega) | fail) only [go_sem, reduceIte, Nat.reduceEqDiff]
  exact hR _ _ ⟨rfl, (Le.refl _).allocs.allocs⟩
theorem s_eqChainS {u v : AV} {cs : List Ch} (hu : IsChs H u cs) (hv : IsChs H v cs) (h0 : cs.length ≤ 1048576) (hx : ∀ x ∈ cs, x.cl.length ≤ 1048576) : ACall Try.prog n_laws_eqChainS [u, v] H (fun r H' => r = .bool true ∧ Le H H') := by
  refine ACall.of fun R hR => a_laws_eqChainS rfl ?_
  obtain ⟨A, c, ex, k, rfl, hr⟩ := hu.parts
  obtain ⟨A', c', ex', k', rfl, hr'⟩ := hv.parts
  simp (maxSteps := 2000000) (disch := first | omega | assumption | exact idP rfl | exact idP (bL rfl) | (simp only [alloc_size, upd_size]; done) | (simp only [alloc_size, upd_size]; omega) | fail) only [go_sem, reduceIte, Nat.reduceEqDiff, decide_true]
  refine wp_loop_k (fun e H' => Le H H' ∧ ∃ (i : Nat), i ≤ cs.length ∧ e 0 = .sl A cs.length c ex k ∧ e 1 = .sl A' cs.length c' ex' k' ∧ e 5 = .int .i64 (i : Int)) (fun e _ => ctr cs.length (e 5)) ?_ ?_
  · exact ⟨Le.refl _, 0, Nat.zero_le _, by simp (maxSteps := 2000000) (disch := first | omega | assumption | exact idP rfl | exact idP (bL rfl) | (simp only [alloc_size, upd_size]; done) | (simp only [alloc_size, upd_size]; omega) | fail) only [go_sem, reduceIte, Nat.reduceEqDiff], by simp (maxSteps := 2000000) (disch := first | omega | assumption | exact idP rfl | exact idP (bL rfl) | (simp only [alloc_size, upd_size]; done) | (simp only [alloc_size, upd_size]; omega) | fail) only [go_sem, reduceIte, Nat.reduceEqDiff], by simp (maxSteps := 2000000) (disch := first | omega | assumption | exact idP rfl | exact idP (bL rfl) | (simp only [alloc_size, upd_size]; done) | (simp only [alloc_size, upd_size]; omega) | fail) only [go_sem, reduceIte, Nat.reduceEqDiff]; rfl⟩
  · rintro e H1 ⟨hle, i, hi, e0, e1, e5⟩ K hK
    simp (maxSteps := 2000000) (disch := first | omega | assumption | exact idP rfl | exact idP (bL rfl) | (simp only [alloc_size, upd_size]; done) | (simp only [alloc_size, upd_size]; omega) | fail) only [go_sem, reduceIte, Nat.reduceEqDiff, e0, e1, e5]
    refine condV_dec (fun h => ?_) (fun h => ?_)
    · have hi' : i < cs.length := by omega
      obtain ⟨a, hg, ha⟩ := hr i hi'
      obtain ⟨b, hg', hb⟩ := hr' i hi'
      have hg := hg.le hle
      have hg' := hg'.le hle
      have q2 : H1.get A.b (A.o + i * 5 + 1 + 1) = some (.int .i64 cs[i].c) := hg.g2
      have q3 : H1.get A.b (A.o + i * 5 + 1 + 1 + 1) = some (.int .i64 cs[i].p) := hg.g3
      have q4 : H1.get A.b (A.o + i * 5 + 1 + 1 + 1 + 1) = some a := hg.g4
      have r2 : H1.get A'.b (A'.o + i * 5 + 1 + 1) = some (.int .i64 cs[i].c) := hg'.g2
      have r3 : H1.get A'.b (A'.o + i * 5 + 1 + 1 + 1) = some (.int .i64 cs[i].p) := hg'.g3
      have r4 : H1.get A'.b (A'.o + i * 5 + 1 + 1 + 1 + 1) = some b := hg'.g4
      have e5' := e5
      simp (maxSteps := 2000000) (disch := first | omega | assumption | exact idP rfl | exact idP (bL rfl) | (simp only [alloc_size, upd_size]; done) | (simp only [alloc_size, upd_size]; omega) | fail) only [go_sem, reduceIte, Nat.reduceEqDiff, e0, e1, e5, hg.g0, hg.g1, q2, q3, q4, hg'.g0, hg'.g1, r2, r3, r4]
      refine (s_eqChain (x := cs[i]) (ha.le hle) (hb.le hle) (hx _ (List.getElem_mem _))).mono ?_
      rintro r H2 ⟨rfl, hle2⟩
      simp (maxSteps := 2000000) (disch := first | omega | assumption | exact idP rfl | exact idP (bL rfl) | (simp only [alloc_size, upd_size]; done) | (simp only [alloc_size, upd_size]; omega) | fail) only [go_sem, reduceIte, Nat.reduceEqDiff, e0, e1, e5]
      exact hK _ _ ⟨hle.trans hle2, i + 1, by omega, by simp (maxSteps := 2000000) (disch := first | omega | assumption | exact idP rfl | exact idP (bL rfl) | (simp only [alloc_size, upd_size]; done) | (simp only [alloc_size, upd_size]; omega) | fail) only [go_sem, reduceIte, Nat.reduceEqDiff, e0], by simp (maxSteps := 2000000) (disch := first | omega | assumption | exact idP rfl | exact idP (bL rfl) | (simp only [alloc_size, upd_size]; done) | (simp only [alloc_size, upd_size]; omega) | fail) only [go_sem, reduceIte, Nat.reduceEqDiff, e1], by simp (maxSteps := 2000000) (disch := first | omega | assumption | exact idP rfl | exact idP (bL rfl) | (simp only [alloc_size, upd_size]; done) | (simp only [alloc_size, upd_size]; omega) | fail) only [go_sem, reduceIte, Nat.reduceEqDiff]; rfl⟩ (by simp (maxSteps := 2000000) (disch := first | omega | assumption | exact idP rfl | exact idP (bL rfl) | (simp only [alloc_size, upd_size]; done) | (simp only [alloc_size, upd_size]; omega) | fail) only [go_sem, reduceIte, Nat.reduceEqDiff, ctr_int, e5']; omega)
    · simp (maxSteps := 2000000) (disch := first | omega | assumption | exact idP rfl | exact idP (bL rfl) | (simp only [alloc_size, upd_size]; done) | (simp only [alloc_size, upd_size]; omega) | fail) only [go_sem, reduceIte, Nat.reduceEqDiff]
      exact hR _ _ ⟨rfl, hle⟩
end Go.M2

namespace Go.M2
open Go.Proofs
variable {H : Heap}
def ch0 : Ch := ⟨0, 0, 0, 0, []⟩
def StepOk (xss : List (List Int)) (cs : List Ch) (i : Nat) (x : Ch) : Prop :=
  (0 ≤ x.a ∧ x.a < xss.length ∧ x.b = -1 ∧ x.c = -1 ∧ x.p = 0 ∧ x.cl = xss.getD x.a.toNat []) ∨
  (x.a = -1 ∧ 0 ≤ x.b ∧ x.b < i ∧ 0 ≤ x.c ∧ x.c < i ∧ ResRes (cs.getD x.b.toNat ch0).cl (cs.getD x.c.toNat ch0).cl x.p x.cl true)
structure ChainsOk (n : Int) (xss : List (List Int)) (cs : List Ch) : Prop where
  ok : ClsOk n xss
  lo : 1 ≤ cs.length
  hi : cs.length ≤ 3000
  all : ∀ i (h : i < cs.length), StepOk xss cs i cs[i]
  last : (cs.getD (cs.length - 1) ch0).cl = []
theorem stepA {xss : List (List Int)} {cs : List Ch} {i : Nat} {x : Ch} (h : 0 ≤ x.a) : StepOk xss cs i x ↔ (x.a < xss.length ∧ x.b = -1 ∧ x.c = -1 ∧ x.p = 0 ∧ x.cl = xss.getD x.a.toNat []) := by
  unfold StepOk
  constructor
  · rintro (⟨h0, h1⟩ | ⟨h0, _⟩)
    · exact h1
    · omega
  · intro h1; exact .inl ⟨h, h1⟩
theorem stepB {xss : List (List Int)} {cs : List Ch} {i : Nat} {x : Ch} (h : x.a = -1) : StepOk xss cs i x ↔ (0 ≤ x.b ∧ x.b < i ∧ 0 ≤ x.c ∧ x.c < i ∧ ResRes (cs.getD x.b.toNat ch0).cl (cs.getD x.c.toNat ch0).cl x.p x.cl true) := by
  unfold StepOk
  constructor
  · rintro (⟨h0, h1⟩ | ⟨h0, h1⟩)
    · omega
    · exact h1
  · intro h1; exact .inr ⟨h, h1⟩
theorem stepC {xss : List (List Int)} {cs : List Ch} {i : Nat} {x : Ch} (h : x.a < 0) (h1 : x.a ≠ -1) : ¬ StepOk xss cs i x := by
  unfold StepOk
  rintro (⟨h0, _⟩ | ⟨h0, _⟩) <;> omega
theorem getD_at {α : Type} {l : List α} {d : α} {i : Nat} (h : i < l.length) : l.getD i d = l[i] := by simp [List.getD, h]
theorem iff_f {p : Prop} (h : ¬ p) : (false = true ↔ p) := by simp [h]
set_option maxHeartbeats 8000000 in
theorem s_l13Step {v w : AV} {n : Int} {xss : List (List Int)} {cs : List Ch} {i : Nat} (hx : IsII H v xss) (hl : xss.length ≤ 1048576) (hxl : ∀ xs ∈ xss, xs.length ≤ 1048576) (hw : IsChs H w cs) (hc : cs.length ≤ 1048576) (hcl : ∀ x ∈ cs, x.cl.length ≤ 1048576) (hi : i < cs.length) :
    ACall Try.prog n_spec_l13Step [.agg [.int .i64 n, v], w, .int .i64 (i : Int)] H (fun r H' => Le H H' ∧ ∃ b, r = .bool b ∧ (b = true ↔ StepOk xss cs i cs[i])) := by
  refine ACall.of fun R hR => a_spec_l13Step rfl ?_
  obtain ⟨A, c, ex, k, rfl, hr⟩ := hw.parts
  obtain ⟨Ax, cx, exx, kx, rfl, hrx⟩ := hx.parts
  obtain ⟨u, g, hu⟩ := hr i hi
  have hul := hcl _ (List.getElem_mem hi)
  generalize hxi : cs[i] = x at *
  have ga := g.le (Le.alloc H [.int .i64 n, .sl Ax xss.length cx exx kx])
  have q2 : (H.alloc [.int .i64 n, .sl Ax xss.length cx exx kx]).get A.b (A.o + i * 5 + 1 + 1) = some (.int .i64 x.c) := ga.g2
  have q3 : (H.alloc [.int .i64 n, .sl Ax xss.length cx exx kx]).get A.b (A.o + i * 5 + 1 + 1 + 1) = some (.int .i64 x.p) := ga.g3
  have q4 : (H.alloc [.int .i64 n, .sl Ax xss.length cx exx kx]).get A.b (A.o + i * 5 + 1 + 1 + 1 + 1) = some u := ga.g4
  have hu1 := (oneA_isS hu).1
  simp (maxSteps := 2000000) (disch := first | omega | assumption | exact idP rfl | exact idP (bL rfl) | (simp only [alloc_size, upd_size]; done) | (simp only [alloc_size, upd_size]; omega) | fail) only [go_sem, reduceIte, Nat.reduceEqDiff, ga.g0, ga.g1, q2, q3, q4]
  have hLB : Le H (((H.alloc [.int .i64 n, .sl Ax xss.length cx exx kx]).alloc [.int .i64 0, .int .i64 0, .int .i64 0, .int .i64 0, .sl none 0 0 true 0]).upd (H.size + 1) (.cells [.int .i64 x.a, .int .i64 x.b, .int .i64 x.c, .int .i64 x.p, u] true)) := ((Le.refl _).allocs.allocs).updFresh (by omega)
  have gc1 : (((H.alloc [.int .i64 n, .sl Ax xss.length cx exx kx]).alloc [.int .i64 0, .int .i64 0, .int .i64 0, .int .i64 0, .sl none 0 0 true 0]).upd (H.size + 1) (.cells [.int .i64 x.a, .int .i64 x.b, .int .i64 x.c, .int .i64 x.p, u] true)).get H.size 1 = some (.sl Ax xss.length cx exx kx) := by simp (maxSteps := 2000000) (disch := first | omega | assumption | exact idP rfl | exact idP (bL rfl) | (simp only [alloc_size, upd_size]; done) | (simp only [alloc_size, upd_size]; omega) | fail) only [go_sem, reduceIte, Nat.reduceEqDiff]
  have gd : ∀ j, (((H.alloc [.int .i64 n, .sl Ax xss.length cx exx kx]).alloc [.int .i64 0, .int .i64 0, .int .i64 0, .int .i64 0, .sl none 0 0 true 0]).upd (H.size + 1) (.cells [.int .i64 x.a, .int .i64 x.b, .int .i64 x.c, .int .i64 x.p, u] true)).get (H.size + 1) j = [AV.int .i64 x.a, .int .i64 x.b, .int .i64 x.c, .int .i64 x.p, u][j]? := fun j => by rw [get_upd_same (by simp only [alloc_size]; omega)]
  generalize hG : (((H.alloc [AV.int .i64 n, .sl Ax xss.length cx exx kx]).alloc [.int .i64 0, .int .i64 0, .int .i64 0, .int .i64 0, .sl none 0 0 true 0]).upd (H.size + 1) (.cells [.int .i64 x.a, .int .i64 x.b, .int .i64 x.c, .int .i64 x.p, u] true)) = G at *
  have d0 : G.get (H.size + 1) 0 = some (.int .i64 x.a) := gd 0
  have d1 : G.get (H.size + 1) 1 = some (.int .i64 x.b) := gd 1
  have d2 : G.get (H.size + 1) 2 = some (.int .i64 x.c) := gd 2
  have d3 : G.get (H.size + 1) 3 = some (.int .i64 x.p) := gd 3
  have d4 : G.get (H.size + 1) 4 = some u := gd 4
  have fin : ∀ b : Bool, (b = true ↔ StepOk xss cs i x) → R (.bool b) G := fun b hb => hR _ _ ⟨hLB, b, rfl, hb⟩
  clear gd
  refine condV_dec (fun ha0 => ?_) (fun ha0 => ?_)
  · by_cases h1 : x.a < (xss.length : Int)
    · by_cases h2 : x.b = -1
      · by_cases h3 : x.c = -1
        · by_cases h4 : x.p = 0
          · have hil : x.a.toNat < xss.length := by omega
            obtain ⟨u2, hg2, hu2⟩ := hrx x.a.toNat hil
            have hg2 := hLB.get hg2
            rw [Nat.mul_one] at hg2
            simp (maxSteps := 2000000) (disch := first | omega | assumption | exact idP rfl | exact idP (bL rfl) | (simp only [alloc_size, upd_size]; done) | (simp only [alloc_size, upd_size]; omega) | fail) only [go_sem, reduceIte, Nat.reduceEqDiff, d0, d1, d2, d3, d4, gc1, h1, h2, h3, h4, hg2, decide_true]
            refine (s_l2Same (hu.le hLB) (hu2.le hLB) hul (hxl _ (List.getElem_mem hil))).mono ?_
            rintro r H3 ⟨rfl, b, rfl, hb⟩
            simp (maxSteps := 2000000) (disch := first | omega | assumption | exact idP rfl | exact idP (bL rfl) | (simp only [alloc_size, upd_size]; done) | (simp only [alloc_size, upd_size]; omega) | fail) only [go_sem, reduceIte, Nat.reduceEqDiff]
            refine fin b ?_
            rw [hb, stepA ha0, getD_at hil]
            constructor
            · intro h; exact ⟨h1, h2, h3, h4, h⟩
            · intro h; exact h.2.2.2.2
          · simp (maxSteps := 2000000) (disch := first | omega | assumption | exact idP rfl | exact idP (bL rfl) | (simp only [alloc_size, upd_size]; done) | (simp only [alloc_size, upd_size]; omega) | fail) only [go_sem, reduceIte, Nat.reduceEqDiff, d0, d1, d2, d3, d4, gc1, h1, h2, h3, h4, decide_true, decide_false]
            exact fin false (iff_f fun h => h4 ((stepA ha0).1 h).2.2.2.1)
        · simp (maxSteps := 2000000) (disch := first | omega | assumption | exact idP rfl | exact idP (bL rfl) | (simp only [alloc_size, upd_size]; done) | (simp only [alloc_size, upd_size]; omega) | fail) only [go_sem, reduceIte, Nat.reduceEqDiff, d0, d1, d2, d3, d4, gc1, h1, h2, h3, decide_true, decide_false]
          exact fin false (iff_f fun h => h3 ((stepA ha0).1 h).2.2.1)
      · simp (maxSteps := 2000000) (disch := first | omega | assumption | exact idP rfl | exact idP (bL rfl) | (simp only [alloc_size, upd_size]; done) | (simp only [alloc_size, upd_size]; omega) | fail) only [go_sem, reduceIte, Nat.reduceEqDiff, d0, d1, d2, d3, d4, gc1, h1, h2, decide_true, decide_false]
        exact fin false (iff_f fun h => h2 ((stepA ha0).1 h).2.1)
    · simp (maxSteps := 2000000) (disch := first | omega | assumption | exact idP rfl | exact idP (bL rfl) | (simp only [alloc_size, upd_size]; done) | (simp only [alloc_size, upd_size]; omega) | fail) only [go_sem, reduceIte, Nat.reduceEqDiff, d0, d1, d2, d3, d4, gc1, h1, decide_false]
      exact fin false (iff_f fun h => h1 ((stepA ha0).1 h).1)
  · by_cases h1 : x.a = -1
    · have iff0 := stepB (xss := xss) (cs := cs) (i := i) h1
      have h1' : ¬ (x.a ≠ -1) := fun h => h h1
      simp (maxSteps := 2000000) (disch := first | omega | assumption | exact idP rfl | exact idP (bL rfl) | (simp only [alloc_size, upd_size]; done) | (simp only [alloc_size, upd_size]; omega) | fail) only [go_sem, reduceIte, Nat.reduceEqDiff, d0, h1, h1', decide_false]
      simp (maxSteps := 2000000) (disch := first | omega | assumption | exact idP rfl | exact idP (bL rfl) | (simp only [alloc_size, upd_size]; done) | (simp only [alloc_size, upd_size]; omega) | fail) only [go_sem, reduceIte, Nat.reduceEqDiff, d1]
      refine s_l1In.mono ?_
      rintro r H3 ⟨rfl, rfl⟩
      by_cases h2 : 0 ≤ x.b ∧ x.b ≤ (i : Int) - 1
      · simp (maxSteps := 2000000) (disch := first | omega | assumption | exact idP rfl | exact idP (bL rfl) | (simp only [alloc_size, upd_size]; done) | (simp only [alloc_size, upd_size]; omega) | fail) only [go_sem, reduceIte, Nat.reduceEqDiff, h2, decide_true, d2]
        refine s_l1In.mono ?_
        rintro r H4 ⟨rfl, rfl⟩
        by_cases h3 : 0 ≤ x.c ∧ x.c ≤ (i : Int) - 1
        · have hB : x.b.toNat < cs.length := by omega
          have hC : x.c.toNat < cs.length := by omega
          obtain ⟨ub, gb, hub⟩ := hr x.b.toNat hB
          obtain ⟨uc, gc, huc⟩ := hr x.c.toNat hC
          have kb := hLB.get gb.g4
          have kc := hLB.get gc.g4
          simp (maxSteps := 2000000) (disch := first | omega | assumption | exact idP rfl | exact idP (bL rfl) | (simp only [alloc_size, upd_size]; done) | (simp only [alloc_size, upd_size]; omega) | fail) only [go_sem, reduceIte, Nat.reduceEqDiff, h3, decide_true, d1, d2, d3, d4, kb, kc]
          refine (s_specResolved (hub.le hLB) (huc.le hLB) (hcl _ (List.getElem_mem hB)) (hcl _ (List.getElem_mem hC))).mono ?_
          rintro r H5 ⟨hle5, w5, zs, ok, rfl, hw5, hres⟩
          rw [getD_at hB, getD_at hC] at iff0
          have d4' := hle5.get d4
          cases ok with
          | false =>
            simp (maxSteps := 2000000) (disch := first | omega | assumption | exact idP rfl | exact idP (bL rfl) | (simp only [alloc_size, upd_size]; done) | (simp only [alloc_size, upd_size]; omega) | fail) only [go_sem, reduceIte, Nat.reduceEqDiff]
            refine hR _ _ ⟨hLB.trans hle5, false, rfl, iff_f fun h => ?_⟩
            have := (hres.det (iff0.1 h).2.2.2.2).2
            cases this
          | true =>
            simp (maxSteps := 2000000) (disch := first | omega | assumption | exact idP rfl | exact idP (bL rfl) | (simp only [alloc_size, upd_size]; done) | (simp only [alloc_size, upd_size]; omega) | fail) only [go_sem, reduceIte, Nat.reduceEqDiff, d4']
            refine (s_l2Same (hu.le (hLB.trans hle5)) hw5 hul (by have := hres.short; omega)).mono ?_
            rintro r H6 ⟨rfl, b, rfl, hb⟩
            simp (maxSteps := 2000000) (disch := first | omega | assumption | exact idP rfl | exact idP (bL rfl) | (simp only [alloc_size, upd_size]; done) | (simp only [alloc_size, upd_size]; omega) | fail) only [go_sem, reduceIte, Nat.reduceEqDiff]
            refine hR _ _ ⟨hLB.trans hle5, b, rfl, ?_⟩
            rw [hb, iff0]
            constructor
            · rintro rfl; exact ⟨h2.1, by omega, h3.1, by omega, hres⟩
            · intro h; exact (h.2.2.2.2.det hres).1
        · simp (maxSteps := 2000000) (disch := first | omega | assumption | exact idP rfl | exact idP (bL rfl) | (simp only [alloc_size, upd_size]; done) | (simp only [alloc_size, upd_size]; omega) | fail) only [go_sem, reduceIte, Nat.reduceEqDiff, h3, decide_false]
          exact fin false (iff_f fun h => h3 ⟨(iff0.1 h).2.2.1, by have := (iff0.1 h).2.2.2.1; omega⟩)
      · simp (maxSteps := 2000000) (disch := first | omega | assumption | exact idP rfl | exact idP (bL rfl) | (simp only [alloc_size, upd_size]; done) | (simp only [alloc_size, upd_size]; omega) | fail) only [go_sem, reduceIte, Nat.reduceEqDiff, h2, decide_false]
        exact fin false (iff_f fun h => h2 ⟨(iff0.1 h).1, by have := (iff0.1 h).2.1; omega⟩)
    · simp (maxSteps := 2000000) (disch := first | omega | assumption | exact idP rfl | exact idP (bL rfl) | (simp only [alloc_size, upd_size]; done) | (simp only [alloc_size, upd_size]; omega) | fail) only [go_sem, reduceIte, Nat.reduceEqDiff, d0, h1, decide_true]
      exact fin false (iff_f (stepC (by omega) h1))
end Go.M2

namespace Go.M2
open Go.Proofs
variable {H : Heap}
theorem s_specCheckChains {x w : AV} {n : Int} {xss : List (List Int)} {cs : List Ch} (hx : IsCl H x n xss) (hl : xss.length ≤ 1048576) (hxl : ∀ xs ∈ xss, xs.length ≤ 1048576) (hw : IsChs H w cs) (hc : cs.length ≤ 1048576) (hcl : ∀ x ∈ cs, x.cl.length ≤ 1048576) :
    ACall Try.prog n_spec_CheckChains [x, w] H (fun r H' => Le H H' ∧ ∃ b, r = .bool b ∧ (b = true ↔ ChainsOk n xss cs)) := by
  refine ACall.of fun R hR => a_spec_CheckChains rfl ?_
  obtain ⟨fl, rfl, hv⟩ := hx
  obtain ⟨A, c, ex, k, rfl, hr⟩ := hw.parts
  simp (maxSteps := 2000000) (disch := first | omega | assumption | exact idP rfl | exact idP (bL rfl) | (simp only [alloc_size, upd_size]; done) | (simp only [alloc_size, upd_size]; omega) | fail) only [go_sem, reduceIte, Nat.reduceEqDiff]
  have hcl1 : IsCl (H.alloc [.int .i64 n, fl]) (.agg [.int .i64 n, fl]) n xss := ⟨fl, rfl, hv.le (Le.alloc _ _)⟩
  refine (s_specClausesValid hcl1 hl hxl).mono ?_
  rintro r H1 ⟨hle1, b, rfl, hb⟩
  have hH1 := (Le.alloc H [.int .i64 n, fl]).trans hle1
  have g0 : H1.get H.size 0 = some (.int .i64 n) := hle1.get (by simp (maxSteps := 2000000) (disch := first | omega | assumption | exact idP rfl | exact idP (bL rfl) | (simp only [alloc_size, upd_size]; done) | (simp only [alloc_size, upd_size]; omega) | fail) only [go_sem, reduceIte, Nat.reduceEqDiff])
  have g1 : H1.get H.size 1 = some fl := hle1.get (by simp (maxSteps := 2000000) (disch := first | omega | assumption | exact idP rfl | exact idP (bL rfl) | (simp only [alloc_size, upd_size]; done) | (simp only [alloc_size, upd_size]; omega) | fail) only [go_sem, reduceIte, Nat.reduceEqDiff])
  cases b with
  | false =>
    simp (maxSteps := 2000000) (disch := first | omega | assumption | exact idP rfl | exact idP (bL rfl) | (simp only [alloc_size, upd_size]; done) | (simp only [alloc_size, upd_size]; omega) | fail) only [go_sem, reduceIte, Nat.reduceEqDiff]
    exact hR _ _ ⟨hH1, false, rfl, iff_f fun h => by have := hb.2 h.ok; cases this⟩
  | true =>
  have hok := hb.1 rfl
  simp (maxSteps := 2000000) (disch := first | omega | assumption | exact idP rfl | exact idP (bL rfl) | (simp only [alloc_size, upd_size]; done) | (simp only [alloc_size, upd_size]; omega) | fail) only [go_sem, reduceIte, Nat.reduceEqDiff]
  refine s_l1In.mono ?_
  rintro r H2 ⟨rfl, rfl⟩
  by_cases h3 : (1 : Int) ≤ (cs.length : Int) ∧ (cs.length : Int) ≤ 3000
  · simp (maxSteps := 2000000) (disch := first | omega | assumption | exact idP rfl | exact idP (bL rfl) | (simp only [alloc_size, upd_size]; done) | (simp only [alloc_size, upd_size]; omega) | fail) only [go_sem, reduceIte, Nat.reduceEqDiff, h3, decide_true]
    refine wp_loop_k (fun e H' => Le H2 H' ∧ ∃ i : Nat, i ≤ cs.length ∧ e 1 = .sl A cs.length c ex k ∧ e 2 = .ptr (some (H.size, 0)) ∧ e 5 = .int .i64 (i : Int) ∧ ∀ j (h : j < cs.length), j < i → StepOk xss cs j cs[j]) (fun e _ => ctr cs.length (e 5)) ?_ ?_
    · exact ⟨Le.refl _, 0, Nat.zero_le _, by simp (maxSteps := 2000000) (disch := first | omega | assumption | exact idP rfl | exact idP (bL rfl) | (simp only [alloc_size, upd_size]; done) | (simp only [alloc_size, upd_size]; omega) | fail) only [go_sem, reduceIte, Nat.reduceEqDiff], by simp (maxSteps := 2000000) (disch := first | omega | assumption | exact idP rfl | exact idP (bL rfl) | (simp only [alloc_size, upd_size]; done) | (simp only [alloc_size, upd_size]; omega) | fail) only [go_sem, reduceIte, Nat.reduceEqDiff], by simp (maxSteps := 2000000) (disch := first | omega | assumption | exact idP rfl | exact idP (bL rfl) | (simp only [alloc_size, upd_size]; done) | (simp only [alloc_size, upd_size]; omega) | fail) only [go_sem, reduceIte, Nat.reduceEqDiff]; rfl, fun j _ h => by omega⟩
    · rintro e H3 ⟨hle3, i, hi, e1, e2, e5, hj⟩ K hK
      simp (maxSteps := 2000000) (disch := first | omega | assumption | exact idP rfl | exact idP (bL rfl) | (simp only [alloc_size, upd_size]; done) | (simp only [alloc_size, upd_size]; omega) | fail) only [go_sem, reduceIte, Nat.reduceEqDiff, e1, e5]
      refine condV_dec (fun h => ?_) (fun h => ?_)
      · have hi' : i < cs.length := by omega
        have g0' := hle3.get g0
        have g1' := hle3.get g1
        have e5' := e5
        simp (maxSteps := 2000000) (disch := first | omega | assumption | exact idP rfl | exact idP (bL rfl) | (simp only [alloc_size, upd_size]; done) | (simp only [alloc_size, upd_size]; omega) | fail) only [go_sem, reduceIte, Nat.reduceEqDiff, e1, e2, e5, g0', g1']
        refine (s_l13Step (hv.le (hH1.trans hle3)) hl hxl (IsChs.le (hH1.trans hle3) ⟨A, c, ex, k, rfl, fun i hi => by
          obtain ⟨c', ex', k', kk, e, hr'⟩ := hw
          cases e
          exact hr' i hi⟩) hc hcl hi').mono ?_
        rintro r H4 ⟨hle4, b, rfl, hb4⟩
        cases b with
        | false =>
          simp (maxSteps := 2000000) (disch := first | omega | assumption | exact idP rfl | exact idP (bL rfl) | (simp only [alloc_size, upd_size]; done) | (simp only [alloc_size, upd_size]; omega) | fail) only [go_sem, reduceIte, Nat.reduceEqDiff]
          exact hR _ _ ⟨hH1.trans (hle3.trans hle4), false, rfl, iff_f fun h => by have := hb4.2 (h.all i hi'); cases this⟩
        | true =>
          simp (maxSteps := 2000000) (disch := first | omega | assumption | exact idP rfl | exact idP (bL rfl) | (simp only [alloc_size, upd_size]; done) | (simp only [alloc_size, upd_size]; omega) | fail) only [go_sem, reduceIte, Nat.reduceEqDiff, e5]
          refine hK _ _ ⟨hle3.trans hle4, i + 1, by omega, by simp (maxSteps := 2000000) (disch := first | omega | assumption | exact idP rfl | exact idP (bL rfl) | (simp only [alloc_size, upd_size]; done) | (simp only [alloc_size, upd_size]; omega) | fail) only [go_sem, reduceIte, Nat.reduceEqDiff, e1], by simp (maxSteps := 2000000) (disch := first | omega | assumption | exact idP rfl | exact idP (bL rfl) | (simp only [alloc_size, upd_size]; done) | (simp only [alloc_size, upd_size]; omega) | fail) only [go_sem, reduceIte, Nat.reduceEqDiff, e2], by simp (maxSteps := 2000000) (disch := first | omega | assumption | exact idP rfl | exact idP (bL rfl) | (simp only [alloc_size, upd_size]; done) | (simp only [alloc_size, upd_size]; omega) | fail) only [go_sem, reduceIte, Nat.reduceEqDiff]; rfl, fun j q1 q2 => ?_⟩ (by simp (maxSteps := 2000000) (disch := first | omega | assumption | exact idP rfl | exact idP (bL rfl) | (simp only [alloc_size, upd_size]; done) | (simp only [alloc_size, upd_size]; omega) | fail) only [go_sem, reduceIte, Nat.reduceEqDiff, ctr_int, e5']; omega)
          by_cases e : j = i
          · subst e; exact hb4.1 rfl
          · exact hj j q1 (by omega)
      · have hlast : cs.length - 1 < cs.length := by omega
        obtain ⟨u, g, hu⟩ := hr (cs.length - 1) hlast
        have gl := (hH1.trans hle3).get g.g4
        obtain ⟨A', c', ex', k', rfl, _⟩ := hu.parts
        have et : ((cs.length : Int) - 1).toNat = cs.length - 1 := by omega
        simp (maxSteps := 2000000) (disch := first | omega | assumption | exact idP rfl | exact idP (bL rfl) | (simp only [alloc_size, upd_size]; done) | (simp only [alloc_size, upd_size]; omega) | fail) only [go_sem, reduceIte, Nat.reduceEqDiff, e1, et, gl]
        refine hR _ _ ⟨hH1.trans hle3, _, rfl, ?_⟩
        rw [decide_eq_true_eq]
        constructor
        · intro h0
          refine ⟨hok, by omega, by omega, fun j hjl => hj j hjl (by omega), ?_⟩
          rw [getD_at hlast]
          exact List.eq_nil_of_length_eq_zero (by omega)
        · intro h0
          have := h0.last
          rw [getD_at hlast] at this
          rw [this]; rfl
  · simp (maxSteps := 2000000) (disch := first | omega | assumption | exact idP rfl | exact idP (bL rfl) | (simp only [alloc_size, upd_size]; done) | (simp only [alloc_size, upd_size]; omega) | fail) only [go_sem, reduceIte, Nat.reduceEqDiff, h3, decide_false]
    exact hR _ _ ⟨hH1, false, rfl, iff_f fun h => h3 ⟨by have := h.lo; omega, by have := h.hi; omega⟩⟩
set_option maxHeartbeats 8000000 in
theorem s_implCheckChains {x w : AV} {n : Int} {xss : List (List Int)} {cs : List Ch} (hx : IsCl H x n xss) (hl : xss.length ≤ 1048576) (hxl : ∀ xs ∈ xss, xs.length ≤ 1048576) (hw : IsChs H w cs) (hc : cs.length ≤ 1048576) (hcl : ∀ x ∈ cs, x.cl.length ≤ 1048576) :
    ACall Try.prog n_impl_CheckChains [x, w] H (fun r H' => Le H H' ∧ ∃ b, r = .bool b ∧ (b = true ↔ ChainsOk n xss cs)) := by
  refine ACall.of fun R hR => a_impl_CheckChains rfl ?_
  obtain ⟨fl, rfl, hv⟩ := hx
  obtain ⟨A, c, ex, k, rfl, hr⟩ := hw.parts
  simp (maxSteps := 2000000) (disch := first | omega | assumption | exact idP rfl | exact idP (bL rfl) | (simp only [alloc_size, upd_size]; done) | (simp only [alloc_size, upd_size]; omega) | fail) only [go_sem, reduceIte, Nat.reduceEqDiff]
  have hcl1 : IsCl (H.alloc [.int .i64 n, fl]) (.agg [.int .i64 n, fl]) n xss := ⟨fl, rfl, hv.le (Le.alloc _ _)⟩
  refine (s_implClausesValid hcl1 hl hxl).mono ?_
  rintro r H1 ⟨hle1, b, rfl, hb⟩
  have hH1 := (Le.alloc H [.int .i64 n, fl]).trans hle1
  have g1 : H1.get H.size 1 = some fl := hle1.get (by simp (maxSteps := 2000000) (disch := first | omega | assumption | exact idP rfl | exact idP (bL rfl) | (simp only [alloc_size, upd_size]; done) | (simp only [alloc_size, upd_size]; omega) | fail) only [go_sem, reduceIte, Nat.reduceEqDiff])
  cases b with
  | false =>
    simp (maxSteps := 2000000) (disch := first | omega | assumption | exact idP rfl | exact idP (bL rfl) | (simp only [alloc_size, upd_size]; done) | (simp only [alloc_size, upd_size]; omega) | fail) only [go_sem, reduceIte, Nat.reduceEqDiff]
    exact hR _ _ ⟨hH1, false, rfl, iff_f fun h => by have := hb.2 h.ok; cases this⟩
  | true =>
  have hok := hb.1 rfl
  simp (maxSteps := 2000000) (disch := first | omega | assumption | exact idP rfl | exact idP (bL rfl) | (simp only [alloc_size, upd_size]; done) | (simp only [alloc_size, upd_size]; omega) | fail) only [go_sem, reduceIte, Nat.reduceEqDiff]
  refine s_in.mono ?_
  rintro r H2 ⟨rfl, rfl⟩
  by_cases h3 : (1 : Int) ≤ (cs.length : Int) ∧ (cs.length : Int) ≤ 3000
  · have hlast : cs.length - 1 < cs.length := by omega
    obtain ⟨ul, gl, hul⟩ := hr (cs.length - 1) hlast
    have gll := hH1.get gl.g4
    obtain ⟨Al, c', ex', k', rfl, _⟩ := hul.parts
    have et : ((cs.length : Int) - 1).toNat = cs.length - 1 := by omega
    by_cases h0 : 0 < ((cs[cs.length - 1]).cl.length : Int)
    · simp (maxSteps := 2000000) (disch := first | omega | assumption | exact idP rfl | exact idP (bL rfl) | (simp only [alloc_size, upd_size]; done) | (simp only [alloc_size, upd_size]; omega) | fail) only [go_sem, reduceIte, Nat.reduceEqDiff, h3, decide_true, et, gll, h0]
      refine hR _ _ ⟨hH1, false, rfl, iff_f fun h => ?_⟩
      have := h.last
      rw [getD_at hlast] at this
      rw [this] at h0
      simp at h0
    have hlst : (cs.getD (cs.length - 1) ch0).cl = [] := by
      rw [getD_at hlast]; exact List.eq_nil_of_length_eq_zero (by omega)
    simp (maxSteps := 2000000) (disch := first | omega | assumption | exact idP rfl | exact idP (bL rfl) | (simp only [alloc_size, upd_size]; done) | (simp only [alloc_size, upd_size]; omega) | fail) only [go_sem, reduceIte, Nat.reduceEqDiff, h3, decide_true, decide_false, et, gll, h0]
    refine wp_loop_k (fun e H' => Le H2 H' ∧ ∃ i : Nat, i ≤ cs.length ∧ e 1 = .sl A cs.length c ex k ∧ e 2 = .ptr (some (H.size, 0)) ∧ e 29 = .sl A cs.length c ex k ∧ e 30 = .int .i64 (cs.length : Int) ∧ e 31 = .int .i64 (i : Int) ∧ ∀ j (h : j < cs.length), j < i → StepOk xss cs j cs[j]) (fun e _ => ctr cs.length (e 31)) ?_ ?_
    · exact ⟨Le.refl _, 0, Nat.zero_le _, by simp (maxSteps := 2000000) (disch := first | omega | assumption | exact idP rfl | exact idP (bL rfl) | (simp only [alloc_size, upd_size]; done) | (simp only [alloc_size, upd_size]; omega) | fail) only [go_sem, reduceIte, Nat.reduceEqDiff], by simp (maxSteps := 2000000) (disch := first | omega | assumption | exact idP rfl | exact idP (bL rfl) | (simp only [alloc_size, upd_size]; done) | (simp only [alloc_size, upd_size]; omega) | fail) only [go_sem, reduceIte, Nat.reduceEqDiff], by simp (maxSteps := 2000000) (disch := first | omega | assumption | exact idP rfl | exact idP (bL rfl) | (simp only [alloc_size, upd_size]; done) | (simp only [alloc_size, upd_size]; omega) | fail) only [go_sem, reduceIte, Nat.reduceEqDiff], by simp (maxSteps := 2000000) (disch := first | omega | assumption | exact idP rfl | exact idP (bL rfl) | (simp only [alloc_size, upd_size]; done) | (simp only [alloc_size, upd_size]; omega) | fail) only [go_sem, reduceIte, Nat.reduceEqDiff], by simp (maxSteps := 2000000) (disch := first | omega | assumption | exact idP rfl | exact idP (bL rfl) | (simp only [alloc_size, upd_size]; done) | (simp only [alloc_size, upd_size]; omega) | fail) only [go_sem, reduceIte, Nat.reduceEqDiff]; rfl, fun j _ h => by omega⟩
    rintro e H3 ⟨hle3, i, hi, e1, e2, e29, e30, e31, hj⟩ K hK
    simp (maxSteps := 2000000) (disch := first | omega | assumption | exact idP rfl | exact idP (bL rfl) | (simp only [alloc_size, upd_size]; done) | (simp only [alloc_size, upd_size]; omega) | fail) only [go_sem, reduceIte, Nat.reduceEqDiff, e29, e30, e31]
    refine condV_dec (fun h => ?_) (fun h => ?_)
    rotate_left
    · simp (maxSteps := 2000000) (disch := first | omega | assumption | exact idP rfl | exact idP (bL rfl) | (simp only [alloc_size, upd_size]; done) | (simp only [alloc_size, upd_size]; omega) | fail) only [go_sem, reduceIte, Nat.reduceEqDiff]
      exact hR _ _ ⟨hH1.trans hle3, true, rfl, by simp only [true_iff]; exact ⟨hok, by omega, by omega, fun j hjl => hj j hjl (by omega), hlst⟩⟩
    have hi' : i < cs.length := by omega
    have hL3 := hH1.trans hle3
    obtain ⟨u, g, hu⟩ := hr i hi'
    have hul := hcl _ (List.getElem_mem hi')
    obtain ⟨Ax, cx, exx, kx, rfl, hrx⟩ := hv.parts
    have badK : ¬ StepOk xss cs i cs[i] → ¬ ChainsOk n xss cs := fun h h' => h (h'.all i hi')
    have step : StepOk xss cs i cs[i] → ∀ j (h : j < cs.length), j < i + 1 → StepOk xss cs j cs[j] := fun hs j q1 q2 => by
      by_cases e : j = i
      · subst e; exact hs
      · exact hj j q1 (by omega)
    clear hj
    generalize hxi : cs[i] = y at *
    have ga := g.le hL3
    have q2 : H3.get A.b (A.o + i * 5 + 1 + 1) = some (.int .i64 y.c) := ga.g2
    have q3 : H3.get A.b (A.o + i * 5 + 1 + 1 + 1) = some (.int .i64 y.p) := ga.g3
    have q4 : H3.get A.b (A.o + i * 5 + 1 + 1 + 1 + 1) = some u := ga.g4
    have hu1 := (oneA_isS hu).1
    have e31' := e31
    simp (maxSteps := 2000000) (disch := first | omega | assumption | exact idP rfl | exact idP (bL rfl) | (simp only [alloc_size, upd_size]; done) | (simp only [alloc_size, upd_size]; omega) | fail) only [go_sem, reduceIte, Nat.reduceEqDiff, e1, e2, e29, e30, e31, ga.g0, ga.g1, q2, q3, q4]
    have hLB : Le H3 ((H3.alloc [.int .i64 0, .int .i64 0, .int .i64 0, .int .i64 0, .sl none 0 0 true 0]).upd H3.size (.cells [.int .i64 y.a, .int .i64 y.b, .int .i64 y.c, .int .i64 y.p, u] true)) := ((Le.refl _).allocs).updFresh (Nat.le_refl _)
    have gd : ∀ j, ((H3.alloc [.int .i64 0, .int .i64 0, .int .i64 0, .int .i64 0, .sl none 0 0 true 0]).upd H3.size (.cells [.int .i64 y.a, .int .i64 y.b, .int .i64 y.c, .int .i64 y.p, u] true)).get H3.size j = [AV.int .i64 y.a, .int .i64 y.b, .int .i64 y.c, .int .i64 y.p, u][j]? := fun j => by rw [get_upd_same (by simp only [alloc_size]; omega)]
    generalize hG : ((H3.alloc [AV.int .i64 0, .int .i64 0, .int .i64 0, .int .i64 0, .sl none 0 0 true 0]).upd H3.size (.cells [.int .i64 y.a, .int .i64 y.b, .int .i64 y.c, .int .i64 y.p, u] true)) = G at *
    have hLG := hL3.trans hLB
    have gc1 : G.get H.size 1 = some (.sl Ax xss.length cx exx kx) := (hle3.trans hLB).get g1
    have d0 : G.get H3.size 0 = some (.int .i64 y.a) := gd 0
    have d1 : G.get H3.size 1 = some (.int .i64 y.b) := gd 1
    have d2 : G.get H3.size 2 = some (.int .i64 y.c) := gd 2
    have d3 : G.get H3.size 3 = some (.int .i64 y.p) := gd 3
    have d4 : G.get H3.size 4 = some u := gd 4
    have bad : ¬ StepOk xss cs i y → R (.bool false) G := fun h => hR _ _ ⟨hLG, false, rfl, iff_f (badK h)⟩
    clear gd
    by_cases ha1 : y.a = -1
    · have ha1' : ¬ (y.a ≠ -1) := fun h => h ha1
      have iff0 := stepB (xss := xss) (cs := cs) (i := i) ha1
      simp (maxSteps := 2000000) (disch := first | omega | assumption | exact idP rfl | exact idP (bL rfl) | (simp only [alloc_size, upd_size]; done) | (simp only [alloc_size, upd_size]; omega) | fail) only [go_sem, reduceIte, Nat.reduceEqDiff, e1, e2, e29, e30, e31, d0, ha1, ha1', decide_false, d1]
      refine s_in.mono ?_
      rintro r H4 ⟨rfl, rfl⟩
      by_cases h2 : 0 ≤ y.b ∧ y.b ≤ (i : Int) - 1
      · simp (maxSteps := 2000000) (disch := first | omega | assumption | exact idP rfl | exact idP (bL rfl) | (simp only [alloc_size, upd_size]; done) | (simp only [alloc_size, upd_size]; omega) | fail) only [go_sem, reduceIte, Nat.reduceEqDiff, h2, decide_true, e1, e2, e29, e30, e31, d2]
        refine s_in.mono ?_
        rintro r H5 ⟨rfl, rfl⟩
        by_cases h4 : 0 ≤ y.c ∧ y.c ≤ (i : Int) - 1
        · have hB : y.b.toNat < cs.length := by omega
          have hC : y.c.toNat < cs.length := by omega
          obtain ⟨ub, gb, hub⟩ := hr y.b.toNat hB
          obtain ⟨uc, gc, huc⟩ := hr y.c.toNat hC
          have kb := hLG.get gb.g4
          have kc := hLG.get gc.g4
          simp (maxSteps := 2000000) (disch := first | omega | assumption | exact idP rfl | exact idP (bL rfl) | (simp only [alloc_size, upd_size]; done) | (simp only [alloc_size, upd_size]; omega) | fail) only [go_sem, reduceIte, Nat.reduceEqDiff, h4, decide_true, e1, e2, e29, e30, e31, d1, d2, d3, d4, kb, kc]
          refine (s_implResolved (hub.le hLG) (huc.le hLG) (hcl _ (List.getElem_mem hB)) (hcl _ (List.getElem_mem hC))).mono ?_
          rintro r H6 ⟨hle6, w6, zs, ok, rfl, hw6, hres⟩
          rw [getD_at hB, getD_at hC] at iff0
          have d4' := hle6.get d4
          cases ok with
          | false =>
            simp (maxSteps := 2000000) (disch := first | omega | assumption | exact idP rfl | exact idP (bL rfl) | (simp only [alloc_size, upd_size]; done) | (simp only [alloc_size, upd_size]; omega) | fail) only [go_sem, reduceIte, Nat.reduceEqDiff, e1, e2, e29, e30, e31]
            refine hR _ _ ⟨hLG.trans hle6, false, rfl, iff_f (badK fun h => ?_)⟩
            have := (hres.det (iff0.1 h).2.2.2.2).2
            cases this
          | true =>
            simp (maxSteps := 2000000) (disch := first | omega | assumption | exact idP rfl | exact idP (bL rfl) | (simp only [alloc_size, upd_size]; done) | (simp only [alloc_size, upd_size]; omega) | fail) only [go_sem, reduceIte, Nat.reduceEqDiff, d4', e1, e2, e29, e30, e31]
            refine (s_Equal hw6 (hu.le (hLG.trans hle6)) (by have := hres.short; omega) hul).mono ?_
            rintro r H7 ⟨rfl, b, rfl, hb7⟩
            cases b with
            | false =>
              simp (maxSteps := 2000000) (disch := first | omega | assumption | exact idP rfl | exact idP (bL rfl) | (simp only [alloc_size, upd_size]; done) | (simp only [alloc_size, upd_size]; omega) | fail) only [go_sem, reduceIte, Nat.reduceEqDiff, e1, e2, e29, e30, e31]
              refine hR _ _ ⟨hLG.trans hle6, false, rfl, iff_f (badK fun h => ?_)⟩
              have := hb7.2 ((iff0.1 h).2.2.2.2.det hres).1.symm
              cases this
            | true =>
              have hz := hb7.1 rfl
              simp (maxSteps := 2000000) (disch := first | omega | assumption | exact idP rfl | exact idP (bL rfl) | (simp only [alloc_size, upd_size]; done) | (simp only [alloc_size, upd_size]; omega) | fail) only [go_sem, reduceIte, Nat.reduceEqDiff, e1, e2, e29, e30, e31]
              exact hK _ _ ⟨hle3.trans (hLB.trans hle6), i + 1, by omega, by simp (maxSteps := 2000000) (disch := first | omega | assumption | exact idP rfl | exact idP (bL rfl) | (simp only [alloc_size, upd_size]; done) | (simp only [alloc_size, upd_size]; omega) | fail) only [go_sem, reduceIte, Nat.reduceEqDiff, e1], by simp (maxSteps := 2000000) (disch := first | omega | assumption | exact idP rfl | exact idP (bL rfl) | (simp only [alloc_size, upd_size]; done) | (simp only [alloc_size, upd_size]; omega) | fail) only [go_sem, reduceIte, Nat.reduceEqDiff, e2], by simp (maxSteps := 2000000) (disch := first | omega | assumption | exact idP rfl | exact idP (bL rfl) | (simp only [alloc_size, upd_size]; done) | (simp only [alloc_size, upd_size]; omega) | fail) only [go_sem, reduceIte, Nat.reduceEqDiff, e29], by simp (maxSteps := 2000000) (disch := first | omega | assumption | exact idP rfl | exact idP (bL rfl) | (simp only [alloc_size, upd_size]; done) | (simp only [alloc_size, upd_size]; omega) | fail) only [go_sem, reduceIte, Nat.reduceEqDiff, e30], by simp (maxSteps := 2000000) (disch := first | omega | assumption | exact idP rfl | exact idP (bL rfl) | (simp only [alloc_size, upd_size]; done) | (simp only [alloc_size, upd_size]; omega) | fail) only [go_sem, reduceIte, Nat.reduceEqDiff]; rfl, step (iff0.2 ⟨h2.1, by omega, h4.1, by omega, hz ▸ hres⟩)⟩ (by simp (maxSteps := 2000000) (disch := first | omega | assumption | exact idP rfl | exact idP (bL rfl) | (simp only [alloc_size, upd_size]; done) | (simp only [alloc_size, upd_size]; omega) | fail) only [go_sem, reduceIte, Nat.reduceEqDiff, ctr_int, e31']; omega)
        · simp (maxSteps := 2000000) (disch := first | omega | assumption | exact idP rfl | exact idP (bL rfl) | (simp only [alloc_size, upd_size]; done) | (simp only [alloc_size, upd_size]; omega) | fail) only [go_sem, reduceIte, Nat.reduceEqDiff, h4, decide_false, e1, e2, e29, e30, e31]
          exact bad fun h => h4 ⟨(iff0.1 h).2.2.1, by have := (iff0.1 h).2.2.2.1; omega⟩
      · simp (maxSteps := 2000000) (disch := first | omega | assumption | exact idP rfl | exact idP (bL rfl) | (simp only [alloc_size, upd_size]; done) | (simp only [alloc_size, upd_size]; omega) | fail) only [go_sem, reduceIte, Nat.reduceEqDiff, h2, decide_false, e1, e2, e29, e30, e31]
        exact bad fun h => h2 ⟨(iff0.1 h).1, by have := (iff0.1 h).2.1; omega⟩
    · simp (maxSteps := 2000000) (disch := first | omega | assumption | exact idP rfl | exact idP (bL rfl) | (simp only [alloc_size, upd_size]; done) | (simp only [alloc_size, upd_size]; omega) | fail) only [go_sem, reduceIte, Nat.reduceEqDiff, e1, e2, e29, e30, e31, d0, ha1, decide_true, gc1]
      refine s_in.mono ?_
      rintro r H4 ⟨rfl, rfl⟩
      by_cases h1 : 0 ≤ y.a ∧ y.a ≤ (xss.length : Int) - 1
      · have iff0 := stepA (xss := xss) (cs := cs) (i := i) h1.1
        by_cases h2 : y.b = -1
        · by_cases h4 : y.c = -1
          · by_cases h5 : y.p = 0
            · have hil : y.a.toNat < xss.length := by omega
              obtain ⟨u2, hg2, hu2⟩ := hrx y.a.toNat hil
              have hg2 := hLG.get hg2
              rw [Nat.mul_one] at hg2
              have n2 : ¬ (y.b ≠ -1) := fun h => h h2
              have n4 : ¬ (y.c ≠ -1) := fun h => h h4
              have n5 : ¬ (y.p ≠ 0) := fun h => h h5
              simp (maxSteps := 2000000) (disch := first | omega | assumption | exact idP rfl | exact idP (bL rfl) | (simp only [alloc_size, upd_size]; done) | (simp only [alloc_size, upd_size]; omega) | fail) only [go_sem, reduceIte, Nat.reduceEqDiff, h1, d0, d1, d2, d3, d4, gc1, h2, h4, h5, n2, n4, n5, hg2, decide_true, decide_false, e1, e2, e29, e30, e31]
              refine (s_Equal (hu.le hLG) (hu2.le hLG) hul (hxl _ (List.getElem_mem hil))).mono ?_
              rintro r H5 ⟨rfl, b, rfl, hb5⟩
              rw [getD_at hil] at iff0
              cases b with
              | false =>
                simp (maxSteps := 2000000) (disch := first | omega | assumption | exact idP rfl | exact idP (bL rfl) | (simp only [alloc_size, upd_size]; done) | (simp only [alloc_size, upd_size]; omega) | fail) only [go_sem, reduceIte, Nat.reduceEqDiff, e1, e2, e29, e30, e31]
                exact bad fun h => by have := hb5.2 (iff0.1 h).2.2.2.2; cases this
              | true =>
                simp (maxSteps := 2000000) (disch := first | omega | assumption | exact idP rfl | exact idP (bL rfl) | (simp only [alloc_size, upd_size]; done) | (simp only [alloc_size, upd_size]; omega) | fail) only [go_sem, reduceIte, Nat.reduceEqDiff, e1, e2, e29, e30, e31]
                exact hK _ _ ⟨hle3.trans hLB, i + 1, by omega, by simp (maxSteps := 2000000) (disch := first | omega | assumption | exact idP rfl | exact idP (bL rfl) | (simp only [alloc_size, upd_size]; done) | (simp only [alloc_size, upd_size]; omega) | fail) only [go_sem, reduceIte, Nat.reduceEqDiff, e1], by simp (maxSteps := 2000000) (disch := first | omega | assumption | exact idP rfl | exact idP (bL rfl) | (simp only [alloc_size, upd_size]; done) | (simp only [alloc_size, upd_size]; omega) | fail) only [go_sem, reduceIte, Nat.reduceEqDiff, e2], by simp (maxSteps := 2000000) (disch := first | omega | assumption | exact idP rfl | exact idP (bL rfl) | (simp only [alloc_size, upd_size]; done) | (simp only [alloc_size, upd_size]; omega) | fail) only [go_sem, reduceIte, Nat.reduceEqDiff, e29], by simp (maxSteps := 2000000) (disch := first | omega | assumption | exact idP rfl | exact idP (bL rfl) | (simp only [alloc_size, upd_size]; done) | (simp only [alloc_size, upd_size]; omega) | fail) only [go_sem, reduceIte, Nat.reduceEqDiff, e30], by simp (maxSteps := 2000000) (disch := first | omega | assumption | exact idP rfl | exact idP (bL rfl) | (simp only [alloc_size, upd_size]; done) | (simp only [alloc_size, upd_size]; omega) | fail) only [go_sem, reduceIte, Nat.reduceEqDiff]; rfl, step (iff0.2 ⟨by omega, h2, h4, h5, hb5.1 rfl⟩)⟩ (by simp (maxSteps := 2000000) (disch := first | omega | assumption | exact idP rfl | exact idP (bL rfl) | (simp only [alloc_size, upd_size]; done) | (simp only [alloc_size, upd_size]; omega) | fail) only [go_sem, reduceIte, Nat.reduceEqDiff, ctr_int, e31']; omega)
            · have n2 : ¬ (y.b ≠ -1) := fun h => h h2
              have n4 : ¬ (y.c ≠ -1) := fun h => h h4
              simp (maxSteps := 2000000) (disch := first | omega | assumption | exact idP rfl | exact idP (bL rfl) | (simp only [alloc_size, upd_size]; done) | (simp only [alloc_size, upd_size]; omega) | fail) only [go_sem, reduceIte, Nat.reduceEqDiff, h1, d0, d1, d2, d3, d4, gc1, h2, h4, h5, n2, n4, decide_true, decide_false, e1, e2, e29, e30, e31]
              exact bad fun h => h5 (iff0.1 h).2.2.2.1
          · have n2 : ¬ (y.b ≠ -1) := fun h => h h2
            simp (maxSteps := 2000000) (disch := first | omega | assumption | exact idP rfl | exact idP (bL rfl) | (simp only [alloc_size, upd_size]; done) | (simp only [alloc_size, upd_size]; omega) | fail) only [go_sem, reduceIte, Nat.reduceEqDiff, h1, d0, d1, d2, d3, d4, gc1, h2, h4, n2, decide_true, decide_false, e1, e2, e29, e30, e31]
            exact bad fun h => h4 (iff0.1 h).2.2.1
        · simp (maxSteps := 2000000) (disch := first | omega | assumption | exact idP rfl | exact idP (bL rfl) | (simp only [alloc_size, upd_size]; done) | (simp only [alloc_size, upd_size]; omega) | fail) only [go_sem, reduceIte, Nat.reduceEqDiff, h1, d0, d1, d2, d3, d4, gc1, h2, decide_true, decide_false, e1, e2, e29, e30, e31]
          exact bad fun h => h2 (iff0.1 h).2.1
      · simp (maxSteps := 2000000) (disch := first | omega | assumption | exact idP rfl | exact idP (bL rfl) | (simp only [alloc_size, upd_size]; done) | (simp only [alloc_size, upd_size]; omega) | fail) only [go_sem, reduceIte, Nat.reduceEqDiff, h1, d0, d1, d2, d3, d4, gc1, decide_false, e1, e2, e29, e30, e31]
        refine bad fun h => ?_
        unfold StepOk at h
        rcases h with ⟨k0, k1, _⟩ | ⟨k0, _⟩
        · exact h1 ⟨k0, by omega⟩
        · exact ha1 k0
  · simp (maxSteps := 2000000) (disch := first | omega | assumption | exact idP rfl | exact idP (bL rfl) | (simp only [alloc_size, upd_size]; done) | (simp only [alloc_size, upd_size]; omega) | fail) only [go_sem, reduceIte, Nat.reduceEqDiff, h3, decide_false]
    exact hR _ _ ⟨hH1, false, rfl, iff_f fun h => h3 ⟨by have := h.lo; omega, by have := h.hi; omega⟩⟩
end Go.M2

namespace Go.M2
open Go.Proofs
variable {H : Heap}
set_option maxHeartbeats 4000000 in
theorem law_CheckChains {v w : AV} {n : Int} {xss : List (List Int)} {cs : List Ch} (hv : InS 1 (EN 1 EI) H v xss) (h0 : xss.length ≤ 9223372036854775807) (hx : ∀ xs ∈ xss, xs.length ≤ 9223372036854775807)
    (hw : InS 5 ENCh H w cs) (hc0 : cs.length ≤ 9223372036854775807) (hcx : ∀ x ∈ cs, x.cl.length ≤ 9223372036854775807) :
    ACall Try.prog n_laws_FnExactCheckChains [.agg [.int .i64 n, v], w] H (fun r _ => r = .bool true) := by
  refine ACall.of fun R hR => a_laws_FnExactCheckChains rfl ?_
  simp (maxSteps := 2000000) (disch := first | omega | assumption | exact idP rfl | exact idP (bL rfl) | (simp only [alloc_size, upd_size]; done) | (simp only [alloc_size, upd_size]; omega) | fail) only [go_sem, reduceIte, Nat.reduceEqDiff]
  have hv1 := hv.le (mono_N mono_I) (Le.alloc H [.int .i64 n, v])
  have hw1 := hw.le mono_NCh (Le.alloc H [.int .i64 n, v])
  refine (s_szClauses hv1 h0 hx (by omega) (by omega)).mono ?_
  rintro r H2 ⟨hle2, k, rfl, hk1, hk2⟩
  simp (maxSteps := 2000000) (disch := first | omega | assumption | exact idP rfl | exact idP (bL rfl) | (simp only [alloc_size, upd_size]; done) | (simp only [alloc_size, upd_size]; omega) | fail) only [go_sem, reduceIte, Nat.reduceEqDiff]
  refine condV_dec (fun h => ?_) (fun h => ?_)
  · simp (maxSteps := 2000000) (disch := first | omega | assumption | exact idP rfl | exact idP (bL rfl) | (simp only [alloc_size, upd_size]; done) | (simp only [alloc_size, upd_size]; omega) | fail) only [go_sem, reduceIte, Nat.reduceEqDiff]
    exact hR _ _ rfl
  obtain ⟨hl, hxl⟩ := hk2 (by omega)
  simp (maxSteps := 2000000) (disch := first | omega | assumption | exact idP rfl | exact idP (bL rfl) | (simp only [alloc_size, upd_size]; done) | (simp only [alloc_size, upd_size]; omega) | fail) only [go_sem, reduceIte, Nat.reduceEqDiff]
  refine (s_szChainS (hw1.le mono_NCh hle2) hc0 hcx (by omega) (by omega)).mono ?_
  rintro r H2b ⟨hle2b, k2, rfl, hk3, hk4⟩
  simp (maxSteps := 2000000) (disch := first | omega | assumption | exact idP rfl | exact idP (bL rfl) | (simp only [alloc_size, upd_size]; done) | (simp only [alloc_size, upd_size]; omega) | fail) only [go_sem, reduceIte, Nat.reduceEqDiff]
  refine condV_dec (fun h => ?_) (fun h => ?_)
  · simp (maxSteps := 2000000) (disch := first | omega | assumption | exact idP rfl | exact idP (bL rfl) | (simp only [alloc_size, upd_size]; done) | (simp only [alloc_size, upd_size]; omega) | fail) only [go_sem, reduceIte, Nat.reduceEqDiff]
    exact hR _ _ rfl
  obtain ⟨hc, hcl⟩ := hk4 (by omega)
  have hL2 := hle2.trans hle2b
  have g0 : H2b.get H.size 0 = some (.int .i64 n) := hL2.get (by simp (maxSteps := 2000000) (disch := first | omega | assumption | exact idP rfl | exact idP (bL rfl) | (simp only [alloc_size, upd_size]; done) | (simp only [alloc_size, upd_size]; omega) | fail) only [go_sem, reduceIte, Nat.reduceEqDiff])
  have g1 : H2b.get H.size 1 = some v := hL2.get (by simp (maxSteps := 2000000) (disch := first | omega | assumption | exact idP rfl | exact idP (bL rfl) | (simp only [alloc_size, upd_size]; done) | (simp only [alloc_size, upd_size]; omega) | fail) only [go_sem, reduceIte, Nat.reduceEqDiff])
  simp (maxSteps := 2000000) (disch := first | omega | assumption | exact idP rfl | exact idP (bL rfl) | (simp only [alloc_size, upd_size]; done) | (simp only [alloc_size, upd_size]; omega) | fail) only [go_sem, reduceIte, Nat.reduceEqDiff, g0, g1]
  refine (s_toClauses (hv1.le (mono_N mono_I) hL2) hl hxl).mono ?_
  rintro x H3 ⟨hx3, hle3, _⟩
  simp (maxSteps := 2000000) (disch := first | omega | assumption | exact idP rfl | exact idP (bL rfl) | (simp only [alloc_size, upd_size]; done) | (simp only [alloc_size, upd_size]; omega) | fail) only [go_sem, reduceIte, Nat.reduceEqDiff]
  refine (s_toChainS (hw1.le mono_NCh (hL2.trans hle3)) hc hcl).mono ?_
  rintro xs H3b ⟨hxs3, hle3b⟩
  simp (maxSteps := 2000000) (disch := first | omega | assumption | exact idP rfl | exact idP (bL rfl) | (simp only [alloc_size, upd_size]; done) | (simp only [alloc_size, upd_size]; omega) | fail) only [go_sem, reduceIte, Nat.reduceEqDiff]
  refine (s_specCheckChains ((hx3.le (later_le _ _)).le hle3b) hl hxl (hxs3.le (later_le _ _)) hc hcl).mono ?_
  rintro r H4 ⟨hle4, b1, rfl, hb1⟩
  have hH4 := hle3.trans (hle3b.trans hle4)
  have g0' := hH4.get g0
  have g1' := hH4.get g1
  have hv4 := hv1.le (mono_N mono_I) (hL2.trans hH4)
  have hw4 := hw1.le mono_NCh (hL2.trans hH4)
  simp (maxSteps := 2000000) (disch := first | omega | assumption | exact idP rfl | exact idP (bL rfl) | (simp only [alloc_size, upd_size]; done) | (simp only [alloc_size, upd_size]; omega) | fail) only [go_sem, reduceIte, Nat.reduceEqDiff, g0', g1']
  refine (s_toClauses hv4 hl hxl).mono ?_
  rintro y H5 ⟨hy5, hle5, _⟩
  obtain ⟨wy, rfl, hwy⟩ := hy5.le (later_le _ _)
  have how := oneA_isS hwy
  have how1 := how.1
  simp (maxSteps := 2000000) (disch := first | omega | assumption | exact idP rfl | exact idP (bL rfl) | (simp only [alloc_size, upd_size]; done) | (simp only [alloc_size, upd_size]; omega) | fail) only [go_sem, reduceIte, Nat.reduceEqDiff, how.2]
  have hL5 : Le H5 ((H5.alloc [.int .i64 0, .sl none 0 0 true 0]).upd H5.size (.cells [.int .i64 n, wy] true)) := ((Le.refl _).allocs).updFresh (Nat.le_refl _)
  have hwA := hwy.le hL5
  have m0a : ((H5.alloc [.int .i64 0, .sl none 0 0 true 0]).upd H5.size (.cells [.int .i64 n, wy] true)).get H5.size 0 = some (.int .i64 n) := by simp (maxSteps := 2000000) (disch := first | omega | assumption | exact idP rfl | exact idP (bL rfl) | (simp only [alloc_size, upd_size]; done) | (simp only [alloc_size, upd_size]; omega) | fail) only [go_sem, reduceIte, Nat.reduceEqDiff]
  have m1a : ((H5.alloc [.int .i64 0, .sl none 0 0 true 0]).upd H5.size (.cells [.int .i64 n, wy] true)).get H5.size 1 = some wy := by simp (maxSteps := 2000000) (disch := first | omega | assumption | exact idP rfl | exact idP (bL rfl) | (simp only [alloc_size, upd_size]; done) | (simp only [alloc_size, upd_size]; omega) | fail) only [go_sem, reduceIte, Nat.reduceEqDiff]
  generalize hG : ((H5.alloc [AV.int .i64 0, .sl none 0 0 true 0]).upd H5.size (.cells [.int .i64 n, wy] true)) = G at *
  have hL45 := hle5.trans hL5
  refine (s_toChainS (hw4.le mono_NCh hL45) hc hcl).mono ?_
  rintro ys H5b ⟨hys5, hle5b⟩
  have hys := hys5.le (later_le _ _)
  have m0 := hle5b.get m0a
  have m1 := hle5b.get m1a
  simp (maxSteps := 2000000) (disch := first | omega | assumption | exact idP rfl | exact idP (bL rfl) | (simp only [alloc_size, upd_size]; done) | (simp only [alloc_size, upd_size]; omega) | fail) only [go_sem, reduceIte, Nat.reduceEqDiff, m0, m1]
  refine (s_implCheckChains ⟨wy, rfl, hwA.le hle5b⟩ hl hxl hys hc hcl).mono ?_
  rintro r H6 ⟨hle6, b2, rfl, hb2⟩
  have hbb : b1 = b2 := by
    cases b1 <;> cases b2 <;> simp_all
  subst hbb
  have hH6 := hL45.trans (hle5b.trans hle6)
  have bb : (b1 == b1) = true := by simp
  have k0 := hH6.get g0'
  have k1 := hH6.get g1'
  have m0' := hle6.get m0
  have m1' := hle6.get m1
  simp (maxSteps := 2000000) (disch := first | omega | assumption | exact idP rfl | exact idP (bL rfl) | (simp only [alloc_size, upd_size]; done) | (simp only [alloc_size, upd_size]; omega) | fail) only [go_sem, reduceIte, Nat.reduceEqDiff, bb, k0, k1, m0', m1']
  refine (s_toClauses (hv4.le (mono_N mono_I) hH6) hl hxl).mono ?_
  rintro z H7 ⟨hz7, hle7, _⟩
  have p0 := hle7.get m0'
  have p1 := hle7.get m1'
  simp (maxSteps := 2000000) (disch := first | omega | assumption | exact idP rfl | exact idP (bL rfl) | (simp only [alloc_size, upd_size]; done) | (simp only [alloc_size, upd_size]; omega) | fail) only [go_sem, reduceIte, Nat.reduceEqDiff, p0, p1]
  refine (s_eqClauses ⟨wy, rfl, (hwA.le hle5b).le (hle6.trans hle7)⟩ (hz7.le (later_le _ _)) hl hxl).mono ?_
  rintro r H8 ⟨rfl, hle8⟩
  have hH68 := hle7.trans hle8
  simp (maxSteps := 2000000) (disch := first | omega | assumption | exact idP rfl | exact idP (bL rfl) | (simp only [alloc_size, upd_size]; done) | (simp only [alloc_size, upd_size]; omega) | fail) only [go_sem, reduceIte, Nat.reduceEqDiff]
  refine (s_toChainS (hw4.le mono_NCh (hH6.trans hH68)) hc hcl).mono ?_
  rintro zs H9 ⟨hzs, hle9⟩
  simp (maxSteps := 2000000) (disch := first | omega | assumption | exact idP rfl | exact idP (bL rfl) | (simp only [alloc_size, upd_size]; done) | (simp only [alloc_size, upd_size]; omega) | fail) only [go_sem, reduceIte, Nat.reduceEqDiff]
  refine (s_eqChainS (hys.le (hle6.trans (hH68.trans hle9))) (hzs.le (later_le _ _)) hc hcl).mono ?_
  rintro r H10 ⟨rfl, _⟩
  simp (maxSteps := 2000000) (disch := first | omega | assumption | exact idP rfl | exact idP (bL rfl) | (simp only [alloc_size, upd_size]; done) | (simp only [alloc_size, upd_size]; omega) | fail) only [go_sem, reduceIte, Nat.reduceEqDiff]
  exact hR _ _ rfl
end Go.M2
