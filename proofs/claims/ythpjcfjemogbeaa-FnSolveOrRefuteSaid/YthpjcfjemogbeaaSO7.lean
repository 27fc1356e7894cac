/- The law's function FnSolveOrRefute. -/
import Derived.Test.YthpjcfjemogbeaaSO6
set_option linter.unusedVariables false
set_option linter.unusedSimpArgs false
set_option maxRecDepth 10000
set_option maxHeartbeats 4000000
namespace Go.M2
open Go.Proofs
variable {H : Heap}
theorem ends {n : Int} {P : List (List Int)} {vals : List Int} {ok no : Bool} {Q : List (List Int)} (hnb : n ≤ 6 ∨ n = 701) (h1 : SolRes n P vals ok) (h2 : RefRes n P Q no) :
    (¬ ClsOk n P ∧ ok = false ∧ no = false) ∨
    (∃ m : Nat, n = m ∧ m ≤ 6 ∧ ClsOk m P ∧ ok = true ∧ no = false ∧ vals.length = m ∧ (∀ y ∈ vals, y = 0 ∨ y = 1) ∧ (∀ c ∈ P, ∃ x ∈ c, litT vals x) ∧ 0 < cntR P (2 ^ m)) ∨
    (∃ (m : Nat) (Q' : List (List Int)), n = m ∧ m ≤ 6 ∧ ClsOk m P ∧ ok = false ∧ no = true ∧ Q = Q' ++ [[]] ∧ cntR P (2 ^ m) = 0) := by
  rcases h1 with ⟨q1, rfl, rfl⟩ | ⟨q1, m, res, P1, d, rfl, q2, q3⟩
  · rcases h2 with ⟨_, _, rfl⟩ | ⟨q, _⟩
    · exact .inl ⟨q1, rfl, rfl⟩
    · exact absurd q q1
  · right
    rcases h2 with ⟨q, _⟩ | ⟨_, m', res', P2, d', hm, r2, r3⟩
    · exact absurd q1 q
    obtain rfl : m = m' := by omega
    obtain ⟨rfl, rfl, rfl⟩ := q2.det r2
    have hhi := q1.hi
    have hm6 : m ≤ 6 := by omega
    have hl : ∀ c ∈ P, Lits m c := fun c hc => clOk_lits (q1.all c hc)
    have hnc := q2.nocut hm6
    rcases q3 with ⟨mm, rfl, rfl, rfl⟩ | ⟨q4, rfl, rfl⟩
    · left
      have hlen := q2.len mm rfl
      refine ⟨m, rfl, hm6, q1, rfl, ?_, by simp; omega, fun y hy => ?_, sat_lit q2 hl rfl, sat_cnt q2 hl (by omega)⟩
      · rcases r3 with ⟨e, _⟩ | ⟨_, _, e⟩
        · cases e
        · exact e
      · obtain ⟨z, _, rfl⟩ := List.mem_map.1 hy
        unfold valF
        split
        · exact .inr rfl
        · exact .inl rfl
    · right
      have hno : res = .no := by
        rcases q4 with e | e
        · exact e
        · exact absurd e hnc
      subst hno
      rcases r3 with ⟨_, rfl, rfl⟩ | ⟨e, _⟩
      · obtain ⟨Q', e⟩ := q2.lastRow rfl
        exact ⟨m, Q', rfl, hm6, q1, rfl, rfl, e, no_cnt q2 hl (by omega)⟩
      · exact absurd rfl e
set_option maxHeartbeats 4000000 in
theorem law_SolveOrRefute {v : AV} {xs : List Int} (hv : IsB H v xs) (hc : ∀ A n c ex k, v = .sl A n c ex k → n ≤ c) (hlen : xs.length ≤ 9223372036854775807) :
    ACall Try.prog n_Z24 [v] H (fun r _ => r = .bool true) := by
  refine ACall.of fun R hR => a_Z24 rfl ?_
  have hl := hv.len
  simp (maxSteps := 2000000) (disch := first | omega | assumption | exact idP rfl | exact idP (bL rfl) | (simp only [alloc_size, upd_size] <;> omega) | fail) only [go_sem, reduceIte, Nat.reduceEqDiff, hl]
  refine condV_dec (fun h => ?_) (fun h => ?_)
  · simp (maxSteps := 2000000) (disch := first | omega | assumption | exact idP rfl | exact idP (bL rfl) | (simp only [alloc_size, upd_size] <;> omega) | fail) only [go_sem, reduceIte, Nat.reduceEqDiff]
    exact hR _ _ rfl
  simp (maxSteps := 2000000) (disch := first | omega | assumption | exact idP rfl | exact idP (bL rfl) | (simp only [alloc_size, upd_size] <;> omega) | fail) only [go_sem, reduceIte, Nat.reduceEqDiff]
  refine (s_DrawSolve hv hc (by omega)).mono ?_
  rintro r H1 ⟨n, fl, P, rfl, hP, hPl, hnb, hPs⟩
  have hof := oneA_isS hP
  have hof1 := hof.1
  have hPx : ∀ c ∈ P, c.length ≤ 1048576 := fun c hc => by have := hPs c hc; omega
  simp (maxSteps := 2000000) (disch := first | omega | assumption | exact idP rfl | exact idP (bL rfl) | (simp only [alloc_size, upd_size] <;> omega) | fail) only [go_sem, reduceIte, Nat.reduceEqDiff, hof.2]
  have hL12 : Le H1 ((H1.alloc [.int .i64 0, .sl none 0 0 true 0]).upd H1.size (.cells [.int .i64 n, fl] true)) := ((Le.refl _).allocs).updFresh (Nat.le_refl _)
  have g0 : ((H1.alloc [.int .i64 0, .sl none 0 0 true 0]).upd H1.size (.cells [.int .i64 n, fl] true)).get H1.size 0 = some (.int .i64 n) := by simp (maxSteps := 2000000) (disch := first | omega | assumption | exact idP rfl | exact idP (bL rfl) | (simp only [alloc_size, upd_size] <;> omega) | fail) only [go_sem, reduceIte, Nat.reduceEqDiff]
  have g1 : ((H1.alloc [.int .i64 0, .sl none 0 0 true 0]).upd H1.size (.cells [.int .i64 n, fl] true)).get H1.size 1 = some fl := by simp (maxSteps := 2000000) (disch := first | omega | assumption | exact idP rfl | exact idP (bL rfl) | (simp only [alloc_size, upd_size] <;> omega) | fail) only [go_sem, reduceIte, Nat.reduceEqDiff]
  generalize ((H1.alloc [AV.int .i64 0, .sl none 0 0 true 0]).upd H1.size (.cells [.int .i64 n, fl] true)) = H2 at *
  have hcl : IsCl H2 (.agg [.int .i64 n, fl]) n P := ⟨fl, rfl, hP.le hL12⟩
  refine (s_implSolve hcl (by omega) hPx).mono ?_
  rintro r H3 ⟨u, vals, ok, rfl, how, hle3, hnew3, hres⟩
  have hle3 := hle3.trans (base_le _ _)
  have g0' := hle3.get g0
  have g1' := hle3.get g1
  have hvl := hres.len fun m _ g P d r P' d' ht => ht.len
  simp (maxSteps := 2000000) (disch := first | omega | assumption | exact idP rfl | exact idP (bL rfl) | (simp only [alloc_size, upd_size] <;> omega) | fail) only [go_sem, reduceIte, Nat.reduceEqDiff, g0', g1']
  refine (s_specSolve (hcl.le hle3) (by omega) hPx).mono ?_
  rintro r H4 ⟨hle4, a0, vals', ok', rfl, ha0, hres'⟩
  obtain ⟨rfl, rfl⟩ := hres.det hres'
  have k0 := hle4.get g0'
  have k1 := hle4.get g1'
  have hu4 : IsI H4 u vals := how.isI.le hle4
  have bb : (ok == ok) = true := by simp
  simp (maxSteps := 2000000) (disch := first | omega | assumption | exact idP rfl | exact idP (bL rfl) | (simp only [alloc_size, upd_size] <;> omega) | fail) only [go_sem, reduceIte, Nat.reduceEqDiff, k0, k1]
  refine (s_implRefute (hcl.le (hle3.trans hle4)) (by omega) hPx).mono ?_
  rintro r H5 ⟨w, Q, no, B5, rfl, hpl, hle5, hnew5, hfew, href⟩
  have l0 := hle5.get k0
  have l1 := hle5.get k1
  simp (maxSteps := 2000000) (disch := first | omega | assumption | exact idP rfl | exact idP (bL rfl) | (simp only [alloc_size, upd_size] <;> omega) | fail) only [go_sem, reduceIte, Nat.reduceEqDiff, l0, l1]
  refine (s_specRefute (hcl.le ((hle3.trans hle4).trans hle5)) (by omega) hPx).mono ?_
  rintro r H6 ⟨hle6, w', Q', no', rfl, _, href'⟩
  obtain ⟨rfl, rfl⟩ := href.det href'
  have bb2 : (no == no) = true := by simp
  have m0 := hle6.get l0
  have m1 := hle6.get l1
  simp (maxSteps := 2000000) (disch := first | omega | assumption | exact idP rfl | exact idP (bL rfl) | (simp only [alloc_size, upd_size] <;> omega) | fail) only [go_sem, reduceIte, Nat.reduceEqDiff, bb, bb2]
  refine (s_wcInts (hu4.le (hle5.trans hle6)) (ha0.le (hle5.trans hle6)) (by omega)).mono ?_
  rintro r H6' ⟨rfl, rfl⟩
  simp (maxSteps := 2000000) (disch := first | omega | assumption | exact idP rfl | exact idP (bL rfl) | (simp only [alloc_size, upd_size] <;> omega) | fail) only [go_sem, reduceIte, Nat.reduceEqDiff, m0, m1, bb2]
  have hL26 := (hle3.trans hle4).trans (hle5.trans hle6)
  refine (s_implClausesValid (hcl.le hL26) (by omega) hPx).mono ?_
  rintro r H7 ⟨hle7, b1, rfl, hb1⟩
  have p0 := hle7.get m0
  have p1 := hle7.get m1
  simp (maxSteps := 2000000) (disch := first | omega | assumption | exact idP rfl | exact idP (bL rfl) | (simp only [alloc_size, upd_size] <;> omega) | fail) only [go_sem, reduceIte, Nat.reduceEqDiff, p0, p1]
  refine (s_specClausesValid (hcl.le (hL26.trans hle7)) (by omega) hPx).mono ?_
  rintro r H8 ⟨hle8, b2, rfl, hb2⟩
  obtain rfl : b1 = b2 := Bool.eq_iff_iff.2 (hb1.trans hb2.symm)
  have bb3 : (b1 == b1) = true := by simp
  have q0 := hle8.get p0
  have q1 := hle8.get p1
  simp (maxSteps := 2000000) (disch := first | omega | assumption | exact idP rfl | exact idP (bL rfl) | (simp only [alloc_size, upd_size] <;> omega) | fail) only [go_sem, reduceIte, Nat.reduceEqDiff, bb3, q0, q1]
  refine (s_specClausesValid (hcl.le ((hL26.trans hle7).trans hle8)) (by omega) hPx).mono ?_
  rintro r H9 ⟨hle9, b3, rfl, hb3⟩
  obtain rfl : b1 = b3 := Bool.eq_iff_iff.2 (hb1.trans hb3.symm)
  have r0 := hle9.get q0
  have r1 := hle9.get q1
  have hL29 := (hL26.trans hle7).trans (hle8.trans hle9)
  have hL69 := (hle7.trans hle8).trans hle9
  rcases ends hnb hres href with ⟨hno, rfl, rfl⟩ | ⟨m, rfl, hm6, hok, rfl, rfl, hvm, h01, hlit, hcnt⟩ | ⟨m, Q1, rfl, hm6, hok, rfl, rfl, rfl, hcnt⟩
  · obtain rfl : b1 = false := by
      cases b1 with
      | false => rfl
      | true => exact absurd (hb1.1 rfl) hno
    simp (maxSteps := 2000000) (disch := first | omega | assumption | exact idP rfl | exact idP (bL rfl) | (simp only [alloc_size, upd_size] <;> omega) | fail) only [go_sem, reduceIte, Nat.reduceEqDiff]
    exact hR _ _ rfl
  · obtain rfl : b1 = true := hb1.2 hok
    simp (maxSteps := 2000000) (disch := first | omega | assumption | exact idP rfl | exact idP (bL rfl) | (simp only [alloc_size, upd_size] <;> omega) | fail) only [go_sem, reduceIte, Nat.reduceEqDiff, r0, r1]
    refine (s_implTrueIn (hcl.le hL29) hok (hu4.le ((hle5.trans hle6).trans hL69)) hvm h01 (by omega) hPx hlit).mono ?_
    rintro r H10 ⟨rfl, hle10⟩
    have s0 := hle10.get r0
    have s1 := hle10.get r1
    simp (maxSteps := 2000000) (disch := first | omega | assumption | exact idP rfl | exact idP (bL rfl) | (simp only [alloc_size, upd_size] <;> omega) | fail) only [go_sem, reduceIte, Nat.reduceEqDiff, s0, s1]
    refine (s_implCountModels (hcl.le (hL29.trans hle10)) (by omega) hPx).mono ?_
    rintro r H11 ⟨hle11, ⟨hno, rfl⟩ | ⟨m', hm', _, _, rfl⟩⟩
    · exact absurd ⟨hok, by omega⟩ hno
    obtain rfl : m = m' := by omega
    have hpos : (0 : Int) < (cntR P (2 ^ m) : Nat) := by omega
    simp (maxSteps := 2000000) (disch := first | omega | assumption | exact idP rfl | exact idP (bL rfl) | (simp only [alloc_size, upd_size] <;> omega) | fail) only [go_sem, reduceIte, Nat.reduceEqDiff, hpos, decide_true]
    exact hR _ _ rfl
  · obtain rfl : b1 = true := hb1.2 hok
    have hw9 : IsII H9 w (Q1 ++ [[]]) := hpl.isII.le (hle6.trans hL69)
    obtain ⟨Aw, cw, exw, kw, rfl, hrw⟩ := hw9.parts
    obtain ⟨z, hz, hzi⟩ := hrw Q1.length (by simp)
    rw [Nat.mul_one] at hz
    have e0 : (Q1 ++ [[]])[Q1.length]'(by simp) = ([] : List Int) := by simp
    rw [e0] at hzi
    obtain ⟨Az, cz, exz, kz, rfl, _⟩ := hzi.parts
    have el : (Q1 ++ [([] : List Int)]).length = Q1.length + 1 := by simp
    clear hrw e0
    generalize (Q1 ++ [([] : List Int)]).length = N at *
    have hp : (0 : Int) < (N : Int) := by omega
    have hi : ((N : Int) - 1).toNat = Q1.length := by omega
    have hq : IsCl H9 (.agg [.int .i64 (m : Int), fl]) (m : Int) P := hcl.le hL29
    have hz0 : ((([] : List Int).length : Nat) : Int) = 0 := rfl
    simp (maxSteps := 2000000) (disch := first | omega | assumption | exact idP rfl | exact idP (bL rfl) | (simp only [alloc_size, upd_size] <;> omega) | fail) only [go_sem, reduceIte, Nat.reduceEqDiff, hp, decide_true, hi, hz, hz0, r0, r1]
    refine (s_implCountModels hq (by omega) hPx).mono ?_
    rintro r H11 ⟨hle11, ⟨hno, rfl⟩ | ⟨m', hm', _, _, rfl⟩⟩
    · exact absurd ⟨hok, by omega⟩ hno
    obtain rfl : m = m' := by omega
    rw [hcnt, show ((0 : Nat) : Int) = 0 from rfl]
    simp (maxSteps := 2000000) (disch := first | omega | assumption | exact idP rfl | exact idP (bL rfl) | (simp only [alloc_size, upd_size] <;> omega) | fail) only [go_sem, reduceIte, Nat.reduceEqDiff, decide_true]
    exact hR _ _ rfl
end Go.M2
