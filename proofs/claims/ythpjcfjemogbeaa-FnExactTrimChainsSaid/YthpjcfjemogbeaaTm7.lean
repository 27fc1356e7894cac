/- Contract: chains trimmed, the program's side. -/
import Derived.Test.YthpjcfjemogbeaaTm6
set_option linter.unusedVariables false
set_option linter.unusedSimpArgs false
set_option maxRecDepth 10000
set_option maxHeartbeats 4000000
namespace Go.M2
open Go.Proofs
variable {H : Heap}
set_option maxHeartbeats 4000000 in
theorem s_implCloneC {v : AV} {pc : List AV} (hv : Own 5 H v pc) (ho : pc.all oneA = true) (hl : pc.length ≤ 5242880) :
    ACall Try.prog n_impl_clone_impl_Chain [v] H (fun r H' => Own 5 H' r pc ∧ Le H (base H' r) ∧ newer H.size r) := by
  refine ACall.of fun R hR => a_impl_clone_impl_Chain rfl ?_
  have hv' := hv
  obtain ⟨A, n, ex, k, rfl, h1, h2, h3⟩ := hv'
  have hrd := Own.rd hv
  simp (maxSteps := 2000000) (disch := first | omega | assumption | exact idP rfl | exact idP (bL rfl) | (simp only [alloc_size, upd_size]; done) | (simp only [alloc_size, upd_size]; omega) | fail) only [go_sem, reduceIte, Nat.reduceEqDiff]
  refine condV_dec (fun h => ?_) (fun h => ?_)
  · have : pc = [] := List.eq_nil_of_length_eq_zero (by omega)
    subst this
    simp (maxSteps := 2000000) (disch := first | omega | assumption | exact idP rfl | exact idP (bL rfl) | (simp only [alloc_size, upd_size]; done) | (simp only [alloc_size, upd_size]; omega) | fail) only [go_sem, reduceIte, Nat.reduceEqDiff]
    exact hR _ _ ⟨Own.nil, Le.refl _, trivial⟩
  · simp (maxSteps := 2000000) (disch := first | omega | assumption | exact idP rfl | exact idP (bL rfl) | (simp only [alloc_size, upd_size]; done) | (simp only [alloc_size, upd_size]; omega) | fail) only [go_sem, reduceIte, Nat.reduceEqDiff]
    refine mks_own (by omega) (by simp [mostCells]; omega) (by simp [mostCells]; omega) ?_
    simp (maxSteps := 2000000) (disch := first | omega | assumption | exact idP rfl | exact idP (bL rfl) | (simp only [alloc_size, upd_size]; done) | (simp only [alloc_size, upd_size]; omega) | fail) only [go_sem, reduceIte, Nat.reduceEqDiff]
    have hld : loadN (H.alloc (zeros [.int .i64 0, .int .i64 0, .int .i64 0, .int .i64 0, .sl none 0 0 true 0] n)) A.b A.o (n * 5) = some pc := by
      rw [← h1]; exact (hrd.le (Le.alloc H (zeros [.int .i64 0, .int .i64 0, .int .i64 0, .int .i64 0, .sl none 0 0 true 0] n))).loadN
    unfold copyP
    simp only [AA.b_some, AA.o_some, Nat.min_self, hld]
    rw [if_neg (by omega), rw_alloc_new rfl]
    refine ⟨ho, by rw [zeros_len5 rfl]; omega, ?_⟩
    have hz := setAt_all pc (zeros [.int .i64 0, .int .i64 0, .int .i64 0, .int .i64 0, .sl none 0 0 true 0] n) [] (by rw [zeros_len5 rfl, h1])
    simp only [List.nil_append, List.length_nil] at hz
    rw [hz]
    simp (maxSteps := 2000000) (disch := first | omega | assumption | exact idP rfl | exact idP (bL rfl) | (simp only [alloc_size, upd_size]; done) | (simp only [alloc_size, upd_size]; omega) | fail) only [go_sem, reduceIte, Nat.reduceEqDiff]
    refine hR _ _ ⟨⟨some (H.size, 0), n, true, 5, rfl, h1, fun h => (nomatch h), fun b o e => ?_⟩, ?_, Nat.le_refl _⟩
    · cases e; exact ⟨rfl, rfl, Nat.lt_succ_self _, upd_blk_same'⟩
    · show Le H ((_ : Heap).kill H.size)
      exact (((Le.alloc H _).updFresh (Nat.le_refl _))).killFresh (Nat.le_refl _)
set_option maxHeartbeats 16000000 in
theorem s_trimChains {w : AV} {n : Int} {xss : List (List Int)} {cs : List Ch} (hw : IsChs H w cs) (hok : ChainsOk n xss cs) :
    ACall Try.prog n_impl_trimChains [w] H (fun r H' => Le H H' ∧ newer H.size r ∧ ∃ B, PLC H.size B H' r (trimR cs (need cs) cs.length).2) := by
  refine ACall.of fun R hR => a_impl_trimChains rfl ?_
  have hw0 := hw
  obtain ⟨A, c, ex, k, rfl, hr⟩ := hw.parts
  have h1 := hok.lo
  have h3 := hok.hi
  simp (maxSteps := 2000000) (disch := first | omega | assumption | exact idP rfl | exact idP (bL rfl) | (simp only [alloc_size, upd_size]; done) | (simp only [alloc_size, upd_size]; omega) | fail) only [go_sem, reduceIte, Nat.reduceEqDiff]
  refine mks_own (by omega) (by simp [mostCells]; omega) (by simp [mostCells]; omega) ?_
  have en : (cs.length : Int).toNat = cs.length := Int.toNat_natCast _
  rw [en]
  simp (maxSteps := 2000000) (disch := first | omega | assumption | exact idP rfl | exact idP (bL rfl) | (simp only [alloc_size, upd_size]; done) | (simp only [alloc_size, upd_size]; omega) | fail) only [go_sem, reduceIte, Nat.reduceEqDiff]
  refine (s_neededSteps (xss := xss) (hw0.le (Le.alloc _ _)) h1 h3 hok.all).mono ?_
  rintro r H2 ⟨rfl, hnd⟩
  simp only [alloc_size] at hnd
  have hLA := hnd.le'
  have hsz2 : H.size + 1 < H2.size := hnd.lt
  have hz0 : H2.rwCells H.size = some ((List.replicate cs.length (0 : Int)).map (AV.int .i64)) := hLA.rwCells (by rw [rw_alloc_new rfl, zeros_int])
  have hLH : Le H (H2.kill H.size) := ((Le.alloc _ _).trans hLA).killFresh (Nat.le_refl _)
  have gnd : ∀ i (h : i < cs.length), (H2.kill H.size).get (H.size + 1) i = some (.bool ((need cs)[i]'(by rw [need_len]; exact h))) := fun i h => by
    have := Rd.blk (H := H2.kill H.size) (b := H.size + 1) hsz2 (by rw [kill_ne (by omega)]; exact hnd.blk) i (.bool ((need cs)[i]'(by rw [need_len]; exact h))) (by simp [need_len, h])
    simpa using this
  simp (maxSteps := 2000000) (disch := first | omega | assumption | exact idP rfl | exact idP (bL rfl) | (simp only [alloc_size, upd_size]; done) | (simp only [alloc_size, upd_size]; omega) | fail) only [go_sem, reduceIte, Nat.reduceEqDiff]
  refine wp_loop_k (fun e H' => ∃ (i : Nat) (B : Heap), i ≤ cs.length ∧ e 0 = .sl A cs.length c ex k ∧ e 3 = .sl (some (H.size, 0)) cs.length cs.length true 1 ∧ e 12 = .sl (some (H.size + 1, 0)) cs.length cs.length true 1 ∧ e 13 = .int .i64 (cs.length : Int) ∧ e 14 = .int .i64 (i : Int) ∧ Le (H2.kill H.size) B ∧ B.blk H.size = .dead ∧
    PLC H.size B H' (e 4) (trimR cs (need cs) i).2 ∧ newer H.size (e 4) ∧ (base H' (e 4)).rwCells H.size = some ((trimR cs (need cs) i).1.map (AV.int .i64))) (fun e _ => ctr cs.length (e 14)) ?_ ?_
  · refine ⟨0, H2.kill H.size, Nat.zero_le _, by simp (maxSteps := 2000000) (disch := first | omega | assumption | exact idP rfl | exact idP (bL rfl) | (simp only [alloc_size, upd_size]; done) | (simp only [alloc_size, upd_size]; omega) | fail) only [go_sem, reduceIte, Nat.reduceEqDiff], by simp (maxSteps := 2000000) (disch := first | omega | assumption | exact idP rfl | exact idP (bL rfl) | (simp only [alloc_size, upd_size]; done) | (simp only [alloc_size, upd_size]; omega) | fail) only [go_sem, reduceIte, Nat.reduceEqDiff]; rfl, by simp (maxSteps := 2000000) (disch := first | omega | assumption | exact idP rfl | exact idP (bL rfl) | (simp only [alloc_size, upd_size]; done) | (simp only [alloc_size, upd_size]; omega) | fail) only [go_sem, reduceIte, Nat.reduceEqDiff], by simp (maxSteps := 2000000) (disch := first | omega | assumption | exact idP rfl | exact idP (bL rfl) | (simp only [alloc_size, upd_size]; done) | (simp only [alloc_size, upd_size]; omega) | fail) only [go_sem, reduceIte, Nat.reduceEqDiff], by simp (maxSteps := 2000000) (disch := first | omega | assumption | exact idP rfl | exact idP (bL rfl) | (simp only [alloc_size, upd_size]; done) | (simp only [alloc_size, upd_size]; omega) | fail) only [go_sem, reduceIte, Nat.reduceEqDiff]; rfl, Le.refl _, kill_dead _ _, by simp (maxSteps := 2000000) (disch := first | omega | assumption | exact idP rfl | exact idP (bL rfl) | (simp only [alloc_size, upd_size]; done) | (simp only [alloc_size, upd_size]; omega) | fail) only [go_sem, reduceIte, Nat.reduceEqDiff]; exact ⟨Le.kill _ _, by show H.size ≤ H2.size; omega, [], rfl, Own.nil, fun i h => by simp [trimR] at h, fun i j u v h1 h2 => by simp at h2⟩, by simp (maxSteps := 2000000) (disch := first | omega | assumption | exact idP rfl | exact idP (bL rfl) | (simp only [alloc_size, upd_size]; done) | (simp only [alloc_size, upd_size]; omega) | fail) only [go_sem, reduceIte, Nat.reduceEqDiff]; trivial, by simp (maxSteps := 2000000) (disch := first | omega | assumption | exact idP rfl | exact idP (bL rfl) | (simp only [alloc_size, upd_size]; done) | (simp only [alloc_size, upd_size]; omega) | fail) only [go_sem, reduceIte, Nat.reduceEqDiff]; exact hz0⟩
  rintro e H3 ⟨i, B, hi, e0, e3, e12, e13, e14, hLB, hdB, hpl, hnwr, hnw⟩ K hK
  simp (maxSteps := 2000000) (disch := first | omega | assumption | exact idP rfl | exact idP (bL rfl) | (simp only [alloc_size, upd_size]; done) | (simp only [alloc_size, upd_size]; omega) | fail) only [go_sem, reduceIte, Nat.reduceEqDiff, e12, e13, e14]
  refine condV_dec (fun h => ?_) (fun h => ?_)
  · have hi' : i < cs.length := by omega
    have e14' := e14
    have hsB : H.size < B.size := Nat.lt_of_lt_of_le (show H.size < H2.size by omega) hLB.1
    have hBH : Le B H3 := hpl.1.trans (base_le _ _)
    have hL3 := hLH.trans (hLB.trans hBH)
    obtain ⟨u, g, hu⟩ := hr i hi'
    have g := g.le hL3
    have hu3 := hu.le hL3
    have gn := (hLB.trans hBH).get (gnd i hi')
    have hgd : (need cs).getD i false = (need cs)[i]'(by rw [need_len]; omega) := getD_at (by rw [need_len]; omega)
    have hcd : cs.getD i ch0 = cs[i] := getD_at hi'
    have hsi := hok.all i hi'
    have h7 := step_short hok hi'
    have htl := trimR_len (cs := cs) (nd := need cs) (k := i)
    have htr : trimR cs (need cs) (i + 1) = if (need cs).getD i false = true then ((trimR cs (need cs) i).1.set i (trimR cs (need cs) i).2.length, (trimR cs (need cs) i).2 ++ [renum (trimR cs (need cs) i).1 (cs.getD i ch0)]) else trimR cs (need cs) i := rfl
    rw [hgd, hcd] at htr
    generalize hT : trimR cs (need cs) i = T at *
    obtain ⟨nw, out⟩ := T
    simp only at hpl hnw htl htr
    generalize hy : cs[i] = y at *
    simp (maxSteps := 2000000) (disch := first | omega | assumption | exact idP rfl | exact idP (bL rfl) | (simp only [alloc_size, upd_size]; done) | (simp only [alloc_size, upd_size]; omega) | fail) only [go_sem, reduceIte, Nat.reduceEqDiff, e0, e12, e14, gn]
    cases hbn : (need cs)[i]'(by rw [need_len]; omega) with
    | false =>
      rw [hbn, if_neg (by simp)] at htr
      simp (maxSteps := 2000000) (disch := first | omega | assumption | exact idP rfl | exact idP (bL rfl) | (simp only [alloc_size, upd_size]; done) | (simp only [alloc_size, upd_size]; omega) | fail) only [go_sem, reduceIte, Nat.reduceEqDiff, e14]
      exact hK _ _ ⟨i + 1, B, by omega, by simp (maxSteps := 2000000) (disch := first | omega | assumption | exact idP rfl | exact idP (bL rfl) | (simp only [alloc_size, upd_size]; done) | (simp only [alloc_size, upd_size]; omega) | fail) only [go_sem, reduceIte, Nat.reduceEqDiff, e0], by simp (maxSteps := 2000000) (disch := first | omega | assumption | exact idP rfl | exact idP (bL rfl) | (simp only [alloc_size, upd_size]; done) | (simp only [alloc_size, upd_size]; omega) | fail) only [go_sem, reduceIte, Nat.reduceEqDiff, e3], by simp (maxSteps := 2000000) (disch := first | omega | assumption | exact idP rfl | exact idP (bL rfl) | (simp only [alloc_size, upd_size]; done) | (simp only [alloc_size, upd_size]; omega) | fail) only [go_sem, reduceIte, Nat.reduceEqDiff, e12], by simp (maxSteps := 2000000) (disch := first | omega | assumption | exact idP rfl | exact idP (bL rfl) | (simp only [alloc_size, upd_size]; done) | (simp only [alloc_size, upd_size]; omega) | fail) only [go_sem, reduceIte, Nat.reduceEqDiff, e13], by simp (maxSteps := 2000000) (disch := first | omega | assumption | exact idP rfl | exact idP (bL rfl) | (simp only [alloc_size, upd_size]; done) | (simp only [alloc_size, upd_size]; omega) | fail) only [go_sem, reduceIte, Nat.reduceEqDiff]; rfl, hLB, hdB, by simp (maxSteps := 2000000) (disch := first | omega | assumption | exact idP rfl | exact idP (bL rfl) | (simp only [alloc_size, upd_size]; done) | (simp only [alloc_size, upd_size]; omega) | fail) only [go_sem, reduceIte, Nat.reduceEqDiff]; rw [htr]; exact hpl, by simp (maxSteps := 2000000) (disch := first | omega | assumption | exact idP rfl | exact idP (bL rfl) | (simp only [alloc_size, upd_size]; done) | (simp only [alloc_size, upd_size]; omega) | fail) only [go_sem, reduceIte, Nat.reduceEqDiff]; exact hnwr, by simp (maxSteps := 2000000) (disch := first | omega | assumption | exact idP rfl | exact idP (bL rfl) | (simp only [alloc_size, upd_size]; done) | (simp only [alloc_size, upd_size]; omega) | fail) only [go_sem, reduceIte, Nat.reduceEqDiff]; rw [htr]; exact hnw⟩ (by simp (maxSteps := 2000000) (disch := first | omega | assumption | exact idP rfl | exact idP (bL rfl) | (simp only [alloc_size, upd_size]; done) | (simp only [alloc_size, upd_size]; omega) | fail) only [go_sem, reduceIte, Nat.reduceEqDiff, ctr_int, e14']; omega)
    | true =>
      rw [hbn, if_pos rfl] at htr
      have ap6 := apart_of hnw
      obtain ⟨lcells, hownl⟩ := hpl.own
      obtain ⟨A7, ex7, k7, e7⟩ := hpl.len
      have q2 : H3.get A.b (A.o + i * 5 + 1 + 1) = some (.int .i64 y.c) := g.g2
      have q3 : H3.get A.b (A.o + i * 5 + 1 + 1 + 1) = some (.int .i64 y.p) := g.g3
      have q4 : H3.get A.b (A.o + i * 5 + 1 + 1 + 1 + 1) = some u := g.g4
      have hu1 := (oneA_isS hu).1
      obtain ⟨Au, cu, exu, ku, rfl, _⟩ := hu3.parts
      simp (maxSteps := 2000000) (disch := first | omega | assumption | exact idP rfl | exact idP (bL rfl) | (simp only [alloc_size, upd_size]; done) | (simp only [alloc_size, upd_size]; omega) | fail) only [go_sem, reduceIte, Nat.reduceEqDiff, e0, e14, g.g0, g.g1, q2, q3, q4]
      have hLa : Le H3 ((H3.alloc [.int .i64 0, .int .i64 0, .int .i64 0, .int .i64 0, .sl none 0 0 true 0]).upd H3.size (.cells [.int .i64 y.a, .int .i64 y.b, .int .i64 y.c, .int .i64 y.p, .sl Au y.cl.length cu exu ku] true)) := ((Le.refl _).allocs).updFresh (Nat.le_refl _)
      refine (s_implClone (hu3.le hLa) (by omega)).mono ?_
      rintro u2 H4 ⟨ho2, hle4, hn2⟩
      have hLa4 := hle4.trans (base_le _ _)
      have w4 : H4.rwCells H3.size = some [.int .i64 y.a, .int .i64 y.b, .int .i64 y.c, .int .i64 y.p, .sl Au y.cl.length cu exu ku] := hLa4.rwCells (by simp (maxSteps := 2000000) (disch := first | omega | assumption | exact idP rfl | exact idP (bL rfl) | (simp only [alloc_size, upd_size]; done) | (simp only [alloc_size, upd_size]; omega) | fail) only [go_sem, reduceIte, Nat.reduceEqDiff])
      simp only [upd_size, alloc_size] at hn2
      have hL34 := hLa.trans hLa4
      have hs34 : H3.size + 1 ≤ H4.size := hLa4.1
      have hs23 : H.size < H3.size := Nat.lt_of_lt_of_le hsB hBH.1
      have hne : H.size ≠ H3.size := by omega
      have hne' : H3.size ≠ H.size := by omega
      have ho21 := (oneA_isS ho2.isI).1
      have nw4 : H4.rwCells H.size = some (nw.map (AV.int .i64)) := hL34.rwCells ((base_le _ _).rwCells hnw)
      have gw : ∀ j (hj : j < nw.length) (X : Blk), (H4.upd H3.size X).get H.size j = some (.int .i64 nw[j]) := fun j hj X => by
        rw [get_upd_ne hne]
        obtain ⟨z1, z2⟩ := Heap.rwCells_blk nw4
        have := Rd.blk z1 z2 j (.int .i64 nw[j]) (by simp [hj])
        simpa using this
      -- what the end of a round needs
      have fin : ∀ (y2 : Ch) (p' : AV) (H' : Heap) (e2 : Env), renum nw y = y2 → PLC H.size ((B.pad (H3.size + 1)).over H4) H' p' (out ++ [y2]) → Le (base ((H4.upd H3.size (.cells [.int .i64 y2.a, .int .i64 y2.b, .int .i64 y2.c, .int .i64 y2.p, u2] true)).upd H.size (.cells ((nw.map (AV.int .i64)).set i (.int .i64 (out.length : Int))) true)) (e 4)) (base H' p') →
          newer H.size p' → e2 0 = .sl A cs.length c ex k → e2 3 = .sl (some (H.size, 0)) cs.length cs.length true 1 → e2 12 = .sl (some (H.size + 1, 0)) cs.length cs.length true 1 → e2 13 = .int .i64 (cs.length : Int) → e2 4 = p' → e2 14 = .int .i64 ((i : Int) + 1) → K e2 H' := fun y2 p' H' e2 z0 z1 z2 zn z3 z4 z5 z5b z6 z7 => by
        have ndd : Nd B ((B.pad (H3.size + 1)).over H4) := (pad_nd (by have := hBH.1; omega)).trans (over_nd (by rw [pad_size]; exact hs34))
        refine hK _ _ ⟨i + 1, _, by omega, z3, z4, z5, z5b, by rw [z7]; rfl, hLB.trans ndd.1, ndd.2 _ hsB hdB, by rw [z6, htr, z0]; exact z1, by rw [z6]; exact zn, ?_⟩ (by rw [z7, e14']; simp only [ctr_int]; omega)
        rw [z6, htr]
        refine z2.rwCells (base_rw ap6 ?_)
        rw [rw_upd_same (by simp only [upd_size]; omega), List.map_set]
      have appd : ∀ (y2 : Ch) (K2 : AV → Heap → Prop), y2.cl = y.cl → (∀ p' H', PLC H.size ((B.pad (H3.size + 1)).over H4) H' p' (out ++ [y2]) → Le (base ((H4.upd H3.size (.cells [.int .i64 y2.a, .int .i64 y2.b, .int .i64 y2.c, .int .i64 y2.p, u2] true)).upd H.size (.cells ((nw.map (AV.int .i64)).set i (.int .i64 (out.length : Int))) true)) (e 4)) (base H' p') → newer H.size p' → K2 p' H') →
          appP 5 56 (e 4) (.sl (some (H4.size, 0)) 1 1 true 5) (((H4.upd H3.size (.cells [.int .i64 y2.a, .int .i64 y2.b, .int .i64 y2.c, .int .i64 y2.p, u2] true)).upd H.size (.cells ((nw.map (AV.int .i64)).set i (.int .i64 (out.length : Int))) true)).alloc [.int .i64 y2.a, .int .i64 y2.b, .int .i64 y2.c, .int .i64 y2.p, u2]) K2 := fun y2 K2 z0 hk2 => by
        have hpF : PLC H.size B ((H4.upd H3.size (.cells [.int .i64 y2.a, .int .i64 y2.b, .int .i64 y2.c, .int .i64 y2.p, u2] true)).upd H.size (.cells ((nw.map (AV.int .i64)).set i (.int .i64 (out.length : Int))) true)) (e 4) out :=
          ((hpl.le hL34).upd (apart_fresh hownl (Nat.le_refl _)) (.inl hBH.1)).upd ap6 (.inr hdB)
        have hB1 : Le ((B.pad (H3.size + 1)).over H4) (base ((H4.upd H3.size (.cells [.int .i64 y2.a, .int .i64 y2.b, .int .i64 y2.c, .int .i64 y2.p, u2] true)).upd H.size (.cells ((nw.map (AV.int .i64)).set i (.int .i64 (out.length : Int))) true)) (e 4)) :=
          over_le (pad_le hpF.1 (by rw [base_size]; simp only [upd_size]; exact hs34)) (by rw [base_size]; rfl) fun b hb' => by
            rw [pad_size] at hb'
            rw [base_blk (apart_fresh hownl (by omega)), upd_blk_ne (by omega), upd_blk_ne (by omega)]
        have huF : Own 1 ((B.pad (H3.size + 1)).over H4) u2 (y2.cl.map (AV.int .i64)) := by
          rw [z0]
          exact (ho2.later (n := H3.size + 1) hn2).le (by have := later_over (B.pad (H3.size + 1)) H4; rwa [pad_size] at this)
        exact plc_app (c := y2) hpF ((pad_nd (by have := hBH.1; omega)).1.trans (over_nd (by rw [pad_size]; exact hs34)).1) hB1 huF (hn2.mono (by have := hBH.1; omega)) (by rw [z0]; exact h7) (by omega) (by omega) fun p' H' z1 z2 zn => hk2 p' H' z1 z2 (zn H.size (by simp only [upd_size]; omega) hnwr)
      have lenE : lenF (e 4) = some (.int .i64 (out.length : Int)) := by rw [e7]; rfl
      simp (maxSteps := 2000000) (disch := first | omega | assumption | exact idP rfl | exact idP (bL rfl) | (simp only [alloc_size, upd_size]; done) | (simp only [alloc_size, upd_size]; omega) | fail) only [go_sem, reduceIte, Nat.reduceEqDiff, w4, (oneA_isS ho2.isI).2]
      by_cases ha : y.a = -1
      · obtain ⟨b0, b1, c0, c1, _⟩ := (stepB ha).1 hsi
        have hB : y.b.toNat < nw.length := by omega
        have hC : y.c.toNat < nw.length := by omega
        simp (maxSteps := 2000000) (disch := first | omega | assumption | exact idP rfl | exact idP (bL rfl) | (simp only [alloc_size, upd_size]; done) | (simp only [alloc_size, upd_size]; omega) | fail) only [go_sem, reduceIte, Nat.reduceEqDiff, e3, e14, ha, decide_true, gw _ hB, gw _ hC, Heap.upd_upd, nw4, lenE]
        rw [stoK_1 rfl (by simp; omega)]
        simp (maxSteps := 2000000) (disch := first | omega | assumption | exact idP rfl | exact idP (bL rfl) | (simp only [alloc_size, upd_size]; done) | (simp only [alloc_size, upd_size]; omega) | fail) only [go_sem, reduceIte, Nat.reduceEqDiff, e0, e3, e12, e13, e14]
        refine appd ⟨-1, nw[y.b.toNat], nw[y.c.toNat], y.p, y.cl⟩ _ rfl ?_
        intro p' H' z1 z2 zn
        simp (maxSteps := 2000000) (disch := first | omega | assumption | exact idP rfl | exact idP (bL rfl) | (simp only [alloc_size, upd_size]; done) | (simp only [alloc_size, upd_size]; omega) | fail) only [go_sem, reduceIte, Nat.reduceEqDiff, e14]
        exact fin ⟨-1, nw[y.b.toNat], nw[y.c.toNat], y.p, y.cl⟩ p' H' _ (by unfold renum; rw [if_pos ha, getD_at hB, getD_at hC, ha]) z1 z2 zn (by simp (maxSteps := 2000000) (disch := first | omega | assumption | exact idP rfl | exact idP (bL rfl) | (simp only [alloc_size, upd_size]; done) | (simp only [alloc_size, upd_size]; omega) | fail) only [go_sem, reduceIte, Nat.reduceEqDiff, e0]) (by simp (maxSteps := 2000000) (disch := first | omega | assumption | exact idP rfl | exact idP (bL rfl) | (simp only [alloc_size, upd_size]; done) | (simp only [alloc_size, upd_size]; omega) | fail) only [go_sem, reduceIte, Nat.reduceEqDiff, e3]) (by simp (maxSteps := 2000000) (disch := first | omega | assumption | exact idP rfl | exact idP (bL rfl) | (simp only [alloc_size, upd_size]; done) | (simp only [alloc_size, upd_size]; omega) | fail) only [go_sem, reduceIte, Nat.reduceEqDiff, e12]) (by simp (maxSteps := 2000000) (disch := first | omega | assumption | exact idP rfl | exact idP (bL rfl) | (simp only [alloc_size, upd_size]; done) | (simp only [alloc_size, upd_size]; omega) | fail) only [go_sem, reduceIte, Nat.reduceEqDiff, e13]) (by simp (maxSteps := 2000000) (disch := first | omega | assumption | exact idP rfl | exact idP (bL rfl) | (simp only [alloc_size, upd_size]; done) | (simp only [alloc_size, upd_size]; omega) | fail) only [go_sem, reduceIte, Nat.reduceEqDiff]) (by simp (maxSteps := 2000000) (disch := first | omega | assumption | exact idP rfl | exact idP (bL rfl) | (simp only [alloc_size, upd_size]; done) | (simp only [alloc_size, upd_size]; omega) | fail) only [go_sem, reduceIte, Nat.reduceEqDiff])
      · simp (maxSteps := 2000000) (disch := first | omega | assumption | exact idP rfl | exact idP (bL rfl) | (simp only [alloc_size, upd_size]; done) | (simp only [alloc_size, upd_size]; omega) | fail) only [go_sem, reduceIte, Nat.reduceEqDiff, e3, e14, ha, decide_false, nw4, lenE]
        rw [stoK_1 rfl (by simp; omega)]
        simp (maxSteps := 2000000) (disch := first | omega | assumption | exact idP rfl | exact idP (bL rfl) | (simp only [alloc_size, upd_size]; done) | (simp only [alloc_size, upd_size]; omega) | fail) only [go_sem, reduceIte, Nat.reduceEqDiff, e0, e3, e12, e13, e14]
        refine appd y _ rfl ?_
        intro p' H' z1 z2 zn
        simp (maxSteps := 2000000) (disch := first | omega | assumption | exact idP rfl | exact idP (bL rfl) | (simp only [alloc_size, upd_size]; done) | (simp only [alloc_size, upd_size]; omega) | fail) only [go_sem, reduceIte, Nat.reduceEqDiff, e14]
        exact fin y p' H' _ (by unfold renum; rw [if_neg ha]) z1 z2 zn (by simp (maxSteps := 2000000) (disch := first | omega | assumption | exact idP rfl | exact idP (bL rfl) | (simp only [alloc_size, upd_size]; done) | (simp only [alloc_size, upd_size]; omega) | fail) only [go_sem, reduceIte, Nat.reduceEqDiff, e0]) (by simp (maxSteps := 2000000) (disch := first | omega | assumption | exact idP rfl | exact idP (bL rfl) | (simp only [alloc_size, upd_size]; done) | (simp only [alloc_size, upd_size]; omega) | fail) only [go_sem, reduceIte, Nat.reduceEqDiff, e3]) (by simp (maxSteps := 2000000) (disch := first | omega | assumption | exact idP rfl | exact idP (bL rfl) | (simp only [alloc_size, upd_size]; done) | (simp only [alloc_size, upd_size]; omega) | fail) only [go_sem, reduceIte, Nat.reduceEqDiff, e12]) (by simp (maxSteps := 2000000) (disch := first | omega | assumption | exact idP rfl | exact idP (bL rfl) | (simp only [alloc_size, upd_size]; done) | (simp only [alloc_size, upd_size]; omega) | fail) only [go_sem, reduceIte, Nat.reduceEqDiff, e13]) (by simp (maxSteps := 2000000) (disch := first | omega | assumption | exact idP rfl | exact idP (bL rfl) | (simp only [alloc_size, upd_size]; done) | (simp only [alloc_size, upd_size]; omega) | fail) only [go_sem, reduceIte, Nat.reduceEqDiff]) (by simp (maxSteps := 2000000) (disch := first | omega | assumption | exact idP rfl | exact idP (bL rfl) | (simp only [alloc_size, upd_size]; done) | (simp only [alloc_size, upd_size]; omega) | fail) only [go_sem, reduceIte, Nat.reduceEqDiff])
  · obtain rfl : i = cs.length := by omega
    have htl := trimR_len (cs := cs) (nd := need cs) (k := cs.length)
    obtain ⟨p0, ps, us, hul, po, pe, pd⟩ := hpl
    have hL3 := hLH.trans (hLB.trans (p0.trans (base_le _ _)))
    simp (maxSteps := 2000000) (disch := first | omega | assumption | exact idP rfl | exact idP (bL rfl) | (simp only [alloc_size, upd_size]; done) | (simp only [alloc_size, upd_size]; omega) | fail) only [go_sem, reduceIte, Nat.reduceEqDiff]
    refine (s_implCloneC po (cellsC_one hul fun u hu => ?_) (by rw [cellsC_len hul]; omega)).mono ?_
    · obtain ⟨j, hj, rfl⟩ := List.getElem_of_mem hu
      obtain ⟨u', r1, r2, _⟩ := pe j (by omega)
      rw [List.getElem?_eq_getElem hj] at r1
      cases r1
      obtain ⟨_, _, _, _, e, _⟩ := r2
      rw [e]; rfl
    rintro u H5 ⟨ho, hle5, hn5⟩
    simp (maxSteps := 2000000) (disch := first | omega | assumption | exact idP rfl | exact idP (bL rfl) | (simp only [alloc_size, upd_size]; done) | (simp only [alloc_size, upd_size]; omega) | fail) only [go_sem, reduceIte, Nat.reduceEqDiff]
    exact hR _ _ ⟨hL3.trans (hle5.trans (base_le _ _)), hn5.mono hL3.1, B, (p0.trans (base_le _ _)).trans hle5, ps, us, hul, ho, pe, pd⟩
theorem plc_nil {lo : Nat} (h : lo ≤ H.size) : PLC lo H H (.sl none 0 0 true 0) [] := ⟨Le.refl _, h, [], rfl, Own.nil, fun i h => by simp at h, fun i j u v h1 h2 => by simp at h2⟩
theorem s_implTrimChains {x w : AV} {n : Int} {xss : List (List Int)} {cs : List Ch} (hx : IsCl H x n xss) (hl : xss.length ≤ 1048576) (hxl : ∀ xs ∈ xss, xs.length ≤ 1048576) (hw : IsChs H w cs) (hc : cs.length ≤ 1048576) (hcl : ∀ x ∈ cs, x.cl.length ≤ 1048576) :
    ACall Try.prog n_impl_TrimChains [x, w] H (fun r H' => Le H H' ∧ newer H.size r ∧ ∃ out B, PLC H.size B H' r out ∧ TrimRes n xss cs out) := by
  refine ACall.of fun R hR => a_impl_TrimChains rfl ?_
  obtain ⟨fl, rfl, hv⟩ := hx
  simp (maxSteps := 2000000) (disch := first | omega | assumption | exact idP rfl | exact idP (bL rfl) | (simp only [alloc_size, upd_size]; done) | (simp only [alloc_size, upd_size]; omega) | fail) only [go_sem, reduceIte, Nat.reduceEqDiff]
  have hcl1 : IsCl (H.alloc [.int .i64 n, fl]) (.agg [.int .i64 n, fl]) n xss := ⟨fl, rfl, hv.le (Le.alloc _ _)⟩
  refine (s_implCheckChains hcl1 hl hxl (hw.le (Le.alloc _ _)) hc hcl).mono ?_
  rintro r H1 ⟨hle1, b, rfl, hb⟩
  have hH1 := (Le.alloc H [.int .i64 n, fl]).trans hle1
  cases b with
  | false =>
    simp (maxSteps := 2000000) (disch := first | omega | assumption | exact idP rfl | exact idP (bL rfl) | (simp only [alloc_size, upd_size]; done) | (simp only [alloc_size, upd_size]; omega) | fail) only [go_sem, reduceIte, Nat.reduceEqDiff]
    exact hR _ _ ⟨hH1, trivial, [], _, plc_nil hH1.1, .inl ⟨fun h => (by have := hb.2 h; cases this), rfl⟩⟩
  | true =>
    have hok := hb.1 rfl
    simp (maxSteps := 2000000) (disch := first | omega | assumption | exact idP rfl | exact idP (bL rfl) | (simp only [alloc_size, upd_size]; done) | (simp only [alloc_size, upd_size]; omega) | fail) only [go_sem, reduceIte, Nat.reduceEqDiff]
    refine (s_trimChains (hw.le hH1) hok).mono ?_
    rintro r H2 ⟨hle2, hn2, B, hpl⟩
    simp (maxSteps := 2000000) (disch := first | omega | assumption | exact idP rfl | exact idP (bL rfl) | (simp only [alloc_size, upd_size]; done) | (simp only [alloc_size, upd_size]; omega) | fail) only [go_sem, reduceIte, Nat.reduceEqDiff]
    exact hR _ _ ⟨hH1.trans hle2, hn2.mono hH1.1, _, B, hpl.lower hH1.1, .inr ⟨hok, rfl⟩⟩
end Go.M2

namespace Go.M2
open Go.Proofs
variable {H : Heap}
def totC : List Ch → Nat
  | [] => 0
  | c :: t => 4 + c.cl.length + totC t
theorem totC_take : ∀ {P : List Ch} {i : Nat} (h : i < P.length), totC (P.take (i + 1)) = totC (P.take i) + (4 + P[i].cl.length)
  | [], i, h => by simp at h
  | c :: t, 0, h => by simp [totC]
  | c :: t, i + 1, h => by
    have := totC_take (P := t) (i := i) (by simpa using h)
    simp only [List.take_succ_cons, totC, List.getElem_cons_succ] at this ⊢
    omega
theorem totC_le {P : List Ch} (h : ∀ x ∈ P, x.cl.length ≤ 700) : ∀ i, i ≤ P.length → totC (P.take i) ≤ i * 704
  | 0, _ => by simp [totC]
  | i + 1, hi => by
    have := totC_le h i (by omega)
    rw [totC_take (by omega)]
    have := h _ (List.getElem_mem (show i < P.length by omega))
    omega
def mkC (k : Int) (n : Nat) : Ch := ⟨k, k + 1, k + 2, k + 3, marks (k + 4) n⟩
def marksC (P : List Ch) : List Ch := (List.range P.length).map fun (i : Nat) => mkC (1 + (totC (P.take i) : Int)) (P.getD i ch0).cl.length
theorem marksC_len {P : List Ch} : (marksC P).length = P.length := by simp [marksC]
theorem marksC_at {P : List Ch} {i : Nat} (h : i < P.length) : (marksC P)[i]'(by rw [marksC_len]; exact h) = mkC (1 + (totC (P.take i) : Int)) P[i].cl.length := by simp [marksC, List.getD, h]
theorem Own.updNe {sz b : Nat} {H : Heap} {u : AV} {l : List AV} {x : Blk} (h : Own sz H u l) (ha : apart b u) : Own sz (H.upd b x) u l := by
  obtain ⟨A, n, ex, k, rfl, q1, q2, q3⟩ := h
  refine ⟨A, n, ex, k, rfl, q1, q2, fun b' o e => ?_⟩
  subst e
  obtain ⟨r1, r2, r3, r4⟩ := q3 b' o rfl
  have hne : b' ≠ b := ha
  exact ⟨r1, r2, r3, by rw [upd_blk_ne hne]; exact r4⟩
set_option maxHeartbeats 8000000 in
theorem s_markForestC {lo : Nat} {B : Heap} {v : AV} {P : List Ch} (h : PLC lo B H v P) (hnv : newer lo v) (hP : P.length ≤ 3000) :
    ACall Try.prog n_laws_markChainS [v, .int .i64 1] H (fun r H' => r = .int .i64 (1 + (totC P : Int)) ∧ IsChs H' v (marksC P) ∧ ∀ A : Heap, Le A H → A.size ≤ lo → Le A H') := by
  refine ACall.of fun R hR => a_laws_markChainS rfl ?_
  have h7 := h.few
  obtain ⟨h0, hs, us, hul, hown, hel, hdis⟩ := h
  have hown' := hown
  obtain ⟨A, n, ex, k, rfl, z1, z2, z3⟩ := hown'
  rw [cellsC_len hul] at z1
  have hn : n = P.length := by omega
  subst hn
  cases A with
  | none =>
    have hP0 : P.length = 0 := (z2 rfl).1
    have hPn : P = [] := List.eq_nil_of_length_eq_zero hP0
    subst hPn
    simp (maxSteps := 2000000) (disch := first | omega | assumption | exact idP rfl | exact idP (bL rfl) | (simp only [alloc_size, upd_size]; done) | (simp only [alloc_size, upd_size]; omega) | fail) only [go_sem, reduceIte, Nat.reduceEqDiff]
    refine wp_loop_k (fun e H' => H' = H ∧ e 0 = .sl none ([] : List Ch).length ([] : List Ch).length ex k ∧ e 1 = .int .i64 1 ∧ e 5 = .int .i64 0) (fun e _ => 0) ?_ ?_
    · exact ⟨rfl, by simp (maxSteps := 2000000) (disch := first | omega | assumption | exact idP rfl | exact idP (bL rfl) | (simp only [alloc_size, upd_size]; done) | (simp only [alloc_size, upd_size]; omega) | fail) only [go_sem, reduceIte, Nat.reduceEqDiff], by simp (maxSteps := 2000000) (disch := first | omega | assumption | exact idP rfl | exact idP (bL rfl) | (simp only [alloc_size, upd_size]; done) | (simp only [alloc_size, upd_size]; omega) | fail) only [go_sem, reduceIte, Nat.reduceEqDiff], by simp (maxSteps := 2000000) (disch := first | omega | assumption | exact idP rfl | exact idP (bL rfl) | (simp only [alloc_size, upd_size]; done) | (simp only [alloc_size, upd_size]; omega) | fail) only [go_sem, reduceIte, Nat.reduceEqDiff]⟩
    · rintro e H1 ⟨rfl, e0, e1, e5⟩ K hK
      simp (maxSteps := 2000000) (disch := first | omega | assumption | exact idP rfl | exact idP (bL rfl) | (simp only [alloc_size, upd_size]; done) | (simp only [alloc_size, upd_size]; omega) | fail) only [go_sem, reduceIte, Nat.reduceEqDiff, e0, e5]
      refine condV_dec (fun h => absurd h (by simp)) (fun h => ?_)
      simp (maxSteps := 2000000) (disch := first | omega | assumption | exact idP rfl | exact idP (bL rfl) | (simp only [alloc_size, upd_size]; done) | (simp only [alloc_size, upd_size]; omega) | fail) only [go_sem, reduceIte, Nat.reduceEqDiff, e1]
      exact hR _ _ ⟨rfl, ⟨none, 0, ex, k, rfl, fun i hi => by simp [marksC] at hi⟩, fun A hA _ => hA⟩
  | some pr =>
    obtain ⟨b, o⟩ := pr
    obtain ⟨rfl, rfl, hb0, hbk0⟩ := z3 b o rfl
    have hlob : lo ≤ b := hnv
    simp (maxSteps := 2000000) (disch := first | omega | assumption | exact idP rfl | exact idP (bL rfl) | (simp only [alloc_size, upd_size]; done) | (simp only [alloc_size, upd_size]; omega) | fail) only [go_sem, reduceIte, Nat.reduceEqDiff]
    refine wp_loop_k (fun e H' => ∃ (i : Nat) (l' : List AV), i ≤ P.length ∧ e 0 = .sl (some (b, 0)) P.length P.length ex 5 ∧ e 1 = .int .i64 (1 + (totC (P.take i) : Int)) ∧ e 5 = .int .i64 (i : Int) ∧ b < H'.size ∧ H'.blk b = .cells l' true ∧ l'.length = P.length * 5 ∧ (∀ A : Heap, Le A H → A.size ≤ lo → Le A H') ∧
      (∀ j, j < i → l'[j * 5]? = some (.int .i64 (1 + (totC (P.take j) : Int))) ∧ l'[j * 5 + 1]? = some (.int .i64 (1 + (totC (P.take j) : Int) + 1)) ∧ l'[j * 5 + 2]? = some (.int .i64 (1 + (totC (P.take j) : Int) + 2)) ∧ l'[j * 5 + 3]? = some (.int .i64 (1 + (totC (P.take j) : Int) + 3))) ∧
      ∀ j (hj : j < P.length), ∃ u, us[j]? = some u ∧ newer lo u ∧ dis (.sl (some (b, 0)) P.length P.length ex 5) u ∧ apart b u ∧ l'[j * 5 + 4]? = some u ∧ ∃ L : List Int, Own 1 H' u (L.map (AV.int .i64)) ∧ L.length = P[j].cl.length ∧ (j < i → L = marks (1 + (totC (P.take j) : Int) + 4) P[j].cl.length)) (fun e _ => ctr P.length (e 5)) ?_ ?_
    · refine ⟨0, cellsC P us, Nat.zero_le _, by simp (maxSteps := 2000000) (disch := first | omega | assumption | exact idP rfl | exact idP (bL rfl) | (simp only [alloc_size, upd_size]; done) | (simp only [alloc_size, upd_size]; omega) | fail) only [go_sem, reduceIte, Nat.reduceEqDiff], by simp (maxSteps := 2000000) (disch := first | omega | assumption | exact idP rfl | exact idP (bL rfl) | (simp only [alloc_size, upd_size]; done) | (simp only [alloc_size, upd_size]; omega) | fail) only [go_sem, reduceIte, Nat.reduceEqDiff]; rfl, by simp (maxSteps := 2000000) (disch := first | omega | assumption | exact idP rfl | exact idP (bL rfl) | (simp only [alloc_size, upd_size]; done) | (simp only [alloc_size, upd_size]; omega) | fail) only [go_sem, reduceIte, Nat.reduceEqDiff]; rfl, hb0, hbk0, cellsC_len hul, fun A hA _ => hA, fun j hj => by omega, fun j hj => ?_⟩
      obtain ⟨u, q1, q2, q3, q4⟩ := hel j hj
      obtain ⟨d1, d2⟩ := dis_base h0 q2
      exact ⟨u, q1, q3, d1, d2, cellsC_at hj q1 4 u rfl, P[j].cl, q2.le (h0.trans (base_le _ _)), rfl, fun h => by omega⟩
    · rintro e H1 ⟨i, l', hi, e0, e1, e5, hb1, hbl, hll, hA1, hdone, hj⟩ K hK
      simp (maxSteps := 2000000) (disch := first | omega | assumption | exact idP rfl | exact idP (bL rfl) | (simp only [alloc_size, upd_size]; done) | (simp only [alloc_size, upd_size]; omega) | fail) only [go_sem, reduceIte, Nat.reduceEqDiff, e0, e5]
      refine condV_dec (fun h => ?_) (fun h => ?_)
      · have e5' := e5
        have hi' : i < P.length := by omega
        obtain ⟨u, r1, r2, r3, r4, r5, Lz, r6, r7, _⟩ := hj i hi'
        have hti := totC_le h7 i (by omega)
        have h7i := h7 _ (List.getElem_mem hi')
        have hrw := rwCells_of hb1 hbl
        have hts := totC_take hi'
        generalize hkk : (1 + (totC (P.take i) : Int)) = kk at *
        generalize hL : ((((l'.set (i * 5) (.int .i64 kk)).set (i * 5 + 1) (.int .i64 (kk + 1))).set (i * 5 + 2) (.int .i64 (kk + 1 + 1))).set (i * 5 + 3) (.int .i64 (kk + 1 + 1 + 1))) = L
        have hLl : L.length = P.length * 5 := by rw [← hL]; simp [hll]
        have hLo : ∀ m, m < i * 5 ∨ i * 5 + 3 < m → L[m]? = l'[m]? := fun m hm => by
          rw [← hL, List.getElem?_set_ne (by omega), List.getElem?_set_ne (by omega), List.getElem?_set_ne (by omega), List.getElem?_set_ne (by omega)]
        have hL0 : L[i * 5]? = some (.int .i64 kk) := by
          rw [← hL, List.getElem?_set_ne (by omega), List.getElem?_set_ne (by omega), List.getElem?_set_ne (by omega), List.getElem?_set_self (by omega)]
        have hL1 : L[i * 5 + 1]? = some (.int .i64 (kk + 1)) := by
          rw [← hL, List.getElem?_set_ne (by omega), List.getElem?_set_ne (by omega), List.getElem?_set_self (by rw [List.length_set]; omega)]
        have hL2 : L[i * 5 + 2]? = some (.int .i64 (kk + 2)) := by
          rw [← hL, List.getElem?_set_ne (by omega), List.getElem?_set_self (by rw [List.length_set, List.length_set]; omega)]
          congr 2; omega
        have hL3 : L[i * 5 + 3]? = some (.int .i64 (kk + 3)) := by
          rw [← hL, List.getElem?_set_self (by rw [List.length_set, List.length_set, List.length_set]; omega)]
          congr 2; omega
        have hu4 : L[i * 5 + 4]? = some u := by rw [hLo _ (by omega)]; exact r5
        simp (maxSteps := 2000000) (disch := first | omega | assumption | exact idP rfl | exact idP (bL rfl) | (simp only [alloc_size, upd_size]; done) | (simp only [alloc_size, upd_size]; omega) | fail) only [go_sem, reduceIte, Nat.reduceEqDiff, e0, e1, e5, hrw, hll, List.length_set, Heap.upd_upd]
        rw [stoK_1 rfl (by rw [List.length_set]; omega)]
        simp (maxSteps := 2000000) (disch := first | omega | assumption | exact idP rfl | exact idP (bL rfl) | (simp only [alloc_size, upd_size]; done) | (simp only [alloc_size, upd_size]; omega) | fail) only [go_sem, reduceIte, Nat.reduceEqDiff, e0, e5, hll, List.length_set, Heap.upd_upd]
        rw [stoK_1 rfl (by rw [List.length_set, List.length_set]; omega)]
        simp (maxSteps := 2000000) (disch := first | omega | assumption | exact idP rfl | exact idP (bL rfl) | (simp only [alloc_size, upd_size]; done) | (simp only [alloc_size, upd_size]; omega) | fail) only [go_sem, reduceIte, Nat.reduceEqDiff, e0, e5, hll, List.length_set, Heap.upd_upd]
        rw [stoK_1 rfl (by rw [List.length_set, List.length_set, List.length_set]; omega)]
        simp (maxSteps := 2000000) (disch := first | omega | assumption | exact idP rfl | exact idP (bL rfl) | (simp only [alloc_size, upd_size]; done) | (simp only [alloc_size, upd_size]; omega) | fail) only [go_sem, reduceIte, Nat.reduceEqDiff, e0, e5, hll, List.length_set, Heap.upd_upd, hL, hu4]
        refine (s_markOwn (r6.updNe r4) (by omega) (by omega)).mono ?_
        rintro r H2 ⟨rfl, hom, hle2⟩
        have hvo : Own 5 (H1.upd b (.cells L true)) (.sl (some (b, 0)) P.length P.length ex 5) L := ⟨some (b, 0), P.length, ex, 5, rfl, hLl, fun h => (nomatch h), fun b' o' e => by cases e; exact ⟨rfl, rfl, hb1, upd_blk_same'⟩⟩
        have hvo2 := ((hvo.base r3).le hle2).le (base_le _ _)
        obtain ⟨hb2, hbl2⟩ : b < H2.size ∧ H2.blk b = .cells L true := by
          obtain ⟨A', n', ex', k', e', y1, y2, y3⟩ := hvo2
          cases e'
          obtain ⟨_, _, y4, y5⟩ := y3 b 0 rfl
          exact ⟨y4, y5⟩
        simp (maxSteps := 2000000) (disch := first | omega | assumption | exact idP rfl | exact idP (bL rfl) | (simp only [alloc_size, upd_size]; done) | (simp only [alloc_size, upd_size]; omega) | fail) only [go_sem, reduceIte, Nat.reduceEqDiff, e5]
        refine hK _ _ ⟨i + 1, L, by omega, by simp (maxSteps := 2000000) (disch := first | omega | assumption | exact idP rfl | exact idP (bL rfl) | (simp only [alloc_size, upd_size]; done) | (simp only [alloc_size, upd_size]; omega) | fail) only [go_sem, reduceIte, Nat.reduceEqDiff, e0], by simp (maxSteps := 2000000) (disch := first | omega | assumption | exact idP rfl | exact idP (bL rfl) | (simp only [alloc_size, upd_size]; done) | (simp only [alloc_size, upd_size]; omega) | fail) only [go_sem, reduceIte, Nat.reduceEqDiff]; rw [hts, r7, ← hkk, show (1 : Int) + (totC (P.take i) : Int) + 1 + 1 + 1 + 1 + (P[i].cl.length : Int) = 1 + ((totC (P.take i) + (4 + P[i].cl.length) : Nat) : Int) by omega], by simp (maxSteps := 2000000) (disch := first | omega | assumption | exact idP rfl | exact idP (bL rfl) | (simp only [alloc_size, upd_size]; done) | (simp only [alloc_size, upd_size]; omega) | fail) only [go_sem, reduceIte, Nat.reduceEqDiff]; rfl, hb2, hbl2, hLl, fun A hA hs' => ?_, fun j hj2 => ?_, fun j hjj => ?_⟩ (by simp (maxSteps := 2000000) (disch := first | omega | assumption | exact idP rfl | exact idP (bL rfl) | (simp only [alloc_size, upd_size]; done) | (simp only [alloc_size, upd_size]; omega) | fail) only [go_sem, reduceIte, Nat.reduceEqDiff, ctr_int, e5']; omega)
        · exact ((((hA1 A hA hs').updFresh (by omega)).newBase (r2.mono hs')).trans hle2).trans (base_le _ _)
        · by_cases hji : j = i
          · subst hji; rw [hkk]; exact ⟨hL0, hL1, hL2, hL3⟩
          · obtain ⟨y0, y1, y2, y3⟩ := hdone j (by omega)
            rw [hLo _ (by omega), hLo _ (by omega), hLo _ (by omega), hLo _ (by omega)]
            exact ⟨y0, y1, y2, y3⟩
        · obtain ⟨w, s1, s2, s3, s4, s5, L', s6, s7, s8⟩ := hj j hjj
          by_cases hji : j = i
          · subst hji
            rw [r1] at s1; cases s1
            refine ⟨u, r1, r2, r3, r4, hu4, _, hom, by rw [marks_len]; exact r7, fun _ => ?_⟩
            rw [r7, hkk, show kk + 1 + 1 + 1 + 1 = kk + 4 by omega]
          · have hd : dis w u := by
              rcases Nat.lt_or_gt_of_ne hji with hlt | hlt
              · exact (hdis j i w u hlt s1 r1).1
              · exact (hdis i j u w hlt r1 s1).2
            exact ⟨w, s1, s2, s3, s4, by rw [hLo _ (by omega)]; exact s5, L', (((s6.updNe s4).base hd).le hle2).le (base_le _ _), s7, fun h => s8 (by omega)⟩
      · obtain rfl : i = P.length := by omega
        rw [List.take_length] at e1
        simp (maxSteps := 2000000) (disch := first | omega | assumption | exact idP rfl | exact idP (bL rfl) | (simp only [alloc_size, upd_size]; done) | (simp only [alloc_size, upd_size]; omega) | fail) only [go_sem, reduceIte, Nat.reduceEqDiff, e1]
        refine hR _ _ ⟨rfl, ?_, hA1⟩
        refine ⟨some (b, 0), P.length, ex, 5, by rw [marksC_len], fun i hi => ?_⟩
        rw [marksC_len] at hi
        obtain ⟨u, q1, _, _, _, q5, L, q6, q7, q8⟩ := hj i hi
        obtain ⟨y0, y1, y2, y3⟩ := hdone i hi
        rw [marksC_at hi]
        refine ⟨[.int .i64 (1 + (totC (P.take i) : Int)), .int .i64 (1 + (totC (P.take i) : Int) + 1), .int .i64 (1 + (totC (P.take i) : Int) + 2), .int .i64 (1 + (totC (P.take i) : Int) + 3), u], rfl, fun j z hjz => ?_, u, rfl, by show IsI H1 u (marks _ _); rw [← q8 hi]; exact q6.isI⟩
        have hrd := Rd.blk (H := H1) hb1 hbl (i * 5 + j) z
        simp only [Nat.zero_add] at hrd
        simp only [AA.b_some, AA.o_some, Nat.zero_add]
        refine hrd ?_
        rcases (show j = 0 ∨ j = 1 ∨ j = 2 ∨ j = 3 ∨ j = 4 ∨ 5 ≤ j by omega) with rfl | rfl | rfl | rfl | rfl | h5
        · simp at hjz; subst hjz; exact y0
        · simp at hjz; subst hjz; exact y1
        · simp at hjz; subst hjz; exact y2
        · simp at hjz; subst hjz; exact y3
        · simp at hjz; subst hjz; exact q5
        · rw [List.getElem?_eq_none (by simpa using h5)] at hjz; cases hjz
set_option maxHeartbeats 4000000 in
theorem s_heldChainS {v : AV} {P : List Ch} (hv : IsChs H v (marksC P)) (hP : P.length ≤ 3000) (h7 : ∀ x ∈ P, x.cl.length ≤ 700) :
    ACall Try.prog n_laws_heldChainS [v, .int .i64 1] H (fun r H' => r = .int .i64 (1 + (totC P : Int)) ∧ H' = H) := by
  refine ACall.of fun R hR => a_laws_heldChainS rfl ?_
  obtain ⟨A, c, ex, k, rfl, hr⟩ := hv.parts
  simp only [marksC_len] at hr ⊢
  simp (maxSteps := 2000000) (disch := first | omega | assumption | exact idP rfl | exact idP (bL rfl) | (simp only [alloc_size, upd_size]; done) | (simp only [alloc_size, upd_size]; omega) | fail) only [go_sem, reduceIte, Nat.reduceEqDiff]
  refine wp_loop_k (fun e H' => H = H' ∧ ∃ i : Nat, i ≤ P.length ∧ e 0 = .sl A P.length c ex k ∧ e 1 = .int .i64 (1 + (totC (P.take i) : Int)) ∧ e 5 = .int .i64 (i : Int)) (fun e _ => ctr P.length (e 5)) ?_ ?_
  · exact ⟨rfl, 0, Nat.zero_le _, by simp (maxSteps := 2000000) (disch := first | omega | assumption | exact idP rfl | exact idP (bL rfl) | (simp only [alloc_size, upd_size]; done) | (simp only [alloc_size, upd_size]; omega) | fail) only [go_sem, reduceIte, Nat.reduceEqDiff], by simp (maxSteps := 2000000) (disch := first | omega | assumption | exact idP rfl | exact idP (bL rfl) | (simp only [alloc_size, upd_size]; done) | (simp only [alloc_size, upd_size]; omega) | fail) only [go_sem, reduceIte, Nat.reduceEqDiff]; rfl, by simp (maxSteps := 2000000) (disch := first | omega | assumption | exact idP rfl | exact idP (bL rfl) | (simp only [alloc_size, upd_size]; done) | (simp only [alloc_size, upd_size]; omega) | fail) only [go_sem, reduceIte, Nat.reduceEqDiff]; rfl⟩
  · rintro e H1 ⟨rfl, i, hi, e0, e1, e5⟩ K hK
    simp (maxSteps := 2000000) (disch := first | omega | assumption | exact idP rfl | exact idP (bL rfl) | (simp only [alloc_size, upd_size]; done) | (simp only [alloc_size, upd_size]; omega) | fail) only [go_sem, reduceIte, Nat.reduceEqDiff, e0, e5]
    refine condV_dec (fun h => ?_) (fun h => ?_)
    · have e5' := e5
      have hi' : i < P.length := by omega
      obtain ⟨u, g, hu⟩ := hr i hi'
      rw [marksC_at hi'] at g hu
      have hti := totC_le h7 i (by omega)
      have h7i := h7 _ (List.getElem_mem hi')
      have hts := totC_take hi'
      generalize hkk : (1 + (totC (P.take i) : Int)) = kk at *
      have t0 : H.get A.b (A.o + i * 5) = some (.int .i64 kk) := g.g0
      have t1 : H.get A.b (A.o + i * 5 + 1) = some (.int .i64 (kk + 1)) := g.g1
      have t2 : H.get A.b (A.o + i * 5 + 2) = some (.int .i64 (kk + 1 + 1)) := by rw [show kk + 1 + 1 = kk + 2 by omega]; exact g.g2
      have t3 : H.get A.b (A.o + i * 5 + 3) = some (.int .i64 (kk + 1 + 1 + 1)) := by rw [show kk + 1 + 1 + 1 = kk + 3 by omega]; exact g.g3
      have hu' : IsI H u (marks (kk + 1 + 1 + 1 + 1) P[i].cl.length) := by rw [show kk + 1 + 1 + 1 + 1 = kk + 4 by omega]; exact hu
      simp (maxSteps := 2000000) (disch := first | omega | assumption | exact idP rfl | exact idP (bL rfl) | (simp only [alloc_size, upd_size]; done) | (simp only [alloc_size, upd_size]; omega) | fail) only [go_sem, reduceIte, Nat.reduceEqDiff, e0, e1, e5, t0]
      simp (maxSteps := 2000000) (disch := first | omega | assumption | exact idP rfl | exact idP (bL rfl) | (simp only [alloc_size, upd_size]; done) | (simp only [alloc_size, upd_size]; omega) | fail) only [go_sem, reduceIte, Nat.reduceEqDiff, e0, e5, t1]
      simp (maxSteps := 2000000) (disch := first | omega | assumption | exact idP rfl | exact idP (bL rfl) | (simp only [alloc_size, upd_size]; done) | (simp only [alloc_size, upd_size]; omega) | fail) only [go_sem, reduceIte, Nat.reduceEqDiff, e0, e5, t2]
      simp (maxSteps := 2000000) (disch := first | omega | assumption | exact idP rfl | exact idP (bL rfl) | (simp only [alloc_size, upd_size]; done) | (simp only [alloc_size, upd_size]; omega) | fail) only [go_sem, reduceIte, Nat.reduceEqDiff, e0, e5, t3]
      simp (maxSteps := 2000000) (disch := first | omega | assumption | exact idP rfl | exact idP (bL rfl) | (simp only [alloc_size, upd_size]; done) | (simp only [alloc_size, upd_size]; omega) | fail) only [go_sem, reduceIte, Nat.reduceEqDiff, g.g4]
      refine (s_heldIntS (n := P[i].cl.length) hu' (by omega) (by omega)).mono ?_
      rintro r H2 ⟨rfl, rfl⟩
      simp (maxSteps := 2000000) (disch := first | omega | assumption | exact idP rfl | exact idP (bL rfl) | (simp only [alloc_size, upd_size]; done) | (simp only [alloc_size, upd_size]; omega) | fail) only [go_sem, reduceIte, Nat.reduceEqDiff]
      refine condV_dec (fun h => absurd h (by omega)) (fun _ => ?_)
      simp (maxSteps := 2000000) (disch := first | omega | assumption | exact idP rfl | exact idP (bL rfl) | (simp only [alloc_size, upd_size]; done) | (simp only [alloc_size, upd_size]; omega) | fail) only [go_sem, reduceIte, Nat.reduceEqDiff, e5]
      exact hK _ _ ⟨rfl, i + 1, by omega, by simp (maxSteps := 2000000) (disch := first | omega | assumption | exact idP rfl | exact idP (bL rfl) | (simp only [alloc_size, upd_size]; done) | (simp only [alloc_size, upd_size]; omega) | fail) only [go_sem, reduceIte, Nat.reduceEqDiff, e0], by simp (maxSteps := 2000000) (disch := first | omega | assumption | exact idP rfl | exact idP (bL rfl) | (simp only [alloc_size, upd_size]; done) | (simp only [alloc_size, upd_size]; omega) | fail) only [go_sem, reduceIte, Nat.reduceEqDiff]; rw [hts, ← hkk, show (1 : Int) + (totC (P.take i) : Int) + 1 + 1 + 1 + 1 + (P[i].cl.length : Int) = 1 + ((totC (P.take i) + (4 + P[i].cl.length) : Nat) : Int) by omega], by simp (maxSteps := 2000000) (disch := first | omega | assumption | exact idP rfl | exact idP (bL rfl) | (simp only [alloc_size, upd_size]; done) | (simp only [alloc_size, upd_size]; omega) | fail) only [go_sem, reduceIte, Nat.reduceEqDiff]; rfl⟩ (by simp (maxSteps := 2000000) (disch := first | omega | assumption | exact idP rfl | exact idP (bL rfl) | (simp only [alloc_size, upd_size]; done) | (simp only [alloc_size, upd_size]; omega) | fail) only [go_sem, reduceIte, Nat.reduceEqDiff, ctr_int, e5']; omega)
    · obtain rfl : i = P.length := by omega
      rw [List.take_length] at e1
      simp (maxSteps := 2000000) (disch := first | omega | assumption | exact idP rfl | exact idP (bL rfl) | (simp only [alloc_size, upd_size]; done) | (simp only [alloc_size, upd_size]; omega) | fail) only [go_sem, reduceIte, Nat.reduceEqDiff, e1]
      exact hR _ _ ⟨rfl, rfl⟩
end Go.M2

namespace Go.M2
open Go.Proofs
variable {H : Heap}
set_option maxHeartbeats 8000000 in
theorem law_TrimChains {v w : AV} {n : Int} {xss : List (List Int)} {cs : List Ch} (hv : InS 1 (EN 1 EI) H v xss) (h0 : xss.length ≤ 9223372036854775807) (hx : ∀ xs ∈ xss, xs.length ≤ 9223372036854775807)
    (hw : InS 5 ENCh H w cs) (hc0 : cs.length ≤ 9223372036854775807) (hcx : ∀ x ∈ cs, x.cl.length ≤ 9223372036854775807) :
    ACall Try.prog n_laws_FnExactTrimChains [.agg [.int .i64 n, v], w] H (fun r _ => r = .bool true) := by
  refine ACall.of fun R hR => a_laws_FnExactTrimChains rfl ?_
  simp (maxSteps := 2000000) (disch := first | omega | assumption | exact idP rfl | exact idP (bL rfl) | (simp only [alloc_size, upd_size]; done) | (simp only [alloc_size, upd_size]; omega) | fail) only [go_sem, reduceIte, Nat.reduceEqDiff]
  have hv1 := hv.le (mono_N mono_I) (Le.alloc H [.int .i64 n, v])
  have hw1 := hw.le mono_NCh (Le.alloc H [.int .i64 n, v])
  refine (s_szClauses hv1 h0 hx (by omega) (by omega)).mono ?_
  rintro r H2 ⟨hle2, k, rfl, hk1, hk2⟩
  simp (maxSteps := 2000000) (disch := first | omega | assumption | exact idP rfl | exact idP (bL rfl) | (simp only [alloc_size, upd_size]; done) | (simp only [alloc_size, upd_size]; omega) | fail) only [go_sem, reduceIte, Nat.reduceEqDiff]
  refine condV_dec (fun h => ?_) (fun h => ?_)
  · simp (maxSteps := 2000000) (disch := first | omega | assumption | exact idP rfl | exact idP (bL rfl) | (simp only [alloc_size, upd_size]; done) | (simp only [alloc_size, upd_size]; omega) | fail) only [go_sem, reduceIte, Nat.reduceEqDiff]
    exact hR _ _ rfl
  obtain ⟨hl, hxl⟩ := hk2 (by omega)
  simp (maxSteps := 2000000) (disch := first | omega | assumption | exact idP rfl | exact idP (bL rfl) | (simp only [alloc_size, upd_size]; done) | (simp only [alloc_size, upd_size]; omega) | fail) only [go_sem, reduceIte, Nat.reduceEqDiff]
  refine (s_szChainS (hw1.le mono_NCh hle2) hc0 hcx (by omega) (by omega)).mono ?_
  rintro r H2b ⟨hle2b, k2, rfl, hk3, hk4⟩
  simp (maxSteps := 2000000) (disch := first | omega | assumption | exact idP rfl | exact idP (bL rfl) | (simp only [alloc_size, upd_size]; done) | (simp only [alloc_size, upd_size]; omega) | fail) only [go_sem, reduceIte, Nat.reduceEqDiff]
  refine condV_dec (fun h => ?_) (fun h => ?_)
  · simp (maxSteps := 2000000) (disch := first | omega | assumption | exact idP rfl | exact idP (bL rfl) | (simp only [alloc_size, upd_size]; done) | (simp only [alloc_size, upd_size]; omega) | fail) only [go_sem, reduceIte, Nat.reduceEqDiff]
    exact hR _ _ rfl
  obtain ⟨hc, hcl⟩ := hk4 (by omega)
  have hL2 := hle2.trans hle2b
  have g0 : H2b.get H.size 0 = some (.int .i64 n) := hL2.get (by simp (maxSteps := 2000000) (disch := first | omega | assumption | exact idP rfl | exact idP (bL rfl) | (simp only [alloc_size, upd_size]; done) | (simp only [alloc_size, upd_size]; omega) | fail) only [go_sem, reduceIte, Nat.reduceEqDiff])
  have g1 : H2b.get H.size 1 = some v := hL2.get (by simp (maxSteps := 2000000) (disch := first | omega | assumption | exact idP rfl | exact idP (bL rfl) | (simp only [alloc_size, upd_size]; done) | (simp only [alloc_size, upd_size]; omega) | fail) only [go_sem, reduceIte, Nat.reduceEqDiff])
  simp (maxSteps := 2000000) (disch := first | omega | assumption | exact idP rfl | exact idP (bL rfl) | (simp only [alloc_size, upd_size]; done) | (simp only [alloc_size, upd_size]; omega) | fail) only [go_sem, reduceIte, Nat.reduceEqDiff, g0, g1]
  refine (s_toClauses (hv1.le (mono_N mono_I) hL2) hl hxl).mono ?_
  rintro x H3 ⟨hx3, hle3, _⟩
  simp (maxSteps := 2000000) (disch := first | omega | assumption | exact idP rfl | exact idP (bL rfl) | (simp only [alloc_size, upd_size]; done) | (simp only [alloc_size, upd_size]; omega) | fail) only [go_sem, reduceIte, Nat.reduceEqDiff]
  refine (s_toChainS (hw1.le mono_NCh (hL2.trans hle3)) hc hcl).mono ?_
  rintro xs H3b ⟨hxs3, hle3b, _⟩
  simp (maxSteps := 2000000) (disch := first | omega | assumption | exact idP rfl | exact idP (bL rfl) | (simp only [alloc_size, upd_size]; done) | (simp only [alloc_size, upd_size]; omega) | fail) only [go_sem, reduceIte, Nat.reduceEqDiff]
  refine (s_specTrimChains ((hx3.le (later_le _ _)).le hle3b) hl hxl (hxs3.le (later_le _ _)) hc hcl).mono ?_
  rintro a0 H4 ⟨hle4, ks, ha0, hres⟩
  have hks := hres.short
  have hH4 := hle3.trans (hle3b.trans hle4)
  have g0' := hH4.get g0
  have g1' := hH4.get g1
  have hv4 := hv1.le (mono_N mono_I) (hL2.trans hH4)
  have hw4 := hw1.le mono_NCh (hL2.trans hH4)
  simp (maxSteps := 2000000) (disch := first | omega | assumption | exact idP rfl | exact idP (bL rfl) | (simp only [alloc_size, upd_size]; done) | (simp only [alloc_size, upd_size]; omega) | fail) only [go_sem, reduceIte, Nat.reduceEqDiff, g0', g1']
  refine (s_toClauses hv4 hl hxl).mono ?_
  rintro y H5 ⟨hy5, hle5, wy, rfl, htr⟩
  obtain ⟨wy2, ew, hwy⟩ := hy5.le (later_le _ _)
  simp only [AV.agg.injEq, List.cons.injEq, and_true, true_and] at ew
  subst ew
  have how := oneA_isS hwy
  have how1 := how.1
  simp (maxSteps := 2000000) (disch := first | omega | assumption | exact idP rfl | exact idP (bL rfl) | (simp only [alloc_size, upd_size]; done) | (simp only [alloc_size, upd_size]; omega) | fail) only [go_sem, reduceIte, Nat.reduceEqDiff, how.2]
  have hL5 : Le H5 ((H5.alloc [.int .i64 0, .sl none 0 0 true 0]).upd H5.size (.cells [.int .i64 n, wy] true)) := ((Le.refl _).allocs).updFresh (Nat.le_refl _)
  have hwA := hwy.le hL5
  have m0a : ((H5.alloc [.int .i64 0, .sl none 0 0 true 0]).upd H5.size (.cells [.int .i64 n, wy] true)).get H5.size 0 = some (.int .i64 n) := by simp (maxSteps := 2000000) (disch := first | omega | assumption | exact idP rfl | exact idP (bL rfl) | (simp only [alloc_size, upd_size]; done) | (simp only [alloc_size, upd_size]; omega) | fail) only [go_sem, reduceIte, Nat.reduceEqDiff]
  have m1a : ((H5.alloc [.int .i64 0, .sl none 0 0 true 0]).upd H5.size (.cells [.int .i64 n, wy] true)).get H5.size 1 = some wy := by simp (maxSteps := 2000000) (disch := first | omega | assumption | exact idP rfl | exact idP (bL rfl) | (simp only [alloc_size, upd_size]; done) | (simp only [alloc_size, upd_size]; omega) | fail) only [go_sem, reduceIte, Nat.reduceEqDiff]
  generalize hG : ((H5.alloc [AV.int .i64 0, .sl none 0 0 true 0]).upd H5.size (.cells [.int .i64 n, wy] true)) = G at *
  have hL45 := hle5.trans hL5
  refine (s_toChainS (hw4.le mono_NCh hL45) hc hcl).mono ?_
  rintro ys H5b ⟨hys5, hle5b, htc⟩
  have hys := hys5.le (later_le _ _)
  have m0 := hle5b.get m0a
  have m1 := hle5b.get m1a
  simp (maxSteps := 2000000) (disch := first | omega | assumption | exact idP rfl | exact idP (bL rfl) | (simp only [alloc_size, upd_size]; done) | (simp only [alloc_size, upd_size]; omega) | fail) only [go_sem, reduceIte, Nat.reduceEqDiff, m0, m1]
  refine (s_implTrimChains ⟨wy, rfl, hwA.le hle5b⟩ hl hxl hys hc hcl).mono ?_
  rintro b0 H6 ⟨hle6, hnew6, ks', B6, hob, hres'⟩
  obtain rfl := hres.det hres'
  have hkl : ∀ x ∈ ks, x.cl.length ≤ 1048576 := fun x hx => by have := hob.few x hx; omega
  have hH56 := hle5b.trans hle6
  have hH6 := hL45.trans hH56
  simp (maxSteps := 2000000) (disch := first | omega | assumption | exact idP rfl | exact idP (bL rfl) | (simp only [alloc_size, upd_size]; done) | (simp only [alloc_size, upd_size]; omega) | fail) only [go_sem, reduceIte, Nat.reduceEqDiff]
  refine (s_eqChainS hob.isChs (ha0.le hH6) (by omega) hkl).mono ?_
  rintro r H6e ⟨rfl, hle6e⟩
  have hle6 := hle6.trans hle6e
  have hH56 := hH56.trans hle6e
  have hH6 := hH6.trans hle6e
  have hob := hob.le hle6e
  have k0 := hH6.get g0'
  have k1 := hH6.get g1'
  have m0' := hle6.get m0
  have m1' := hle6.get m1
  simp (maxSteps := 2000000) (disch := first | omega | assumption | exact idP rfl | exact idP (bL rfl) | (simp only [alloc_size, upd_size]; done) | (simp only [alloc_size, upd_size]; omega) | fail) only [go_sem, reduceIte, Nat.reduceEqDiff, k0, k1, m0', m1']
  refine (s_toClauses (hv4.le (mono_N mono_I) hH6) hl hxl).mono ?_
  rintro z H7 ⟨hz7, hle7, _⟩
  have p0 := hle7.get m0'
  have p1 := hle7.get m1'
  simp (maxSteps := 2000000) (disch := first | omega | assumption | exact idP rfl | exact idP (bL rfl) | (simp only [alloc_size, upd_size]; done) | (simp only [alloc_size, upd_size]; omega) | fail) only [go_sem, reduceIte, Nat.reduceEqDiff, p0, p1]
  refine (s_eqClauses ⟨wy, rfl, (hwA.le hle5b).le (hle6.trans hle7)⟩ (hz7.le (later_le _ _)) hl hxl).mono ?_
  rintro r H7b ⟨rfl, hle7b⟩
  have hH67 := hle7.trans hle7b
  simp (maxSteps := 2000000) (disch := first | omega | assumption | exact idP rfl | exact idP (bL rfl) | (simp only [alloc_size, upd_size]; done) | (simp only [alloc_size, upd_size]; omega) | fail) only [go_sem, reduceIte, Nat.reduceEqDiff]
  refine (s_toChainS (hw4.le mono_NCh (hH6.trans hH67)) hc hcl).mono ?_
  rintro zs H7c ⟨hzs, hle7c, _⟩
  simp (maxSteps := 2000000) (disch := first | omega | assumption | exact idP rfl | exact idP (bL rfl) | (simp only [alloc_size, upd_size]; done) | (simp only [alloc_size, upd_size]; omega) | fail) only [go_sem, reduceIte, Nat.reduceEqDiff]
  refine (s_eqChainS (hys.le (hle6.trans (hH67.trans hle7c))) (hzs.le (later_le _ _)) hc hcl).mono ?_
  rintro r H8 ⟨rfl, hle8⟩
  have hH68 := hH67.trans (hle7c.trans hle8)
  have n0 := hH68.get m0'
  have n1 := hH68.get m1'
  simp (maxSteps := 2000000) (disch := first | omega | assumption | exact idP rfl | exact idP (bL rfl) | (simp only [alloc_size, upd_size]; done) | (simp only [alloc_size, upd_size]; omega) | fail) only [go_sem, reduceIte, Nat.reduceEqDiff, n0, n1]
  have hH58 := hL5.trans (hH56.trans hH68)
  refine (s_markClauses (htr.le hH58 (Nat.le_refl _) (Nat.le_refl _)) hH58.1 hl hxl).mono ?_
  rintro r H9 ⟨k9, rfl, hk9, hk9b, hgap⟩
  have hs5 : H5.size ≤ G.size := hL5.1
  have hL49 : Le H4 H9 := (((hH6.trans hH68).gapLow (Nat.le_refl _)).trans hgap).trans (gap_le _ _ _)
  have htc9 : TreeC H9 G.size H5b.size ys cs := htc.le (((later_mono (hle6.trans hH68) (Nat.le_refl _)).trans (later_gap _ hs5)).trans (hgap.trans (gap_le _ _ _))) (Nat.le_refl _) (Nat.le_refl _)
  have hs5b : H5.size ≤ H5b.size := Nat.le_trans hs5 hle5b.1
  have hob9 := ((hob.le hH68).later hnew6).le ((later_gap _ hs5b).trans (hgap.trans (gap_le _ _ _)))
  simp (maxSteps := 2000000) (disch := first | omega | assumption | exact idP rfl | exact idP (bL rfl) | (simp only [alloc_size, upd_size]; done) | (simp only [alloc_size, upd_size]; omega) | fail) only [go_sem, reduceIte, Nat.reduceEqDiff]
  refine (s_markChainS htc9 hc hcl hk9 (by omega)).mono ?_
  rintro r H10 ⟨k10, rfl, hk10, hsz10, hgap10⟩
  have hgL : Le (H9.gap G.size H5b.size) H10 := by rw [← hgap10]; exact gap_le _ _ _
  have hL410 : Le H4 H10 := (hL49.gapLow (by have := hL45.1; omega)).trans hgL
  have hob10 := (hob9.later hnew6).le ((later_gap _ (Nat.le_refl _)).trans hgL)
  have hk10' : ¬ k10 < 0 := by omega
  simp (maxSteps := 2000000) (disch := first | omega | assumption | exact idP rfl | exact idP (bL rfl) | (simp only [alloc_size, upd_size]; done) | (simp only [alloc_size, upd_size]; omega) | fail) only [go_sem, reduceIte, Nat.reduceEqDiff, hk10', decide_false]
  refine (s_eqChainS hob10.isChs (ha0.le hL410) (by omega) hkl).mono ?_
  rintro r H10e ⟨rfl, hle10e⟩
  have hL410 := hL410.trans hle10e
  have hob10 := hob10.le hle10e
  simp (maxSteps := 2000000) (disch := first | omega | assumption | exact idP rfl | exact idP (bL rfl) | (simp only [alloc_size, upd_size]; done) | (simp only [alloc_size, upd_size]; omega) | fail) only [go_sem, reduceIte, Nat.reduceEqDiff]
  refine (s_markForestC hob10 hnew6 hks).mono ?_
  rintro r H11 ⟨rfl, hom, hle11⟩
  simp (maxSteps := 2000000) (disch := first | omega | assumption | exact idP rfl | exact idP (bL rfl) | (simp only [alloc_size, upd_size]; done) | (simp only [alloc_size, upd_size]; omega) | fail) only [go_sem, reduceIte, Nat.reduceEqDiff]
  refine (s_heldChainS hom hks hob.few).mono ?_
  rintro r H11' ⟨rfl, rfl⟩
  simp (maxSteps := 2000000) (disch := first | omega | assumption | exact idP rfl | exact idP (bL rfl) | (simp only [alloc_size, upd_size]; done) | (simp only [alloc_size, upd_size]; omega) | fail) only [go_sem, reduceIte, Nat.reduceEqDiff]
  refine condV_dec (fun h => absurd h (by omega)) (fun _ => ?_)
  simp (maxSteps := 2000000) (disch := first | omega | assumption | exact idP rfl | exact idP (bL rfl) | (simp only [alloc_size, upd_size]; done) | (simp only [alloc_size, upd_size]; omega) | fail) only [go_sem, reduceIte, Nat.reduceEqDiff]
  have hL411 : Le H4 H11' := hle11 H4 hL410 (Nat.le_trans hL45.1 hle5b.1)
  have j0 := hL411.get g0'
  have j1 := hL411.get g1'
  simp (maxSteps := 2000000) (disch := first | omega | assumption | exact idP rfl | exact idP (bL rfl) | (simp only [alloc_size, upd_size]; done) | (simp only [alloc_size, upd_size]; omega) | fail) only [go_sem, reduceIte, Nat.reduceEqDiff, j0, j1]
  refine (s_toClauses (hv4.le (mono_N mono_I) hL411) hl hxl).mono ?_
  rintro z2 H12 ⟨hz12, hle12, _⟩
  simp (maxSteps := 2000000) (disch := first | omega | assumption | exact idP rfl | exact idP (bL rfl) | (simp only [alloc_size, upd_size]; done) | (simp only [alloc_size, upd_size]; omega) | fail) only [go_sem, reduceIte, Nat.reduceEqDiff]
  refine (s_toChainS (hw4.le mono_NCh (hL411.trans hle12)) hc hcl).mono ?_
  rintro zc H12b ⟨hzc, hle12b, _⟩
  simp (maxSteps := 2000000) (disch := first | omega | assumption | exact idP rfl | exact idP (bL rfl) | (simp only [alloc_size, upd_size]; done) | (simp only [alloc_size, upd_size]; omega) | fail) only [go_sem, reduceIte, Nat.reduceEqDiff]
  refine (s_implTrimChains ((hz12.le (later_le _ _)).le hle12b) hl hxl (hzc.le (later_le _ _)) hc hcl).mono ?_
  rintro c0 H13 ⟨hle13, _, ks3, B13, hoc, hres3⟩
  obtain rfl := hres.det hres3
  have hL13 := hle12.trans (hle12b.trans hle13)
  simp (maxSteps := 2000000) (disch := first | omega | assumption | exact idP rfl | exact idP (bL rfl) | (simp only [alloc_size, upd_size]; done) | (simp only [alloc_size, upd_size]; omega) | fail) only [go_sem, reduceIte, Nat.reduceEqDiff]
  refine (s_eqChainS hoc.isChs (ha0.le (hL411.trans hL13)) (by omega) hkl).mono ?_
  rintro r H13e ⟨rfl, hle13e⟩
  simp (maxSteps := 2000000) (disch := first | omega | assumption | exact idP rfl | exact idP (bL rfl) | (simp only [alloc_size, upd_size]; done) | (simp only [alloc_size, upd_size]; omega) | fail) only [go_sem, reduceIte, Nat.reduceEqDiff]
  refine (s_heldChainS (hom.le (hL13.trans hle13e)) hks hob.few).mono ?_
  rintro r H14 ⟨rfl, rfl⟩
  simp (maxSteps := 2000000) (disch := first | omega | assumption | exact idP rfl | exact idP (bL rfl) | (simp only [alloc_size, upd_size]; done) | (simp only [alloc_size, upd_size]; omega) | fail) only [go_sem, reduceIte, Nat.reduceEqDiff]
  refine condV_dec (fun h => absurd h (by omega)) (fun _ => ?_)
  simp (maxSteps := 2000000) (disch := first | omega | assumption | exact idP rfl | exact idP (bL rfl) | (simp only [alloc_size, upd_size]; done) | (simp only [alloc_size, upd_size]; omega) | fail) only [go_sem, reduceIte, Nat.reduceEqDiff]
  exact hR _ _ rfl
end Go.M2
