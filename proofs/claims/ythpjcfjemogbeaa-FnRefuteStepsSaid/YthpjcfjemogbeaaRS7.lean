/- The draw of Refute; what holds of each conclusion. -/
import Derived.Test.YthpjcfjemogbeaaRS6
set_option linter.unusedVariables false
set_option linter.unusedSimpArgs false
set_option maxRecDepth 10000
set_option maxHeartbeats 4000000
namespace Go.M2
open Go.Proofs
variable {H : Heap}
theorem s_DrawRefute {v : AV} {xs : List Int} (hv : IsB H v xs) (hc : ∀ A n c ex k, v = .sl A n c ex k → n ≤ c) (hl : xs.length ≤ 1048576) :
    ACall Try.prog n_spec_DrawRefute [v] H (fun r H' => ∃ (n : Int) (v : AV) (P : List (List Int)), r = .agg [.int .i64 n, v] ∧ IsII H' v P ∧ P.length ≤ 701 ∧ ∀ c ∈ P, c.length ≤ 700) := by
  refine ACall.of fun R hR => a_spec_DrawRefute rfl ?_
  simp (maxSteps := 2000000) (disch := first | omega | assumption | exact idP rfl | exact idP (bL rfl) | (simp only [alloc_size, upd_size]; done) | (simp only [alloc_size, upd_size]; omega) | fail) only [go_sem, reduceIte, Nat.reduceEqDiff]
  refine (s_l40Open (hv.le mono_B (Le.alloc _ _)) hc hl).mono ?_
  rintro r H1 ⟨w, code, rfl, hr, hH1⟩
  have x1 : (H1.kill (H.alloc [.int .i64 0, .sl none 0 0 true 0]).size).rwCells H.size = some [.int .i64 0, .sl none 0 0 true 0] := by
    rw [hH1]
    exact rwCells_of (by simp only [kill_size, alloc_size]; omega) (by rw [kill_ne (by simp only [alloc_size]; omega), alloc_old (by simp only [alloc_size]; omega), alloc_new])
  simp (maxSteps := 2000000) (disch := first | omega | assumption | exact idP rfl | exact idP (bL rfl) | (simp only [alloc_size, upd_size]; done) | (simp only [alloc_size, upd_size]; omega) | fail) only [go_sem, reduceIte, Nat.reduceEqDiff]
  refine (s_l12Some hr (by omega) fun h1 h2 => s_l11Some h1 h2).mono ?_
  rintro r H2 ⟨n, v, P, B, rfl, h1, h2, h4⟩
  have x2 := h4.rwCells x1
  have a2 := apart_of x2
  have x2' := (base_le _ _).rwCells x2
  have z2 := (Heap.rwCells_blk x2').1
  have ho1 := h1.one.1
  simp (maxSteps := 2000000) (disch := first | omega | assumption | exact idP rfl | exact idP (bL rfl) | (simp only [alloc_size, upd_size]; done) | (simp only [alloc_size, upd_size]; omega) | fail) only [go_sem, reduceIte, Nat.reduceEqDiff, x2', h1.one.2]
  have hs1 : H.size < H1.size := by rw [hH1]; simp only [alloc_size]; omega
  have hp := h1.old (x := .cells [.int .i64 n, v] true) a2 hs1
  exact hR _ _ ⟨n, v, P, rfl, hp.isII, h2, fun c hc => by
    obtain ⟨i, hi, rfl⟩ := List.getElem_of_mem hc
    exact hp.short i hi⟩
theorem negs_negs {g : List Int} : negs (negs g) = g := by
  unfold negs
  rw [List.map_map]
  conv => rhs; rw [← List.map_id g]
  exact List.map_congr_left fun x _ => by simp
theorem refute_concl {k : Int} {xss Q : List (List Int)} {ok : Bool} (h : RefRes k xss Q ok) {i : Nat} (hi : i < Q.length) : ∃ m : Nat, k = m ∧ ClsOk k xss ∧ Concl xss m (Q.take i) Q[i] := by
  rcases h with ⟨_, rfl, _⟩ | ⟨h1, m, res, P, d, rfl, h2, h3⟩
  · simp at hi
  · rcases h3 with ⟨rfl, rfl, _⟩ | ⟨_, rfl, _⟩
    · have := h2.concl 0 (Low.nil _ _) i (by simp) hi
      refine ⟨m, rfl, h1, ?_⟩
      rwa [show Q.getD i [] = Q[i] by simp [List.getD, hi]] at this
    · simp at hi
theorem own_isII {G : Heap} {s : AV} {us : List AV} {rows : List (List Int)} (ho : Own 1 H s us) (hl : us.length = rows.length) (hG : Le G H) (hr : ∀ i (h : i < rows.length), ∃ u, us[i]? = some u ∧ IsI G u rows[i]) : IsII H s rows := by
  obtain ⟨A, n, ex, k, rfl, h1, h2, h3⟩ := ho
  have hrd := Own.rd (⟨⟨A, n, ex, k, rfl, h1, h2, h3⟩⟩ : Own 1 H (.sl A n n ex k) us)
  have hn : n = rows.length := by omega
  subst hn
  refine ⟨A, _, ex, k, rfl, fun i hi => ?_⟩
  obtain ⟨u, q1, q2⟩ := hr i hi
  refine ⟨[u], rfl, fun j x hj => ?_, u, rfl, q2.le hG⟩
  cases j with
  | zero =>
    simp only [List.getElem?_cons_zero, Option.some.injEq] at hj
    subst hj
    have := hrd i u q1
    simpa using this
  | succ j => simp at hj
theorem isII_cells {v : AV} {rows : List (List Int)} (h : IsII H v rows) : ∃ A c ex k us, v = .sl A rows.length c ex k ∧ us.length = rows.length ∧ Rd H A.b A.o us ∧ us.all oneA = true ∧ ∀ i (h : i < rows.length), ∃ u, us[i]? = some u ∧ IsI H u rows[i] := by
  obtain ⟨A, c, ex, k, rfl, hr⟩ := h.parts
  obtain ⟨us, h1, h2⟩ := list_of rows.length (p := fun i u => ∃ h : i < rows.length, H.get A.b (A.o + i) = some u ∧ IsI H u rows[i]) fun i hi => by
    obtain ⟨u, q1, q2⟩ := hr i hi
    rw [Nat.mul_one] at q1
    exact ⟨u, hi, q1, q2⟩
  refine ⟨A, c, ex, k, us, rfl, h1, fun i x hx => ?_, ?_, fun i hi => ?_⟩
  · obtain ⟨_, q1, _⟩ := h2 i x hx; exact q1
  · rw [List.all_eq_true]
    intro x hx
    obtain ⟨i, hi, rfl⟩ := List.getElem_of_mem hx
    obtain ⟨_, _, q2⟩ := h2 i _ (List.getElem?_eq_getElem hi)
    exact (oneA_isS q2).1
  · have hi' : i < us.length := by omega
    obtain ⟨_, _, q2⟩ := h2 i _ (List.getElem?_eq_getElem hi')
    exact ⟨_, List.getElem?_eq_getElem hi', q2⟩
end Go.M2

namespace Go.M2
open Go.Proofs
variable {H : Heap}
set_option maxHeartbeats 4000000 in
theorem law_RefuteSteps {v : AV} {xs : List Int} (hv : IsB H v xs) (hc : ∀ A n c ex k, v = .sl A n c ex k → n ≤ c) (hlen : xs.length ≤ 9223372036854775807) :
    ACall Try.prog n_laws_FnRefuteSteps [v] H (fun r _ => r = .bool true) := by
  refine ACall.of fun R hR => a_laws_FnRefuteSteps rfl ?_
  have hl := hv.len
  simp (maxSteps := 2000000) (disch := first | omega | assumption | exact idP rfl | exact idP (bL rfl) | (simp only [alloc_size, upd_size]; done) | (simp only [alloc_size, upd_size]; omega) | fail) only [go_sem, reduceIte, Nat.reduceEqDiff, hl]
  refine condV_dec (fun h => ?_) (fun h => ?_)
  · simp (maxSteps := 2000000) (disch := first | omega | assumption | exact idP rfl | exact idP (bL rfl) | (simp only [alloc_size, upd_size]; done) | (simp only [alloc_size, upd_size]; omega) | fail) only [go_sem, reduceIte, Nat.reduceEqDiff]
    exact hR _ _ rfl
  simp (maxSteps := 2000000) (disch := first | omega | assumption | exact idP rfl | exact idP (bL rfl) | (simp only [alloc_size, upd_size]; done) | (simp only [alloc_size, upd_size]; omega) | fail) only [go_sem, reduceIte, Nat.reduceEqDiff]
  refine (s_DrawRefute hv hc (by omega)).mono ?_
  rintro r H1 ⟨n, fl, P, rfl, hP, hPl, hPs⟩
  have hof := oneA_isS hP
  have hof1 := hof.1
  have hPx : ∀ c ∈ P, c.length ≤ 1048576 := fun c hc => by have := hPs c hc; omega
  simp (maxSteps := 2000000) (disch := first | omega | assumption | exact idP rfl | exact idP (bL rfl) | (simp only [alloc_size, upd_size]; done) | (simp only [alloc_size, upd_size]; omega) | fail) only [go_sem, reduceIte, Nat.reduceEqDiff, hof.2]
  have hL12 : Le H1 ((H1.alloc [.int .i64 0, .sl none 0 0 true 0]).upd H1.size (.cells [.int .i64 n, fl] true)) := ((Le.refl _).allocs).updFresh (Nat.le_refl _)
  have g0 : ((H1.alloc [.int .i64 0, .sl none 0 0 true 0]).upd H1.size (.cells [.int .i64 n, fl] true)).get H1.size 0 = some (.int .i64 n) := by simp (maxSteps := 2000000) (disch := first | omega | assumption | exact idP rfl | exact idP (bL rfl) | (simp only [alloc_size, upd_size]; done) | (simp only [alloc_size, upd_size]; omega) | fail) only [go_sem, reduceIte, Nat.reduceEqDiff]
  have g1 : ((H1.alloc [.int .i64 0, .sl none 0 0 true 0]).upd H1.size (.cells [.int .i64 n, fl] true)).get H1.size 1 = some fl := by simp (maxSteps := 2000000) (disch := first | omega | assumption | exact idP rfl | exact idP (bL rfl) | (simp only [alloc_size, upd_size]; done) | (simp only [alloc_size, upd_size]; omega) | fail) only [go_sem, reduceIte, Nat.reduceEqDiff]
  have hs2 : ((H1.alloc [.int .i64 0, .sl none 0 0 true 0]).upd H1.size (.cells [.int .i64 n, fl] true)).size = H1.size + 1 := rfl
  generalize ((H1.alloc [AV.int .i64 0, .sl none 0 0 true 0]).upd H1.size (.cells [.int .i64 n, fl] true)) = H2 at *
  have hcl : IsCl H2 (.agg [.int .i64 n, fl]) n P := ⟨fl, rfl, hP.le hL12⟩
  refine (s_implRefute hcl (by omega) hPx).mono ?_
  rintro r H3 ⟨u, Q, ok, B3, rfl, hpl, hle3, hnew, hfew, hres⟩
  have g0' := hle3.get g0
  have g1' := hle3.get g1
  simp (maxSteps := 2000000) (disch := first | omega | assumption | exact idP rfl | exact idP (bL rfl) | (simp only [alloc_size, upd_size]; done) | (simp only [alloc_size, upd_size]; omega) | fail) only [go_sem, reduceIte, Nat.reduceEqDiff, g0', g1']
  refine (s_specRefute (hcl.le hle3) (by omega) hPx).mono ?_
  rintro r H4 ⟨hle4, a0, Q', ok', rfl, ha0, hres'⟩
  obtain ⟨rfl, rfl⟩ := hres.det hres'
  have k0 := hle4.get g0'
  have k1 := hle4.get g1'
  have hQ4 : IsII H4 u Q := hpl.isII.le hle4
  obtain ⟨A0, c0, ex0, kk0, rfl, hr0⟩ := ha0.parts
  have hlu := hpl.len
  have bb : (ok == ok) = true := by simp
  simp (maxSteps := 2000000) (disch := first | omega | assumption | exact idP rfl | exact idP (bL rfl) | (simp only [alloc_size, upd_size]; done) | (simp only [alloc_size, upd_size]; omega) | fail) only [go_sem, reduceIte, Nat.reduceEqDiff, hlu, k0, k1, bb]
  refine (s_implClausesValid (hcl.le (hle3.trans hle4)) (by omega) hPx).mono ?_
  rintro r H5 ⟨hle5, b1, rfl, hb1⟩
  have l0 := hle5.get k0
  have l1 := hle5.get k1
  simp (maxSteps := 2000000) (disch := first | omega | assumption | exact idP rfl | exact idP (bL rfl) | (simp only [alloc_size, upd_size]; done) | (simp only [alloc_size, upd_size]; omega) | fail) only [go_sem, reduceIte, Nat.reduceEqDiff, l0, l1]
  refine (s_specClausesValid (hcl.le ((hle3.trans hle4).trans hle5)) (by omega) hPx).mono ?_
  rintro r H6 ⟨hle6, b2, rfl, hb2⟩
  obtain rfl : b1 = b2 := Bool.eq_iff_iff.2 (hb1.trans hb2.symm)
  have bb2 : (b1 == b1) = true := by simp
  have m0 := hle6.get l0
  have m1 := hle6.get l1
  have hP6 : IsII H6 fl P := hP.le ((hL12.trans (hle3.trans hle4)).trans (hle5.trans hle6))
  have hQ6 : IsII H6 u Q := hQ4.le (hle5.trans hle6)
  have hQs : ∀ c ∈ Q, c.length ≤ 1048576 := fun c hc => hpl.few c hc
  obtain ⟨A, c, ex, k, us, rfl, hus, hrd, hone, hrow⟩ := isII_cells hP6
  obtain ⟨Aq, cq, exq, kq, rfl, hrq⟩ := hQ6.parts
  simp (maxSteps := 2000000) (disch := first | omega | assumption | exact idP rfl | exact idP (bL rfl) | (simp only [alloc_size, upd_size]; done) | (simp only [alloc_size, upd_size]; omega) | fail) only [go_sem, reduceIte, Nat.reduceEqDiff, bb2, m0, m1]
  refine app_own (sz := 1) (m := P.length) (by omega) (Own.new (l := []) (n := 0) rfl) (hrd.le (Le.alloc _ _)) (by simp [hus]) hone (by simp [mostCells]; omega) (by simp [mostCells]; omega) ?_
  intro s H7 z1 z2 z3
  rw [List.nil_append] at z1
  have hb0 : Le H6 (base H7 s) := Le.trans ((Le.alloc H6 []).killFresh (Nat.le_refl _)) z2
  have hS : IsII H7 s P := own_isII z1 hus (hb0.trans (base_le _ _)) hrow
  have hos := oneA_isS hS
  have hos1 := hos.1
  have hs67 : H6.size ≤ H7.size := (hb0.trans (base_le _ _)).1
  have p0 := (hb0.trans (base_le _ _)).get m0
  simp (maxSteps := 2000000) (disch := first | omega | assumption | exact idP rfl | exact idP (bL rfl) | (simp only [alloc_size, upd_size]; done) | (simp only [alloc_size, upd_size]; omega) | fail) only [go_sem, reduceIte, Nat.reduceEqDiff, hos.2, p0]
  refine wp_loop_k (fun e H' => ∃ (i : Nat) (s : AV) (us : List AV), i ≤ Q.length ∧ e 55 = .sl Aq Q.length cq exq kq ∧ e 56 = .int .i64 (Q.length : Int) ∧ e 57 = .int .i64 (i : Int) ∧ e 8 = .ptr (some (H7.size, 0)) ∧
    Own 1 H' s us ∧ us.length = (P ++ Q.take i).length ∧ (∀ j (h : j < (P ++ Q.take i).length), ∃ w, us[j]? = some w ∧ IsI H6 w (P ++ Q.take i)[j]) ∧ Le H6 (base H' s) ∧ (base H' s).rwCells H7.size = some [.int .i64 n, s]) (fun e _ => ctr Q.length (e 57)) ?_ ?_
  · have e1 : P ++ Q.take 0 = P := by simp
    have a7 : apart H7.size s := apart_fresh z1 (Nat.le_refl _)
    refine ⟨0, s, us, Nat.zero_le _, by simp (maxSteps := 2000000) (disch := first | omega | assumption | exact idP rfl | exact idP (bL rfl) | (simp only [alloc_size, upd_size]; done) | (simp only [alloc_size, upd_size]; omega) | fail) only [go_sem, reduceIte, Nat.reduceEqDiff], by simp (maxSteps := 2000000) (disch := first | omega | assumption | exact idP rfl | exact idP (bL rfl) | (simp only [alloc_size, upd_size]; done) | (simp only [alloc_size, upd_size]; omega) | fail) only [go_sem, reduceIte, Nat.reduceEqDiff], by simp (maxSteps := 2000000) (disch := first | omega | assumption | exact idP rfl | exact idP (bL rfl) | (simp only [alloc_size, upd_size]; done) | (simp only [alloc_size, upd_size]; omega) | fail) only [go_sem, reduceIte, Nat.reduceEqDiff]; rfl, by simp (maxSteps := 2000000) (disch := first | omega | assumption | exact idP rfl | exact idP (bL rfl) | (simp only [alloc_size, upd_size]; done) | (simp only [alloc_size, upd_size]; omega) | fail) only [go_sem, reduceIte, Nat.reduceEqDiff], z1.le (((Le.refl _).allocs).updFresh (Nat.le_refl _)), by rw [e1]; exact hus, fun j h => ?_, ?_, ?_⟩
    · have h' : j < P.length := by rw [e1] at h; exact h
      obtain ⟨w, q1, q2⟩ := hrow j h'
      refine ⟨w, q1, ?_⟩
      have : (P ++ Q.take 0)[j] = P[j] := by simp only [e1]
      rw [this]; exact q2
    · exact hb0.trans (base_mono (((Le.refl _).allocs).updFresh (Nat.le_refl _)) s)
    · refine base_rw a7 ?_
      simp (maxSteps := 2000000) (disch := first | omega | assumption | exact idP rfl | exact idP (bL rfl) | (simp only [alloc_size, upd_size]; done) | (simp only [alloc_size, upd_size]; omega) | fail) only [go_sem, reduceIte, Nat.reduceEqDiff]
  rintro e H8 ⟨i, s, us, hi, e55, e56, e57, e8, ho, hul, hur, hG, hw⟩ K hK
  simp (maxSteps := 2000000) (disch := first | omega | assumption | exact idP rfl | exact idP (bL rfl) | (simp only [alloc_size, upd_size]; done) | (simp only [alloc_size, upd_size]; omega) | fail) only [go_sem, reduceIte, Nat.reduceEqDiff, e56, e57]
  refine condV_dec (fun h => ?_) (fun h => ?_)
  · have hi' : i < Q.length := by omega
    obtain ⟨w, hgw, hw8⟩ := hrq i hi'
    rw [Nat.mul_one] at hgw
    have hG8 : Le H6 H8 := hG.trans (base_le _ _)
    have hgw8 := hG8.get hgw
    obtain ⟨m, rfl, hok, g, hQg, hlit, hasc, hforce⟩ := refute_concl hres hi'
    have hm7 := hok.hi
    obtain ⟨Aw, cw, exw, kw, rfl, hrw⟩ := hw8.parts
    have hgl : (Q[i]).length ≤ 1048576 := hQs _ (List.getElem_mem hi')
    have e57' := e57
    simp (maxSteps := 2000000) (disch := first | omega | assumption | exact idP rfl | exact idP (bL rfl) | (simp only [alloc_size, upd_size]; done) | (simp only [alloc_size, upd_size]; omega) | fail) only [go_sem, reduceIte, Nat.reduceEqDiff, e55, e57, hgw8]
    refine wp_loop_k (fun e H' => ∃ (j : Nat), j ≤ Q[i].length ∧ e 55 = .sl Aq Q.length cq exq kq ∧ e 56 = .int .i64 (Q.length : Int) ∧ e 57 = .int .i64 (i : Int) ∧ e 8 = .ptr (some (H7.size, 0)) ∧ e 10 = .sl Aw Q[i].length cw exw kw ∧ e 62 = .sl Aw Q[i].length cw exw kw ∧ e 63 = .int .i64 (Q[i].length : Int) ∧ e 64 = .int .i64 (j : Int) ∧
      Own 1 H' (e 11) ((negs (Q[i].take j)).map (AV.int .i64)) ∧ Le H8 (base H' (e 11)) ∧ newer H8.size (e 11)) (fun e _ => ctr Q[i].length (e 64)) ?_ ?_
    · exact ⟨0, Nat.zero_le _, by simp (maxSteps := 2000000) (disch := first | omega | assumption | exact idP rfl | exact idP (bL rfl) | (simp only [alloc_size, upd_size]; done) | (simp only [alloc_size, upd_size]; omega) | fail) only [go_sem, reduceIte, Nat.reduceEqDiff, e55], by simp (maxSteps := 2000000) (disch := first | omega | assumption | exact idP rfl | exact idP (bL rfl) | (simp only [alloc_size, upd_size]; done) | (simp only [alloc_size, upd_size]; omega) | fail) only [go_sem, reduceIte, Nat.reduceEqDiff, e56], by simp (maxSteps := 2000000) (disch := first | omega | assumption | exact idP rfl | exact idP (bL rfl) | (simp only [alloc_size, upd_size]; done) | (simp only [alloc_size, upd_size]; omega) | fail) only [go_sem, reduceIte, Nat.reduceEqDiff, e57], by simp (maxSteps := 2000000) (disch := first | omega | assumption | exact idP rfl | exact idP (bL rfl) | (simp only [alloc_size, upd_size]; done) | (simp only [alloc_size, upd_size]; omega) | fail) only [go_sem, reduceIte, Nat.reduceEqDiff, e8], by simp (maxSteps := 2000000) (disch := first | omega | assumption | exact idP rfl | exact idP (bL rfl) | (simp only [alloc_size, upd_size]; done) | (simp only [alloc_size, upd_size]; omega) | fail) only [go_sem, reduceIte, Nat.reduceEqDiff], by simp (maxSteps := 2000000) (disch := first | omega | assumption | exact idP rfl | exact idP (bL rfl) | (simp only [alloc_size, upd_size]; done) | (simp only [alloc_size, upd_size]; omega) | fail) only [go_sem, reduceIte, Nat.reduceEqDiff], by simp (maxSteps := 2000000) (disch := first | omega | assumption | exact idP rfl | exact idP (bL rfl) | (simp only [alloc_size, upd_size]; done) | (simp only [alloc_size, upd_size]; omega) | fail) only [go_sem, reduceIte, Nat.reduceEqDiff], by simp (maxSteps := 2000000) (disch := first | omega | assumption | exact idP rfl | exact idP (bL rfl) | (simp only [alloc_size, upd_size]; done) | (simp only [alloc_size, upd_size]; omega) | fail) only [go_sem, reduceIte, Nat.reduceEqDiff]; rfl, by simp (maxSteps := 2000000) (disch := first | omega | assumption | exact idP rfl | exact idP (bL rfl) | (simp only [alloc_size, upd_size]; done) | (simp only [alloc_size, upd_size]; omega) | fail) only [go_sem, reduceIte, Nat.reduceEqDiff]; exact Own.new rfl, by simp (maxSteps := 2000000) (disch := first | omega | assumption | exact idP rfl | exact idP (bL rfl) | (simp only [alloc_size, upd_size]; done) | (simp only [alloc_size, upd_size]; omega) | fail) only [go_sem, reduceIte, Nat.reduceEqDiff]; exact (Le.alloc _ _).killFresh (Nat.le_refl _), by simp (maxSteps := 2000000) (disch := first | omega | assumption | exact idP rfl | exact idP (bL rfl) | (simp only [alloc_size, upd_size]; done) | (simp only [alloc_size, upd_size]; omega) | fail) only [go_sem, reduceIte, Nat.reduceEqDiff]; exact Nat.le_refl _⟩
    rintro e H9 ⟨j, hj, e55, e56, e57, e8, e10, e62, e63, e64, ho9, hle9, hnew9⟩ K2 hK2
    simp (maxSteps := 2000000) (disch := first | omega | assumption | exact idP rfl | exact idP (bL rfl) | (simp only [alloc_size, upd_size]; done) | (simp only [alloc_size, upd_size]; omega) | fail) only [go_sem, reduceIte, Nat.reduceEqDiff, e63, e64]
    refine condV_dec (fun h2 => ?_) (fun h2 => ?_)
    · have hj' : j < Q[i].length := by omega
      have hx := hrw j hj'
      rw [Nat.mul_one] at hx
      have hx9 := ((hG8.trans hle9).trans (base_le _ _)).get hx
      have hbx : -700 ≤ Q[i][j] ∧ Q[i][j] ≤ 700 := by
        have hall : ∀ x ∈ Q[i], -700 ≤ x ∧ x ≤ 700 := by
          rw [hQg]
          intro x hx
          obtain ⟨y, hy, rfl⟩ := List.mem_map.1 hx
          have := hlit y hy
          omega
        exact hall _ (List.getElem_mem hj')
      simp (maxSteps := 2000000) (disch := first | omega | assumption | exact idP rfl | exact idP (bL rfl) | (simp only [alloc_size, upd_size]; done) | (simp only [alloc_size, upd_size]; omega) | fail) only [go_sem, reduceIte, Nat.reduceEqDiff, e62, e64, hx9]
      refine app1 ho9 hle9 hnew9 rfl (by simp [negs]; omega) (by omega) ?_
      intro t H10 q1 q2 q3 _
      simp (maxSteps := 2000000) (disch := first | omega | assumption | exact idP rfl | exact idP (bL rfl) | (simp only [alloc_size, upd_size]; done) | (simp only [alloc_size, upd_size]; omega) | fail) only [go_sem, reduceIte, Nat.reduceEqDiff, e64]
      refine hK2 _ _ ⟨j + 1, by omega, by simp (maxSteps := 2000000) (disch := first | omega | assumption | exact idP rfl | exact idP (bL rfl) | (simp only [alloc_size, upd_size]; done) | (simp only [alloc_size, upd_size]; omega) | fail) only [go_sem, reduceIte, Nat.reduceEqDiff, e55], by simp (maxSteps := 2000000) (disch := first | omega | assumption | exact idP rfl | exact idP (bL rfl) | (simp only [alloc_size, upd_size]; done) | (simp only [alloc_size, upd_size]; omega) | fail) only [go_sem, reduceIte, Nat.reduceEqDiff, e56], by simp (maxSteps := 2000000) (disch := first | omega | assumption | exact idP rfl | exact idP (bL rfl) | (simp only [alloc_size, upd_size]; done) | (simp only [alloc_size, upd_size]; omega) | fail) only [go_sem, reduceIte, Nat.reduceEqDiff, e57], by simp (maxSteps := 2000000) (disch := first | omega | assumption | exact idP rfl | exact idP (bL rfl) | (simp only [alloc_size, upd_size]; done) | (simp only [alloc_size, upd_size]; omega) | fail) only [go_sem, reduceIte, Nat.reduceEqDiff, e8], by simp (maxSteps := 2000000) (disch := first | omega | assumption | exact idP rfl | exact idP (bL rfl) | (simp only [alloc_size, upd_size]; done) | (simp only [alloc_size, upd_size]; omega) | fail) only [go_sem, reduceIte, Nat.reduceEqDiff, e10], by simp (maxSteps := 2000000) (disch := first | omega | assumption | exact idP rfl | exact idP (bL rfl) | (simp only [alloc_size, upd_size]; done) | (simp only [alloc_size, upd_size]; omega) | fail) only [go_sem, reduceIte, Nat.reduceEqDiff, e62], by simp (maxSteps := 2000000) (disch := first | omega | assumption | exact idP rfl | exact idP (bL rfl) | (simp only [alloc_size, upd_size]; done) | (simp only [alloc_size, upd_size]; omega) | fail) only [go_sem, reduceIte, Nat.reduceEqDiff, e63], by simp (maxSteps := 2000000) (disch := first | omega | assumption | exact idP rfl | exact idP (bL rfl) | (simp only [alloc_size, upd_size]; done) | (simp only [alloc_size, upd_size]; omega) | fail) only [go_sem, reduceIte, Nat.reduceEqDiff]; rfl, ?_, by simp (maxSteps := 2000000) (disch := first | omega | assumption | exact idP rfl | exact idP (bL rfl) | (simp only [alloc_size, upd_size]; done) | (simp only [alloc_size, upd_size]; omega) | fail) only [go_sem, reduceIte, Nat.reduceEqDiff]; exact q2, by simp (maxSteps := 2000000) (disch := first | omega | assumption | exact idP rfl | exact idP (bL rfl) | (simp only [alloc_size, upd_size]; done) | (simp only [alloc_size, upd_size]; omega) | fail) only [go_sem, reduceIte, Nat.reduceEqDiff]; exact q3⟩ (by simp (maxSteps := 2000000) (disch := first | omega | assumption | exact idP rfl | exact idP (bL rfl) | (simp only [alloc_size, upd_size]; done) | (simp only [alloc_size, upd_size]; omega) | fail) only [go_sem, reduceIte, Nat.reduceEqDiff, ctr_int, e64]; omega)
      simp (maxSteps := 2000000) (disch := first | omega | assumption | exact idP rfl | exact idP (bL rfl) | (simp only [alloc_size, upd_size]; done) | (simp only [alloc_size, upd_size]; omega) | fail) only [go_sem, reduceIte, Nat.reduceEqDiff]
      rw [negs_take hj', List.map_append]; exact q1
    · obtain rfl : j = Q[i].length := by omega
      rw [List.take_length] at ho9
      have hL89 : Le H8 H9 := hle9.trans (base_le _ _)
      have hw9 := (base_mono hL89 s).rwCells hw
      have x9 := (base_le _ _).rwCells hw9
      obtain ⟨y1, y2⟩ := Heap.rwCells_blk x9
      have n0 : H9.get H7.size 0 = some (.int .i64 (m : Int)) := Rd.blk y1 y2 0 _ rfl
      have n1 : H9.get H7.size 1 = some s := Rd.blk y1 y2 1 _ rfl
      have hS9 : IsII H9 s (P ++ Q.take i) := own_isII (ho.le hL89) hul (hG8.trans hL89) hur
      have htl : (Q.take i).length ≤ 600 := by simp; omega
      simp (maxSteps := 2000000) (disch := first | omega | assumption | exact idP rfl | exact idP (bL rfl) | (simp only [alloc_size, upd_size]; done) | (simp only [alloc_size, upd_size]; omega) | fail) only [go_sem, reduceIte, Nat.reduceEqDiff, e8, n0, n1]
      refine (s_implForcedNo (x := .agg [.int .i64 (m : Int), s]) ⟨s, rfl, hS9⟩ (by simp; omega) (fun c hc => ?_) ho9.isI (by simp [negs]; omega) ?_).mono ?_
      · rcases List.mem_append.1 hc with h1 | h1
        · exact hPx c h1
        · exact hQs c (List.mem_of_mem_take h1)
      · intro n' hn' _ _ mm
        obtain rfl : m = n' := by omega
        have : negs Q[i] = g := by rw [hQg]; exact negs_negs
        rw [this]; exact hforce mm
      rintro r H10 ⟨hle10, rfl⟩
      have hL810 := hL89.trans hle10
      have hw10 := (base_mono hL810 s).rwCells hw
      have x10 := (base_le _ _).rwCells hw10
      obtain ⟨y1, y2⟩ := Heap.rwCells_blk x10
      have n1 : H10.get H7.size 1 = some s := Rd.blk y1 y2 1 _ rfl
      simp (maxSteps := 2000000) (disch := first | omega | assumption | exact idP rfl | exact idP (bL rfl) | (simp only [alloc_size, upd_size]; done) | (simp only [alloc_size, upd_size]; omega) | fail) only [go_sem, reduceIte, Nat.reduceEqDiff, e8, e10, n1]
      refine app_own (sz := 1) (m := 1) (by omega) ((ho.le hL810).le (Le.alloc _ _)) (Rd.blk (Nat.lt_succ_self _) (alloc_new _ _)) rfl rfl ?_ (by simp only [mostCells]; simp at hul; omega) ?_
      · simp only [mostCells]; simp at hul; omega
      intro s2 H11 q1 q2 _
      have q3 := (base_mono (Le.alloc H10 [AV.sl Aw Q[i].length cw exw kw]) s).trans q2
      have hw11 := q3.rwCells hw10
      have a11 := apart_of hw11
      have x11 := (base_le _ _).rwCells hw11
      have z11 := (Heap.rwCells_blk x11).1
      have e2 : P ++ Q.take (i + 1) = (P ++ Q.take i) ++ [Q[i]] := by rw [List.take_succ_eq_append_getElem hi', List.append_assoc]
      have hrow2 : ∀ j (h : j < (P ++ Q.take (i + 1)).length), ∃ w, (us ++ [AV.sl Aw Q[i].length cw exw kw])[j]? = some w ∧ IsI H6 w (P ++ Q.take (i + 1))[j] := by
        intro j h
        simp only [e2] at h ⊢
        by_cases hjl : j < (P ++ Q.take i).length
        · obtain ⟨w, r1, r2⟩ := hur j hjl
          exact ⟨w, by rw [List.getElem?_append_left (by omega)]; exact r1, by rw [List.getElem_append_left hjl]; exact r2⟩
        · have hje : j = (P ++ Q.take i).length := by simp only [List.length_append, List.length_singleton] at h hjl ⊢; omega
          refine ⟨.sl Aw Q[i].length cw exw kw, by rw [List.getElem?_append_right (by omega), hje, hul]; simp, ?_⟩
          rw [List.getElem_append_right (by omega)]
          simpa using hw8
      have hS11 : IsII H11 s2 (P ++ Q.take (i + 1)) := own_isII q1 (by rw [e2]; simp only [List.length_append, List.length_singleton] at hul ⊢; omega) ((hG.trans ((base_mono hL810 s).trans q3)).trans (base_le _ _)) hrow2
      · have hos2 := oneA_isS hS11
        have hos21 := hos2.1
        simp (maxSteps := 2000000) (disch := first | omega | assumption | exact idP rfl | exact idP (bL rfl) | (simp only [alloc_size, upd_size]; done) | (simp only [alloc_size, upd_size]; omega) | fail) only [go_sem, reduceIte, Nat.reduceEqDiff, e8, x11, hos2.2, e57]
        refine hK _ _ ⟨i + 1, s2, _, by omega, by simp (maxSteps := 2000000) (disch := first | omega | assumption | exact idP rfl | exact idP (bL rfl) | (simp only [alloc_size, upd_size]; done) | (simp only [alloc_size, upd_size]; omega) | fail) only [go_sem, reduceIte, Nat.reduceEqDiff, e55], by simp (maxSteps := 2000000) (disch := first | omega | assumption | exact idP rfl | exact idP (bL rfl) | (simp only [alloc_size, upd_size]; done) | (simp only [alloc_size, upd_size]; omega) | fail) only [go_sem, reduceIte, Nat.reduceEqDiff, e56], by simp (maxSteps := 2000000) (disch := first | omega | assumption | exact idP rfl | exact idP (bL rfl) | (simp only [alloc_size, upd_size]; done) | (simp only [alloc_size, upd_size]; omega) | fail) only [go_sem, reduceIte, Nat.reduceEqDiff]; rfl, by simp (maxSteps := 2000000) (disch := first | omega | assumption | exact idP rfl | exact idP (bL rfl) | (simp only [alloc_size, upd_size]; done) | (simp only [alloc_size, upd_size]; omega) | fail) only [go_sem, reduceIte, Nat.reduceEqDiff, e8], q1.updNe' a11, by rw [e2]; simp only [List.length_append, List.length_singleton] at hul ⊢; omega, hrow2, ?_, ?_⟩ (by simp (maxSteps := 2000000) (disch := first | omega | assumption | exact idP rfl | exact idP (bL rfl) | (simp only [alloc_size, upd_size]; done) | (simp only [alloc_size, upd_size]; omega) | fail) only [go_sem, reduceIte, Nat.reduceEqDiff, ctr_int, e57']; omega)
        · rw [base_upd a11]
          exact ((hG.trans ((base_mono hL810 s).trans q3)).updFresh hs67)
        · exact base_rw a11 (by simp (maxSteps := 2000000) (disch := first | omega | assumption | exact idP rfl | exact idP (bL rfl) | (simp only [alloc_size, upd_size]; done) | (simp only [alloc_size, upd_size]; omega) | fail) only [go_sem, reduceIte, Nat.reduceEqDiff])
  · simp (maxSteps := 2000000) (disch := first | omega | assumption | exact idP rfl | exact idP (bL rfl) | (simp only [alloc_size, upd_size]; done) | (simp only [alloc_size, upd_size]; omega) | fail) only [go_sem, reduceIte, Nat.reduceEqDiff]
    exact hR _ _ rfl
end Go.M2
