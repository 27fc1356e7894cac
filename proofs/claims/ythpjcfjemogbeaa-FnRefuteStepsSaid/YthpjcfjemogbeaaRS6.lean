/- Contract: the search, the reference's side. -/
import Derived.Test.YthpjcfjemogbeaaRS5
import Derived.Shelf.SlSortCmp.NoneTotal
set_option linter.unusedVariables false
set_option linter.unusedSimpArgs false
set_option maxRecDepth 10000
set_option maxHeartbeats 4000000
namespace Go.M2
open Go.Proofs
variable {H : Heap}
theorem s_l3Copy {v : AV} {xs : List Int} (hv : IsI H v xs) (hl : xs.length ≤ 1048576) :
    ACall Try.prog n_spec_l3Copy [v] H (fun r H' => Own 1 H' r (xs.map (AV.int .i64)) ∧ Le H (base H' r) ∧ newer H.size r) := by
  refine ACall.of fun R hR => a_spec_l3Copy rfl ?_
  obtain ⟨A, c, ex, k, rfl, hr⟩ := hv.parts
  simp (maxSteps := 2000000) (disch := first | omega | assumption | exact idP rfl | exact idP (bL rfl) | (simp only [alloc_size, upd_size]; done) | (simp only [alloc_size, upd_size]; omega) | fail) only [go_sem, reduceIte, Nat.reduceEqDiff]
  refine wp_loop_k (fun e H' => ∃ i : Nat, i ≤ xs.length ∧ e 0 = .sl A xs.length c ex k ∧ e 4 = .int .i64 (i : Int) ∧ Own 1 H' (e 3) ((xs.take i).map (AV.int .i64)) ∧ Le H (base H' (e 3)) ∧ newer H.size (e 3)) (fun e _ => ctr xs.length (e 4)) ?_ ?_
  · exact ⟨0, Nat.zero_le _, by simp (maxSteps := 2000000) (disch := first | omega | assumption | exact idP rfl | exact idP (bL rfl) | (simp only [alloc_size, upd_size]; done) | (simp only [alloc_size, upd_size]; omega) | fail) only [go_sem, reduceIte, Nat.reduceEqDiff], by simp (maxSteps := 2000000) (disch := first | omega | assumption | exact idP rfl | exact idP (bL rfl) | (simp only [alloc_size, upd_size]; done) | (simp only [alloc_size, upd_size]; omega) | fail) only [go_sem, reduceIte, Nat.reduceEqDiff]; rfl, by simp (maxSteps := 2000000) (disch := first | omega | assumption | exact idP rfl | exact idP (bL rfl) | (simp only [alloc_size, upd_size]; done) | (simp only [alloc_size, upd_size]; omega) | fail) only [go_sem, reduceIte, Nat.reduceEqDiff]; exact Own.new rfl, by simp (maxSteps := 2000000) (disch := first | omega | assumption | exact idP rfl | exact idP (bL rfl) | (simp only [alloc_size, upd_size]; done) | (simp only [alloc_size, upd_size]; omega) | fail) only [go_sem, reduceIte, Nat.reduceEqDiff]; exact (Le.alloc _ _).killFresh (Nat.le_refl _), by simp (maxSteps := 2000000) (disch := first | omega | assumption | exact idP rfl | exact idP (bL rfl) | (simp only [alloc_size, upd_size]; done) | (simp only [alloc_size, upd_size]; omega) | fail) only [go_sem, reduceIte, Nat.reduceEqDiff]; exact Nat.le_refl _⟩
  · rintro e H1 ⟨i, hi, e0, e4, ho, hle, hnew⟩ K hK
    simp (maxSteps := 2000000) (disch := first | omega | assumption | exact idP rfl | exact idP (bL rfl) | (simp only [alloc_size, upd_size]; done) | (simp only [alloc_size, upd_size]; omega) | fail) only [go_sem, reduceIte, Nat.reduceEqDiff, e0, e4]
    refine condV_dec (fun h => ?_) (fun h => ?_)
    · have hi' : i < xs.length := by omega
      have hg := (hle.trans (base_le _ _)).get (hr i hi')
      rw [Nat.mul_one] at hg
      simp (maxSteps := 2000000) (disch := first | omega | assumption | exact idP rfl | exact idP (bL rfl) | (simp only [alloc_size, upd_size]; done) | (simp only [alloc_size, upd_size]; omega) | fail) only [go_sem, reduceIte, Nat.reduceEqDiff, e0, e4, hg]
      refine app1 ho hle hnew rfl (by simp; omega) (by omega) ?_
      intro s H2 hs hle2 hn2 _
      simp (maxSteps := 2000000) (disch := first | omega | assumption | exact idP rfl | exact idP (bL rfl) | (simp only [alloc_size, upd_size]; done) | (simp only [alloc_size, upd_size]; omega) | fail) only [go_sem, reduceIte, Nat.reduceEqDiff, e4]
      refine hK _ _ ⟨i + 1, by omega, by simp (maxSteps := 2000000) (disch := first | omega | assumption | exact idP rfl | exact idP (bL rfl) | (simp only [alloc_size, upd_size]; done) | (simp only [alloc_size, upd_size]; omega) | fail) only [go_sem, reduceIte, Nat.reduceEqDiff, e0], by simp (maxSteps := 2000000) (disch := first | omega | assumption | exact idP rfl | exact idP (bL rfl) | (simp only [alloc_size, upd_size]; done) | (simp only [alloc_size, upd_size]; omega) | fail) only [go_sem, reduceIte, Nat.reduceEqDiff]; rfl, ?_, by simp (maxSteps := 2000000) (disch := first | omega | assumption | exact idP rfl | exact idP (bL rfl) | (simp only [alloc_size, upd_size]; done) | (simp only [alloc_size, upd_size]; omega) | fail) only [go_sem, reduceIte, Nat.reduceEqDiff]; exact hle2, by simp (maxSteps := 2000000) (disch := first | omega | assumption | exact idP rfl | exact idP (bL rfl) | (simp only [alloc_size, upd_size]; done) | (simp only [alloc_size, upd_size]; omega) | fail) only [go_sem, reduceIte, Nat.reduceEqDiff]; exact hn2⟩ (by simp (maxSteps := 2000000) (disch := first | omega | assumption | exact idP rfl | exact idP (bL rfl) | (simp only [alloc_size, upd_size]; done) | (simp only [alloc_size, upd_size]; omega) | fail) only [go_sem, reduceIte, Nat.reduceEqDiff, ctr_int, e4]; omega)
      simp (maxSteps := 2000000) (disch := first | omega | assumption | exact idP rfl | exact idP (bL rfl) | (simp only [alloc_size, upd_size]; done) | (simp only [alloc_size, upd_size]; omega) | fail) only [go_sem, reduceIte, Nat.reduceEqDiff]
      rw [← take_map_succ hi']; exact hs
    · simp (maxSteps := 2000000) (disch := first | omega | assumption | exact idP rfl | exact idP (bL rfl) | (simp only [alloc_size, upd_size]; done) | (simp only [alloc_size, upd_size]; omega) | fail) only [go_sem, reduceIte, Nat.reduceEqDiff]
      obtain rfl : i = xs.length := by omega
      rw [List.take_length] at ho
      exact hR _ _ ⟨ho, hle, hnew⟩
def TryPost (cl : List (List Int)) (n : Nat) (g : List Int) (P : List (List Int)) (d : Nat) (B H : Heap) (p fl : AV) (r : AV) (H' : Heap) : Prop :=
  ∃ (res : Res) (P' : List (List Int)) (d' : Nat) (p' w : AV) (ok ct : Bool) (B' : Heap), Try cl n g P d res P' d' ∧ r = .tup [.agg [fl, p', .int .i64 (d' : Int), .bool ct], w, .bool ok] ∧ Nd B B' ∧ Le (base H p) (base H' p') ∧ (∀ b, H'.size ≤ b → apart b p') ∧ oneA p' = true ∧ oneA w = true ∧
    (res = .no → ct = false ∧ ok = false ∧ PL B' H' p' P' ∧ P'.length ≤ 600 ∧ d' ≤ P'.length + g.length ∧ w = .sl none 0 0 true 0) ∧ (res = .cut → ct = true ∧ ok = false ∧ w = .sl none 0 0 true 0) ∧
    (∀ m, res = .sat m → ct = false ∧ ok = true ∧ PL B' H' p' P' ∧ IsI B' w ((m.drop 1).map valF))
theorem PL.updFresh {B : Heap} {p : AV} {P : List (List Int)} {b : Nat} {x : Blk} (h : PL B H p P) (ha : apart b p) (hd : B.size ≤ b) : PL B (H.upd b x) p P := by
  obtain ⟨h0, pc, h1, h2, h3⟩ := h
  refine ⟨by rw [base_upd ha]; exact h0.updFresh hd, pc, ?_, h2, h3⟩
  obtain ⟨A, n, ex, k, rfl, q1, q2, q3⟩ := h1
  refine ⟨A, n, ex, k, rfl, q1, q2, fun b' o e => ?_⟩
  subst e
  obtain ⟨r1, r2, r3, r4⟩ := q3 b' o rfl
  have hne : b' ≠ b := ha
  exact ⟨r1, r2, r3, by rw [upd_blk_ne hne]; exact r4⟩
attribute [-go_sem] w_spec_l12Try_18
set_option maxHeartbeats 4000000 in
theorem s_l12Try {xss : List (List Int)} {n : Nat} (hn : n ≤ 700) (hl : xss.length ≤ 1048576) (hxl : ∀ xs ∈ xss, xs.length ≤ 1048576) (hx : ∀ xs ∈ xss, Lits n xs) : ∀ (N : Nat) {B H : Heap} {g : List Int} {P : List (List Int)} {d k : Nat} {fl p gv : AV},
    n - k < N → k ≤ n → Low xss n g k → B.size = H.size → IsII B fl xss → IsI B gv g → PL B H p P → P.length ≤ 600 → d ≤ P.length + g.length →
    ACall Try.prog n_spec_l12Try [.agg [fl, p, .int .i64 (d : Int), .bool false], gv, .int .i64 (n : Int)] H (TryPost xss n g P d B H p fl) := by
  intro N
  induction N with
  | zero => intro B H g P d k fl p gv hN; omega
  | succ N ih =>
    intro B H g P d k fl p gv hN hk hlow hs hfl hgv hp hP hd
    refine ACall.of fun R hR => a_spec_l12Try rfl ?_
    have hlen : g.length ≤ k := asc_len hlow.asc (fun x h => (hlow.lits x h).1) hlow.le
    have hBH : Le B H := hp.1.trans (base_le H p)
    have hof : oneA fl = true ∧ cellsOf fl = some [fl] := oneA_isS hfl
    obtain ⟨pc, hown, hpc⟩ := hp.own
    simp (maxSteps := 2000000) (disch := first | omega | assumption | exact idP rfl | exact idP (bL rfl) | (simp only [alloc_size, upd_size]; done) | (simp only [alloc_size, upd_size]; omega) | fail) only [go_sem, reduceIte, Nat.reduceEqDiff]
    have hHA : Le H ((H.alloc [fl, p, .int .i64 (d : Int), .bool false]).alloc [.sl none 0 0 true 0, .sl none 0 0 true 0, .int .i64 0, .bool false]) := (Le.refl _).allocs.allocs
    refine (s_l11Given (hgv.le (hBH.trans hHA)) (by omega) hn hlow.lits).mono ?_
    rintro r H1 ⟨rfl, hrow⟩
    simp (maxSteps := 2000000) (disch := first | omega | assumption | exact idP rfl | exact idP (bL rfl) | (simp only [alloc_size, upd_size]; done) | (simp only [alloc_size, upd_size]; omega) | fail) only [go_sem, reduceIte, Nat.reduceEqDiff]
    simp only [alloc_size] at hrow
    have w3 : H1.rwCells H.size = some [fl, p, .int .i64 (d : Int), .bool false] := hrow.le'.rwCells (by simp (maxSteps := 2000000) (disch := first | omega | assumption | exact idP rfl | exact idP (bL rfl) | (simp only [alloc_size, upd_size]; done) | (simp only [alloc_size, upd_size]; omega) | fail) only [go_sem, reduceIte, Nat.reduceEqDiff])
    have g3 : H1.get H.size 0 = some fl := hrow.le'.get (by simp (maxSteps := 2000000) (disch := first | omega | assumption | exact idP rfl | exact idP (bL rfl) | (simp only [alloc_size, upd_size]; done) | (simp only [alloc_size, upd_size]; omega) | fail) only [go_sem, reduceIte, Nat.reduceEqDiff])
    simp (maxSteps := 2000000) (disch := first | omega | assumption | exact idP rfl | exact idP (bL rfl) | (simp only [alloc_size, upd_size]; done) | (simp only [alloc_size, upd_size]; omega) | fail) only [go_sem, reduceIte, Nat.reduceEqDiff, g3]
    refine (s_l11Force (hfl.le (hBH.trans hHA)) hl hxl hn hx hrow given_len).mono ?_
    rintro r H2 ⟨res, hforce, hle2, hb2, hnone, hsome⟩
    have hA2 : Le ((H.alloc [fl, p, .int .i64 (d : Int), .bool false]).alloc [.sl none 0 0 true 0, .sl none 0 0 true 0, .int .i64 0, .bool false]) (H2.kill (H.size + 1 + 1)) := hrow.le.trans hle2
    have hA2' := hA2.trans (Le.kill _ _)
    have hH2 : Le H H2 := hHA.trans hA2'
    have hsz2 : H.size + 1 + 1 < H2.size := hb2
    have a3 : apart H.size p := apart_fresh hown (Nat.le_refl _)
    have a6 : apart (H.size + 1) p := apart_fresh hown (by omega)
    have hp2 : PL (B.pad H2.size) H2 p P := (hp.le hH2).at (pad_nd (by omega)).1 (pad_le (hp.1.trans (base_mono hH2 p)) (by rw [base_size]; exact Nat.le_refl _))
    have u3 : H2.rwCells H.size = some [fl, p, .int .i64 (d : Int), .bool false] := hA2'.rwCells (by simp (maxSteps := 2000000) (disch := first | omega | assumption | exact idP rfl | exact idP (bL rfl) | (simp only [alloc_size, upd_size]; done) | (simp only [alloc_size, upd_size]; omega) | fail) only [go_sem, reduceIte, Nat.reduceEqDiff])
    have u6 : H2.rwCells (H.size + 1) = some [.sl none 0 0 true 0, .sl none 0 0 true 0, .int .i64 0, .bool false] := hA2'.rwCells (by simp (maxSteps := 2000000) (disch := first | omega | assumption | exact idP rfl | exact idP (bL rfl) | (simp only [alloc_size, upd_size]; done) | (simp only [alloc_size, upd_size]; omega) | fail) only [go_sem, reduceIte, Nat.reduceEqDiff])
    have hnd : Nd B (B.pad H2.size) := pad_nd (by omega)
    have hLend : Le (base H p) (((base H2 p).kill H.size).kill (H.size + 1)) := ((base_mono hH2 p).killFresh (by rw [base_size]; exact Nat.le_refl _)).killFresh (by rw [base_size]; omega)
    cases res with
    | none =>
      obtain rfl := hnone rfl
      simp (maxSteps := 2000000) (disch := first | omega | assumption | exact idP rfl | exact idP (bL rfl) | (simp only [alloc_size, upd_size]; done) | (simp only [alloc_size, upd_size]; omega) | fail) only [go_sem, reduceIte, Nat.reduceEqDiff]
      refine wp_seq'.mp (try_leaf (B := B.pad H2.size) (d := d) (t3 := H.size) (t6 := H.size + 1) hn hlow.asc hlow.lits (by omega) hP hof.1 ?_ ?_ ?_ ?_ (by omega) rfl (pad_size _ _) (pad_dead (by omega)) (pad_dead (by omega)) (base_rw a3 u3) (base_rw a6 u6) hp2 (hgv.le hnd.1) ?_)
      · simp (maxSteps := 2000000) (disch := first | omega | assumption | exact idP rfl | exact idP (bL rfl) | (simp only [alloc_size, upd_size]; done) | (simp only [alloc_size, upd_size]; omega) | fail) only [go_sem, reduceIte, Nat.reduceEqDiff]
      · simp (maxSteps := 2000000) (disch := first | omega | assumption | exact idP rfl | exact idP (bL rfl) | (simp only [alloc_size, upd_size]; done) | (simp only [alloc_size, upd_size]; omega) | fail) only [go_sem, reduceIte, Nat.reduceEqDiff]
      · simp (maxSteps := 2000000) (disch := first | omega | assumption | exact idP rfl | exact idP (bL rfl) | (simp only [alloc_size, upd_size]; done) | (simp only [alloc_size, upd_size]; omega) | fail) only [go_sem, reduceIte, Nat.reduceEqDiff]
      · simp (maxSteps := 2000000) (disch := first | omega | assumption | exact idP rfl | exact idP (bL rfl) | (simp only [alloc_size, upd_size]; done) | (simp only [alloc_size, upd_size]; omega) | fail) only [go_sem, reduceIte, Nat.reduceEqDiff]
      intro B' H' p' hn' hp' hle'
      have hap' : ∀ b, H'.size ≤ b → apart b p' := fun b hb => by obtain ⟨_, q, _⟩ := hp'.own; exact apart_fresh q hb
      by_cases h6 : P.length = 600
      · refine hR _ _ ⟨.cut, P, d, p', _, _, _, B', .confC hforce h6, rfl, hnd.trans hn', hLend.trans hle', hap', hp'.one.1, rfl, fun h => (by cases h), fun _ => ⟨?_, rfl, rfl⟩, fun m h => (by cases h)⟩
        simp [h6]
      · refine hR _ _ ⟨.no, _, d, p', _, _, _, B', .confN hforce h6, rfl, hnd.trans hn', hLend.trans hle', hap', hp'.one.1, rfl, fun _ => ⟨?_, rfl, hp', ?_, ?_, rfl⟩, fun h => (by cases h), fun m h => (by cases h)⟩
        · simp; omega
        · simp; omega
        · simp; omega
    | some m =>
      obtain ⟨rfl, hrow2, hml⟩ := hsome m rfl
      simp (maxSteps := 2000000) (disch := first | omega | assumption | exact idP rfl | exact idP (bL rfl) | (simp only [alloc_size, upd_size]; done) | (simp only [alloc_size, upd_size]; omega) | fail) only [go_sem, reduceIte, Nat.reduceEqDiff]
      refine (s_l12Next hrow2 hml (by omega)).mono ?_
      rintro r H3 ⟨rfl, a, rfl, hnext⟩
      simp (maxSteps := 2000000) (disch := first | omega | assumption | exact idP rfl | exact idP (bL rfl) | (simp only [alloc_size, upd_size]; done) | (simp only [alloc_size, upd_size]; omega) | fail) only [go_sem, reduceIte, Nat.reduceEqDiff]
      refine condV_dec (fun h0 => ?_) (fun h0 => ?_)
      · obtain rfl : a = 0 := by omega
        have l0 : H3.get H.size 0 = some fl := by obtain ⟨q1, q2⟩ := Heap.rwCells_blk u3; exact Rd.blk q1 q2 0 fl rfl
        have l1 : H3.get H.size 1 = some p := by obtain ⟨q1, q2⟩ := Heap.rwCells_blk u3; exact Rd.blk q1 q2 1 p rfl
        have l2 : H3.get H.size 2 = some (.int .i64 (d : Int)) := by obtain ⟨q1, q2⟩ := Heap.rwCells_blk u3; exact Rd.blk q1 q2 2 _ rfl
        have l3 : H3.get H.size 3 = some (.bool false) := by obtain ⟨q1, q2⟩ := Heap.rwCells_blk u3; exact Rd.blk q1 q2 3 _ rfl
        have hpo := hp.one
        simp (maxSteps := 2000000) (disch := first | omega | assumption | exact idP rfl | exact idP (bL rfl) | (simp only [alloc_size, upd_size]; done) | (simp only [alloc_size, upd_size]; omega) | fail) only [go_sem, reduceIte, Nat.reduceEqDiff, l0, l1, l2, l3]
        refine (s_l12Values hrow2 hml (by omega) (by omega)).mono ?_
        rintro w H4 ⟨hw, hle4, hnw⟩
        have hH4 : Le H3 H4 := hle4.trans (base_le _ _)
        have m0 := hH4.get l0
        have m1 := hH4.get l1
        have m2 := hH4.get l2
        have m3 := hH4.get l3
        have u6' := hH4.rwCells u6
        have hof1 := hof.1
        have hpo1 := hpo.1
        have hsz6 := (Heap.rwCells_blk u6').1
        simp (maxSteps := 2000000) (disch := first | omega | assumption | exact idP rfl | exact idP (bL rfl) | (simp only [alloc_size, upd_size]; done) | (simp only [alloc_size, upd_size]; omega) | fail) only [go_sem, reduceIte, Nat.reduceEqDiff, m0, m1, m2, m3, u6']
        have hsB : (B.pad H3.size).size = H3.size := pad_size _ _
        have hB4 : Le ((B.pad H3.size).over H4) (base H4 p) := over_le (hp2.1.trans (base_mono hH4 p)) base_size.symm fun b hb => base_blk (apart_fresh hown (by have := hH2.1; omega))
        have hnd4 : Nd (B.pad H3.size) ((B.pad H3.size).over H4) := over_nd (by have := hH4.1; omega)
        have hp4 := (hp2.le hH4).at hnd4.1 hB4
        have hwi : IsI ((B.pad H3.size).over H4) w ((m.drop 1).map valF) := (hw.later hnw).isI.le (by have := later_over (B.pad H3.size) H4; rwa [hsB] at this)
        have d6 := hnd4.2 (H.size + 1) (by omega) (pad_dead (by omega))
        refine hR _ _ ⟨.sat m, P, d, p, w, true, false, (B.pad H3.size).over H4, .sat hforce hnext, rfl, hnd.trans hnd4, ?_, fun b hb => apart_fresh hown (Nat.le_trans (hH2.trans hH4).1 hb), hpo.1, (oneA_isS hwi).1, fun h => (by cases h), fun h => (by cases h), fun m' h => ?_⟩
        · rw [base_upd a6]
          exact (base_mono (hH2.trans hH4) p).updFresh (by rw [base_size]; omega)
        · cases h
          exact ⟨rfl, rfl, hp4.upd a6 d6, hwi⟩
      · have ha0 : a ≠ 0 := by omega
        have han : a ≤ n := by
          rcases hnext with ⟨e, _⟩ | ⟨_, ⟨h1, _⟩, _⟩
          · exact absurd e ha0
          · omega
        obtain ⟨hka, hlow1⟩ := hlow.next (x := -(a : Int)) hforce hml hnext ha0 (by omega)
        obtain ⟨_, hlow2⟩ := hlow.next (x := (a : Int)) hforce hml hnext ha0 (by omega)
        have l0 : H3.get H.size 0 = some fl := by obtain ⟨q1, q2⟩ := Heap.rwCells_blk u3; exact Rd.blk q1 q2 0 fl rfl
        have l1 : H3.get H.size 1 = some p := by obtain ⟨q1, q2⟩ := Heap.rwCells_blk u3; exact Rd.blk q1 q2 1 p rfl
        have l2 : H3.get H.size 2 = some (.int .i64 (d : Int)) := by obtain ⟨q1, q2⟩ := Heap.rwCells_blk u3; exact Rd.blk q1 q2 2 _ rfl
        have l3 : H3.get H.size 3 = some (.bool false) := by obtain ⟨q1, q2⟩ := Heap.rwCells_blk u3; exact Rd.blk q1 q2 3 _ rfl
        have hs3 : H.size < H3.size := by omega
        simp (maxSteps := 2000000) (disch := first | omega | assumption | exact idP rfl | exact idP (bL rfl) | (simp only [alloc_size, upd_size]; done) | (simp only [alloc_size, upd_size]; omega) | fail) only [go_sem, reduceIte, Nat.reduceEqDiff, l2, u3]
        have hH3B : Le B (H3.upd H.size (.cells [fl, p, .int .i64 ((d : Int) + 1), .bool false] true)) := (hBH.trans hH2).updFresh (by omega)
        refine (s_l3Copy (hgv.le hH3B) (by omega)).mono ?_
        rintro c H4 ⟨hc, hle4, hnc⟩
        have hH4 := hle4.trans (base_le _ _)
        have v3 : H4.rwCells H.size = some [fl, p, .int .i64 ((d : Int) + 1), .bool false] := hH4.rwCells (by simp (maxSteps := 2000000) (disch := first | omega | assumption | exact idP rfl | exact idP (bL rfl) | (simp only [alloc_size, upd_size]; done) | (simp only [alloc_size, upd_size]; omega) | fail) only [go_sem, reduceIte, Nat.reduceEqDiff])
        have m0 : H4.get H.size 0 = some fl := by obtain ⟨q1, q2⟩ := Heap.rwCells_blk v3; exact Rd.blk q1 q2 0 fl rfl
        have m1 : H4.get H.size 1 = some p := by obtain ⟨q1, q2⟩ := Heap.rwCells_blk v3; exact Rd.blk q1 q2 1 p rfl
        have m2 : H4.get H.size 2 = some (.int .i64 ((d : Int) + 1)) := by obtain ⟨q1, q2⟩ := Heap.rwCells_blk v3; exact Rd.blk q1 q2 2 _ rfl
        have m3 : H4.get H.size 3 = some (.bool false) := by obtain ⟨q1, q2⟩ := Heap.rwCells_blk v3; exact Rd.blk q1 q2 3 _ rfl
        simp (maxSteps := 2000000) (disch := first | omega | assumption | exact idP rfl | exact idP (bL rfl) | (simp only [alloc_size, upd_size]; done) | (simp only [alloc_size, upd_size]; omega) | fail) only [go_sem, reduceIte, Nat.reduceEqDiff, m0, m1, m2, m3]
        have hgl : g.length ≤ 700 := by omega
        refine app1 hc hle4 hnc rfl (by simp; omega) (by omega) ?_
        intro c1 H5 hc1 hle5 hnc1 hstep
        have hH5 := hle5.trans (base_le _ _)
        have x3 : H5.rwCells H.size = some [fl, p, .int .i64 ((d : Int) + 1), .bool false] := hH5.rwCells (by simp (maxSteps := 2000000) (disch := first | omega | assumption | exact idP rfl | exact idP (bL rfl) | (simp only [alloc_size, upd_size]; done) | (simp only [alloc_size, upd_size]; omega) | fail) only [go_sem, reduceIte, Nat.reduceEqDiff])
        have n0 : H5.get H.size 0 = some fl := by obtain ⟨q1, q2⟩ := Heap.rwCells_blk x3; exact Rd.blk q1 q2 0 fl rfl
        have n1 : H5.get H.size 1 = some p := by obtain ⟨q1, q2⟩ := Heap.rwCells_blk x3; exact Rd.blk q1 q2 1 p rfl
        have n2 : H5.get H.size 2 = some (.int .i64 ((d : Int) + 1)) := by obtain ⟨q1, q2⟩ := Heap.rwCells_blk x3; exact Rd.blk q1 q2 2 _ rfl
        have n3 : H5.get H.size 3 = some (.bool false) := by obtain ⟨q1, q2⟩ := Heap.rwCells_blk x3; exact Rd.blk q1 q2 3 _ rfl
        have x6 : H5.rwCells (H.size + 1) = some [.sl none 0 0 true 0, .sl none 0 0 true 0, .int .i64 0, .bool false] := hH5.rwCells (by simp (maxSteps := 2000000) (disch := first | omega | assumption | exact idP rfl | exact idP (bL rfl) | (simp only [alloc_size, upd_size]; done) | (simp only [alloc_size, upd_size]; omega) | fail) only [go_sem, reduceIte, Nat.reduceEqDiff, u6])
        have hHU : Le H (H3.upd H.size (.cells [fl, p, .int .i64 ((d : Int) + 1), .bool false] true)) := hH2.updFresh (Nat.le_refl _)
        have hH05 : Le H H5 := hHU.trans hH5
        have hsz5 : H3.size ≤ H5.size := hH5.1
        have hsB : (B.pad H3.size).size = H3.size := pad_size _ _
        have hBp5 : Le (B.pad H3.size) (base H5 p) := pad_le (hp.1.trans (base_mono hH05 p)) (by rw [base_size]; exact hsz5)
        have hB5 : Le ((B.pad H3.size).over H5) (base H5 p) := over_le hBp5 base_size.symm fun b hb => base_blk (apart_fresh hown (by have := hH2.1; omega))
        have hnd5 : Nd (B.pad H3.size) ((B.pad H3.size).over H5) := over_nd (by omega)
        have hp5 : PL ((B.pad H3.size).over H5) H5 p P := (hp.le hH05).at (hnd.trans hnd5).1 hB5
        have hci : IsI ((B.pad H3.size).over H5) c1 (g ++ [-(a : Int)]) := by
          have h1 : Own 1 H5 c1 ((g ++ [-(a : Int)]).map (AV.int .i64)) := by
            have e : (0 : Int) - (a : Int) = -(a : Int) := by omega
            rw [List.map_append, ← e]; exact hc1
          exact (h1.later hnc1).isI.le (later_over (B.pad H3.size) H5)
        simp (maxSteps := 2000000) (disch := first | omega | assumption | exact idP rfl | exact idP (bL rfl) | (simp only [alloc_size, upd_size]; done) | (simp only [alloc_size, upd_size]; omega) | fail) only [go_sem, reduceIte, Nat.reduceEqDiff, n0, n1, n2, n3]
        have hd1 : ((d : Int) + 1) = ((d + 1 : Nat) : Int) := by omega
        rw [hd1]
        refine (ih (B := (B.pad H3.size).over H5) (H := H5) (k := a) (by omega) han hlow1 rfl (hfl.le (hnd.trans hnd5).1) hci hp5 hP (by simp; omega)).mono ?_
        rintro r H6 ⟨res1, P1, d1, p1, w1, ok1, ct1, B6, htry1, rfl, hnd6, hle6, hap1, ho1, how1, hno1, hcut1, hsat1⟩
        have y3 : (base H6 p1).rwCells H.size = some [fl, p, .int .i64 ((d : Int) + 1), .bool false] := hle6.rwCells (base_rw a3 x3)
        have y6 : (base H6 p1).rwCells (H.size + 1) = some [.sl none 0 0 true 0, .sl none 0 0 true 0, .int .i64 0, .bool false] := hle6.rwCells (base_rw a6 x6)
        have z6 := (base_le H6 p1).rwCells y6
        have hsz6 := (Heap.rwCells_blk z6).1
        have hof1 := hof.1
        have hndB6 := (hnd.trans hnd5).trans hnd6
        have q6 := apart_of y6
        have hdead : ∀ b, H.size ≤ b → b < H3.size → B6.blk b = .dead := fun b h1 h2 => hnd6.2 b (Nat.lt_of_lt_of_le h2 hsz5) (hnd5.2 b (by rw [hsB]; exact h2) (pad_dead (by omega)))
        have fin1 : ∀ (c4 d4 : List AV), Le (base H p) (base (((H6.alloc c4).upd H6.size (.cells d4 true)).upd (H.size + 1) (.cells d4 true)) p1) := by
          intro c4 d4
          rw [base_upd q6, base_upd (hap1 _ (Nat.le_refl _))]
          exact ((((base_mono hH05 p).trans hle6).trans (base_mono (Le.alloc _ _) p1)).updFresh (by rw [base_size]; omega)).updFresh (by rw [base_size]; omega)
        simp (maxSteps := 2000000) (disch := first | omega | assumption | exact idP rfl | exact idP (bL rfl) | (simp only [alloc_size, upd_size]; done) | (simp only [alloc_size, upd_size]; omega) | fail) only [go_sem, reduceIte, Nat.reduceEqDiff]
        cases res1 with
        | sat m1 =>
          obtain ⟨rfl, rfl, hpl, hwi⟩ := hsat1 m1 rfl
          have ho1' := hpl.one
          simp (maxSteps := 2000000) (disch := first | omega | assumption | exact idP rfl | exact idP (bL rfl) | (simp only [alloc_size, upd_size]; done) | (simp only [alloc_size, upd_size]; omega) | fail) only [go_sem, reduceIte, Nat.reduceEqDiff, z6]
          refine hR _ _ ⟨.sat m1, P1, d1, p1, w1, true, false, B6, .left hforce hnext ha0 htry1 (by intro h; cases h), rfl, hndB6, fin1 _ _, fun b hb => hap1 b (Nat.le_trans (Nat.le_succ _) hb), ho1, how1, fun h => (by cases h), fun h => (by cases h), fun m' h => ?_⟩
          cases h
          exact ⟨rfl, rfl, ((hpl.le (Le.alloc _ _)).updFresh (hap1 _ (Nat.le_refl _)) (by have := hpl.1.1; rw [base_size] at this; exact this)).upd q6 (hdead _ (by omega) (by omega)), hwi⟩
        | cut =>
          obtain ⟨rfl, rfl, rfl⟩ := hcut1 rfl
          have hc1 : cellsOf p1 = some [p1] := by cases p1 <;> first | rfl | cases ho1
          simp (maxSteps := 2000000) (disch := first | omega | assumption | exact idP rfl | exact idP (bL rfl) | (simp only [alloc_size, upd_size]; done) | (simp only [alloc_size, upd_size]; omega) | fail) only [go_sem, reduceIte, Nat.reduceEqDiff, z6, hc1]
          exact hR _ _ ⟨.cut, P1, d1, p1, _, false, true, B6, .left hforce hnext ha0 htry1 (by intro h; cases h), rfl, hndB6, fin1 _ _, fun b hb => hap1 b (Nat.le_trans (Nat.le_succ _) hb), ho1, how1, fun h => (by cases h), fun _ => ⟨rfl, rfl, rfl⟩, fun m' h => (by cases h)⟩
        | no =>
          obtain ⟨rfl, rfl, hpl, hlen1, hd1', _⟩ := hno1 rfl
          have hgl1 : (g ++ [-(a : Int)]).length = g.length + 1 := by simp
          have hdl1 : d1 ≤ 1400 := by omega
          have hpo1 := hpl.one
          have hB6s : B6.size ≤ H6.size := by have := hpl.1.1; rw [base_size] at this; exact this
          have z3 := (base_le H6 p1).rwCells y3
          have hsz3 := (Heap.rwCells_blk z3).1
          have q3 := apart_of y3
          have q11 := hap1 _ (Nat.le_refl H6.size)
          obtain ⟨pc1, hown1, _⟩ := hpl.own
          simp (maxSteps := 2000000) (disch := first | omega | assumption | exact idP rfl | exact idP (bL rfl) | (simp only [alloc_size, upd_size]; done) | (simp only [alloc_size, upd_size]; omega) | fail) only [go_sem, reduceIte, Nat.reduceEqDiff]
          have hB7 : Le B6 ((H6.alloc [.sl none 0 0 true 0, .sl none 0 0 true 0, .int .i64 0, .bool false]).upd H6.size (.cells [fl, p1, .int .i64 (d1 : Int), .bool false] true)) := ((hpl.1.trans (base_le H6 p1)).allocs).updFresh hB6s
          refine (s_l3Copy ((hgv.le hndB6.1).le hB7) (by omega)).mono ?_
          rintro c2 H8 ⟨hc2, hle8, hnc2⟩
          have hH8 := hle8.trans (base_le _ _)
          have v11 : H8.rwCells H6.size = some [fl, p1, .int .i64 (d1 : Int), .bool false] := hH8.rwCells (by simp (maxSteps := 2000000) (disch := first | omega | assumption | exact idP rfl | exact idP (bL rfl) | (simp only [alloc_size, upd_size]; done) | (simp only [alloc_size, upd_size]; omega) | fail) only [go_sem, reduceIte, Nat.reduceEqDiff])
          have m0 : H8.get H6.size 0 = some fl := by obtain ⟨q1, q2⟩ := Heap.rwCells_blk v11; exact Rd.blk q1 q2 0 fl rfl
          have m1 : H8.get H6.size 1 = some p1 := by obtain ⟨q1, q2⟩ := Heap.rwCells_blk v11; exact Rd.blk q1 q2 1 p1 rfl
          have m2 : H8.get H6.size 2 = some (.int .i64 (d1 : Int)) := by obtain ⟨q1, q2⟩ := Heap.rwCells_blk v11; exact Rd.blk q1 q2 2 _ rfl
          have m3 : H8.get H6.size 3 = some (.bool false) := by obtain ⟨q1, q2⟩ := Heap.rwCells_blk v11; exact Rd.blk q1 q2 3 _ rfl
          simp (maxSteps := 2000000) (disch := first | omega | assumption | exact idP rfl | exact idP (bL rfl) | (simp only [alloc_size, upd_size]; done) | (simp only [alloc_size, upd_size]; omega) | fail) only [go_sem, reduceIte, Nat.reduceEqDiff, m0, m1, m2, m3]
          refine app1 hc2 hle8 hnc2 rfl (by simp; omega) (by omega) ?_
          intro c3 H9 hc3 hle9 hnc3 _
          have hH9 := hle9.trans (base_le _ _)
          have x11 : H9.rwCells H6.size = some [fl, p1, .int .i64 (d1 : Int), .bool false] := hH9.rwCells (by simp (maxSteps := 2000000) (disch := first | omega | assumption | exact idP rfl | exact idP (bL rfl) | (simp only [alloc_size, upd_size]; done) | (simp only [alloc_size, upd_size]; omega) | fail) only [go_sem, reduceIte, Nat.reduceEqDiff])
          have n0 : H9.get H6.size 0 = some fl := by obtain ⟨q1, q2⟩ := Heap.rwCells_blk x11; exact Rd.blk q1 q2 0 fl rfl
          have n1 : H9.get H6.size 1 = some p1 := by obtain ⟨q1, q2⟩ := Heap.rwCells_blk x11; exact Rd.blk q1 q2 1 p1 rfl
          have n2 : H9.get H6.size 2 = some (.int .i64 (d1 : Int)) := by obtain ⟨q1, q2⟩ := Heap.rwCells_blk x11; exact Rd.blk q1 q2 2 _ rfl
          have n3 : H9.get H6.size 3 = some (.bool false) := by obtain ⟨q1, q2⟩ := Heap.rwCells_blk x11; exact Rd.blk q1 q2 3 _ rfl
          simp (maxSteps := 2000000) (disch := first | omega | assumption | exact idP rfl | exact idP (bL rfl) | (simp only [alloc_size, upd_size]; done) | (simp only [alloc_size, upd_size]; omega) | fail) only [go_sem, reduceIte, Nat.reduceEqDiff, n0, n1, n2, n3]
          have hL69 : Le H6 H9 := ((Le.alloc H6 _).updFresh (Nat.le_refl _)).trans hH9
          have hsz9 : H6.size + 1 ≤ H9.size := hH9.1
          have hsB7 : (B6.pad (H6.size + 1)).size = H6.size + 1 := pad_size _ _
          have hndp : Nd B6 (B6.pad (H6.size + 1)) := pad_nd (by omega)
          have hBp9 : Le (B6.pad (H6.size + 1)) (base H9 p1) := pad_le (hpl.1.trans (base_mono hL69 p1)) (by rw [base_size]; exact hsz9)
          have hB9 : Le ((B6.pad (H6.size + 1)).over H9) (base H9 p1) := over_le hBp9 base_size.symm fun b hb => base_blk (apart_fresh hown1 (by omega))
          have hnd9 : Nd (B6.pad (H6.size + 1)) ((B6.pad (H6.size + 1)).over H9) := over_nd (by omega)
          have hp9 := (hpl.le hL69).at (hndp.trans hnd9).1 hB9
          have hci3 : IsI ((B6.pad (H6.size + 1)).over H9) c3 (g ++ [(a : Int)]) := by
            have h1 : Own 1 H9 c3 ((g ++ [(a : Int)]).map (AV.int .i64)) := by rw [List.map_append]; exact hc3
            have h2 : newer (H6.size + 1) c3 := hnc3
            have := later_over (B6.pad (H6.size + 1)) H9
            rw [hsB7] at this
            exact (h1.later h2).isI.le this
          refine (ih (B := (B6.pad (H6.size + 1)).over H9) (H := H9) (k := a) (by omega) han hlow2 rfl (hfl.le ((hndB6.trans hndp).trans hnd9).1) hci3 hp9 hlen1 (by simp; omega)).mono ?_
          rintro r H10 ⟨res2, P2, d2, p2, w2, ok2, ct2, B10, htry2, rfl, hnd10, hle10, hap2, ho2, how2, hno2, hcut2, hsat2⟩
          have hLb : Le (base H6 p1) (base H10 p2) := (base_mono hL69 p1).trans hle10
          have yy3 := hLb.rwCells y3
          have yy6 := hLb.rwCells y6
          have zz3 := (base_le H10 p2).rwCells yy3
          have zz6 := (base_le H10 p2).rwCells yy6
          have hsz63 := (Heap.rwCells_blk zz6).1
          have hsz33 := (Heap.rwCells_blk zz3).1
          have qq3 := apart_of yy3
          have qq6 := apart_of yy6
          have hndB10 := ((hndB6.trans hndp).trans hnd9).trans hnd10
          have hdead2 : ∀ b, H.size ≤ b → b < H3.size → B10.blk b = .dead := fun b h1 h2 => by
            have e6 := hdead b h1 h2
            have hb6 : b < B6.size := Nat.lt_of_lt_of_le h2 (Nat.le_trans hsz5 hnd6.1.1)
            exact ((hndp.trans hnd9).trans hnd10).2 b hb6 e6
          have hLe10 : Le (base H p) (base H10 p2) := ((base_mono hH05 p).trans hle6).trans hLb
          have fin2 : ∀ (c4 d4 : List AV), Le (base H p) (base (((H10.alloc c4).upd H10.size (.cells d4 true)).upd (H.size + 1) (.cells d4 true)) p2) := by
            intro c4 d4
            rw [base_upd qq6, base_upd (hap2 _ (Nat.le_refl _))]
            exact ((hLe10.trans (base_mono (Le.alloc _ _) p2)).updFresh (by rw [base_size]; omega)).updFresh (by rw [base_size]; omega)
          simp (maxSteps := 2000000) (disch := first | omega | assumption | exact idP rfl | exact idP (bL rfl) | (simp only [alloc_size, upd_size]; done) | (simp only [alloc_size, upd_size]; omega) | fail) only [go_sem, reduceIte, Nat.reduceEqDiff]
          cases res2 with
          | sat m2 =>
            obtain ⟨rfl, rfl, hpl2, hwi2⟩ := hsat2 m2 rfl
            have ho2' := hpl2.one
            simp (maxSteps := 2000000) (disch := first | omega | assumption | exact idP rfl | exact idP (bL rfl) | (simp only [alloc_size, upd_size]; done) | (simp only [alloc_size, upd_size]; omega) | fail) only [go_sem, reduceIte, Nat.reduceEqDiff, zz6]
            refine hR _ _ ⟨.sat m2, P2, d2, p2, w2, true, false, B10, .right hforce hnext ha0 htry1 htry2 (by intro h; cases h), rfl, hndB10, fin2 _ _, fun b hb => hap2 b (Nat.le_trans (Nat.le_succ _) hb), ho2, how2, fun h => (by cases h), fun h => (by cases h), fun m' h => ?_⟩
            cases h
            exact ⟨rfl, rfl, ((hpl2.le (Le.alloc _ _)).updFresh (hap2 _ (Nat.le_refl _)) (by have := hpl2.1.1; rw [base_size] at this; exact this)).upd qq6 (hdead2 _ (by omega) (by omega)), hwi2⟩
          | cut =>
            obtain ⟨rfl, rfl, rfl⟩ := hcut2 rfl
            have hc2' : cellsOf p2 = some [p2] := by cases p2 <;> first | rfl | cases ho2
            simp (maxSteps := 2000000) (disch := first | omega | assumption | exact idP rfl | exact idP (bL rfl) | (simp only [alloc_size, upd_size]; done) | (simp only [alloc_size, upd_size]; omega) | fail) only [go_sem, reduceIte, Nat.reduceEqDiff, zz6, hc2']
            exact hR _ _ ⟨.cut, P2, d2, p2, _, false, true, B10, .right hforce hnext ha0 htry1 htry2 (by intro h; cases h), rfl, hndB10, fin2 _ _, fun b hb => hap2 b (Nat.le_trans (Nat.le_succ _) hb), ho2, how2, fun h => (by cases h), fun _ => ⟨rfl, rfl, rfl⟩, fun m' h => (by cases h)⟩
          | no =>
            obtain ⟨rfl, rfl, hpl2, hlen2, hd2', _⟩ := hno2 rfl
            have ho2' := hpl2.one
            have hb10 : B10.size ≤ H10.size := by have := hpl2.1.1; rw [base_size] at this; exact this
            have hs3b : H3.size ≤ B10.size := Nat.le_trans (Nat.le_trans hsz5 hnd6.1.1) ((hndp.trans hnd9).trans hnd10).1.1
            have hndq : Nd B10 (B10.pad (H10.size + 1)) := pad_nd (by omega)
            simp (maxSteps := 2000000) (disch := first | omega | assumption | exact idP rfl | exact idP (bL rfl) | (simp only [alloc_size, upd_size]; done) | (simp only [alloc_size, upd_size]; omega) | fail) only [go_sem, reduceIte, Nat.reduceEqDiff, zz3]
            refine wp_seq'.mp (try_leaf (B := B10.pad (H10.size + 1)) (c6 := [.sl none 0 0 true 0, .sl none 0 0 true 0, .int .i64 0, .bool false]) (p := p2) (d := d2) (t3 := H.size) (t6 := H.size + 1) hn hlow.asc hlow.lits (by omega) hlen2 hof.1 ?_ ?_ ?_ ?_ (by omega) rfl rfl (hndq.2 _ (by omega) (hdead2 _ (by omega) (by omega))) (hndq.2 _ (by omega) (hdead2 _ (by omega) (by omega))) (base_rw qq3 (by simp (maxSteps := 2000000) (disch := first | omega | assumption | exact idP rfl | exact idP (bL rfl) | (simp only [alloc_size, upd_size]; done) | (simp only [alloc_size, upd_size]; omega) | fail) only [go_sem, reduceIte, Nat.reduceEqDiff])) (base_rw qq6 (by simp (maxSteps := 2000000) (disch := first | omega | assumption | exact idP rfl | exact idP (bL rfl) | (simp only [alloc_size, upd_size]; done) | (simp only [alloc_size, upd_size]; omega) | fail) only [go_sem, reduceIte, Nat.reduceEqDiff, zz6])) ?_ (hgv.le (hndB10.trans hndq).1) ?_)
            · simp (maxSteps := 2000000) (disch := first | omega | assumption | exact idP rfl | exact idP (bL rfl) | (simp only [alloc_size, upd_size]; done) | (simp only [alloc_size, upd_size]; omega) | fail) only [go_sem, reduceIte, Nat.reduceEqDiff]
            · simp (maxSteps := 2000000) (disch := first | omega | assumption | exact idP rfl | exact idP (bL rfl) | (simp only [alloc_size, upd_size]; done) | (simp only [alloc_size, upd_size]; omega) | fail) only [go_sem, reduceIte, Nat.reduceEqDiff]
            · simp (maxSteps := 2000000) (disch := first | omega | assumption | exact idP rfl | exact idP (bL rfl) | (simp only [alloc_size, upd_size]; done) | (simp only [alloc_size, upd_size]; omega) | fail) only [go_sem, reduceIte, Nat.reduceEqDiff]
            · simp (maxSteps := 2000000) (disch := first | omega | assumption | exact idP rfl | exact idP (bL rfl) | (simp only [alloc_size, upd_size]; done) | (simp only [alloc_size, upd_size]; omega) | fail) only [go_sem, reduceIte, Nat.reduceEqDiff]
            · have hplu := ((hpl2.le (Le.alloc H10 [.sl none 0 0 true 0, .sl none 0 0 true 0, .int .i64 0, .bool false])).updFresh (x := .cells [fl, p2, .int .i64 (d2 : Int), .bool false] true) (hap2 _ (Nat.le_refl _)) hb10).upd (x := .cells [fl, p2, .int .i64 (d2 : Int), .bool false] true) qq3 (hdead2 _ (by omega) (by omega))
              exact hplu.at hndq.1 (pad_le hplu.1 (by rw [base_size]; exact Nat.le_refl _))
            · intro B' H' p' hn' hp' hle'
              have hap' : ∀ b, H'.size ≤ b → apart b p' := fun b hb => by obtain ⟨_, q, _⟩ := hp'.own; exact apart_fresh q hb
              have hLz : Le (base H p) (base H' p') := by
                refine Le.trans ?_ hle'
                rw [base_upd qq3, base_upd (hap2 _ (Nat.le_refl _))]
                exact ((((hLe10.trans (base_mono (Le.alloc _ _) p2)).updFresh (by rw [base_size]; omega)).updFresh (by rw [base_size]; exact Nat.le_refl _)).killFresh (by rw [base_size]; exact Nat.le_refl _)).killFresh (by rw [base_size]; omega)
              by_cases h6 : P2.length = 600
              · refine hR _ _ ⟨.cut, P2, d2, p', _, _, _, B', .bothC hforce hnext ha0 htry1 htry2 h6, rfl, (hndB10.trans hndq).trans hn', hLz, hap', hp'.one.1, rfl, fun h => (by cases h), fun _ => ⟨?_, rfl, rfl⟩, fun m h => (by cases h)⟩
                simp [h6]
              · refine hR _ _ ⟨.no, _, d2, p', _, _, _, B', .bothN hforce hnext ha0 htry1 htry2 h6, rfl, (hndB10.trans hndq).trans hn', hLz, hap', hp'.one.1, rfl, fun _ => ⟨?_, rfl, hp', ?_, ?_, rfl⟩, fun h => (by cases h), fun m h => (by cases h)⟩
                · simp; omega
                · simp; omega
                · simp at hd2' ⊢; omega
end Go.M2

namespace Go.M2
open Go.Proofs
variable {H : Heap}
theorem clOk_lits {n : Nat} {xs : List Int} (h : ClOk (n : Int) xs) : Lits n xs := by
  intro x hx
  obtain ⟨i, hi, rfl⟩ := List.getElem_of_mem hx
  have := litOk_iff.1 (h i hi).1
  omega
def SearchPost (cl : List (List Int)) (n : Nat) (H : Heap) (r : AV) (H' : Heap) : Prop :=
  ∃ (res : Res) (P' : List (List Int)) (d' : Nat) (fl p' w : AV) (ok ct : Bool) (B' : Heap), Try cl n [] [] 0 res P' d' ∧ r = .tup [.agg [fl, p', .int .i64 (d' : Int), .bool ct], w, .bool ok] ∧ Le H H' ∧ oneA fl = true ∧ oneA p' = true ∧ oneA w = true ∧
    (res = .no → ct = false ∧ ok = false ∧ PL B' H' p' P' ∧ w = .sl none 0 0 true 0) ∧ (res = .cut → ct = true ∧ ok = false ∧ w = .sl none 0 0 true 0) ∧ (∀ m, res = .sat m → ct = false ∧ ok = true ∧ IsI B' w ((m.drop 1).map valF) ∧ Le B' (base H' p'))
theorem s_l12Search {x : AV} {n : Nat} {xss : List (List Int)} (hx : IsCl H x (n : Int) xss) (hok : ClsOk (n : Int) xss) (hl : xss.length ≤ 1048576) (hxl : ∀ xs ∈ xss, xs.length ≤ 1048576) :
    ACall Try.prog n_spec_l12Search [x] H (SearchPost xss n H) := by
  refine ACall.of fun R hR => a_spec_l12Search rfl ?_
  obtain ⟨fl, rfl, hv⟩ := hx
  have hof := oneA_isS hv
  have hof1 := hof.1
  have hn := hok.hi
  simp (maxSteps := 2000000) (disch := first | omega | assumption | exact idP rfl | exact idP (bL rfl) | (simp only [alloc_size, upd_size]; done) | (simp only [alloc_size, upd_size]; omega) | fail) only [go_sem, reduceIte, Nat.reduceEqDiff, hof.2]
  have hH3 : Le H (((H.alloc [.int .i64 (n : Int), fl]).alloc [.sl none 0 0 true 0, .sl none 0 0 true 0, .int .i64 0, .bool false]).alloc []) := (Le.refl _).allocs.allocs.allocs
  have hnp : Nd H (H.pad (H.size + 1 + 1 + 1)) := pad_nd (by omega)
  have hpl : PL (H.pad (H.size + 1 + 1 + 1)) (((H.alloc [.int .i64 (n : Int), fl]).alloc [.sl none 0 0 true 0, .sl none 0 0 true 0, .int .i64 0, .bool false]).alloc []) (.sl none 0 0 true 0) [] :=
    ⟨pad_le hH3 (Nat.le_refl _), [], Own.nil, rfl, fun i h => by simp at h⟩
  refine (s_l12Try (n := n) (xss := xss) (by omega) hl hxl (fun xs h => clOk_lits (hok.all xs h)) (n + 1) (B := H.pad (H.size + 1 + 1 + 1)) (H := ((H.alloc [.int .i64 (n : Int), fl]).alloc [.sl none 0 0 true 0, .sl none 0 0 true 0, .int .i64 0, .bool false]).alloc []) (g := []) (P := []) (d := 0) (k := 0) (by omega) (by omega) (Low.nil _ _) rfl (hv.le hnp.1) ⟨_, 0, true, 1, rfl, fun i h => by simp at h⟩ hpl (by simp) (by simp)).mono ?_
  rintro r H4 ⟨res, P', d', p', w, ok, ct, B', htry, rfl, hnd, hle, hap, ho1, how, hno, hcut, hsat⟩
  have hle' : Le (((H.alloc [.int .i64 (n : Int), fl]).alloc [.sl none 0 0 true 0, .sl none 0 0 true 0, .int .i64 0, .bool false]).alloc []) (base H4 p') := hle
  have z2b : (base H4 p').rwCells (H.size + 1) = some [.sl none 0 0 true 0, .sl none 0 0 true 0, .int .i64 0, .bool false] := hle'.rwCells (by simp (maxSteps := 2000000) (disch := first | omega | assumption | exact idP rfl | exact idP (bL rfl) | (simp only [alloc_size, upd_size]; done) | (simp only [alloc_size, upd_size]; omega) | fail) only [go_sem, reduceIte, Nat.reduceEqDiff])
  have q2 := apart_of z2b
  have z2 := (base_le H4 p').rwCells z2b
  have hsz := (Heap.rwCells_blk z2).1
  have hc1 : cellsOf p' = some [p'] := by cases p' <;> first | rfl | cases ho1
  have hd2 : B'.blk (H.size + 1) = .dead := hnd.2 _ (by rw [pad_size]; omega) (pad_dead (by omega))
  simp (maxSteps := 2000000) (disch := first | omega | assumption | exact idP rfl | exact idP (bL rfl) | (simp only [alloc_size, upd_size]; done) | (simp only [alloc_size, upd_size]; omega) | fail) only [go_sem, reduceIte, Nat.reduceEqDiff, z2, hc1]
  refine hR _ _ ⟨res, P', d', fl, p', w, ok, ct, B', htry, rfl, ((hH3.trans (hle'.trans (base_le _ _))).updFresh (by omega)), hof1, ho1, how, fun h => ?_, hcut, fun m h => ?_⟩
  · obtain ⟨h1, h2, h3, _, _, h4⟩ := hno h
    exact ⟨h1, h2, h3.upd q2 hd2, h4⟩
  · obtain ⟨h1, h2, h3, h4⟩ := hsat m h
    exact ⟨h1, h2, h4, (h3.upd q2 hd2).1⟩
end Go.M2

namespace Go.M2
open Go.Proofs
variable {H : Heap}
end Go.M2

namespace Go.M2
open Go.Proofs
variable {H : Heap}
def cmpI (a b : Int) : Int := if a < b then -1 else if b < a then 1 else 0
theorem s_isNaN {a : Int} : ACall Try.prog n_cmp_isNaN_int [.int .i64 a] H (fun r H' => H' = H ∧ r = .bool false) := by
  refine ACall.of fun R hR => a_cmp_isNaN_int rfl ?_
  simp (maxSteps := 2000000) (disch := first | omega | assumption | exact idP rfl | exact idP (bL rfl) | (simp only [alloc_size, upd_size]; done) | (simp only [alloc_size, upd_size]; omega) | fail) only [go_sem, reduceIte, Nat.reduceEqDiff]
  exact hR _ _ ⟨rfl, rfl⟩
theorem s_Compare {a b : Int} : ACall Try.prog n_cmp_Compare_int [.int .i64 a, .int .i64 b] H (fun r H' => H' = H ∧ r = .int .i64 (cmpI a b)) := by
  refine ACall.of fun R hR => a_cmp_Compare_int rfl ?_
  simp (maxSteps := 2000000) (disch := first | omega | assumption | exact idP rfl | exact idP (bL rfl) | (simp only [alloc_size, upd_size]; done) | (simp only [alloc_size, upd_size]; omega) | fail) only [go_sem, reduceIte, Nat.reduceEqDiff]
  refine s_isNaN.mono ?_
  rintro r H1 ⟨rfl, rfl⟩
  simp (maxSteps := 2000000) (disch := first | omega | assumption | exact idP rfl | exact idP (bL rfl) | (simp only [alloc_size, upd_size]; done) | (simp only [alloc_size, upd_size]; omega) | fail) only [go_sem, reduceIte, Nat.reduceEqDiff]
  refine s_isNaN.mono ?_
  rintro r H2 ⟨rfl, rfl⟩
  by_cases h : a < b
  · simp (maxSteps := 2000000) (disch := first | omega | assumption | exact idP rfl | exact idP (bL rfl) | (simp only [alloc_size, upd_size]; done) | (simp only [alloc_size, upd_size]; omega) | fail) only [go_sem, reduceIte, Nat.reduceEqDiff, h]
    exact hR _ _ ⟨rfl, by simp [cmpI, h]⟩
  · by_cases h2 : b < a
    · simp (maxSteps := 2000000) (disch := first | omega | assumption | exact idP rfl | exact idP (bL rfl) | (simp only [alloc_size, upd_size]; done) | (simp only [alloc_size, upd_size]; omega) | fail) only [go_sem, reduceIte, Nat.reduceEqDiff, h, h2]
      exact hR _ _ ⟨rfl, by simp [cmpI, h, h2]⟩
    · simp (maxSteps := 2000000) (disch := first | omega | assumption | exact idP rfl | exact idP (bL rfl) | (simp only [alloc_size, upd_size]; done) | (simp only [alloc_size, upd_size]; omega) | fail) only [go_sem, reduceIte, Nat.reduceEqDiff, h, h2]
      exact hR _ _ ⟨rfl, by simp [cmpI, h, h2]⟩
theorem s_Or2 {b : Nat} {x y : Int} (hx : H.get b 0 = some (.int .i64 x)) (hy : H.get b 1 = some (.int .i64 y)) : ACall Try.prog n_cmp_Or_int [.sl (some (b, 0)) 2 2 true 1] H (fun r H' => H' = H ∧ r = .int .i64 (if x ≠ 0 then x else y)) := by
  refine ACall.of fun R hR => a_cmp_Or_int rfl ?_
  simp (maxSteps := 2000000) (disch := first | omega | assumption | exact idP rfl | exact idP (bL rfl) | (simp only [alloc_size, upd_size]; done) | (simp only [alloc_size, upd_size]; omega) | fail) only [go_sem, reduceIte, Nat.reduceEqDiff]
  refine wp_loop_k (fun e H' => H' = H ∧ ∃ (i : Nat), i ≤ 2 ∧ e 3 = .int .i64 0 ∧ e 6 = .sl (some (b, 0)) 2 2 true 1 ∧ e 7 = .int .i64 ((2 : Nat) : Int) ∧ e 8 = .int .i64 (i : Int) ∧ (1 ≤ i → x = 0) ∧ (2 ≤ i → y = 0)) (fun e _ => ctr 2 (e 8)) ?_ ?_
  · exact ⟨rfl, 0, by omega, by simp (maxSteps := 2000000) (disch := first | omega | assumption | exact idP rfl | exact idP (bL rfl) | (simp only [alloc_size, upd_size]; done) | (simp only [alloc_size, upd_size]; omega) | fail) only [go_sem, reduceIte, Nat.reduceEqDiff], by simp (maxSteps := 2000000) (disch := first | omega | assumption | exact idP rfl | exact idP (bL rfl) | (simp only [alloc_size, upd_size]; done) | (simp only [alloc_size, upd_size]; omega) | fail) only [go_sem, reduceIte, Nat.reduceEqDiff], by simp (maxSteps := 2000000) (disch := first | omega | assumption | exact idP rfl | exact idP (bL rfl) | (simp only [alloc_size, upd_size]; done) | (simp only [alloc_size, upd_size]; omega) | fail) only [go_sem, reduceIte, Nat.reduceEqDiff], by simp (maxSteps := 2000000) (disch := first | omega | assumption | exact idP rfl | exact idP (bL rfl) | (simp only [alloc_size, upd_size]; done) | (simp only [alloc_size, upd_size]; omega) | fail) only [go_sem, reduceIte, Nat.reduceEqDiff]; rfl, by omega, by omega⟩
  · rintro e H1 ⟨rfl, i, hi, e3, e6, e7, e8, h1, h2⟩ K hK
    simp (maxSteps := 2000000) (disch := first | omega | assumption | exact idP rfl | exact idP (bL rfl) | (simp only [alloc_size, upd_size]; done) | (simp only [alloc_size, upd_size]; omega) | fail) only [go_sem, reduceIte, Nat.reduceEqDiff, e7, e8]
    refine condV_dec (fun h => ?_) (fun h => ?_)
    · obtain ⟨z, hz, hz2⟩ : ∃ z, H1.get b i = some (.int .i64 z) ∧ (i = 0 → z = x) ∧ (i = 1 → z = y) := by
        rcases (show i = 0 ∨ i = 1 by omega) with rfl | rfl
        · exact ⟨x, hx, fun _ => rfl, fun h => by omega⟩
        · exact ⟨y, hy, fun h => by omega, fun _ => rfl⟩
      simp (maxSteps := 2000000) (disch := first | omega | assumption | exact idP rfl | exact idP (bL rfl) | (simp only [alloc_size, upd_size]; done) | (simp only [alloc_size, upd_size]; omega) | fail) only [go_sem, reduceIte, Nat.reduceEqDiff, e3, e6, e8, hz]
      by_cases hz0 : z = 0
      · simp (maxSteps := 2000000) (disch := first | omega | assumption | exact idP rfl | exact idP (bL rfl) | (simp only [alloc_size, upd_size]; done) | (simp only [alloc_size, upd_size]; omega) | fail) only [go_sem, reduceIte, Nat.reduceEqDiff, hz0, e8]
        exact hK _ _ ⟨rfl, i + 1, by omega, by simp (maxSteps := 2000000) (disch := first | omega | assumption | exact idP rfl | exact idP (bL rfl) | (simp only [alloc_size, upd_size]; done) | (simp only [alloc_size, upd_size]; omega) | fail) only [go_sem, reduceIte, Nat.reduceEqDiff, e3], by simp (maxSteps := 2000000) (disch := first | omega | assumption | exact idP rfl | exact idP (bL rfl) | (simp only [alloc_size, upd_size]; done) | (simp only [alloc_size, upd_size]; omega) | fail) only [go_sem, reduceIte, Nat.reduceEqDiff, e6], by simp (maxSteps := 2000000) (disch := first | omega | assumption | exact idP rfl | exact idP (bL rfl) | (simp only [alloc_size, upd_size]; done) | (simp only [alloc_size, upd_size]; omega) | fail) only [go_sem, reduceIte, Nat.reduceEqDiff, e7], by simp (maxSteps := 2000000) (disch := first | omega | assumption | exact idP rfl | exact idP (bL rfl) | (simp only [alloc_size, upd_size]; done) | (simp only [alloc_size, upd_size]; omega) | fail) only [go_sem, reduceIte, Nat.reduceEqDiff]; rfl, fun _ => by
          by_cases h0 : i = 0
          · rw [← hz2.1 h0]; exact hz0
          · exact h1 (by omega), fun _ => by rw [← hz2.2 (by omega)]; exact hz0⟩ (by simp (maxSteps := 2000000) (disch := first | omega | assumption | exact idP rfl | exact idP (bL rfl) | (simp only [alloc_size, upd_size]; done) | (simp only [alloc_size, upd_size]; omega) | fail) only [go_sem, reduceIte, Nat.reduceEqDiff, ctr_int, e8]; omega)
      · simp (maxSteps := 2000000) (disch := first | omega | assumption | exact idP rfl | exact idP (bL rfl) | (simp only [alloc_size, upd_size]; done) | (simp only [alloc_size, upd_size]; omega) | fail) only [go_sem, reduceIte, Nat.reduceEqDiff, hz0]
        refine hR _ _ ⟨rfl, ?_⟩
        rcases (show i = 0 ∨ i = 1 by omega) with rfl | rfl
        · obtain rfl := hz2.1 rfl; simp [hz0]
        · obtain rfl := hz2.2 rfl; simp [h1 (by omega)]
    · simp (maxSteps := 2000000) (disch := first | omega | assumption | exact idP rfl | exact idP (bL rfl) | (simp only [alloc_size, upd_size]; done) | (simp only [alloc_size, upd_size]; omega) | fail) only [go_sem, reduceIte, Nat.reduceEqDiff, e3]
      exact hR _ _ ⟨rfl, by simp [h1 (by omega), h2 (by omega)]⟩
def cmpL (a b : Int) : Int := if cmpI a.natAbs b.natAbs ≠ 0 then cmpI a.natAbs b.natAbs else cmpI a b
theorem s_clauseOf1 {a b : Int} (ha : -9223372036854775808 < a ∧ a ≤ 9223372036854775807) (hb : -9223372036854775808 < b ∧ b ≤ 9223372036854775807) :
    ACall Try.prog n_impl_clauseOf_1 [.int .i64 a, .int .i64 b] H (fun r H' => Le H H' ∧ r = .int .i64 (cmpL a b)) := by
  refine ACall.of fun R hR => a_impl_clauseOf_1 rfl ?_
  simp (maxSteps := 2000000) (disch := first | omega | assumption | exact idP rfl | exact idP (bL rfl) | (simp only [alloc_size, upd_size]; done) | (simp only [alloc_size, upd_size]; omega) | fail) only [go_sem, reduceIte, Nat.reduceEqDiff]
  refine (s_atomOf ha.1 ha.2).mono ?_
  rintro r H1 ⟨rfl, rfl⟩
  simp (maxSteps := 2000000) (disch := first | omega | assumption | exact idP rfl | exact idP (bL rfl) | (simp only [alloc_size, upd_size]; done) | (simp only [alloc_size, upd_size]; omega) | fail) only [go_sem, reduceIte, Nat.reduceEqDiff]
  refine (s_atomOf hb.1 hb.2).mono ?_
  rintro r H2 ⟨rfl, rfl⟩
  simp (maxSteps := 2000000) (disch := first | omega | assumption | exact idP rfl | exact idP (bL rfl) | (simp only [alloc_size, upd_size]; done) | (simp only [alloc_size, upd_size]; omega) | fail) only [go_sem, reduceIte, Nat.reduceEqDiff]
  refine s_Compare.mono ?_
  rintro r H3 ⟨rfl, rfl⟩
  simp (maxSteps := 2000000) (disch := first | omega | assumption | exact idP rfl | exact idP (bL rfl) | (simp only [alloc_size, upd_size]; done) | (simp only [alloc_size, upd_size]; omega) | fail) only [go_sem, reduceIte, Nat.reduceEqDiff]
  refine s_Compare.mono ?_
  rintro r H4 ⟨rfl, rfl⟩
  have z2 : zeros [.int .i64 0] 2 = [.int .i64 0, .int .i64 0] := rfl
  simp (maxSteps := 2000000) (disch := first | omega | assumption | exact idP rfl | exact idP (bL rfl) | (simp only [alloc_size, upd_size]; done) | (simp only [alloc_size, upd_size]; omega) | fail) only [go_sem, reduceIte, Nat.reduceEqDiff, z2]
  refine (s_Or2 (x := cmpI (a.natAbs : Int) (b.natAbs : Int)) (y := cmpI a b) (by simp (maxSteps := 2000000) (disch := first | omega | assumption | exact idP rfl | exact idP (bL rfl) | (simp only [alloc_size, upd_size]; done) | (simp only [alloc_size, upd_size]; omega) | fail) only [go_sem, reduceIte, Nat.reduceEqDiff]) (by simp (maxSteps := 2000000) (disch := first | omega | assumption | exact idP rfl | exact idP (bL rfl) | (simp only [alloc_size, upd_size]; done) | (simp only [alloc_size, upd_size]; omega) | fail) only [go_sem, reduceIte, Nat.reduceEqDiff])).mono ?_
  rintro r H5 ⟨rfl, rfl⟩
  simp (maxSteps := 2000000) (disch := first | omega | assumption | exact idP rfl | exact idP (bL rfl) | (simp only [alloc_size, upd_size]; done) | (simp only [alloc_size, upd_size]; omega) | fail) only [go_sem, reduceIte, Nat.reduceEqDiff]
  exact hR _ _ ⟨Le.alloc _ _, rfl⟩
theorem app_full {by_ n k : Nat} {A : AA} {xs : List Int} {y : Int} {K : AV → Heap → Prop} (hv : IsI H (.sl A n n true k) xs) (hl : xs.length ≤ 1048576) (hby : by_ ≤ 16)
    (hk : ∀ s' H', Own 1 H' s' ((xs ++ [y]).map (AV.int .i64)) → Le H (base H' s') → newer H.size s' → K s' H') : appP 1 by_ (.sl A n n true k) (.sl (some (H.size, 0)) 1 1 true 1) (H.alloc [.int .i64 y]) K := by
  obtain ⟨hn, hrd⟩ := hv.rd
  subst hn
  have hld : loadN (H.alloc [.int .i64 y]) A.b A.o (xs.length * 1) = some (xs.map (AV.int .i64)) := by
    have := (hrd.le (Le.alloc H [.int .i64 y])).loadN
    rwa [List.length_map, ← Nat.mul_one xs.length] at this
  have hnew : loadN (H.alloc [.int .i64 y]) H.size 0 (1 * 1) = some [.int .i64 y] := by
    have := (Rd.blk (H := H.alloc [.int .i64 y]) (b := H.size) (Nat.lt_succ_self _) (alloc_new _ _)).loadN
    simpa using this
  unfold appP
  simp only [AA.b_some, AA.o_some, hnew]
  rw [if_neg (by omega), if_neg (by omega)]
  refine ⟨?_, by simp [mostCells]; omega, ?_⟩
  · have : (xs.length + 1) * by_ ≤ (xs.length + 1) * 16 := Nat.mul_le_mul_left _ hby
    simp only [mostCells]; omega
  · simp only [if_true, hld]
    refine hk _ _ ?_ ?_ ?_
    · rw [List.map_append]
      exact Own.new (by simp)
    · exact ((Le.alloc H [.int .i64 y]).trans (Le.alloc _ _)).killFresh (Nat.le_succ _)
    · exact Nat.le_succ _
theorem s_Clip {A : AA} {n c k : Nat} {ex : Bool} {xs : List Int} (hv : IsI H (.sl A n c ex k) xs) (hl : xs.length ≤ 1048576) (hc : n ≤ c) (hex : ex = true ∨ 0 < n) (hk : k = 1 ∨ True) :
    ACall Try.prog n_slices_Clip_Sint_int [.sl A n c ex k] H (fun r H' => H' = H ∧ ∃ A' k', r = .sl A' n n true k' ∧ IsI H r xs) := by
  refine ACall.of fun R hR => a_slices_Clip_Sint_int rfl ?_
  obtain ⟨hn, hrd⟩ := hv.rd
  subst hn
  simp (maxSteps := 2000000) (disch := first | omega | assumption | exact idP rfl | exact idP (bL rfl) | (simp only [alloc_size, upd_size]; done) | (simp only [alloc_size, upd_size]; omega) | fail) only [go_sem, reduceIte, Nat.reduceEqDiff]
  have e : slcF 1 none (some (.int .i64 (xs.length : Int))) (some (.int .i64 (xs.length : Int))) (.sl A xs.length c ex k) = some (.sl (if xs.length = 0 then A else some (A.b, A.o + 0 * 1)) xs.length xs.length true k) := by
    have c1 : (0 : Int) ≤ xs.length ∧ (xs.length : Int) ≤ (c : Int) := by omega
    have c2 : (0 : Int) ≤ xs.length ∧ (xs.length : Int) ≤ (xs.length : Int) := by omega
    have b1 : bnds xs.length c none (some (.int .i64 (xs.length : Int))) (some (.int .i64 (xs.length : Int))) = some (0, xs.length, xs.length) := by
      simp only [bnds, natIn, if_pos c1, if_pos c2, Int.toNat_natCast]
    simp only [slcF, b1]
    rw [if_neg (by simp)]
    simp
  simp (maxSteps := 2000000) (disch := first | omega | assumption | exact idP rfl | exact idP (bL rfl) | (simp only [alloc_size, upd_size]; done) | (simp only [alloc_size, upd_size]; omega) | fail) only [go_sem, reduceIte, Nat.reduceEqDiff, e]
  refine hR _ _ ⟨rfl, _, k, rfl, ?_⟩
  refine ⟨_, xs.length, true, k, rfl, fun i hi => ⟨[.int .i64 xs[i]], rfl, ?_, rfl⟩⟩
  intro j z hj
  cases j with
  | zero =>
    simp at hj; subst hj
    have := hrd i (.int .i64 xs[i]) (by simp [hi])
    rw [if_neg (by omega)]
    simpa using this
  | succ j => simp at hj
end Go.M2

namespace Go.M2
open Go.Proofs
variable {H : Heap}
theorem s_Clone {A : AA} {n c k : Nat} {ex : Bool} {xs : List Int} (hv : IsI H (.sl A n c ex k) xs) (hl : xs.length ≤ 1048576) (hA : A = none → xs = []) :
    ACall Try.prog n_slices_Clone_Sint_int [.sl A n c ex k] H (fun r H' => Own 1 H' r (xs.map (AV.int .i64)) ∧ Le H (base H' r) ∧ newer H.size r) := by
  refine ACall.of fun R hR => a_slices_Clone_Sint_int rfl ?_
  obtain ⟨hn, hrd⟩ := hv.rd
  cases A with
  | none =>
    obtain rfl := hA rfl
    simp (maxSteps := 2000000) (disch := first | omega | assumption | exact idP rfl | exact idP (bL rfl) | (simp only [alloc_size, upd_size]; done) | (simp only [alloc_size, upd_size]; omega) | fail) only [go_sem, reduceIte, Nat.reduceEqDiff]
    exact hR _ _ ⟨Own.nil, Le.refl _, trivial⟩
  | some p =>
    obtain ⟨b, o⟩ := p
    simp (maxSteps := 2000000) (disch := first | omega | assumption | exact idP rfl | exact idP (bL rfl) | (simp only [alloc_size, upd_size]; done) | (simp only [alloc_size, upd_size]; omega) | fail) only [go_sem, reduceIte, Nat.reduceEqDiff]
    refine app_own (sz := 1) (by omega) (Own.new (l := []) (n := 0) rfl) (hrd.le (Le.alloc _ _)) (by simp [hn]) (by simp [List.all_map, oneA]) (by simp [mostCells]; omega) (by simp [mostCells]; omega) ?_
    intro s H2 hs hle hn2
    simp (maxSteps := 2000000) (disch := first | omega | assumption | exact idP rfl | exact idP (bL rfl) | (simp only [alloc_size, upd_size]; done) | (simp only [alloc_size, upd_size]; omega) | fail) only [go_sem, reduceIte, Nat.reduceEqDiff]
    refine hR _ _ ⟨by simpa using hs, ?_, hn2 _ (Nat.le_succ _) (Nat.le_refl _)⟩
    exact ((Le.alloc H []).killFresh (Nat.le_refl _)).trans hle
theorem setAt_all : ∀ (l z pre : List AV), z.length = l.length → setAt (pre ++ z) pre.length l = pre ++ l
  | [], z, pre, h => by
    have : z = [] := List.eq_nil_of_length_eq_zero (by simpa using h)
    subst this; rfl
  | x :: t, [], pre, h => by simp at h
  | x :: t, y :: u, pre, h => by
    simp only [setAt]
    have e1 : (pre ++ y :: u).set pre.length x = (pre ++ [x]) ++ u := by simp
    have e2 : pre.length + 1 = (pre ++ [x]).length := by simp
    rw [e1, e2, setAt_all t u (pre ++ [x]) (by simpa using h)]
    simp
theorem s_implClone {A : AA} {n c k : Nat} {ex : Bool} {xs : List Int} (hv : IsI H (.sl A n c ex k) xs) (hl : xs.length ≤ 1048576) :
    ACall Try.prog n_impl_clone_int [.sl A n c ex k] H (fun r H' => Own 1 H' r (xs.map (AV.int .i64)) ∧ Le H (base H' r) ∧ newer H.size r) := by
  refine ACall.of fun R hR => a_impl_clone_int rfl ?_
  obtain ⟨hn, hrd⟩ := hv.rd
  subst hn
  simp (maxSteps := 2000000) (disch := first | omega | assumption | exact idP rfl | exact idP (bL rfl) | (simp only [alloc_size, upd_size]; done) | (simp only [alloc_size, upd_size]; omega) | fail) only [go_sem, reduceIte, Nat.reduceEqDiff]
  refine condV_dec (fun h => ?_) (fun h => ?_)
  · have : xs = [] := List.eq_nil_of_length_eq_zero (by omega)
    subst this
    simp (maxSteps := 2000000) (disch := first | omega | assumption | exact idP rfl | exact idP (bL rfl) | (simp only [alloc_size, upd_size]; done) | (simp only [alloc_size, upd_size]; omega) | fail) only [go_sem, reduceIte, Nat.reduceEqDiff]
    exact hR _ _ ⟨Own.nil, Le.refl _, trivial⟩
  · simp (maxSteps := 2000000) (disch := first | omega | assumption | exact idP rfl | exact idP (bL rfl) | (simp only [alloc_size, upd_size]; done) | (simp only [alloc_size, upd_size]; omega) | fail) only [go_sem, reduceIte, Nat.reduceEqDiff]
    refine mks_own (by omega) (by simp [mostCells]; omega) (by simp [mostCells]; omega) ?_
    simp (maxSteps := 2000000) (disch := first | omega | assumption | exact idP rfl | exact idP (bL rfl) | (simp only [alloc_size, upd_size]; done) | (simp only [alloc_size, upd_size]; omega) | fail) only [go_sem, reduceIte, Nat.reduceEqDiff]
    have hld : loadN (H.alloc (zeros [.int .i64 0] xs.length)) A.b A.o xs.length = some (xs.map (AV.int .i64)) := by
      have := (hrd.le (Le.alloc H (zeros [.int .i64 0] xs.length))).loadN
      rw [List.length_map] at this
      exact this
    unfold copyP
    simp only [AA.b_some, AA.o_some, Nat.min_self, Nat.mul_one, hld]
    rw [if_neg (by omega), rw_alloc_new rfl]
    refine ⟨by simp [List.all_map, oneA], by rw [zeros_len rfl]; omega, ?_⟩
    have hz := setAt_all (xs.map (AV.int .i64)) (zeros [.int .i64 0] xs.length) [] (by rw [zeros_len rfl]; simp)
    simp only [List.nil_append, List.length_nil] at hz
    rw [hz]
    simp (maxSteps := 2000000) (disch := first | omega | assumption | exact idP rfl | exact idP (bL rfl) | (simp only [alloc_size, upd_size]; done) | (simp only [alloc_size, upd_size]; omega) | fail) only [go_sem, reduceIte, Nat.reduceEqDiff]
    refine hR _ _ ⟨⟨some (H.size, 0), xs.length, true, 1, rfl, by simp, fun h => (nomatch h), fun b o e => ?_⟩, ?_, Nat.le_refl _⟩
    · cases e; exact ⟨rfl, rfl, Nat.lt_succ_self _, upd_blk_same'⟩
    · show Le H ((_ : Heap).kill H.size)
      exact (((Le.alloc H _).updFresh (Nat.le_refl _))).killFresh (Nat.le_refl _)
end Go.M2

namespace Go.M2
open Go.Proofs Go.Shelf Go.Sort
variable {w0 w : World} {ρ : Nat → BI} {H : Heap}
structure LitS where
  val : Int
  ok : -9223372036854775808 < val ∧ val ≤ 9223372036854775807
theorem LitS.ext' {x y : LitS} (h : x.1 = y.1) : x = y := by
  cases x; cases y; simp only at h; subst h; rfl
instance : Inhabited LitS := ⟨⟨0, by omega, by omega⟩⟩
def encL (x : LitS) : Value := .int .i64 x.1
def eaL (x : LitS) : AV := .int .i64 x.1
def cfL (x y : LitS) : Int := cmpL x.1 y.1
theorem ltL_iff {x y : LitS} : ltOf cfL x y = true ↔ x.1.natAbs < y.1.natAbs ∨ (x.1.natAbs = y.1.natAbs ∧ x.1 < y.1) := by
  unfold ltOf cfL cmpL cmpI
  rw [decide_eq_true_eq]
  by_cases h1 : (x.1.natAbs : Int) < (y.1.natAbs : Int)
  · simp [h1]; omega
  · by_cases h2 : (y.1.natAbs : Int) < (x.1.natAbs : Int)
    · simp [h1, h2]; omega
    · by_cases h3 : x.1 < y.1
      · simp [h1, h2, h3]; omega
      · by_cases h4 : y.1 < x.1
        · simp [h1, h2, h3, h4]; omega
        · simp [h1, h2, h3, h4]; omega
theorem ltL_false {x y : LitS} : ltOf cfL x y = false ↔ ¬ (x.1.natAbs < y.1.natAbs ∨ (x.1.natAbs = y.1.natAbs ∧ x.1 < y.1)) := by
  rw [← ltL_iff]; simp
theorem swoL : SWO (ltOf cfL) where
  irrefl x := by rw [ltL_false]; omega
  trans x y z h1 h2 := by rw [ltL_iff] at h1 h2 ⊢; omega
  ntrans x y z h1 h2 := by rw [ltL_false] at h1 h2 ⊢; omega
theorem totL (x y : LitS) (h1 : ltOf cfL x y = false) (h2 : ltOf cfL y x = false) : x = y := by
  rw [ltL_false] at h1 h2
  exact LitS.ext' (by omega)
theorem HI.growB : ∀ (l : List Obj) {w : World}, HI w0 ρ H w → HI w0 ρ H (Sort.grow w l.toArray) ∧ Evol ρ H w ρ H (Sort.grow w l.toArray)
  | [], w, h => by
    have e : Sort.grow w ([] : List Obj).toArray = w := Sort.grow_empty w
    rw [e]; exact ⟨h, Evol.refl _ _ _⟩
  | o :: t, w, h => by
    have e : Sort.grow w (o :: t).toArray = Sort.grow (w.alloc o) t.toArray := by
      rw [Sort.alloc_eq_grow, Sort.grow_grow]
      congr 1
      simp
    rw [e]
    obtain ⟨h1, h2⟩ := HI.growB t (h.grow o)
    exact ⟨h1, (Evol.grow ρ H w o).trans h2⟩
theorem take_set_dropB {α : Type} {ys zs : List α} (hl : ys.length = zs.length) {k : Nat} (hk : k < ys.length) : (ys.take k ++ zs.drop k).set k ys[k] = ys.take (k + 1) ++ zs.drop (k + 1) := by
  rw [List.set_append_right _ _ (by simp; omega), List.length_take, Nat.min_eq_left (by omega), Nat.sub_self, List.drop_eq_getElem_cons (by omega : k < zs.length), List.set_cons_zero, List.take_succ_eq_append_getElem hk, List.append_assoc]
  rfl
theorem HI.putL {b : Nat} {zs : List LitS} {rest : List AV} (h : HI w0 ρ H w) (hb : b < H.size) (hblk : H.blk b = .cells (zs.map eaL ++ rest) true) {ys : List LitS} (hl : ys.length = zs.length) :
    ∀ k, k ≤ ys.length → HI w0 ρ (H.upd b (.cells ((ys.take k ++ zs.drop k).map eaL ++ rest) true)) (Sort.putRow encL w (ρ b).blk (ρ b).off (ys.take k ++ zs.drop k).toArray) ∧
      Evol ρ H w ρ (H.upd b (.cells ((ys.take k ++ zs.drop k).map eaL ++ rest) true)) (Sort.putRow encL w (ρ b).blk (ρ b).off (ys.take k ++ zs.drop k).toArray)
  | 0, _ => by
    simp only [List.take_zero, List.drop_zero, List.nil_append]
    have e : H.upd b (.cells (zs.map eaL ++ rest) true) = H := by
      cases H with
      | mk n f =>
        simp only [Heap.upd, Heap.mk.injEq, true_and]
        funext b'
        split
        · rename_i e; subst e; exact hblk.symm
        · rfl
    obtain ⟨o1, o2, cs, t, o3, o4⟩ := h.own b _ hb hblk
    have e2 : Sort.putRow encL w (ρ b).blk (ρ b).off zs.toArray = w := by
      refine Sort.mapBlock_id w _ _ fun c e fr hc => ?_
      rw [o3] at hc
      cases hc
      apply Array.ext_getElem?
      intro k
      simp only [Sort.putCells, Array.getElem?_mapIdx]
      cases hk : cs[k]? with
      | none => rfl
      | some y =>
        simp only [Option.map_some]
        split
        · rename_i hr
          obtain ⟨r1, r2⟩ := hr
          have hz : k - (ρ b).off < zs.length := by simpa using (by omega : k - (ρ b).off < zs.toArray.size)
          obtain ⟨v, hv, hr⟩ := h.cell b _ true hb hblk (k - (ρ b).off) (eaL (zs[k - (ρ b).off]'hz)) (by
            rw [List.getElem?_append_left (by simpa using hz)]; simp [hz])
          rw [show (ρ b).off + (k - (ρ b).off) = k by omega] at hv
          simp only [World.cell?, o3] at hv
          have hv : cs[k]? = some v := by simpa using hv
          rw [hk] at hv
          cases hv
          cases hr
          rw [getElem!_pos _ _ (by simpa using hz)]
          simp [encL]
        · rfl
    rw [e, e2]; exact ⟨h, Evol.refl _ _ _⟩
  | k + 1, hk => by
    obtain ⟨h1, h2⟩ := HI.putL h hb hblk hl k (by omega)
    have hk' : k < ys.length := hk
    have hsz := (h1.own b _ hb (Heap.upd_blk_same _ _ _)).2.1
    have hst := take_set_dropB hl hk'
    have hlen : (ys.take k ++ zs.drop k).length = ys.length := by simp; omega
    have h3 := h1.write (c := ((ys.take k ++ zs.drop k).map eaL ++ rest)) hb (Heap.upd_blk_same _ _ _) k (by simp at hsz; omega) ((ys.take (k + 1) ++ zs.drop (k + 1)).map eaL ++ rest) (by simp at hsz ⊢; omega) (encL ys[k])
      (fun j y hy hj => by
        rw [← hst, List.map_set, ← List.set_append_left _ _ (by simp; omega), List.getElem?_set_ne (by omega)] at hy
        exact hy)
      (fun y hy => by
        rw [← hst, List.map_set, ← List.set_append_left _ _ (by simp; omega), List.getElem?_set_self (by simp; omega)] at hy
        cases hy; exact .int _ _)
    have hd : (ys.take k ++ zs.drop k).toArray.setIfInBounds k ys[k] = (ys.take (k + 1) ++ zs.drop (k + 1)).toArray := by rw [← hst]; simp
    have hp := Sort.putRow_set encL w (ρ b).blk (ρ b).off (ys.take k ++ zs.drop k).toArray k ys[k] (by simp; omega)
    rw [hd] at hp
    obtain ⟨_, _, h4, h5⟩ := h3
    rw [hp, Heap.upd_upd] at h4 h5
    exact ⟨h4, h2.trans h5⟩
theorem grown_of {W w' : World} (hb : Go.RowKit.Below W.heap.size W w') (hm : W.drawn ≤ w'.drawn) : ∃ q os', w' = Sort.grow (W.drewN q) os' := by
  refine ⟨w'.drawn - W.drawn, w'.heap.extract W.heap.size w'.heap.size, ?_⟩
  obtain ⟨b1, b2, b3, b4, b5⟩ := hb
  have hh : w'.heap = W.heap ++ w'.heap.extract W.heap.size w'.heap.size := by
    apply Array.ext_getElem?
    intro i
    by_cases hi : i < W.heap.size
    · rw [b5 i hi, Array.getElem?_append_left hi]
    · rw [Array.getElem?_append_right (by omega), Array.getElem?_extract]
      split
      · congr 1; omega
      · rw [Array.getElem?_eq_none]; omega
  have hd : w'.drawn = W.drawn + (w'.drawn - W.drawn) := by omega
  cases W with
  | mk =>
    cases w' with
    | mk =>
      simp only at b1 b2 b3 hh hd
      subst b1 b2 b3
      simp only [Sort.grow, World.drewN, World.mk.injEq, true_and, and_true]
      first | exact ⟨hh, hd⟩ | exact ⟨hd, hh⟩ | (constructor <;> assumption)
theorem cmpL_lays {blk off size : Nat} {w : World} : CmpLays1 Try.prog n_impl_clauseOf_1 #[] encL cfL blk off size w := by
  intro m os dk hs x y
  generalize sortWorld encL w blk off m dk os = W
  have hi : HI W (fun _ => ⟨0, 0, 0, false⟩) ⟨0, fun _ => .dead⟩ W := ⟨Go.RowKit.Below.refl _ _, fun b h => absurd h (Nat.not_lt_zero _), fun b c h => absurd h (Nat.not_lt_zero _), fun b c r h => absurd h (Nat.not_lt_zero _), fun b c r h => absurd h (Nat.not_lt_zero _), fun b c h => absurd h (Nat.not_lt_zero _), fun b es h => absurd h (Nat.not_lt_zero _), fun b b' h => absurd h (Nat.not_lt_zero _)⟩
  refine ((s_clauseOf1 x.2 y.2).2 W _ W [encL x, encL y] hi ?_).mono ?_
  · refine ⟨rfl, fun i a v h1 h2 => ?_⟩
    match i with
    | 0 => simp at h1 h2; subst h1 h2; exact .int _ _
    | 1 => simp at h1 h2; subst h1 h2; exact .int _ _
    | i + 2 => simp at h1
  · rintro e w' ⟨r, H', ρ', v, rfl, hv, hev, hi', _, rfl⟩
    cases hv
    exact ⟨rfl, grown_of hi'.below hev.mono⟩
def sortS (zs : List LitS) : List LitS := zs.mergeSort fun x y => !(ltOf cfL) y x
theorem sortS_len {zs : List LitS} : (sortS zs).length = zs.length := by simp [sortS]
theorem s_SortFunc {rn : Ren} (Ly : SlLaysF.n6 Try.prog rn) (hcb : callable Try.prog (rn.f 6) = true)
    (eg : ∀ args w, (callFunc n_impl_clauseOf_1 args).run Try.prog w = .ok (.enter n_impl_clauseOf_1 args) w) {b n c : Nat} {ex : Bool} {zs : List LitS} {rest : List AV}
    (hb : H.rwCells b = some (zs.map eaL ++ rest)) (hn : n = zs.length) (h62 : zs.length < 4611686018427387904) :
    ACall Try.prog (rn.f 6) [.sl (some (b, 0)) n c ex 1, .fn n_impl_clauseOf_1 []] H (fun r H' => r = .tup [] ∧ H' = H.upd b (.cells ((sortS zs).map eaL ++ rest) true)) := by
  subst hn
  obtain ⟨hbs, hblk⟩ := Heap.rwCells_blk hb
  refine ⟨hcb, fun w0 ρ w vs hi hvs => ?_⟩
  obtain ⟨v, t, rfl, hv, ht⟩ := hvs.uncons
  obtain ⟨u, t, rfl, hu, ht⟩ := ht.uncons
  have := ht.unnil; subst this
  generalize hq : (AV.sl (some (b, 0)) zs.length c ex 1) = q at hv
  cases hv <;> cases hq
  rename_i c' h1 h2 h3 h4 h5
  cases hu
  rename_i a ha1 ha2
  obtain rfl : a = #[] := by
    have : a.size = 0 := ha1.symm
    exact Array.eq_empty_of_size_eq_zero this
  obtain ⟨o1, o2, cs, t, o3, o4⟩ := hi.own b _ hbs hblk
  have hH : Sort.Holds encL w (ρ b).blk ((ρ b).off + 0) zs.toArray := by
    intro j hj
    have hj : j < zs.length := by simpa using hj
    obtain ⟨v, hv, hr⟩ := hi.cell b _ true hbs hblk j (eaL zs[j]) (by rw [List.getElem?_append_left (by simpa using hj)]; simp [hj])
    cases hr
    refine ⟨?_, by simp [World.frozen?, o3]⟩
    rw [Nat.add_zero, hv, getElem!_pos _ _ (by simpa using hj)]
    simp [encL]
  have hc := Any.slices_SortFunc_total Ly encL (fun _ => rfl) cfL swoL n_impl_clauseOf_1 #[] (ρ b).blk ((ρ b).off + 0) c' zs.toArray w eg cmpL_lays hH (hi.bound b hbs) (by simpa using h62) totL
  refine (show Calls Try.prog (rn.f 6) #[.slice (some ⟨(ρ b).blk, (ρ b).off + 0, none⟩) zs.length c', .func (.func n_impl_clauseOf_1) #[] #[]] w _ from hc).mono ?_
  rintro e w' ⟨rfl, N, os, rfl⟩
  have d1 : HI w0 ρ H (Sort.ahead w N) := hi.drawn _
  have d2 : Evol ρ H w ρ H (Sort.ahead w N) := Evol.drawn ρ H w _
  obtain ⟨p1, p2⟩ := d1.putL hbs hblk (ys := sortS zs) sortS_len (sortS zs).length (Nat.le_refl _)
  have e0 : (sortS zs).take (sortS zs).length ++ zs.drop (sortS zs).length = sortS zs := by rw [List.take_length, sortS_len, List.drop_length, List.append_nil]
  rw [e0] at p1 p2
  obtain ⟨g1, g2⟩ := HI.growB os.toList p1
  refine ⟨.tup [], _, ρ, .tuple #[], rfl, .tup [] #[] rfl (fun i x v h => by simp at h), (d2.trans p2).trans g2, g1, rfl, rfl⟩
theorem s_SortFuncNone {rn : Ren} (Ly : SlLaysF.n6 Try.prog rn) (hcb : callable Try.prog (rn.f 6) = true) {k : Nat} {fv : AV} :
    ACall Try.prog (rn.f 6) [.sl none 0 0 true k, fv] H (fun r H' => r = .tup [] ∧ H' = H) := by
  refine ⟨hcb, fun w0 ρ w vs hi hvs => ?_⟩
  obtain ⟨v, t, rfl, hv, ht⟩ := hvs.uncons
  obtain ⟨u, t, rfl, hu, ht⟩ := ht.uncons
  have := ht.unnil; subst this
  cases hv
  refine (show Calls Try.prog (rn.f 6) #[.slice none 0 0, u] w _ from AnyF.slices_SortFunc_none { Ly with } none 0 u w).mono ?_
  rintro e w' ⟨rfl, rfl⟩
  exact ⟨.tup [], H, ρ, .tuple #[], rfl, .tup [] #[] rfl (fun i x v h => by simp at h), Evol.refl _ _ _, hi, rfl, rfl⟩
end Go.M2

namespace Go.M2
open Go.Proofs Go.Shelf
set_option maxRecDepth 100000
def sortf_ren : Ren := ⟨fun | 6 => 126 | 14 => 139 | 15 => 140 | 20 => 147 | 21 => 148 | 22 => 149 | 23 => 150 | 24 => 151 | 25 => 152 | 26 => 153 | 27 => 154 | 28 => 155 | 29 => 156 | 46 => 158 | 47 => 159 | 48 => 160 | 49 => 161 | 50 => 162 | 57 => 163 | n => n, fun | 0 => 0 | 3 => 3 | 4 => 4 | 5 => 5 | 9 => 9 | 22 => 44 | 24 => 3 | 25 => 122 | 39 => 130 | 45 => 139 | 46 => 140 | 50 => 36 | 53 => 146 | 55 => 148 | 66 => 150 | 70 => 154 | 76 => 156 | 77 => 131 | n => n, fun n => n⟩
theorem laysf : SlLaysF.n6 Try.prog sortf_ren where
  mixed := by kernel_rfl
  f6 := ⟨ "slices.SortFunc[[]int,int]", by kernel_rfl, Try.func126.trans (congrArg some (by kernel_rfl))⟩
  f14 := ⟨ "slices.pdqsortCmpFunc[int]", by kernel_rfl, Try.func139.trans (congrArg some (by kernel_rfl))⟩
  f15 := Try.func140.trans (congrArg some (by kernel_rfl))
  f20 := ⟨ "slices.insertionSortCmpFunc[int]", by kernel_rfl, Try.func147.trans (congrArg some (by kernel_rfl))⟩
  f21 := ⟨ "slices.heapSortCmpFunc[int]", by kernel_rfl, Try.func148.trans (congrArg some (by kernel_rfl))⟩
  f22 := ⟨ "slices.breakPatternsCmpFunc[int]", by kernel_rfl, Try.func149.trans (congrArg some (by kernel_rfl))⟩
  f23 := ⟨ "slices.choosePivotCmpFunc[int]", by kernel_rfl, Try.func150.trans (congrArg some (by kernel_rfl))⟩
  f24 := ⟨ "slices.reverseRangeCmpFunc[int]", by kernel_rfl, Try.func151.trans (congrArg some (by kernel_rfl))⟩
  f25 := ⟨ "slices.partialInsertionSortCmpFunc[int]", by kernel_rfl, Try.func152.trans (congrArg some (by kernel_rfl))⟩
  f26 := ⟨ "slices.partitionEqualCmpFunc[int]", by kernel_rfl, Try.func153.trans (congrArg some (by kernel_rfl))⟩
  f27 := ⟨ "slices.partitionCmpFunc[int]", by kernel_rfl, Try.func154.trans (congrArg some (by kernel_rfl))⟩
  f28 := Try.func155.trans (congrArg some (by kernel_rfl))
  f29 := Try.func156.trans (congrArg some (by kernel_rfl))
  f46 := ⟨ "slices.siftDownCmpFunc[int]", by kernel_rfl, Try.func158.trans (congrArg some (by kernel_rfl))⟩
  f47 := Try.func159.trans (congrArg some (by kernel_rfl))
  f48 := Try.func160.trans (congrArg some (by kernel_rfl))
  f49 := ⟨ "slices.medianAdjacentCmpFunc[int]", by kernel_rfl, Try.func161.trans (congrArg some (by kernel_rfl))⟩
  f50 := ⟨ "slices.medianCmpFunc[int]", by kernel_rfl, Try.func162.trans (congrArg some (by kernel_rfl))⟩
  f57 := ⟨ "slices.order2CmpFunc[int]", by kernel_rfl, Try.func163.trans (congrArg some (by kernel_rfl))⟩
  t0 := Try.underlying0
  a0 := Try.isAgg0
  z0 := Try.sizeOf0
  v0 := Try.zeroValue0
  t3 := Try.underlying3
  a3 := Try.isAgg3
  z3 := Try.sizeOf3
  v3 := Try.zeroValue3
  t4 := Try.underlying4
  a4 := Try.isAgg4
  z4 := Try.sizeOf4
  v4 := Try.zeroValue4
  t5 := Try.underlying5
  a5 := Try.isAgg5
  z5 := Try.sizeOf5
  v5 := Try.zeroValue5
  t9 := Try.underlying9
  a9 := Try.isAgg9
  z9 := Try.sizeOf9
  v9 := Try.zeroValue9
  t22 := Try.underlying44
  a22 := Try.isAgg44
  z22 := Try.sizeOf44
  v22 := Try.zeroValue44
  a24 := Try.isAgg3
  z24 := Try.sizeOf3
  t25 := Try.underlying122
  a25 := Try.isAgg122
  z25 := Try.sizeOf122
  v25 := Try.zeroValue122
  t39 := Try.underlying130
  a39 := Try.isAgg130
  z39 := Try.sizeOf130
  v39 := Try.zeroValue130
  t45 := Try.underlying139
  a45 := Try.isAgg139
  z45 := Try.sizeOf139
  v45 := Try.zeroValue139
  t46 := Try.underlying140
  a46 := Try.isAgg140
  z46 := Try.sizeOf140
  v46 := Try.zeroValue140
  t50 := Try.underlying36
  a50 := Try.isAgg36
  z50 := Try.sizeOf36
  v50 := Try.zeroValue36
  t53 := Try.underlying146
  a53 := Try.isAgg146
  z53 := Try.sizeOf146
  v53 := Try.zeroValue146
  t55 := Try.underlying148
  a55 := Try.isAgg148
  z55 := Try.sizeOf148
  v55 := Try.zeroValue148
  t66 := Try.underlying150
  a66 := Try.isAgg150
  z66 := Try.sizeOf150
  v66 := Try.zeroValue150
  t70 := Try.underlying154
  a70 := Try.isAgg154
  z70 := Try.sizeOf154
  v70 := Try.zeroValue154
  t76 := Try.underlying156
  a76 := Try.isAgg156
  z76 := Try.sizeOf156
  v76 := Try.zeroValue156
  t77 := Try.underlying131
  a77 := Try.isAgg131
  z77 := Try.sizeOf131
  v77 := Try.zeroValue131
variable {H : Heap}
theorem s_SortLits {b n c : Nat} {ex : Bool} {zs : List LitS} {rest : List AV}
    (hb : H.rwCells b = some (zs.map eaL ++ rest)) (hn : n = zs.length) (h62 : zs.length < 4611686018427387904) :
    ACall Try.prog n_slices_SortFunc_Sint_int [.sl (some (b, 0)) n c ex 1, .fn n_impl_clauseOf_1 []] H (fun r H' => r = .tup [] ∧ H' = H.upd b (.cells ((sortS zs).map eaL ++ rest) true)) :=
  s_SortFunc laysf (by kernel_rfl) (enters_of Try.func127 (by kernel_rfl) rfl) hb hn h62
theorem s_SortLitsNone {k : Nat} {fv : AV} : ACall Try.prog n_slices_SortFunc_Sint_int [.sl none 0 0 true k, fv] H (fun r H' => r = .tup [] ∧ H' = H) :=
  s_SortFuncNone laysf (by kernel_rfl)
end Go.M2

namespace Go.M2
open Go.Proofs
variable {H : Heap}
theorem s_CompactId {v : AV} {xs : List Int} (hv : IsI H v xs) (hl : xs.length ≤ 1048576) (hne : ∀ i (h : i < xs.length), 0 < i → xs[i] ≠ xs[i - 1]) :
    ACall Try.prog n_slices_Compact_Sint_int [v] H (fun r H' => r = v ∧ H' = H) := by
  refine ACall.of fun R hR => a_slices_Compact_Sint_int rfl ?_
  obtain ⟨A, c, ex, k, rfl, hr⟩ := hv.parts
  simp (maxSteps := 2000000) (disch := first | omega | assumption | exact idP rfl | exact idP (bL rfl) | (simp only [alloc_size, upd_size]; done) | (simp only [alloc_size, upd_size]; omega) | fail) only [go_sem, reduceIte, Nat.reduceEqDiff]
  refine condV_dec (fun h => ?_) (fun h => ?_)
  · simp (maxSteps := 2000000) (disch := first | omega | assumption | exact idP rfl | exact idP (bL rfl) | (simp only [alloc_size, upd_size]; done) | (simp only [alloc_size, upd_size]; omega) | fail) only [go_sem, reduceIte, Nat.reduceEqDiff]
    exact hR _ _ ⟨rfl, rfl⟩
  · simp (maxSteps := 2000000) (disch := first | omega | assumption | exact idP rfl | exact idP (bL rfl) | (simp only [alloc_size, upd_size]; done) | (simp only [alloc_size, upd_size]; omega) | fail) only [go_sem, reduceIte, Nat.reduceEqDiff]
    refine wp_loop_k (fun e H' => H' = H ∧ ∃ i : Nat, 1 ≤ i ∧ i ≤ xs.length ∧ e 0 = .sl A xs.length c ex k ∧ e 3 = .int .i64 (i : Int)) (fun e _ => ctr xs.length (e 3)) ?_ ?_
    · exact ⟨rfl, 1, by omega, by omega, by simp (maxSteps := 2000000) (disch := first | omega | assumption | exact idP rfl | exact idP (bL rfl) | (simp only [alloc_size, upd_size]; done) | (simp only [alloc_size, upd_size]; omega) | fail) only [go_sem, reduceIte, Nat.reduceEqDiff], by simp (maxSteps := 2000000) (disch := first | omega | assumption | exact idP rfl | exact idP (bL rfl) | (simp only [alloc_size, upd_size]; done) | (simp only [alloc_size, upd_size]; omega) | fail) only [go_sem, reduceIte, Nat.reduceEqDiff]; rfl⟩
    · rintro e H1 ⟨rfl, i, hi1, hi, e0, e3⟩ K hK
      simp (maxSteps := 2000000) (disch := first | omega | assumption | exact idP rfl | exact idP (bL rfl) | (simp only [alloc_size, upd_size]; done) | (simp only [alloc_size, upd_size]; omega) | fail) only [go_sem, reduceIte, Nat.reduceEqDiff, e0, e3]
      refine condV_dec (fun h => ?_) (fun h => ?_)
      · have hi' : i < xs.length := by omega
        have hg := hr i hi'
        have hg2 := hr (i - 1) (by omega)
        rw [Nat.mul_one] at hg hg2
        have hsub : ((i : Int) - 1).toNat = i - 1 := by omega
        simp (maxSteps := 2000000) (disch := first | omega | assumption | exact idP rfl | exact idP (bL rfl) | (simp only [alloc_size, upd_size]; done) | (simp only [alloc_size, upd_size]; omega) | fail) only [go_sem, reduceIte, Nat.reduceEqDiff, e0, e3, hg, hsub, hg2]
        refine condV_dec (fun heq => absurd heq (hne i hi' hi1)) (fun heq => ?_)
        simp (maxSteps := 2000000) (disch := first | omega | assumption | exact idP rfl | exact idP (bL rfl) | (simp only [alloc_size, upd_size]; done) | (simp only [alloc_size, upd_size]; omega) | fail) only [go_sem, reduceIte, Nat.reduceEqDiff, e0, e3]
        exact hK _ _ ⟨rfl, i + 1, by omega, by omega, by simp (maxSteps := 2000000) (disch := first | omega | assumption | exact idP rfl | exact idP (bL rfl) | (simp only [alloc_size, upd_size]; done) | (simp only [alloc_size, upd_size]; omega) | fail) only [go_sem, reduceIte, Nat.reduceEqDiff, e0], by simp (maxSteps := 2000000) (disch := first | omega | assumption | exact idP rfl | exact idP (bL rfl) | (simp only [alloc_size, upd_size]; done) | (simp only [alloc_size, upd_size]; omega) | fail) only [go_sem, reduceIte, Nat.reduceEqDiff]; rfl⟩ (by simp (maxSteps := 2000000) (disch := first | omega | assumption | exact idP rfl | exact idP (bL rfl) | (simp only [alloc_size, upd_size]; done) | (simp only [alloc_size, upd_size]; omega) | fail) only [go_sem, reduceIte, Nat.reduceEqDiff, ctr_int, e3]; omega)
      · simp (maxSteps := 2000000) (disch := first | omega | assumption | exact idP rfl | exact idP (bL rfl) | (simp only [alloc_size, upd_size]; done) | (simp only [alloc_size, upd_size]; omega) | fail) only [go_sem, reduceIte, Nat.reduceEqDiff, e0]
        exact hR _ _ ⟨rfl, rfl⟩
theorem upd_self {b : Nat} {x : Blk} (h : H.blk b = x) : H.upd b x = H := by
  cases H with
  | mk n f =>
    simp only [Heap.upd, Heap.mk.injEq, true_and]
    funext b'
    split
    · rename_i e; subst e; exact h.symm
    · rfl
theorem sortS_asc {zs : List LitS} (h : zs.Pairwise fun x y => x.1.natAbs < y.1.natAbs) : sortS zs = zs := by
  unfold sortS
  refine List.mergeSort_of_pairwise (h.imp fun {x y} hxy => ?_)
  have : Go.Proofs.ltOf cfL y x = false := by rw [ltL_false]; omega
  simp [this]
theorem s_SortAsc {v : AV} {xs : List Int} {n : Nat} (hv : Own 1 H v (xs.map (AV.int .i64))) (hl : xs.length ≤ 1048576) (hn : n ≤ 700) (hx : Lits n xs) (ha : Asc xs) :
    ACall Try.prog n_slices_SortFunc_Sint_int [v, .fn n_impl_clauseOf_1 []] H (fun r H' => r = .tup [] ∧ H' = H) := by
  obtain ⟨A, m, ex, k, rfl, h1, h2, h3⟩ := hv
  have h1 : xs.length = m := by simpa using h1
  cases A with
  | none =>
    obtain ⟨rfl, rfl⟩ := h2 rfl
    exact s_SortLitsNone
  | some p =>
    obtain ⟨b, o⟩ := p
    obtain ⟨rfl, rfl, h4, h5⟩ := h3 b o rfl
    have hr : ∀ x ∈ xs, -9223372036854775808 < x ∧ x ≤ 9223372036854775807 := fun x hx' => by have := hx x hx'; omega
    have ez : (xs.pmap LitS.mk hr : List LitS).map eaL = xs.map (AV.int .i64) := by
      rw [List.map_pmap]
      exact List.pmap_eq_map (f := AV.int .i64) _
    have hasc : (xs.pmap LitS.mk hr : List LitS).Pairwise fun x y => x.1.natAbs < y.1.natAbs := by
      rw [List.pairwise_pmap]
      exact ha.imp fun h _ _ => h
    refine (s_SortLits (zs := xs.pmap LitS.mk hr) (rest := []) (by rw [ez, List.append_nil]; exact rwCells_of h4 h5) (by simp [h1]) (by simp; omega)).mono ?_
    rintro r H' ⟨rfl, rfl⟩
    rw [sortS_asc hasc, ez, List.append_nil]
    exact ⟨rfl, upd_self h5⟩
theorem s_clauseOf {A : AA} {m c k : Nat} {ex : Bool} {xs : List Int} {n : Nat} (hv : IsI H (.sl A m c ex k) xs) (hA : A = none → xs = []) (hl : xs.length ≤ 1048576) (hn : n ≤ 700) (hx : Lits n xs) (ha : Asc xs) :
    ACall Try.prog n_impl_clauseOf [.sl A m c ex k] H (fun r H' => ∃ u, r = .tup [u, .bool true] ∧ Own 1 H' u (xs.map (AV.int .i64)) ∧ Le H (base H' u) ∧ newer H.size u) := by
  refine ACall.of fun R hR => a_impl_clauseOf rfl ?_
  simp (maxSteps := 2000000) (disch := first | omega | assumption | exact idP rfl | exact idP (bL rfl) | (simp only [alloc_size, upd_size]; done) | (simp only [alloc_size, upd_size]; omega) | fail) only [go_sem, reduceIte, Nat.reduceEqDiff]
  refine (s_Clone hv hl hA).mono ?_
  rintro v1 H1 ⟨ho1, hle1, hn1⟩
  simp (maxSteps := 2000000) (disch := first | omega | assumption | exact idP rfl | exact idP (bL rfl) | (simp only [alloc_size, upd_size]; done) | (simp only [alloc_size, upd_size]; omega) | fail) only [go_sem, reduceIte, Nat.reduceEqDiff]
  refine (s_SortAsc ho1 hl hn hx ha).mono ?_
  rintro r H2 ⟨rfl, rfl⟩
  simp (maxSteps := 2000000) (disch := first | omega | assumption | exact idP rfl | exact idP (bL rfl) | (simp only [alloc_size, upd_size]; done) | (simp only [alloc_size, upd_size]; omega) | fail) only [go_sem, reduceIte, Nat.reduceEqDiff]
  have hv1 : IsI H2 v1 xs := ho1.isI
  refine (s_CompactId hv1 hl fun i h h0 e => ?_).mono ?_
  · have := List.pairwise_iff_getElem.1 ha (i - 1) i (by omega) h (by omega)
    rw [e] at this; omega
  rintro r H3 ⟨rfl, rfl⟩
  obtain ⟨A', c', ex', k', rfl, hr⟩ := hv1.parts
  simp (maxSteps := 2000000) (disch := first | omega | assumption | exact idP rfl | exact idP (bL rfl) | (simp only [alloc_size, upd_size]; done) | (simp only [alloc_size, upd_size]; omega) | fail) only [go_sem, reduceIte, Nat.reduceEqDiff]
  refine wp_loop_k (fun e H' => H' = H3 ∧ ∃ i : Nat, 1 ≤ i ∧ (i ≤ xs.length ∨ i = 1) ∧ e 4 = .sl A' xs.length c' ex' k' ∧ e 5 = .int .i64 (i : Int)) (fun e _ => ctr xs.length (e 5)) ?_ ?_
  · exact ⟨rfl, 1, by omega, .inr rfl, by simp (maxSteps := 2000000) (disch := first | omega | assumption | exact idP rfl | exact idP (bL rfl) | (simp only [alloc_size, upd_size]; done) | (simp only [alloc_size, upd_size]; omega) | fail) only [go_sem, reduceIte, Nat.reduceEqDiff], by simp (maxSteps := 2000000) (disch := first | omega | assumption | exact idP rfl | exact idP (bL rfl) | (simp only [alloc_size, upd_size]; done) | (simp only [alloc_size, upd_size]; omega) | fail) only [go_sem, reduceIte, Nat.reduceEqDiff]; rfl⟩
  · rintro e H4 ⟨rfl, i, hi1, hi, e4, e5⟩ K hK
    simp (maxSteps := 2000000) (disch := first | omega | assumption | exact idP rfl | exact idP (bL rfl) | (simp only [alloc_size, upd_size]; done) | (simp only [alloc_size, upd_size]; omega) | fail) only [go_sem, reduceIte, Nat.reduceEqDiff, e4, e5]
    refine condV_dec (fun h => ?_) (fun h => ?_)
    · have hi' : i < xs.length := by omega
      have hg := hr i hi'
      have hg2 := hr (i - 1) (by omega)
      rw [Nat.mul_one] at hg hg2
      have hsub : ((i : Int) - 1).toNat = i - 1 := by omega
      have hb := hx _ (List.getElem_mem (show i - 1 < xs.length by omega))
      simp (maxSteps := 2000000) (disch := first | omega | assumption | exact idP rfl | exact idP (bL rfl) | (simp only [alloc_size, upd_size]; done) | (simp only [alloc_size, upd_size]; omega) | fail) only [go_sem, reduceIte, Nat.reduceEqDiff, e4, e5, hg, hsub, hg2]
      refine condV_dec (fun heq => ?_) (fun heq => ?_)
      · have := List.pairwise_iff_getElem.1 ha (i - 1) i (by omega) hi' (by omega)
        rw [heq] at this; omega
      · simp (maxSteps := 2000000) (disch := first | omega | assumption | exact idP rfl | exact idP (bL rfl) | (simp only [alloc_size, upd_size]; done) | (simp only [alloc_size, upd_size]; omega) | fail) only [go_sem, reduceIte, Nat.reduceEqDiff, e4, e5]
        exact hK _ _ ⟨rfl, i + 1, by omega, .inl (by omega), by simp (maxSteps := 2000000) (disch := first | omega | assumption | exact idP rfl | exact idP (bL rfl) | (simp only [alloc_size, upd_size]; done) | (simp only [alloc_size, upd_size]; omega) | fail) only [go_sem, reduceIte, Nat.reduceEqDiff, e4], by simp (maxSteps := 2000000) (disch := first | omega | assumption | exact idP rfl | exact idP (bL rfl) | (simp only [alloc_size, upd_size]; done) | (simp only [alloc_size, upd_size]; omega) | fail) only [go_sem, reduceIte, Nat.reduceEqDiff]; rfl⟩ (by simp (maxSteps := 2000000) (disch := first | omega | assumption | exact idP rfl | exact idP (bL rfl) | (simp only [alloc_size, upd_size]; done) | (simp only [alloc_size, upd_size]; omega) | fail) only [go_sem, reduceIte, Nat.reduceEqDiff, ctr_int, e5]; omega)
    · simp (maxSteps := 2000000) (disch := first | omega | assumption | exact idP rfl | exact idP (bL rfl) | (simp only [alloc_size, upd_size]; done) | (simp only [alloc_size, upd_size]; omega) | fail) only [go_sem, reduceIte, Nat.reduceEqDiff, e4]
      refine (s_implClone hv1 hl).mono ?_
      rintro u H5 ⟨ho5, hle5, hn5⟩
      simp (maxSteps := 2000000) (disch := first | omega | assumption | exact idP rfl | exact idP (bL rfl) | (simp only [alloc_size, upd_size]; done) | (simp only [alloc_size, upd_size]; omega) | fail) only [go_sem, reduceIte, Nat.reduceEqDiff]
      exact hR _ _ ⟨u, rfl, ho5, (hle1.trans (base_le _ _)).trans hle5, hn5.mono (hle1.trans (base_le _ _)).1⟩
end Go.M2

namespace Go.M2
open Go.Proofs
variable {H : Heap}
def marks (k : Int) (n : Nat) : List Int := (List.range n).map fun (i : Nat) => k + i
end Go.M2

namespace Go.M2
open Go.Proofs
variable {H : Heap}
@[go_sem] theorem st_bslo {P : Program} {e : Env} {K : AV → Heap → Prop} {a b : Nat} {z : List AV} {p : List (Nat × X)} : stepL P (.bslo a b z p) e H K = bslcP a b (bslF e a (zeros z b) p) H K := idE rfl
theorem mk_givenF : ∀ {xs m : List Int}, Mk m → Mk (givenF xs m)
  | [], m, h => h
  | x :: t, m, h => mk_givenF (xs := t) h.set
theorem mk_given {n : Nat} {xs : List Int} : Mk (given n xs) := mk_givenF fun a h => .inl (by simp)
def dis (u v : AV) : Prop := match v with
  | .sl (some (b, _)) _ _ _ _ => apart b u
  | _ => True
theorem Own.base {sz : Nat} {H : Heap} {u v : AV} {l : List AV} (h : Own sz H u l) (hd : dis u v) : Own sz (base H v) u l := by
  obtain ⟨A, n, ex, k, rfl, h1, h2, h3⟩ := h
  refine ⟨A, n, ex, k, rfl, h1, h2, fun b o e => ?_⟩
  subst e
  obtain ⟨q1, q2, q3, q4⟩ := h3 b o rfl
  refine ⟨q1, q2, by rw [base_size]; exact q3, ?_⟩
  unfold M2.base
  split
  · rename_i b' _ _ _ _ _
    have hne : b ≠ b' := by simpa [dis, apart] using hd
    rw [kill_ne hne]; exact q4
  · exact q4
theorem dis_new {H : Heap} {sz n : Nat} {u v : AV} {l : List AV} (h : Own sz H u l) (hs : H.size ≤ n) (hn : newer n v) : dis u v ∧ dis v u := by
  obtain ⟨A, m, ex, k, rfl, h1, h2, h3⟩ := h
  constructor
  · unfold dis
    split
    · rename_i b _ _ _ _ _
      unfold apart
      split
      · rename_i b' o _ _ _ _ e
        cases e
        have := (h3 b' o rfl).2.2.1
        have hn : n ≤ b := hn
        omega
      · trivial
    · trivial
  · unfold dis
    split
    · rename_i b o _ _ _ _ e
      cases e
      have := (h3 b o rfl).2.2.1
      unfold apart
      split
      · rename_i b' _ _ _ _ _
        have hn : n ≤ b' := hn
        omega
      · trivial
    · trivial
def PLO (lo : Nat) (B H : Heap) (p : AV) (P : List (List Int)) : Prop := Le B (base H p) ∧ lo ≤ B.size ∧ ∃ pc : List AV, Own 1 H p pc ∧ pc.length = P.length ∧ (∀ i (h : i < P.length), ∃ u, pc[i]? = some u ∧ Own 1 B u (P[i].map (AV.int .i64)) ∧ newer lo u ∧ P[i].length ≤ 700) ∧
  ∀ (i j : Nat) (u v : AV), i < j → pc[i]? = some u → pc[j]? = some v → dis u v ∧ dis v u
section
variable {lo : Nat} {B : Heap} {p : AV} {P : List (List Int)}
theorem PLO.own (h : PLO lo B H p P) : ∃ pc, Own 1 H p pc ∧ pc.length = P.length := by
  obtain ⟨_, _, pc, h1, h2, _⟩ := h; exact ⟨pc, h1, h2⟩
theorem PLO.len (h : PLO lo B H p P) : lenF p = some (.int .i64 (P.length : Int)) := by
  obtain ⟨_, _, pc, h1, h2, _⟩ := h
  obtain ⟨A, n, ex, k, rfl, h3, _⟩ := h1
  have : n = P.length := by omega
  subst this; rfl
theorem PLO.one (h : PLO lo B H p P) : oneA p = true ∧ cellsOf p = some [p] := by
  obtain ⟨_, _, pc, h1, _⟩ := h
  obtain ⟨A, n, ex, k, rfl, _⟩ := h1
  exact ⟨rfl, rfl⟩
theorem PLO.le {H' : Heap} (h : PLO lo B H p P) (hl : Le H H') : PLO lo B H' p P := by
  obtain ⟨h0, hs, pc, h1, h2, h3⟩ := h
  exact ⟨h0.trans (base_mono hl p), hs, pc, h1.le hl, h2, h3⟩
theorem PLO.at {B' : Heap} (h : PLO lo B H p P) (hB : Le B B') (hl : Le B' (base H p)) : PLO lo B' H p P := by
  obtain ⟨h0, hs, pc, h1, h2, h3, h4⟩ := h
  refine ⟨hl, Nat.le_trans hs hB.1, pc, h1, h2, fun i hi => ?_, h4⟩
  obtain ⟨u, h4, h5, h6, h7⟩ := h3 i hi
  exact ⟨u, h4, h5.le hB, h6, h7⟩
theorem PLO.upd {b : Nat} {x : Blk} (h : PLO lo B H p P) (ha : apart b p) (hd : B.blk b = .dead) : PLO lo B (H.upd b x) p P := by
  obtain ⟨h0, hs, pc, h1, h2, h3⟩ := h
  refine ⟨by rw [base_upd ha]; exact h0.updDead hd x, hs, pc, ?_, h2, h3⟩
  obtain ⟨A, n, ex, k, rfl, q1, q2, q3⟩ := h1
  refine ⟨A, n, ex, k, rfl, q1, q2, fun b' o e => ?_⟩
  subst e
  obtain ⟨r1, r2, r3, r4⟩ := q3 b' o rfl
  have hne : b' ≠ b := ha
  exact ⟨r1, r2, r3, by rw [upd_blk_ne hne]; exact r4⟩
theorem plo_app {B1 : Heap} {by_ : Nat} {u : AV} {c : List Int} {K : AV → Heap → Prop} (h : PLO lo B H p P) (hB : Le B B1) (hB1 : Le B1 (base H p)) (hu : Own 1 B1 u (c.map (AV.int .i64))) (hun : newer B.size u) (hc7 : c.length ≤ 700) (hb : P.length ≤ 1048576) (hby : by_ ≤ 64)
    (hk : ∀ p' H', PLO lo B1 H' p' (P ++ [c]) → Le (base H p) (base H' p') → K p' H') : appP 1 by_ p (.sl (some (H.size, 0)) 1 1 true 1) (H.alloc [u]) K := by
  obtain ⟨_, hs, pc, h1, h2, h3, h4⟩ := h
  have ho : oneA u = true := by obtain ⟨A, n, ex, k, rfl, _⟩ := hu; rfl
  refine app_own (sz := 1) (by omega) (h1.le (Le.alloc _ _)) (Rd.blk (Nat.lt_succ_self _) (alloc_new _ _)) rfl (by simp [ho]) ?_ (by simp [mostCells]; omega) ?_
  · have : (pc.length + 1) * by_ ≤ (pc.length + 1) * 64 := Nat.mul_le_mul_left _ hby
    simp only [mostCells]; omega
  · intro p' H' q1 q2 _
    have q3 := (base_mono (Le.alloc H [u]) p).trans q2
    have old : ∀ i w, i < P.length → (pc ++ [u])[i]? = some w → pc[i]? = some w := fun i w hi hw => by rwa [List.getElem?_append_left (by omega)] at hw
    have new : ∀ i w, ¬ i < P.length → (pc ++ [u])[i]? = some w → i = P.length ∧ w = u := fun i w hi hw => by
      rw [List.getElem?_append_right (by omega), h2] at hw
      by_cases e : i = P.length
      · subst e; simp at hw; exact ⟨rfl, hw.symm⟩
      · rw [List.getElem?_eq_none (by simp; omega)] at hw; cases hw
    refine hk p' H' ⟨hB1.trans q3, Nat.le_trans hs hB.1, pc ++ [u], q1, by simp [h2], fun i hi => ?_, fun i j w x hij hw hx => ?_⟩ q3
    · by_cases hi2 : i < P.length
      · obtain ⟨w, h4, h5, h6, h7⟩ := h3 i hi2
        refine ⟨w, by rw [List.getElem?_append_left (by omega)]; exact h4, ?_, h6, ?_⟩
        · rw [List.getElem_append_left hi2]; exact h5.le hB
        · rw [List.getElem_append_left hi2]; exact h7
      · have : i = P.length := by simp at hi; omega
        subst this
        refine ⟨u, by rw [List.getElem?_append_right (by omega), h2]; simp, ?_, hun.mono hs, ?_⟩
        · rw [List.getElem_append_right (by omega)]
          simpa using hu
        · rw [List.getElem_append_right (by omega)]
          simpa using hc7
    · by_cases hj2 : j < P.length
      · exact h4 i j w x hij (old i w (by omega) hw) (old j x hj2 hx)
      · obtain ⟨rfl, rfl⟩ := new j x hj2 hx
        obtain ⟨w', r1, r2, _⟩ := h3 i (by omega)
        have hw' := old i w (by omega) hw
        rw [r1] at hw'; cases hw'
        exact dis_new r2 (Nat.le_refl _) hun
end
abbrev underT : IR := .seq (.seq impl_hunt_under_32 impl_hunt_under_35) (.seq impl_hunt_under_36 (.seq (.seq impl_hunt_under_37 impl_hunt_under_45) (.seq impl_hunt_under_46 (.seq impl_hunt_under_47 (.seq impl_hunt_under_48 .ret)))))
set_option maxHeartbeats 4000000 in
theorem under_leaf {lo : Nat} {B : Heap} {e : Env} {hb n d : Nat} {g : List Int} {P : List (List Int)} {fl p gv vals : AV} {R : AV → Heap → Prop} (hn : n ≤ 700) (hasc : Asc g) (hlits : Lits n g) (hlg : g.length ≤ 700) (hP : P.length ≤ 600) (hof : oneA fl = true) (hov : oneA vals = true)
    (e0 : e 0 = .ptr (some (hb, 0))) (e1 : e 1 = gv) (hs : B.size = H.size) (hd : B.blk hb = .dead)
    (w : (base H p).rwCells hb = some [.int .i64 (n : Int), fl, p, .int .i64 (d : Int), vals, .bool false]) (hp : PLO lo B H p P) (hgv : IsI B gv g)
    (hcut : P.length = 600 → R (.bool true) (H.upd hb (.cells [.int .i64 (n : Int), fl, p, .int .i64 (d : Int), vals, .bool true] true)))
    (hno : P.length ≠ 600 → ∀ B' H' p', Nd B B' → PLO lo B' H' p' (P ++ [negs g]) → Le ((base H p).kill hb) (base H' p') → (base H' p').rwCells hb = some [.int .i64 (n : Int), fl, p', .int .i64 (d : Int), vals, .bool false] → R (.bool false) H') :
    wp Try.prog underT (postQ [RV.t 4] R) e H := by
  have w' := (base_le H p).rwCells w
  obtain ⟨hsz, hbk⟩ := Heap.rwCells_blk w'
  have g2 : H.get hb 2 = some p := Rd.blk hsz hbk 2 p rfl
  have hBH : Le B H := hp.1.trans (base_le H p)
  have hpl := hp.len
  have hapb := apart_of w
  unfold underT
  simp (maxSteps := 2000000) (disch := first | omega | assumption | exact idP rfl | exact idP (bL rfl) | (simp only [alloc_size, upd_size]; done) | (simp only [alloc_size, upd_size]; omega) | fail) only [go_sem, reduceIte, Nat.reduceEqDiff, e0, e1, g2, hpl]
  refine condV_dec (fun h6 => ?_) (fun h6 => ?_)
  · simp (maxSteps := 2000000) (disch := first | omega | assumption | exact idP rfl | exact idP (bL rfl) | (simp only [alloc_size, upd_size]; done) | (simp only [alloc_size, upd_size]; omega) | fail) only [go_sem, reduceIte, Nat.reduceEqDiff, e0, w']
    exact hcut (by omega)
  · have hgv' := hgv.le hBH
    obtain ⟨A, c, ex, k, rfl, hr⟩ := hgv'.parts
    simp (maxSteps := 2000000) (disch := first | omega | assumption | exact idP rfl | exact idP (bL rfl) | (simp only [alloc_size, upd_size]; done) | (simp only [alloc_size, upd_size]; omega) | fail) only [go_sem, reduceIte, Nat.reduceEqDiff, e0, e1]
    refine wp_loop_k (fun e H' => ∃ i : Nat, i ≤ g.length ∧ e 0 = .ptr (some (hb, 0)) ∧ e 107 = .sl A g.length c ex k ∧ e 108 = .int .i64 (g.length : Int) ∧ e 109 = .int .i64 (i : Int) ∧ Own 1 H' (e 9) ((negs (g.take i)).map (AV.int .i64)) ∧ Le H (base H' (e 9)) ∧ newer H.size (e 9)) (fun e _ => ctr g.length (e 109)) ?_ ?_
    · exact ⟨0, Nat.zero_le _, by simp (maxSteps := 2000000) (disch := first | omega | assumption | exact idP rfl | exact idP (bL rfl) | (simp only [alloc_size, upd_size]; done) | (simp only [alloc_size, upd_size]; omega) | fail) only [go_sem, reduceIte, Nat.reduceEqDiff, e0], by simp (maxSteps := 2000000) (disch := first | omega | assumption | exact idP rfl | exact idP (bL rfl) | (simp only [alloc_size, upd_size]; done) | (simp only [alloc_size, upd_size]; omega) | fail) only [go_sem, reduceIte, Nat.reduceEqDiff, e1], by simp (maxSteps := 2000000) (disch := first | omega | assumption | exact idP rfl | exact idP (bL rfl) | (simp only [alloc_size, upd_size]; done) | (simp only [alloc_size, upd_size]; omega) | fail) only [go_sem, reduceIte, Nat.reduceEqDiff], by simp (maxSteps := 2000000) (disch := first | omega | assumption | exact idP rfl | exact idP (bL rfl) | (simp only [alloc_size, upd_size]; done) | (simp only [alloc_size, upd_size]; omega) | fail) only [go_sem, reduceIte, Nat.reduceEqDiff]; rfl, by simp (maxSteps := 2000000) (disch := first | omega | assumption | exact idP rfl | exact idP (bL rfl) | (simp only [alloc_size, upd_size]; done) | (simp only [alloc_size, upd_size]; omega) | fail) only [go_sem, reduceIte, Nat.reduceEqDiff]; exact Own.nil, by simp (maxSteps := 2000000) (disch := first | omega | assumption | exact idP rfl | exact idP (bL rfl) | (simp only [alloc_size, upd_size]; done) | (simp only [alloc_size, upd_size]; omega) | fail) only [go_sem, reduceIte, Nat.reduceEqDiff]; exact Le.refl _, by simp (maxSteps := 2000000) (disch := first | omega | assumption | exact idP rfl | exact idP (bL rfl) | (simp only [alloc_size, upd_size]; done) | (simp only [alloc_size, upd_size]; omega) | fail) only [go_sem, reduceIte, Nat.reduceEqDiff]; trivial⟩
    · rintro e H1 ⟨i, hi, e0, e107, e108, e109, ho, hle, hnew⟩ K hK
      simp (maxSteps := 2000000) (disch := first | omega | assumption | exact idP rfl | exact idP (bL rfl) | (simp only [alloc_size, upd_size]; done) | (simp only [alloc_size, upd_size]; omega) | fail) only [go_sem, reduceIte, Nat.reduceEqDiff, e107, e108, e109]
      refine condV_dec (fun h => ?_) (fun h => ?_)
      · have hi' : i < g.length := by omega
        have hg := (hle.trans (base_le _ _)).get (hr i hi')
        rw [Nat.mul_one] at hg
        have hxi := hlits _ (List.getElem_mem hi')
        simp (maxSteps := 2000000) (disch := first | omega | assumption | exact idP rfl | exact idP (bL rfl) | (simp only [alloc_size, upd_size]; done) | (simp only [alloc_size, upd_size]; omega) | fail) only [go_sem, reduceIte, Nat.reduceEqDiff, e107, e109, hg]
        refine app1 ho hle hnew rfl (by simp [negs]; omega) (by omega) ?_
        intro s H2 hs2 hle2 hn2 _
        simp (maxSteps := 2000000) (disch := first | omega | assumption | exact idP rfl | exact idP (bL rfl) | (simp only [alloc_size, upd_size]; done) | (simp only [alloc_size, upd_size]; omega) | fail) only [go_sem, reduceIte, Nat.reduceEqDiff, e109]
        refine hK _ _ ⟨i + 1, by omega, by simp (maxSteps := 2000000) (disch := first | omega | assumption | exact idP rfl | exact idP (bL rfl) | (simp only [alloc_size, upd_size]; done) | (simp only [alloc_size, upd_size]; omega) | fail) only [go_sem, reduceIte, Nat.reduceEqDiff, e0], by simp (maxSteps := 2000000) (disch := first | omega | assumption | exact idP rfl | exact idP (bL rfl) | (simp only [alloc_size, upd_size]; done) | (simp only [alloc_size, upd_size]; omega) | fail) only [go_sem, reduceIte, Nat.reduceEqDiff, e107], by simp (maxSteps := 2000000) (disch := first | omega | assumption | exact idP rfl | exact idP (bL rfl) | (simp only [alloc_size, upd_size]; done) | (simp only [alloc_size, upd_size]; omega) | fail) only [go_sem, reduceIte, Nat.reduceEqDiff, e108], by simp (maxSteps := 2000000) (disch := first | omega | assumption | exact idP rfl | exact idP (bL rfl) | (simp only [alloc_size, upd_size]; done) | (simp only [alloc_size, upd_size]; omega) | fail) only [go_sem, reduceIte, Nat.reduceEqDiff]; rfl, ?_, by simp (maxSteps := 2000000) (disch := first | omega | assumption | exact idP rfl | exact idP (bL rfl) | (simp only [alloc_size, upd_size]; done) | (simp only [alloc_size, upd_size]; omega) | fail) only [go_sem, reduceIte, Nat.reduceEqDiff]; exact hle2, by simp (maxSteps := 2000000) (disch := first | omega | assumption | exact idP rfl | exact idP (bL rfl) | (simp only [alloc_size, upd_size]; done) | (simp only [alloc_size, upd_size]; omega) | fail) only [go_sem, reduceIte, Nat.reduceEqDiff]; exact hn2⟩ (by simp (maxSteps := 2000000) (disch := first | omega | assumption | exact idP rfl | exact idP (bL rfl) | (simp only [alloc_size, upd_size]; done) | (simp only [alloc_size, upd_size]; omega) | fail) only [go_sem, reduceIte, Nat.reduceEqDiff, ctr_int, e109]; omega)
        simp (maxSteps := 2000000) (disch := first | omega | assumption | exact idP rfl | exact idP (bL rfl) | (simp only [alloc_size, upd_size]; done) | (simp only [alloc_size, upd_size]; omega) | fail) only [go_sem, reduceIte, Nat.reduceEqDiff]
        rw [negs_take hi', List.map_append]; exact hs2
      · obtain rfl : i = g.length := by omega
        rw [List.take_length] at ho
        have hoi := ho.isI
        obtain ⟨A2, n2, ex2, k2, e9, q1, q2, q3⟩ := ho
        rw [e9] at hoi hle hnew
        simp (maxSteps := 2000000) (disch := first | omega | assumption | exact idP rfl | exact idP (bL rfl) | (simp only [alloc_size, upd_size]; done) | (simp only [alloc_size, upd_size]; omega) | fail) only [go_sem, reduceIte, Nat.reduceEqDiff, e9]
        refine (s_clauseOf hoi (fun h => ?_) (by simp [negs]; omega) hn (negs_lits hlits) (negs_asc hasc)).mono ?_
        · have := (q2 h).1
          simp only [List.length_map] at q1
          exact List.eq_nil_of_length_eq_zero (by omega)
        rintro r H3 ⟨u, rfl, hu, hle3, hnew3⟩
        have hH1 : Le H H1 := hle.trans (base_le _ _)
        have hH3 : Le H H3 := hH1.trans (hle3.trans (base_le _ _))
        have hnew3' : newer H.size u := hnew3.mono hH1.1
        obtain ⟨pc, hown, hpc⟩ := hp.own
        have g2' := hH3.get g2
        have huo := (hu.later hnew3').le (show Le (H3.later H.size) (B.over H3) by rw [← hs]; exact later_over B H3)
        have hui : IsI (B.over H3) u (negs g) := huo.isI
        have hB1 : Le (B.over H3) (base H3 p) := over_le (hp.1.trans (base_mono hH3 p)) base_size.symm fun b hb => base_blk (apart_fresh hown (by omega))
        have hnd : Nd B (B.over H3) := over_nd (by have := hH3.1; omega)
        have hu1 := oneA_isS hui
        simp (maxSteps := 2000000) (disch := first | omega | assumption | exact idP rfl | exact idP (bL rfl) | (simp only [alloc_size, upd_size]; done) | (simp only [alloc_size, upd_size]; omega) | fail) only [go_sem, reduceIte, Nat.reduceEqDiff, e0, g2', hu1.2]
        refine plo_app (hp.le hH3) hnd.1 hB1 huo (by rw [hs]; exact hnew3') (by simp [negs]; omega) (by omega) (by omega) ?_
        intro p' H4 hp4 hle4
        have b3 := hle4.rwCells ((base_mono hH3 p).rwCells w)
        have a3 := apart_of b3
        have w3' := (base_le H4 p').rwCells b3
        have hp4o := hp4.one.1
        have l3 := (Heap.rwCells_blk w3').1
        have d3 := hnd.2 hb (by rw [hs]; exact hsz) hd
        simp (maxSteps := 2000000) (disch := first | omega | assumption | exact idP rfl | exact idP (bL rfl) | (simp only [alloc_size, upd_size]; done) | (simp only [alloc_size, upd_size]; omega) | fail) only [go_sem, reduceIte, Nat.reduceEqDiff, w3', hp4.one.2]
        refine hno (by omega) (B.over H3) _ p' hnd (hp4.upd a3 d3) ?_ ?_
        · rw [base_upd a3]
          have hL : Le ((base H p).kill hb) (base H4 p') := (Le.kill _ _).trans ((base_mono hH3 p).trans hle4)
          exact hL.updDead (kill_dead _ _) _
        · exact base_rw a3 (by simp (maxSteps := 2000000) (disch := first | omega | assumption | exact idP rfl | exact idP (bL rfl) | (simp only [alloc_size, upd_size]; done) | (simp only [alloc_size, upd_size]; omega) | fail) only [go_sem, reduceIte, Nat.reduceEqDiff])
end Go.M2

namespace Go.M2
open Go.Proofs
variable {H : Heap}
def dnA : AV → Nat
  | .int _ i => i.toNat
  | _ => 0
@[go_sem] theorem dnA_int {k : IntKind} {i : Int} : dnA (.int k i) = i.toNat := idE rfl
def NextOver (m : List Int) (a nx : Nat) : Prop := (nx = 0 ∧ ∀ i (h : i < m.length), a < i → m[i] ≠ 0) ∨ (a < nx ∧ (∃ h : nx < m.length, m[nx] = 0) ∧ ∀ i (h : i < m.length), a < i → i < nx → m[i] ≠ 0)
theorem NextOver.isNext {m : List Int} {nx : Nat} (h : NextOver m 0 nx) : IsNext m nx := by
  rcases h with ⟨h1, h2⟩ | ⟨h1, h2, h3⟩
  · exact .inl ⟨h1, fun i h hi => h2 i h (by omega)⟩
  · exact .inr ⟨h1, h2, fun i h hi => h3 i h (by omega)⟩
def gvOk (gv : AV) (g : List Int) : Prop := ∃ A c ex k, gv = .sl A g.length c ex k ∧ g.length ≤ c ∧ (ex = true ∨ 0 < g.length)
theorem Own.gvOk {H : Heap} {v : AV} {g : List Int} (h : Own 1 H v (g.map (AV.int .i64))) (h0 : 0 < g.length) : gvOk v g := by
  obtain ⟨A, n, ex, k, rfl, h1, _⟩ := h
  have : g.length = n := by simpa using h1
  subst this
  exact ⟨A, g.length, ex, k, rfl, Nat.le_refl _, .inr h0⟩
def UnderPost (cl : List (List Int)) (n : Nat) (g : List Int) (P : List (List Int)) (d : Nat) (lo : Nat) (B H : Heap) (hb : Nat) (fl p vals : AV) (r : AV) (H' : Heap) : Prop :=
  ∃ (res : Res) (P' : List (List Int)) (d' : Nat) (p' w : AV) (ok ct : Bool) (B' : Heap), Try cl n g P d res P' d' ∧ r = .bool ok ∧ Nd B B' ∧ Le ((base H p).kill hb) (base H' p') ∧ (base H' p').rwCells hb = some [.int .i64 (n : Int), fl, p', .int .i64 (d' : Int), w, .bool ct] ∧ (∀ b, H'.size ≤ b → apart b p') ∧ oneA p' = true ∧ oneA w = true ∧
    (res = .no → ct = false ∧ ok = false ∧ PLO lo B' H' p' P' ∧ P'.length ≤ 600 ∧ d' ≤ P'.length + g.length ∧ w = vals) ∧ (res = .cut → ct = true ∧ ok = true) ∧
    (∀ m, res = .sat m → ct = false ∧ ok = true ∧ PLO lo B' H' p' P' ∧ IsI B' w ((m.drop 1).map valF) ∧ ∃ b nn, w = .sl (some (b, 0)) nn nn true 1)
theorem kill_kill (H : Heap) (b : Nat) : (H.kill b).kill b = H.kill b := by
  unfold Heap.kill Heap.upd
  simp only [Heap.mk.injEq, true_and]
  funext i
  split <;> simp_all
attribute [-go_sem] w_impl_hunt_under_32
set_option maxHeartbeats 8000000 in
theorem s_under {xss : List (List Int)} {n lo : Nat} (hn : n ≤ 700) (hl : xss.length ≤ 1048576) (hxl : ∀ xs ∈ xss, xs.length ≤ 1048576) (hx : ∀ xs ∈ xss, Lits n xs) : ∀ (N : Nat) {B H : Heap} {g : List Int} {P : List (List Int)} {d k hb : Nat} {fl p gv vals : AV},
    n - k < N → k ≤ n → Low xss n g k → B.size = H.size → IsII B fl xss → IsI B gv g → gvOk gv g → PLO lo B H p P → P.length ≤ 600 → d ≤ P.length + g.length → B.blk hb = .dead →
    (base H p).rwCells hb = some [.int .i64 (n : Int), fl, p, .int .i64 (d : Int), vals, .bool false] → oneA vals = true →
    ACall Try.prog n_impl_hunt_under [.ptr (some (hb, 0)), gv] H (UnderPost xss n g P d lo B H hb fl p vals) := by
  intro N
  induction N with
  | zero => intro B H g P d k hb fl p gv vals hN; omega
  | succ N ih =>
    intro B H g P d k hb fl p gv vals hN hk hlow hs hfl hgv hgo hp hP hd hdead hw hov
    refine ACall.of fun R hR => a_impl_hunt_under rfl ?_
    have hlen : g.length ≤ k := asc_len hlow.asc (fun x h => (hlow.lits x h).1) hlow.le
    have hBH : Le B H := hp.1.trans (base_le H p)
    have hof : oneA fl = true ∧ cellsOf fl = some [fl] := oneA_isS hfl
    obtain ⟨pc, hown, hpc⟩ := hp.own
    have hof1 := hof.1
    have ahb := apart_of hw
    have w' := (base_le H p).rwCells hw
    obtain ⟨hsz, hbk⟩ := Heap.rwCells_blk w'
    have g0 : H.get hb 0 = some (.int .i64 (n : Int)) := Rd.blk hsz hbk 0 _ rfl
    have g1 : H.get hb 1 = some fl := Rd.blk hsz hbk 1 _ rfl
    obtain ⟨A, c, ex, kk, rfl, hgc, hgx⟩ := hgo
    simp (maxSteps := 2000000) (disch := first | omega | assumption | exact idP rfl | exact idP (bL rfl) | (simp only [alloc_size, upd_size]; done) | (simp only [alloc_size, upd_size]; omega) | fail) only [go_sem, reduceIte, Nat.reduceEqDiff, g0]
    refine (s_signs (hgv.le hBH) (by omega) hn hlow.lits).mono ?_
    rintro r H1 ⟨rfl, hrow⟩
    have g1' := hrow.le'.get g1
    simp (maxSteps := 2000000) (disch := first | omega | assumption | exact idP rfl | exact idP (bL rfl) | (simp only [alloc_size, upd_size]; done) | (simp only [alloc_size, upd_size]; omega) | fail) only [go_sem, reduceIte, Nat.reduceEqDiff, g1']
    refine (s_forced (hfl.le hBH) hl hxl hn hx hrow given_len mk_given).mono ?_
    rintro r H2 ⟨res, hforce, hle2, hb2, hnone, hsome⟩
    have hA2 : Le H (H2.kill H.size) := hrow.le.trans hle2
    have hH2 : Le H H2 := hA2.trans (Le.kill _ _)
    have u := hH2.rwCells w'
    have hsz2 : hb < H2.size := (Heap.rwCells_blk u).1
    have hp2 : PLO lo (B.pad H2.size) H2 p P := (hp.le hH2).at (pad_nd (by omega)).1 (pad_le (hp.1.trans (base_mono hH2 p)) (by rw [base_size]; exact Nat.le_refl _))
    have hnd : Nd B (B.pad H2.size) := pad_nd (by omega)
    have w2 := (base_mono hH2 p).rwCells hw
    have hd2 : (B.pad H2.size).blk hb = .dead := hnd.2 hb (by omega) hdead
    have apF : ∀ (H' : Heap) b, Le H H' → H'.size ≤ b → apart b p := fun H' b hle hb' => apart_fresh hown (Nat.le_trans hle.1 hb')
    cases res with
    | none =>
      obtain rfl := hnone rfl
      simp (maxSteps := 2000000) (disch := first | omega | assumption | exact idP rfl | exact idP (bL rfl) | (simp only [alloc_size, upd_size]; done) | (simp only [alloc_size, upd_size]; omega) | fail) only [go_sem, reduceIte, Nat.reduceEqDiff]
      refine wp_seq'.mp (wp_seq'.mp (under_leaf (B := B.pad H2.size) (d := d) (n := n) hn hlow.asc hlow.lits (by omega) hP hof1 hov ?_ ?_ (pad_size _ _) hd2 w2 hp2 (hgv.le hnd.1) ?_ ?_))
      · simp (maxSteps := 2000000) (disch := first | omega | assumption | exact idP rfl | exact idP (bL rfl) | (simp only [alloc_size, upd_size]; done) | (simp only [alloc_size, upd_size]; omega) | fail) only [go_sem, reduceIte, Nat.reduceEqDiff]
      · simp (maxSteps := 2000000) (disch := first | omega | assumption | exact idP rfl | exact idP (bL rfl) | (simp only [alloc_size, upd_size]; done) | (simp only [alloc_size, upd_size]; omega) | fail) only [go_sem, reduceIte, Nat.reduceEqDiff]
      · intro h6
        refine hR _ _ ⟨.cut, P, d, p, vals, true, true, B.pad H2.size, .confC hforce h6, rfl, hnd, ?_, ?_, fun b hb' => apF _ b hH2 hb', hp.one.1, hov, fun h => (by cases h), fun _ => ⟨rfl, rfl⟩, fun m h => (by cases h)⟩
        · rw [base_upd ahb]
          exact ((Le.kill _ _).trans (base_mono hH2 p)).updDead (kill_dead _ _) _
        · exact base_rw ahb (by simp (maxSteps := 2000000) (disch := first | omega | assumption | exact idP rfl | exact idP (bL rfl) | (simp only [alloc_size, upd_size]; done) | (simp only [alloc_size, upd_size]; omega) | fail) only [go_sem, reduceIte, Nat.reduceEqDiff])
      · intro h6 B' H' p' hn' hp' hle' hw'
        refine hR _ _ ⟨.no, _, d, p', vals, false, false, B', .confN hforce h6, rfl, hnd.trans hn', ?_, hw', fun b hb' => by obtain ⟨_, q, _⟩ := hp'.own; exact apart_fresh q hb', hp'.one.1, hov, fun _ => ⟨rfl, rfl, hp', ?_, ?_, rfl⟩, fun h => (by cases h), fun m h => (by cases h)⟩
        · exact ((base_mono hH2 p).kills hb).trans hle'
        · simp; omega
        · simp; omega
    | some m =>
      obtain ⟨rfl, hrow2, hml, hmk⟩ := hsome m rfl
      have u0 := hH2.get g0
      simp (maxSteps := 2000000) (disch := first | omega | assumption | exact idP rfl | exact idP (bL rfl) | (simp only [alloc_size, upd_size]; done) | (simp only [alloc_size, upd_size]; omega) | fail) only [go_sem, reduceIte, Nat.reduceEqDiff, u0]
      refine wp_loop_k (fun e H' => H2 = H' ∧ ∃ (a nx : Nat), a ≤ n ∧ e 0 = .ptr (some (hb, 0)) ∧ e 1 = .sl A g.length c ex kk ∧ e 5 = .sl (some (H.size, 0)) (n + 1) (n + 1) true 1 ∧ e 6 = .int .i64 (nx : Int) ∧ e 7 = .int .i64 (a : Int) ∧ NextOver m a nx) (fun e _ => dnA (e 7)) ?_ ?_
      · exact ⟨rfl, n, 0, Nat.le_refl _, by simp (maxSteps := 2000000) (disch := first | omega | assumption | exact idP rfl | exact idP (bL rfl) | (simp only [alloc_size, upd_size]; done) | (simp only [alloc_size, upd_size]; omega) | fail) only [go_sem, reduceIte, Nat.reduceEqDiff], by simp (maxSteps := 2000000) (disch := first | omega | assumption | exact idP rfl | exact idP (bL rfl) | (simp only [alloc_size, upd_size]; done) | (simp only [alloc_size, upd_size]; omega) | fail) only [go_sem, reduceIte, Nat.reduceEqDiff], by simp (maxSteps := 2000000) (disch := first | omega | assumption | exact idP rfl | exact idP (bL rfl) | (simp only [alloc_size, upd_size]; done) | (simp only [alloc_size, upd_size]; omega) | fail) only [go_sem, reduceIte, Nat.reduceEqDiff], by simp (maxSteps := 2000000) (disch := first | omega | assumption | exact idP rfl | exact idP (bL rfl) | (simp only [alloc_size, upd_size]; done) | (simp only [alloc_size, upd_size]; omega) | fail) only [go_sem, reduceIte, Nat.reduceEqDiff]; rfl, by simp (maxSteps := 2000000) (disch := first | omega | assumption | exact idP rfl | exact idP (bL rfl) | (simp only [alloc_size, upd_size]; done) | (simp only [alloc_size, upd_size]; omega) | fail) only [go_sem, reduceIte, Nat.reduceEqDiff], .inl ⟨rfl, fun i h1 h2 => by omega⟩⟩
      rintro e _ ⟨rfl, a, nx, ha, e0, e1, e5, e6, e7, hov'⟩ K hK
      simp (maxSteps := 2000000) (disch := first | omega | assumption | exact idP rfl | exact idP (bL rfl) | (simp only [alloc_size, upd_size]; done) | (simp only [alloc_size, upd_size]; omega) | fail) only [go_sem, reduceIte, Nat.reduceEqDiff, e7]
      refine condV_dec (fun h => ?_) (fun h => ?_)
      · have hgm := hrow2.get (i := a) (by simp; omega)
        simp only [List.getElem_map] at hgm
        have e7' := e7
        simp (maxSteps := 2000000) (disch := first | omega | assumption | exact idP rfl | exact idP (bL rfl) | (simp only [alloc_size, upd_size]; done) | (simp only [alloc_size, upd_size]; omega) | fail) only [go_sem, reduceIte, Nat.reduceEqDiff, e5, e7, hgm]
        refine condV_dec (fun h0 => ?_) (fun h0 => ?_)
        · simp (maxSteps := 2000000) (disch := first | omega | assumption | exact idP rfl | exact idP (bL rfl) | (simp only [alloc_size, upd_size]; done) | (simp only [alloc_size, upd_size]; omega) | fail) only [go_sem, reduceIte, Nat.reduceEqDiff, e7]
          refine hK _ _ ⟨rfl, a - 1, a, by omega, by simp (maxSteps := 2000000) (disch := first | omega | assumption | exact idP rfl | exact idP (bL rfl) | (simp only [alloc_size, upd_size]; done) | (simp only [alloc_size, upd_size]; omega) | fail) only [go_sem, reduceIte, Nat.reduceEqDiff, e0], by simp (maxSteps := 2000000) (disch := first | omega | assumption | exact idP rfl | exact idP (bL rfl) | (simp only [alloc_size, upd_size]; done) | (simp only [alloc_size, upd_size]; omega) | fail) only [go_sem, reduceIte, Nat.reduceEqDiff, e1], by simp (maxSteps := 2000000) (disch := first | omega | assumption | exact idP rfl | exact idP (bL rfl) | (simp only [alloc_size, upd_size]; done) | (simp only [alloc_size, upd_size]; omega) | fail) only [go_sem, reduceIte, Nat.reduceEqDiff, e5], by simp (maxSteps := 2000000) (disch := first | omega | assumption | exact idP rfl | exact idP (bL rfl) | (simp only [alloc_size, upd_size]; done) | (simp only [alloc_size, upd_size]; omega) | fail) only [go_sem, reduceIte, Nat.reduceEqDiff], by simp (maxSteps := 2000000) (disch := first | omega | assumption | exact idP rfl | exact idP (bL rfl) | (simp only [alloc_size, upd_size]; done) | (simp only [alloc_size, upd_size]; omega) | fail) only [go_sem, reduceIte, Nat.reduceEqDiff]; rw [show (a : Int) - 1 = ((a - 1 : Nat) : Int) by omega], .inr ⟨by omega, ⟨by omega, sgn_zero.1 h0⟩, fun i h1 h2 h3 => by omega⟩⟩ (by simp (maxSteps := 2000000) (disch := first | omega | assumption | exact idP rfl | exact idP (bL rfl) | (simp only [alloc_size, upd_size]; done) | (simp only [alloc_size, upd_size]; omega) | fail) only [go_sem, reduceIte, Nat.reduceEqDiff, dnA_int, e7']; omega)
        · simp (maxSteps := 2000000) (disch := first | omega | assumption | exact idP rfl | exact idP (bL rfl) | (simp only [alloc_size, upd_size]; done) | (simp only [alloc_size, upd_size]; omega) | fail) only [go_sem, reduceIte, Nat.reduceEqDiff, e7]
          refine hK _ _ ⟨rfl, a - 1, nx, by omega, by simp (maxSteps := 2000000) (disch := first | omega | assumption | exact idP rfl | exact idP (bL rfl) | (simp only [alloc_size, upd_size]; done) | (simp only [alloc_size, upd_size]; omega) | fail) only [go_sem, reduceIte, Nat.reduceEqDiff, e0], by simp (maxSteps := 2000000) (disch := first | omega | assumption | exact idP rfl | exact idP (bL rfl) | (simp only [alloc_size, upd_size]; done) | (simp only [alloc_size, upd_size]; omega) | fail) only [go_sem, reduceIte, Nat.reduceEqDiff, e1], by simp (maxSteps := 2000000) (disch := first | omega | assumption | exact idP rfl | exact idP (bL rfl) | (simp only [alloc_size, upd_size]; done) | (simp only [alloc_size, upd_size]; omega) | fail) only [go_sem, reduceIte, Nat.reduceEqDiff, e5], by simp (maxSteps := 2000000) (disch := first | omega | assumption | exact idP rfl | exact idP (bL rfl) | (simp only [alloc_size, upd_size]; done) | (simp only [alloc_size, upd_size]; omega) | fail) only [go_sem, reduceIte, Nat.reduceEqDiff, e6], by simp (maxSteps := 2000000) (disch := first | omega | assumption | exact idP rfl | exact idP (bL rfl) | (simp only [alloc_size, upd_size]; done) | (simp only [alloc_size, upd_size]; omega) | fail) only [go_sem, reduceIte, Nat.reduceEqDiff]; rw [show (a : Int) - 1 = ((a - 1 : Nat) : Int) by omega], ?_⟩ (by simp (maxSteps := 2000000) (disch := first | omega | assumption | exact idP rfl | exact idP (bL rfl) | (simp only [alloc_size, upd_size]; done) | (simp only [alloc_size, upd_size]; omega) | fail) only [go_sem, reduceIte, Nat.reduceEqDiff, dnA_int, e7']; omega)
          have hma : m[a]'(by omega) ≠ 0 := fun e => h0 (sgn_zero.2 e)
          rcases hov' with ⟨q1, q2⟩ | ⟨q1, q2, q3⟩
          · refine .inl ⟨q1, fun i h1 h2 => ?_⟩
            by_cases e : i = a
            · subst e; exact hma
            · exact q2 i h1 (by omega)
          · refine .inr ⟨by omega, q2, fun i h1 h2 h3 => ?_⟩
            by_cases e : i = a
            · subst e; exact hma
            · exact q3 i h1 (by omega) h3
      obtain rfl : a = 0 := by omega
      have hnext := hov'.isNext
      clear hov' hK
      simp (maxSteps := 2000000) (disch := first | omega | assumption | exact idP rfl | exact idP (bL rfl) | (simp only [alloc_size, upd_size]; done) | (simp only [alloc_size, upd_size]; omega) | fail) only [go_sem, reduceIte, Nat.reduceEqDiff, e6]
      refine condV_dec (fun h0 => ?_) (fun h0 => ?_)
      · -- values for all
        obtain rfl : nx = 0 := by omega
        simp (maxSteps := 2000000) (disch := first | omega | assumption | exact idP rfl | exact idP (bL rfl) | (simp only [alloc_size, upd_size]; done) | (simp only [alloc_size, upd_size]; omega) | fail) only [go_sem, reduceIte, Nat.reduceEqDiff, e0, u0]
        refine mks_own (by omega) (by simp [mostCells]; omega) (by simp [mostCells]; omega) ?_
        have en : (n : Int).toNat = n := Int.toNat_natCast n
        rw [en]
        have hne : H2.size ≠ hb := by omega
        simp (maxSteps := 2000000) (disch := first | omega | assumption | exact idP rfl | exact idP (bL rfl) | (simp only [alloc_size, upd_size]; done) | (simp only [alloc_size, upd_size]; omega) | fail) only [go_sem, reduceIte, Nat.reduceEqDiff, e0, u]
        have rowX : Row (H2.upd hb (.cells [.int .i64 (n : Int), fl, p, .int .i64 (d : Int), .sl (some (H2.size, 0)) n n true 1, .bool false] true)) ((H2.alloc (zeros [.int .i64 0] n)).upd hb (.cells [.int .i64 (n : Int), fl, p, .int .i64 (d : Int), .sl (some (H2.size, 0)) n n true 1, .bool false] true)) H2.size (List.replicate n 0) := by
          refine ⟨Nat.lt_succ_self _, by rw [upd_blk_ne hne, alloc_new, zeros_int], Nat.le_succ _, fun b hb' => .inr ?_⟩
          have hb' : b < H2.size := hb'
          rw [kill_ne (by omega)]
          by_cases hbb : b = hb
          · subst hbb; rw [upd_blk_same', upd_blk_same']
          · rw [upd_blk_ne hbb, upd_blk_ne hbb, alloc_old (by omega)]
        generalize hX : [AV.int .i64 (n : Int), fl, p, .int .i64 (d : Int), .sl (some (H2.size, 0)) n n true 1, .bool false] = X at *
        have sgG : ∀ H', Le (H2.upd hb (.cells X true)) H' → H'.get hb 4 = some (.sl (some (H2.size, 0)) n n true 1) := fun H' hle => hle.get (by rw [get_upd_same hsz2, ← hX]; rfl)
        have hsn : H.size ≠ hb := by omega
        refine wp_loop_k (fun e H' => ∃ (i : Nat) (L : List Int), i ≤ n ∧ e 0 = .ptr (some (hb, 0)) ∧ e 5 = .sl (some (H.size, 0)) (n + 1) (n + 1) true 1 ∧ e 56 = .int .i64 (n : Int) ∧ e 57 = .int .i64 (i : Int) ∧ L.length = n ∧ (∀ j, j < i → L[j]? = ((m.drop 1).map valF)[j]?) ∧ Row (H2.upd hb (.cells X true)) H' H2.size L) (fun e _ => ctr n (e 57)) ?_ ?_
        · exact ⟨0, _, Nat.zero_le _, by simp (maxSteps := 2000000) (disch := first | omega | assumption | exact idP rfl | exact idP (bL rfl) | (simp only [alloc_size, upd_size]; done) | (simp only [alloc_size, upd_size]; omega) | fail) only [go_sem, reduceIte, Nat.reduceEqDiff, e0], by simp (maxSteps := 2000000) (disch := first | omega | assumption | exact idP rfl | exact idP (bL rfl) | (simp only [alloc_size, upd_size]; done) | (simp only [alloc_size, upd_size]; omega) | fail) only [go_sem, reduceIte, Nat.reduceEqDiff, e5], by simp (maxSteps := 2000000) (disch := first | omega | assumption | exact idP rfl | exact idP (bL rfl) | (simp only [alloc_size, upd_size]; done) | (simp only [alloc_size, upd_size]; omega) | fail) only [go_sem, reduceIte, Nat.reduceEqDiff], by simp (maxSteps := 2000000) (disch := first | omega | assumption | exact idP rfl | exact idP (bL rfl) | (simp only [alloc_size, upd_size]; done) | (simp only [alloc_size, upd_size]; omega) | fail) only [go_sem, reduceIte, Nat.reduceEqDiff]; rfl, by simp, fun j h => by omega, rowX⟩
        rintro e H3 ⟨i, L, hi, e0, e5, e56, e57, hL, hLj, hrowL⟩ K hK
        simp (maxSteps := 2000000) (disch := first | omega | assumption | exact idP rfl | exact idP (bL rfl) | (simp only [alloc_size, upd_size]; done) | (simp only [alloc_size, upd_size]; omega) | fail) only [go_sem, reduceIte, Nat.reduceEqDiff, e56, e57]
        refine condV_dec (fun h => ?_) (fun h => ?_)
        · have hgm := hrow2.get (i := i + 1) (by simp; omega)
          simp only [List.getElem_map] at hgm
          have hgm' := hrowL.le'.get (b := H.size) (o := i + 1) (by rw [get_upd_ne hsn]; exact hgm)
          have v4' := sgG _ hrowL.le'
          have et : ((i : Int) + 1).toNat = i + 1 := by omega
          have e57' := e57
          simp (maxSteps := 2000000) (disch := first | omega | assumption | exact idP rfl | exact idP (bL rfl) | (simp only [alloc_size, upd_size]; done) | (simp only [alloc_size, upd_size]; omega) | fail) only [go_sem, reduceIte, Nat.reduceEqDiff, e0, e5, e57, v4', et, hgm']
          refine s_bit.mono ?_
          rintro r H4 ⟨rfl, rfl⟩
          simp (maxSteps := 2000000) (disch := first | omega | assumption | exact idP rfl | exact idP (bL rfl) | (simp only [alloc_size, upd_size]; done) | (simp only [alloc_size, upd_size]; omega) | fail) only [go_sem, reduceIte, Nat.reduceEqDiff, e0, e5, e57, v4', hrowL.rw]
          rw [stoK_1 rfl (by simp; omega)]
          simp (maxSteps := 2000000) (disch := first | omega | assumption | exact idP rfl | exact idP (bL rfl) | (simp only [alloc_size, upd_size]; done) | (simp only [alloc_size, upd_size]; omega) | fail) only [go_sem, reduceIte, Nat.reduceEqDiff, e57]
          refine hK _ _ ⟨i + 1, _, by omega, by simp (maxSteps := 2000000) (disch := first | omega | assumption | exact idP rfl | exact idP (bL rfl) | (simp only [alloc_size, upd_size]; done) | (simp only [alloc_size, upd_size]; omega) | fail) only [go_sem, reduceIte, Nat.reduceEqDiff, e0], by simp (maxSteps := 2000000) (disch := first | omega | assumption | exact idP rfl | exact idP (bL rfl) | (simp only [alloc_size, upd_size]; done) | (simp only [alloc_size, upd_size]; omega) | fail) only [go_sem, reduceIte, Nat.reduceEqDiff, e5], by simp (maxSteps := 2000000) (disch := first | omega | assumption | exact idP rfl | exact idP (bL rfl) | (simp only [alloc_size, upd_size]; done) | (simp only [alloc_size, upd_size]; omega) | fail) only [go_sem, reduceIte, Nat.reduceEqDiff, e56], by simp (maxSteps := 2000000) (disch := first | omega | assumption | exact idP rfl | exact idP (bL rfl) | (simp only [alloc_size, upd_size]; done) | (simp only [alloc_size, upd_size]; omega) | fail) only [go_sem, reduceIte, Nat.reduceEqDiff]; rfl, ?_, fun j hj => ?_, hrowL.set _ _⟩ (by simp (maxSteps := 2000000) (disch := first | omega | assumption | exact idP rfl | exact idP (bL rfl) | (simp only [alloc_size, upd_size]; done) | (simp only [alloc_size, upd_size]; omega) | fail) only [go_sem, reduceIte, Nat.reduceEqDiff, ctr_int, e57']; omega)
          · simpa using hL
          · by_cases hji : j = i
            · subst hji
              rw [List.getElem?_set_self (by omega)]
              rw [List.getElem?_map, List.getElem?_drop, Nat.add_comm 1 j, List.getElem?_eq_getElem (by omega)]
              by_cases hq : 0 < m[j + 1]
              · have := sgn_pos.2 hq
                simp [valF, hq, this]
              · have : ¬ 0 < sgn m[j + 1] := fun e => hq (sgn_pos.1 e)
                simp [valF, hq, this]
            · rw [List.getElem?_set_ne (by omega)]; exact hLj j (by omega)
        · obtain rfl : i = n := by omega
          have hLe : L = (m.drop 1).map valF := by
            apply List.ext_getElem?
            intro j
            by_cases hj : j < i
            · exact hLj j hj
            · rw [List.getElem?_eq_none (by omega), List.getElem?_eq_none (by simp; omega)]
          subst hLe
          simp (maxSteps := 2000000) (disch := first | omega | assumption | exact idP rfl | exact idP (bL rfl) | (simp only [alloc_size, upd_size]; done) | (simp only [alloc_size, upd_size]; omega) | fail) only [go_sem, reduceIte, Nat.reduceEqDiff]
          have hL3 : Le (H2.upd hb (.cells X true)) H3 := hrowL.le'
          have hsz3 : H2.size ≤ H3.size := hL3.1
          have hpA : PLO lo (B.pad H2.size) H3 p P := (hp2.upd ahb hd2).le hL3
          have hB4 : Le ((B.pad H2.size).over H3) (base H3 p) := over_le hpA.1 base_size.symm fun b hb' => base_blk (apart_fresh hown (by have := hH2.1; rw [pad_size] at hb'; omega))
          have hnd4 : Nd (B.pad H2.size) ((B.pad H2.size).over H3) := over_nd (by rw [pad_size]; exact hsz3)
          have hown3 : Own 1 H3 (.sl (some (H2.size, 0)) i i true 1) (((m.drop 1).map valF).map (AV.int .i64)) := ⟨some (H2.size, 0), i, true, 1, rfl, by simp; omega, fun h => (nomatch h), fun b o e => by cases e; exact ⟨rfl, rfl, hrowL.lt, hrowL.blk⟩⟩
          have hwi : IsI ((B.pad H2.size).over H3) (.sl (some (H2.size, 0)) i i true 1) ((m.drop 1).map valF) := (hown3.later (n := H2.size) (Nat.le_refl _)).isI.le (by have := later_over (B.pad H2.size) H3; rwa [pad_size] at this)
          refine hR _ _ ⟨.sat m, P, d, p, .sl (some (H2.size, 0)) i i true 1, true, false, (B.pad H2.size).over H3, .sat hforce hnext, rfl, hnd.trans hnd4, ?_, ?_, fun b hb' => apF _ b hH2 (Nat.le_trans hsz3 hb'), hp.one.1, rfl, fun h => (by cases h), fun h => (by cases h), fun m' h => ?_⟩
          · have h1 : Le (base (H2.upd hb (.cells X true)) p) (base H3 p) := base_mono hL3 p
            rw [base_upd ahb] at h1
            exact (((Le.kill _ _).trans (base_mono hH2 p)).updDead (kill_dead _ _) _).trans h1
          · rw [hX]
            exact base_rw ahb (hL3.rwCells (by simp (maxSteps := 2000000) (disch := first | omega | assumption | exact idP rfl | exact idP (bL rfl) | (simp only [alloc_size, upd_size]; done) | (simp only [alloc_size, upd_size]; omega) | fail) only [go_sem, reduceIte, Nat.reduceEqDiff]))
          · cases h
            exact ⟨rfl, rfl, hpA.at hnd4.1 hB4, hwi, _, _, rfl⟩
      · -- a choice
        have ha0 : nx ≠ 0 := by omega
        have han : nx ≤ n := by
          rcases hnext with ⟨e, _⟩ | ⟨_, ⟨h1, _⟩, _⟩
          · exact absurd e ha0
          · omega
        obtain ⟨hka, hlow1⟩ := hlow.next (x := -(nx : Int)) hforce hml hnext ha0 (by omega)
        obtain ⟨_, hlow2⟩ := hlow.next (x := (nx : Int)) hforce hml hnext ha0 (by omega)
        have u3 : H2.get hb 3 = some (.int .i64 (d : Int)) := hH2.get (Rd.blk hsz hbk 3 _ rfl)
        simp (maxSteps := 2000000) (disch := first | omega | assumption | exact idP rfl | exact idP (bL rfl) | (simp only [alloc_size, upd_size]; done) | (simp only [alloc_size, upd_size]; omega) | fail) only [go_sem, reduceIte, Nat.reduceEqDiff, e0, u3, u]
        have hd1 : ((d : Int) + 1) = ((d + 1 : Nat) : Int) := by omega
        generalize hX : [AV.int .i64 (n : Int), fl, p, .int .i64 ((d : Int) + 1), vals, .bool false] = X at *
        have hp3 : PLO lo (B.pad H2.size) (H2.upd hb (.cells X true)) p P := hp2.upd ahb hd2
        have hgvH := (hgv.le hnd.1).le (hp3.1.trans (base_le _ _))
        have hgl : g.length ≤ 700 := by omega
        simp (maxSteps := 2000000) (disch := first | omega | assumption | exact idP rfl | exact idP (bL rfl) | (simp only [alloc_size, upd_size]; done) | (simp only [alloc_size, upd_size]; omega) | fail) only [go_sem, reduceIte, Nat.reduceEqDiff, e1]
        refine (s_Clip hgvH (by omega) hgc hgx (.inr trivial)).mono ?_
        rintro r H3 ⟨rfl, A1, k1, rfl, hcl⟩
        simp (maxSteps := 2000000) (disch := first | omega | assumption | exact idP rfl | exact idP (bL rfl) | (simp only [alloc_size, upd_size]; done) | (simp only [alloc_size, upd_size]; omega) | fail) only [go_sem, reduceIte, Nat.reduceEqDiff, e6]
        refine app_full hcl (by omega) (by omega) ?_
        intro c1 H5 hc1 hle5 hnc1
        have hH5 := hle5.trans (base_le _ _)
        have hsz5 : H2.size ≤ H5.size := hH5.1
        have x5 : H5.rwCells hb = some X := hH5.rwCells (by simp (maxSteps := 2000000) (disch := first | omega | assumption | exact idP rfl | exact idP (bL rfl) | (simp only [alloc_size, upd_size]; done) | (simp only [alloc_size, upd_size]; omega) | fail) only [go_sem, reduceIte, Nat.reduceEqDiff])
        have w5 := base_rw ahb x5
        have hpA := hp3.le hH5
        have hB5 : Le ((B.pad H2.size).over H5) (base H5 p) := over_le hpA.1 base_size.symm fun b hb' => base_blk (apF _ b hH2 (by rw [pad_size] at hb'; exact hb'))
        have hnd5 : Nd (B.pad H2.size) ((B.pad H2.size).over H5) := over_nd (by rw [pad_size]; exact hsz5)
        have hp5 := hpA.at hnd5.1 hB5
        have hc1' : Own 1 H5 c1 ((g ++ [-(nx : Int)]).map (AV.int .i64)) := by
          have e : (0 : Int) - (nx : Int) = -(nx : Int) := by omega
          rw [← e]; exact hc1
        have hci : IsI ((B.pad H2.size).over H5) c1 (g ++ [-(nx : Int)]) := (hc1'.later (n := H2.size) hnc1).isI.le (by have := later_over (B.pad H2.size) H5; rwa [pad_size] at this)
        have hdd5 := hnd5.2 hb (by rw [pad_size]; exact hsz2) hd2
        simp (maxSteps := 2000000) (disch := first | omega | assumption | exact idP rfl | exact idP (bL rfl) | (simp only [alloc_size, upd_size]; done) | (simp only [alloc_size, upd_size]; omega) | fail) only [go_sem, reduceIte, Nat.reduceEqDiff, e0]
        rw [← hX, hd1] at w5
        refine (ih (B := (B.pad H2.size).over H5) (H := H5) (k := nx) (by omega) han hlow1 rfl (hfl.le (hnd.trans hnd5).1) hci (hc1'.gvOk (by simp)) hp5 hP (by simp; omega) hdd5 w5 hov).mono ?_
        rintro r H6 ⟨res1, P1, d1, p1, w1, ok1, ct1, B6, htry1, rfl, hnd6, hle6, hw6, hap1, ho1, how1, hno1, hcut1, hsat1⟩
        have hndB6 := (hnd.trans hnd5).trans hnd6
        have hL5 : Le ((base H p).kill hb) ((base H5 p).kill hb) := by
          have h1 := (base_mono hH5 p).kills hb
          rw [base_upd ahb, upd_kill] at h1
          exact ((base_mono hH2 p).kills hb).trans h1
        have hL6 : Le ((base H p).kill hb) (base H6 p1) := hL5.trans hle6
        cases res1 with
        | sat m1 =>
          obtain ⟨rfl, rfl, hpl, hwi, hwf⟩ := hsat1 m1 rfl
          simp (maxSteps := 2000000) (disch := first | omega | assumption | exact idP rfl | exact idP (bL rfl) | (simp only [alloc_size, upd_size]; done) | (simp only [alloc_size, upd_size]; omega) | fail) only [go_sem, reduceIte, Nat.reduceEqDiff]
          exact hR _ _ ⟨.sat m1, P1, d1, p1, w1, true, false, B6, .left hforce hnext ha0 htry1 (by intro h; cases h), rfl, hndB6, hL6, hw6, hap1, ho1, how1, fun h => (by cases h), fun h => (by cases h), fun m' h => by cases h; exact ⟨rfl, rfl, hpl, hwi, hwf⟩⟩
        | cut =>
          obtain ⟨rfl, rfl⟩ := hcut1 rfl
          simp (maxSteps := 2000000) (disch := first | omega | assumption | exact idP rfl | exact idP (bL rfl) | (simp only [alloc_size, upd_size]; done) | (simp only [alloc_size, upd_size]; omega) | fail) only [go_sem, reduceIte, Nat.reduceEqDiff]
          exact hR _ _ ⟨.cut, P1, d1, p1, w1, true, true, B6, .left hforce hnext ha0 htry1 (by intro h; cases h), rfl, hndB6, hL6, hw6, hap1, ho1, how1, fun h => (by cases h), fun _ => ⟨rfl, rfl⟩, fun m' h => by cases h⟩
        | no =>
          obtain ⟨rfl, rfl, hpl, hlen1, hd1', hwv1⟩ := hno1 rfl
          have hgl1 : (g ++ [-(nx : Int)]).length = g.length + 1 := by simp
          have hsB6 : B6.size ≤ H6.size := by have := hpl.1.1; rw [base_size] at this; exact this
          obtain ⟨pc1, hown1, _⟩ := hpl.own
          have q6 := apart_of hw6
          have hgv6 := (hgv.le hndB6.1).le (hpl.1.trans (base_le _ _))
          simp (maxSteps := 2000000) (disch := first | omega | assumption | exact idP rfl | exact idP (bL rfl) | (simp only [alloc_size, upd_size]; done) | (simp only [alloc_size, upd_size]; omega) | fail) only [go_sem, reduceIte, Nat.reduceEqDiff, e0, e1]
          refine (s_Clip hgv6 (by omega) hgc hgx (.inr trivial)).mono ?_
          rintro r H7 ⟨rfl, A2, k2, rfl, hcl2⟩
          simp (maxSteps := 2000000) (disch := first | omega | assumption | exact idP rfl | exact idP (bL rfl) | (simp only [alloc_size, upd_size]; done) | (simp only [alloc_size, upd_size]; omega) | fail) only [go_sem, reduceIte, Nat.reduceEqDiff, e6]
          refine app_full hcl2 (by omega) (by omega) ?_
          intro c3 H9 hc3 hle9 hnc3
          have hH9 := hle9.trans (base_le _ _)
          have hsz9 : H7.size ≤ H9.size := hH9.1
          have hpB := hpl.le hH9
          have w9 := (base_mono hH9 p1).rwCells hw6
          have hndp : Nd B6 (B6.pad H7.size) := pad_nd hsB6
          have hBp9 : Le (B6.pad H7.size) (base H9 p1) := pad_le hpB.1 (by rw [base_size]; exact hsz9)
          have hB9 : Le ((B6.pad H7.size).over H9) (base H9 p1) := over_le hBp9 base_size.symm fun b hb' => base_blk (apart_fresh hown1 (by rw [pad_size] at hb'; exact hb'))
          have hnd9 : Nd (B6.pad H7.size) ((B6.pad H7.size).over H9) := over_nd (by rw [pad_size]; exact hsz9)
          have hp9 := hpB.at (hndp.trans hnd9).1 hB9
          have hci3 : IsI ((B6.pad H7.size).over H9) c3 (g ++ [(nx : Int)]) := (hc3.later (n := H7.size) hnc3).isI.le (by have := later_over (B6.pad H7.size) H9; rwa [pad_size] at this)
          have hszB6 : hb < B6.size := Nat.lt_of_lt_of_le (Nat.lt_of_lt_of_le hsz2 hsz5) hnd6.1.1
          have hd6 : B6.blk hb = .dead := hnd6.2 hb (Nat.lt_of_lt_of_le hsz2 hsz5) hdd5
          have hdd9 := (hndp.trans hnd9).2 hb hszB6 hd6
          simp (maxSteps := 2000000) (disch := first | omega | assumption | exact idP rfl | exact idP (bL rfl) | (simp only [alloc_size, upd_size]; done) | (simp only [alloc_size, upd_size]; omega) | fail) only [go_sem, reduceIte, Nat.reduceEqDiff, e0]
          refine (ih (B := (B6.pad H7.size).over H9) (H := H9) (k := nx) (by omega) han hlow2 rfl (hfl.le ((hndB6.trans hndp).trans hnd9).1) hci3 (hc3.gvOk (by simp)) hp9 hlen1 (by simp at hd1' ⊢; omega) hdd9 w9 how1).mono ?_
          rintro r H10 ⟨res2, P2, d2, p2, w3, ok2, ct2, B10, htry2, rfl, hnd10, hle10, hw10, hap2, ho2, how2, hno2, hcut2, hsat2⟩
          have hndB10 := ((hndB6.trans hndp).trans hnd9).trans hnd10
          have hL10 : Le ((base H p).kill hb) (base H10 p2) := by
            have h2 : Le ((base H p).kill hb) ((base H7 p1).kill hb) := by
              have h3 := hL6.kills hb
              rwa [kill_kill] at h3
            exact (h2.trans ((base_mono hH9 p1).kills hb)).trans hle10
          cases res2 with
          | sat m2 =>
            obtain ⟨rfl, rfl, hpl2, hwi2, hwf2⟩ := hsat2 m2 rfl
            simp (maxSteps := 2000000) (disch := first | omega | assumption | exact idP rfl | exact idP (bL rfl) | (simp only [alloc_size, upd_size]; done) | (simp only [alloc_size, upd_size]; omega) | fail) only [go_sem, reduceIte, Nat.reduceEqDiff]
            exact hR _ _ ⟨.sat m2, P2, d2, p2, w3, true, false, B10, .right hforce hnext ha0 htry1 htry2 (by intro h; cases h), rfl, hndB10, hL10, hw10, hap2, ho2, how2, fun h => (by cases h), fun h => (by cases h), fun m' h => by cases h; exact ⟨rfl, rfl, hpl2, hwi2, hwf2⟩⟩
          | cut =>
            obtain ⟨rfl, rfl⟩ := hcut2 rfl
            simp (maxSteps := 2000000) (disch := first | omega | assumption | exact idP rfl | exact idP (bL rfl) | (simp only [alloc_size, upd_size]; done) | (simp only [alloc_size, upd_size]; omega) | fail) only [go_sem, reduceIte, Nat.reduceEqDiff]
            exact hR _ _ ⟨.cut, P2, d2, p2, w3, true, true, B10, .right hforce hnext ha0 htry1 htry2 (by intro h; cases h), rfl, hndB10, hL10, hw10, hap2, ho2, how2, fun h => (by cases h), fun _ => ⟨rfl, rfl⟩, fun m' h => by cases h⟩
          | no =>
            obtain ⟨rfl, rfl, hpl2, hlen2, hd2', hwv2⟩ := hno2 rfl
            have hb10 : B10.size ≤ H10.size := by have := hpl2.1.1; rw [base_size] at this; exact this
            have hndq : Nd B10 (B10.pad H10.size) := pad_nd hb10
            have hszB10 : hb < B10.size := Nat.lt_of_lt_of_le hszB6 ((hndp.trans hnd9).trans hnd10).1.1
            have hd10 : B10.blk hb = .dead := hnd10.2 hb (Nat.lt_of_lt_of_le hszB6 (hndp.trans hnd9).1.1) hdd9
            have hpq : PLO lo (B10.pad H10.size) H10 p2 P2 := hpl2.at hndq.1 (pad_le hpl2.1 (by rw [base_size]; exact Nat.le_refl _))
            have q10 := apart_of hw10
            simp (maxSteps := 2000000) (disch := first | omega | assumption | exact idP rfl | exact idP (bL rfl) | (simp only [alloc_size, upd_size]; done) | (simp only [alloc_size, upd_size]; omega) | fail) only [go_sem, reduceIte, Nat.reduceEqDiff]
            refine wp_seq'.mp (wp_seq'.mp (under_leaf (B := B10.pad H10.size) (d := d2) (n := n) (g := g) (P := P2) hn hlow.asc hlow.lits (by omega) hlen2 hof1 how2 ?_ ?_ (pad_size _ _) (hndq.2 hb hszB10 hd10) hw10 hpq (hgv.le (hndB10.trans hndq).1) ?_ ?_))
            · simp (maxSteps := 2000000) (disch := first | omega | assumption | exact idP rfl | exact idP (bL rfl) | (simp only [alloc_size, upd_size]; done) | (simp only [alloc_size, upd_size]; omega) | fail) only [go_sem, reduceIte, Nat.reduceEqDiff, e0]
            · simp (maxSteps := 2000000) (disch := first | omega | assumption | exact idP rfl | exact idP (bL rfl) | (simp only [alloc_size, upd_size]; done) | (simp only [alloc_size, upd_size]; omega) | fail) only [go_sem, reduceIte, Nat.reduceEqDiff, e1]
            · intro h6
              refine hR _ _ ⟨.cut, P2, d2, p2, w3, true, true, B10.pad H10.size, .bothC hforce hnext ha0 htry1 htry2 h6, rfl, hndB10.trans hndq, ?_, ?_, hap2, ho2, how2, fun h => (by cases h), fun _ => ⟨rfl, rfl⟩, fun m h => (by cases h)⟩
              · rw [base_upd q10]
                exact hL10.updDead (kill_dead _ _) _
              · exact base_rw q10 (by simp (maxSteps := 2000000) (disch := first | omega | assumption | exact idP rfl | exact idP (bL rfl) | (simp only [alloc_size, upd_size]; done) | (simp only [alloc_size, upd_size]; omega) | fail) only [go_sem, reduceIte, Nat.reduceEqDiff, (Heap.rwCells_blk ((base_le H10 p2).rwCells hw10)).1])
            · intro h6 B' H' p' hn' hp' hle' hw'
              refine hR _ _ ⟨.no, _, d2, p', w3, false, false, B', .bothN hforce hnext ha0 htry1 htry2 h6, rfl, (hndB10.trans hndq).trans hn', ?_, hw', fun b hb' => by obtain ⟨_, q, _⟩ := hp'.own; exact apart_fresh q hb', hp'.one.1, how2, fun _ => ⟨rfl, rfl, hp', ?_, ?_, hwv2.trans hwv1⟩, fun h => (by cases h), fun m h => (by cases h)⟩
              · have h3 := hL10.kills hb
                rw [kill_kill] at h3
                exact h3.trans hle'
              · simp; omega
              · simp at hd2' ⊢; omega
end Go.M2

namespace Go.M2
open Go.Proofs
variable {H : Heap}
def HuntPost (cl : List (List Int)) (n : Nat) (H : Heap) (r : AV) (H' : Heap) : Prop :=
  ∃ (res : Res) (P' : List (List Int)) (d' hb : Nat) (fl p' w : AV) (ct : Bool) (B' : Heap), Try cl n [] [] 0 res P' d' ∧ r = .ptr (some (hb, 0)) ∧ Le H H' ∧ H'.rwCells hb = some [.int .i64 (n : Int), fl, p', .int .i64 (d' : Int), w, .bool ct] ∧ oneA fl = true ∧ oneA p' = true ∧ oneA w = true ∧
    (res = .no → ct = false ∧ PLO H.size B' H' p' P' ∧ P'.length ≤ 600 ∧ w = .sl none 0 0 true 0) ∧ (res = .cut → ct = true) ∧ (∀ m, res = .sat m → ct = false ∧ IsI B' w ((m.drop 1).map valF) ∧ Le B' (base H' p') ∧ ∃ b nn, w = .sl (some (b, 0)) nn nn true 1)
theorem s_hunted {x : AV} {n : Nat} {xss : List (List Int)} (hx : IsCl H x (n : Int) xss) (hok : ClsOk (n : Int) xss) (hl : xss.length ≤ 1048576) (hxl : ∀ xs ∈ xss, xs.length ≤ 1048576) :
    ACall Try.prog n_impl_hunted [x] H (HuntPost xss n H) := by
  refine ACall.of fun R hR => a_impl_hunted rfl ?_
  obtain ⟨fl, rfl, hv⟩ := hx
  have hof := oneA_isS hv
  have hof1 := hof.1
  have hn := hok.hi
  simp (maxSteps := 2000000) (disch := first | omega | assumption | exact idP rfl | exact idP (bL rfl) | (simp only [alloc_size, upd_size]; done) | (simp only [alloc_size, upd_size]; omega) | fail) only [go_sem, reduceIte, Nat.reduceEqDiff, hof.2]
  have hH3 : Le H ((H.alloc [.int .i64 (n : Int), fl]).alloc [.int .i64 (n : Int), fl, .sl none 0 0 true 0, .int .i64 0, .sl none 0 0 true 0, .bool false]) := (Le.refl _).allocs.allocs
  have hnp : Nd H (H.pad (H.size + 1 + 1)) := pad_nd (by omega)
  have hpl : PLO H.size (H.pad (H.size + 1 + 1)) ((H.alloc [.int .i64 (n : Int), fl]).alloc [.int .i64 (n : Int), fl, .sl none 0 0 true 0, .int .i64 0, .sl none 0 0 true 0, .bool false]) (.sl none 0 0 true 0) [] :=
    ⟨pad_le hH3 (Nat.le_refl _), by rw [pad_size]; omega, [], Own.nil, rfl, fun i h => by simp at h, fun i j u v h1 h2 => by simp at h2⟩
  refine (s_under (n := n) (xss := xss) (by omega) hl hxl (fun xs h => clOk_lits (hok.all xs h)) (n + 1) (B := H.pad (H.size + 1 + 1)) (H := (H.alloc [.int .i64 (n : Int), fl]).alloc [.int .i64 (n : Int), fl, .sl none 0 0 true 0, .int .i64 0, .sl none 0 0 true 0, .bool false]) (g := []) (P := []) (d := 0) (k := 0) (hb := H.size + 1) (fl := fl) (p := .sl none 0 0 true 0) (vals := .sl none 0 0 true 0)
    (by omega) (by omega) (Low.nil _ _) rfl (hv.le hnp.1) ⟨_, 0, true, 0, rfl, fun i h => by simp at h⟩ ⟨_, 0, true, 0, rfl, Nat.le_refl _, .inl rfl⟩ hpl (by simp) (by simp) (pad_dead (by omega)) (show ((H.alloc [.int .i64 (n : Int), fl]).alloc [.int .i64 (n : Int), fl, .sl none 0 0 true 0, .int .i64 0, .sl none 0 0 true 0, .bool false]).rwCells (H.size + 1) = some _ from rw_alloc_new rfl) rfl).mono ?_
  rintro r H4 ⟨res, P', d', p', w, ok, ct, B', htry, rfl, hnd, hle, hw, hap, ho1, how, hno, hcut, hsat⟩
  simp (maxSteps := 2000000) (disch := first | omega | assumption | exact idP rfl | exact idP (bL rfl) | (simp only [alloc_size, upd_size]; done) | (simp only [alloc_size, upd_size]; omega) | fail) only [go_sem, reduceIte, Nat.reduceEqDiff]
  have hL : Le H (base H4 p') := Le.trans (hH3.killFresh (Nat.le_succ _)) hle
  refine hR _ _ ⟨res, P', d', H.size + 1, fl, p', w, ct, B', htry, rfl, hL.trans (base_le _ _), (base_le _ _).rwCells hw, hof1, ho1, how, fun h => ?_, fun h => (hcut h).1, fun m h => ?_⟩
  · obtain ⟨h1, h2, h3, h5, _, h4⟩ := hno h
    exact ⟨h1, h3, h5, h4⟩
  · obtain ⟨h1, h2, h3, h4, h5⟩ := hsat m h
    exact ⟨h1, h4, h3.1, h5⟩
def DecRes (n : Int) (xss : List (List Int)) (a : Int) (b : Bool) : Prop :=
  (¬ ClsOk n xss ∧ a = 0 ∧ b = false) ∨ (ClsOk n xss ∧ ∃ (m : Nat) (res : Res) (P : List (List Int)) (d : Nat), n = m ∧ Try xss m [] [] 0 res P d ∧ ((res = .cut ∧ a = 0 ∧ b = false) ∨ (res ≠ .cut ∧ a = d ∧ b = true)))
theorem DecRes.det {n : Int} {xss : List (List Int)} {a a' : Int} {b b' : Bool} (h : DecRes n xss a b) (h' : DecRes n xss a' b') : a = a' ∧ b = b' := by
  rcases h with ⟨h1, rfl, rfl⟩ | ⟨h1, m, res, P, d, rfl, h2, h3⟩
  · rcases h' with ⟨_, rfl, rfl⟩ | ⟨h1', _⟩
    · exact ⟨rfl, rfl⟩
    · exact absurd h1' h1
  · rcases h' with ⟨h1', _⟩ | ⟨_, m', res', P', d', hm, h2', h3'⟩
    · exact absurd h1 h1'
    · obtain rfl : m = m' := by omega
      obtain ⟨rfl, rfl, rfl⟩ := h2.det h2'
      rcases h3 with ⟨h4, rfl, rfl⟩ | ⟨h4, rfl, rfl⟩
      · rcases h3' with ⟨_, rfl, rfl⟩ | ⟨h5, _⟩
        · exact ⟨rfl, rfl⟩
        · exact absurd h4 h5
      · rcases h3' with ⟨h5, _⟩ | ⟨_, rfl, rfl⟩
        · exact absurd h5 h4
        · exact ⟨rfl, rfl⟩
end Go.M2

namespace Go.M2
open Go.Proofs
variable {H : Heap}
def SolRes (n : Int) (xss : List (List Int)) (vals : List Int) (ok : Bool) : Prop :=
  (¬ ClsOk n xss ∧ vals = [] ∧ ok = false) ∨ (ClsOk n xss ∧ ∃ (m : Nat) (res : Res) (P : List (List Int)) (d : Nat), n = m ∧ Try xss m [] [] 0 res P d ∧ ((∃ mm, res = .sat mm ∧ vals = (mm.drop 1).map valF ∧ ok = true) ∨ ((res = .no ∨ res = .cut) ∧ vals = [] ∧ ok = false)))
theorem SolRes.det {n : Int} {xss : List (List Int)} {v v' : List Int} {b b' : Bool} (h : SolRes n xss v b) (h' : SolRes n xss v' b') : v = v' ∧ b = b' := by
  rcases h with ⟨h1, rfl, rfl⟩ | ⟨h1, m, res, P, d, rfl, h2, h3⟩
  · rcases h' with ⟨_, rfl, rfl⟩ | ⟨h1', _⟩
    · exact ⟨rfl, rfl⟩
    · exact absurd h1' h1
  · rcases h' with ⟨h1', _⟩ | ⟨_, m', res', P', d', hm, h2', h3'⟩
    · exact absurd h1 h1'
    · obtain rfl : m = m' := by omega
      obtain ⟨rfl, rfl, rfl⟩ := h2.det h2'
      rcases h3 with ⟨mm, rfl, rfl, rfl⟩ | ⟨h4, rfl, rfl⟩
      · rcases h3' with ⟨mm', e, rfl, rfl⟩ | ⟨h5 | h5, _⟩
        · cases e; exact ⟨rfl, rfl⟩
        · cases h5
        · cases h5
      · rcases h3' with ⟨mm', rfl, _⟩ | ⟨_, rfl, rfl⟩
        · rcases h4 with h4 | h4 <;> cases h4
        · exact ⟨rfl, rfl⟩
theorem SolRes.len {n : Int} {xss : List (List Int)} {v : List Int} {b : Bool} (h : SolRes n xss v b) (hf : ∀ m : Nat, n = m → ∀ g P d r P' d', Try xss m g P d r P' d' → ∀ mm, r = .sat mm → mm.length = m + 1) : v.length ≤ 700 := by
  rcases h with ⟨h1, rfl, rfl⟩ | ⟨h1, m, res, P, d, rfl, h2, ⟨mm, rfl, rfl, rfl⟩ | ⟨_, rfl, rfl⟩⟩
  · simp
  · have := hf m rfl _ _ _ _ _ _ h2 mm rfl
    have := h1.hi
    simp; omega
  · simp
theorem passF_len : ∀ {t : List (List Int)} {m m' : List Int} {ag ag' : Bool}, passF t m ag = some (m', ag') → m'.length = m.length
  | [], m, m', ag, ag', h => by simp only [passF, Option.some.injEq, Prod.mk.injEq] at h; rw [h.1]
  | c :: t, m, m', ag, ag', h => by
    simp only [passF] at h
    split at h
    · cases h
    · split at h
      · have := passF_len h; simpa using this
      · exact passF_len h
theorem Force.len {cl : List (List Int)} {m : List Int} {r : Option (List Int)} (h : Force cl m r) : ∀ m', r = some m' → m'.length = m.length := by
  induction h with
  | bad _ => intro m' e; cases e
  | stop h => intro m' e; cases e; exact passF_len h
  | go h _ ih => intro m' e; rw [ih m' e, passF_len h]
theorem Try.len {cl : List (List Int)} {n : Nat} {g : List Int} {P P' : List (List Int)} {d d' : Nat} {r : Res} (h : Try cl n g P d r P' d') : ∀ mm, r = .sat mm → mm.length = n + 1 := by
  induction h with
  | sat f _ => intro mm e; cases e; rw [f.len _ rfl, given_len]
  | left _ _ _ _ _ ih => exact ih
  | right _ _ _ _ _ _ _ ih => exact ih
  | bothC => intro mm e; cases e
  | bothN => intro mm e; cases e
  | confC => intro mm e; cases e
  | confN => intro mm e; cases e
end Go.M2

namespace Go.M2
open Go.Proofs
theorem givenF_last : ∀ {xs m : List Int} {x : Int}, x ∈ xs → x.natAbs < m.length → ∃ y ∈ xs, y.natAbs = x.natAbs ∧ (givenF xs m).getD x.natAbs 0 = y
  | [], m, x, h, _ => by simp at h
  | z :: t, m, x, h, hl => by
    have hrec : x ∈ t → ∃ y ∈ z :: t, y.natAbs = x.natAbs ∧ (givenF (z :: t) m).getD x.natAbs 0 = y := fun ht => by
      obtain ⟨y, h1, h2, h3⟩ := givenF_last (xs := t) (m := m.set z.natAbs z) ht (by simpa using hl)
      exact ⟨y, List.mem_cons_of_mem _ h1, h2, h3⟩
    by_cases ht : x ∈ t
    · exact hrec ht
    · obtain rfl : x = z := by rcases List.mem_cons.1 h with h | h; exact h; exact absurd h ht
      by_cases hex : ∃ w ∈ t, w.natAbs = x.natAbs
      · obtain ⟨w, hw, he⟩ := hex
        obtain ⟨y, h1, h2, h3⟩ := givenF_last (xs := t) (m := m.set x.natAbs x) hw (by simp; omega)
        exact ⟨y, List.mem_cons_of_mem _ h1, by omega, by rw [← he]; exact h3⟩
      · refine ⟨x, by simp, rfl, ?_⟩
        show (givenF t (m.set x.natAbs x)).getD x.natAbs 0 = x
        rw [givenF_getD fun w hw e => hex ⟨w, hw, e⟩]
        simp [List.getD, hl]
end Go.M2

namespace Go.M2
open Go.Proofs
theorem Fix.left {cl Q : List (List Int)} {M : List Int} (h : Fix (cl ++ Q) M) : Fix cl M := fun c hc => h c (List.mem_append_left _ hc)
theorem passF_some {M : List Int} : ∀ {t : List (List Int)} {m : List Int} {ag : Bool}, Fix t M → Sub m M → passF t m ag ≠ none
  | [], m, ag, _, _ => by simp [passF]
  | c :: t, m, ag, hf, hs => by
    have hft : Fix t M := fun c hc => hf c (List.mem_cons_of_mem _ hc)
    have hc := hf c (by simp)
    simp only [passF]
    split
    · rename_i h0
      have h1 : leftF m c 0 0 = (0, (leftF m c 0 0).2) := Prod.ext h0 rfl
      have h2 := leftF_shut hs (Int.le_refl 0) h1 0 0
      exact fun _ => hc.1 (by rw [h2])
    · split
      · rename_i h1
        refine passF_some hft (hs.set ?_)
        have h2 : leftF m c 0 0 = ((0 : Int) + 1, (leftF m c 0 0).2) := Prod.ext (by simpa using h1) rfl
        rcases leftF_mono hs (by omega) h2 with h3 | h3 | h3
        · exact h3
        · exact absurd h3 hc.1
        · exact absurd h3 hc.2
      · exact passF_some hft hs
theorem Force.fixed {cl : List (List Int)} {m M : List Int} {r : Option (List Int)} (h : Force cl m r) (hM : Fix cl M) : Sub m M → r ≠ none := by
  induction h with
  | bad h => intro hs _; exact passF_some hM hs h
  | stop h => intro _ e; cases e
  | go h _ ih => intro hs; exact ih (passF_sub hM hs h)
theorem given_at {n : Nat} {g : List Int} (ha : Asc g) (hl : Lits n g) {x : Int} (hx : x ∈ g) : (given n g).getD x.natAbs 0 = x := by
  have hxx := hl x hx
  obtain ⟨y, h1, h2, h3⟩ := givenF_last (m := List.replicate (n + 1) (0 : Int)) hx (by simp; omega)
  have hyx : y = x := by
    obtain ⟨i, hi, rfl⟩ := List.getElem_of_mem h1
    obtain ⟨j, hj, rfl⟩ := List.getElem_of_mem hx
    rcases Nat.lt_trichotomy i j with h | h | h
    · have := List.pairwise_iff_getElem.1 ha i j hi hj h; omega
    · subst h; rfl
    · have := List.pairwise_iff_getElem.1 ha j i hj hi h; omega
  rw [hyx] at h3; exact h3
theorem leftF_negs {M : List Int} {y : Int} : ∀ {g : List Int} {o l : Int}, (∀ x ∈ g, x ≠ 0 ∧ M.getD x.natAbs 0 = x) → leftF M (negs g ++ [y]) o l = leftF M [y] o l
  | [], o, l, _ => rfl
  | x :: t, o, l, h => by
    have hx := h x (by simp)
    have hn : (0 - x).natAbs = x.natAbs := by omega
    show leftF M ((0 - x) :: (negs t ++ [y])) o l = _
    rw [leftF, hn, hx.2, if_neg (by omega), if_neg hx.1]
    exact leftF_negs fun z hz => h z (List.mem_cons_of_mem _ hz)
theorem Try.last {cl : List (List Int)} {n : Nat} {g : List Int} {P P' : List (List Int)} {d d' : Nat} {r : Res} (h : Try cl n g P d r P' d') : r = .no → negs g ∈ P' := by
  cases h with
  | sat => intro e; cases e
  | left _ _ _ _ hr => intro e; exact absurd e hr
  | right _ _ _ _ _ hr => intro e; exact absurd e hr
  | bothC => intro e; cases e
  | bothN => intro _; simp
  | confC => intro e; cases e
  | confN => intro _; simp
theorem Try.pre {cl : List (List Int)} {n : Nat} {g : List Int} {P P' : List (List Int)} {d d' : Nat} {r : Res} (h : Try cl n g P d r P' d') : P <+: P' := by
  induction h with
  | sat => exact List.prefix_refl _
  | left _ _ _ _ _ ih => exact ih
  | right _ _ _ _ _ _ ih1 ih2 => exact ih1.trans ih2
  | bothC _ _ _ _ _ _ ih1 ih2 => exact ih1.trans ih2
  | bothN _ _ _ _ _ _ ih1 ih2 => exact (ih1.trans ih2).trans (List.prefix_append _ _)
  | confC => exact List.prefix_refl _
  | confN => exact List.prefix_append _ _
def Concl (cl : List (List Int)) (n : Nat) (P : List (List Int)) (c : List Int) : Prop := ∃ g, c = negs g ∧ Lits n g ∧ Asc g ∧ ∀ m, ¬ Force (cl ++ P) (given n g) (some m)
theorem concl_conf {cl P : List (List Int)} {n : Nat} {g : List Int} (ha : Asc g) (hl : Lits n g) (hf : Force cl (given n g) none) : Concl cl n P (negs g) := by
  refine ⟨g, rfl, hl, ha, fun m hm => ?_⟩
  obtain ⟨h1, h2⟩ := hm.up m rfl
  exact hf.fixed h2.left h1 rfl
theorem concl_both {cl P : List (List Int)} {n a : Nat} {g m : List Int} (ha : Asc g) (hl : Lits n g) (hf : Force cl (given n g) (some m)) (h0 : a ≠ 0) (h1 : negs (g ++ [-(a : Int)]) ∈ P) (h2 : negs (g ++ [(a : Int)]) ∈ P) : Concl cl n P (negs g) := by
  refine ⟨g, rfl, hl, ha, fun M hM => ?_⟩
  obtain ⟨k1, k2⟩ := hM.up M rfl
  have hg : ∀ x ∈ g, x ≠ 0 ∧ M.getD x.natAbs 0 = x := fun x hx => by
    have e := given_at ha hl hx
    have hx0 := (hl x hx).1
    refine ⟨hx0, ?_⟩
    have := k1 x.natAbs (by rw [e]; exact hx0)
    rw [this, e]
  have e1 : negs (g ++ [-(a : Int)]) = negs g ++ [(a : Int)] := by
    unfold negs; rw [List.map_append]; congr 1; simp
  have e2 : negs (g ++ [(a : Int)]) = negs g ++ [-(a : Int)] := by
    unfold negs; rw [List.map_append]; congr 1; simp
  have f1 := k2 _ (List.mem_append_right _ h1)
  have f2 := k2 _ (List.mem_append_right _ h2)
  rw [e1, leftF_negs hg] at f1
  rw [e2, leftF_negs hg] at f2
  have n1 : (a : Int).natAbs = a := by omega
  have n2 : (-(a : Int)).natAbs = a := by omega
  simp only [leftF, n1, n2] at f1 f2
  by_cases c1 : M.getD a 0 = (a : Int)
  · rw [if_neg (by omega), if_neg (by omega)] at f2
    exact f2.1 rfl
  · rw [if_neg c1] at f1
    by_cases c2 : M.getD a 0 = 0
    · rw [if_pos c2] at f1; exact f1.2 rfl
    · rw [if_neg c2] at f1; exact f1.1 rfl
theorem take_pre {P P' : List (List Int)} {i : Nat} (h : P <+: P') (hi : i ≤ P.length) : P'.take i = P.take i := by
  obtain ⟨t, rfl⟩ := h
  rw [List.take_append_of_le_length hi]
theorem at_pre {P P' : List (List Int)} {i : Nat} (h : P <+: P') (hi : i < P.length) : P'.getD i [] = P.getD i [] := by
  obtain ⟨t, rfl⟩ := h
  simp [List.getD, List.getElem?_append_left hi]
theorem Try.concl {cl : List (List Int)} {n : Nat} {g : List Int} {P P' : List (List Int)} {d d' : Nat} {r : Res} (h : Try cl n g P d r P' d') : ∀ k, Low cl n g k → ∀ i, P.length ≤ i → i < P'.length → Concl cl n (P'.take i) (P'.getD i []) := by
  induction h with
  | sat => intro k _ i h1 h2; omega
  | @left g P P1 d d1 a m r f nx ha t hr ih =>
    intro k hlow i h1 h2
    obtain ⟨_, hl⟩ := hlow.next (x := -(a : Int)) f (by rw [f.len _ rfl, given_len]) nx ha (by omega)
    exact ih _ hl i h1 h2
  | @right g P P1 P2 d d1 d2 a m r f nx ha t u hr ih1 ih2 =>
    intro k hlow i h1 h2
    have hlen := f.len _ rfl
    rw [given_len] at hlen
    obtain ⟨_, hl1⟩ := hlow.next (x := -(a : Int)) f hlen nx ha (by omega)
    obtain ⟨_, hl2⟩ := hlow.next (x := (a : Int)) f hlen nx ha (by omega)
    by_cases hi : i < P1.length
    · rw [take_pre u.pre (by omega), at_pre u.pre hi]; exact ih1 _ hl1 i h1 hi
    · exact ih2 _ hl2 i (by omega) h2
  | @bothC g P P1 P2 d d1 d2 a m f nx ha t u hp ih1 ih2 =>
    intro k hlow i h1 h2
    have hlen := f.len _ rfl
    rw [given_len] at hlen
    obtain ⟨_, hl1⟩ := hlow.next (x := -(a : Int)) f hlen nx ha (by omega)
    obtain ⟨_, hl2⟩ := hlow.next (x := (a : Int)) f hlen nx ha (by omega)
    by_cases hi : i < P1.length
    · rw [take_pre u.pre (by omega), at_pre u.pre hi]; exact ih1 _ hl1 i h1 hi
    · exact ih2 _ hl2 i (by omega) h2
  | @bothN g P P1 P2 d d1 d2 a m f nx ha t u hp ih1 ih2 =>
    intro k hlow i h1 h2
    have hlen := f.len _ rfl
    rw [given_len] at hlen
    obtain ⟨_, hl1⟩ := hlow.next (x := -(a : Int)) f hlen nx ha (by omega)
    obtain ⟨_, hl2⟩ := hlow.next (x := (a : Int)) f hlen nx ha (by omega)
    have hpre : P2 <+: P2 ++ [negs g] := List.prefix_append _ _
    by_cases hi2 : i < P2.length
    · rw [take_pre hpre (by omega), at_pre hpre hi2]
      by_cases hi : i < P1.length
      · rw [take_pre u.pre (by omega), at_pre u.pre hi]; exact ih1 _ hl1 i h1 hi
      · exact ih2 _ hl2 i (by omega) hi2
    · simp only [List.length_append, List.length_singleton] at h2
      obtain rfl : i = P2.length := by omega
      rw [take_pre hpre (Nat.le_refl _), List.take_length]
      have e : (P2 ++ [negs g]).getD P2.length [] = negs g := by simp [List.getD]
      rw [e]
      refine concl_both hlow.asc hlow.lits f ha ?_ (u.last rfl)
      obtain ⟨s, hs⟩ := u.pre
      rw [← hs]
      exact List.mem_append_left _ (t.last rfl)
  | confC => intro k _ i h1 h2; omega
  | @confN g P d f hp =>
    intro k hlow i h1 h2
    have hpre : P <+: P ++ [negs g] := List.prefix_append _ _
    simp only [List.length_append, List.length_singleton] at h2
    obtain rfl : i = P.length := by omega
    rw [take_pre hpre (Nat.le_refl _), List.take_length]
    have e : (P ++ [negs g]).getD P.length [] = negs g := by simp [List.getD]
    rw [e]
    exact concl_conf hlow.asc hlow.lits f
end Go.M2

namespace Go.M2
open Go.Proofs
variable {H : Heap}
theorem s_implForcedNo {x w : AV} {k : Int} {xss : List (List Int)} {xs : List Int} (hx : IsCl H x k xss) (hl : xss.length ≤ 1048576) (hxl : ∀ xs ∈ xss, xs.length ≤ 1048576) (hw : IsI H w xs) (hwl : xs.length ≤ 1048576)
    (hno : ∀ n : Nat, k = n → ClsOk k xss → ClOk k xs → ∀ m, ¬ Force xss (given n xs) (some m)) :
    ACall Try.prog n_impl_Forced [x, w] H (fun r H' => Le H H' ∧ r = .tup [.sl none 0 0 true 0, .bool false]) := by
  refine ACall.of fun R hR => a_impl_Forced rfl ?_
  obtain ⟨fl, rfl, hv⟩ := hx
  simp (maxSteps := 2000000) (disch := first | omega | assumption | exact idP rfl | exact idP (bL rfl) | (simp only [alloc_size, upd_size]; done) | (simp only [alloc_size, upd_size]; omega) | fail) only [go_sem, reduceIte, Nat.reduceEqDiff]
  have hcl : IsCl (H.alloc [.int .i64 k, fl]) (.agg [.int .i64 k, fl]) k xss := ⟨fl, rfl, hv.le (Le.alloc _ _)⟩
  refine (s_implClausesValid hcl hl hxl).mono ?_
  rintro r H1 ⟨hle1, b, rfl, hb⟩
  have hH1 := (Le.alloc H [.int .i64 k, fl]).trans hle1
  cases b with
  | false =>
    simp (maxSteps := 2000000) (disch := first | omega | assumption | exact idP rfl | exact idP (bL rfl) | (simp only [alloc_size, upd_size]; done) | (simp only [alloc_size, upd_size]; omega) | fail) only [go_sem, reduceIte, Nat.reduceEqDiff]
    exact hR _ _ ⟨hH1, rfl⟩
  | true =>
    have hok := hb.1 rfl
    obtain ⟨n, rfl⟩ : ∃ n : Nat, k = n := ⟨k.toNat, by have := hok.lo; omega⟩
    have hhi := hok.hi
    have g0 : H1.get H.size 0 = some (.int .i64 (n : Int)) := hle1.get (by simp (maxSteps := 2000000) (disch := first | omega | assumption | exact idP rfl | exact idP (bL rfl) | (simp only [alloc_size, upd_size]; done) | (simp only [alloc_size, upd_size]; omega) | fail) only [go_sem, reduceIte, Nat.reduceEqDiff])
    have g1 : H1.get H.size 1 = some fl := hle1.get (by simp (maxSteps := 2000000) (disch := first | omega | assumption | exact idP rfl | exact idP (bL rfl) | (simp only [alloc_size, upd_size]; done) | (simp only [alloc_size, upd_size]; omega) | fail) only [go_sem, reduceIte, Nat.reduceEqDiff])
    simp (maxSteps := 2000000) (disch := first | omega | assumption | exact idP rfl | exact idP (bL rfl) | (simp only [alloc_size, upd_size]; done) | (simp only [alloc_size, upd_size]; omega) | fail) only [go_sem, reduceIte, Nat.reduceEqDiff, g0, g1]
    refine (s_implClauseValid (hw.le hH1) hwl (by omega) (by omega)).mono ?_
    rintro r H2 ⟨rfl, b2, rfl, hb2⟩
    cases b2 with
    | false =>
      simp (maxSteps := 2000000) (disch := first | omega | assumption | exact idP rfl | exact idP (bL rfl) | (simp only [alloc_size, upd_size]; done) | (simp only [alloc_size, upd_size]; omega) | fail) only [go_sem, reduceIte, Nat.reduceEqDiff]
      exact hR _ _ ⟨hH1, rfl⟩
    | true =>
      have hck := hb2.1 rfl
      have hno := hno n rfl hok hck
      simp (maxSteps := 2000000) (disch := first | omega | assumption | exact idP rfl | exact idP (bL rfl) | (simp only [alloc_size, upd_size]; done) | (simp only [alloc_size, upd_size]; omega) | fail) only [go_sem, reduceIte, Nat.reduceEqDiff, g0, g1]
      refine (s_signs (hw.le hH1) hwl (by omega) (clOk_lits hck)).mono ?_
      rintro r H3 ⟨rfl, hrow⟩
      have g1' := hrow.le'.get g1
      simp (maxSteps := 2000000) (disch := first | omega | assumption | exact idP rfl | exact idP (bL rfl) | (simp only [alloc_size, upd_size]; done) | (simp only [alloc_size, upd_size]; omega) | fail) only [go_sem, reduceIte, Nat.reduceEqDiff, g1']
      refine (s_forced (hv.le hH1) hl hxl (by omega) (fun xs h => clOk_lits (hok.all xs h)) hrow given_len mk_given).mono ?_
      rintro r H4 ⟨res, hforce, hle2, hb4, hnone, hsome⟩
      cases res with
      | some m => exact absurd hforce (hno m)
      | none =>
        obtain rfl := hnone rfl
        simp (maxSteps := 2000000) (disch := first | omega | assumption | exact idP rfl | exact idP (bL rfl) | (simp only [alloc_size, upd_size]; done) | (simp only [alloc_size, upd_size]; omega) | fail) only [go_sem, reduceIte, Nat.reduceEqDiff]
        exact hR _ _ ⟨hH1.trans ((hrow.le.trans hle2).trans (Le.kill _ _)), rfl⟩
end Go.M2

namespace Go.M2
open Go.Proofs
variable {H : Heap}
theorem bin_xorN {a b : Int} (h0 : 0 ≤ a) (h1 : a < 4611686018427387904) (h2 : 0 ≤ b) (h3 : b < 4611686018427387904) :
    ∃ c : Int, binF .xor (.int .i64 a) (.int .i64 b) = some (.int .i64 c) ∧ 0 ≤ c ∧ c < 4611686018427387904 := by
  have ea : (BitVec.ofInt 64 a).toNat = a.toNat := by rw [BitVec.toNat_ofInt]; omega
  have eb : (BitVec.ofInt 64 b).toNat = b.toNat := by rw [BitVec.toNat_ofInt]; omega
  have hlt : a.toNat ^^^ b.toNat < 2 ^ 62 := Nat.xor_lt_two_pow (by omega) (by omega)
  have hlt' : a.toNat ^^^ b.toNat < 4611686018427387904 := hlt
  refine ⟨((a.toNat ^^^ b.toNat : Nat) : Int), ?_, by omega, by omega⟩
  have e : (BitVec.ofInt IntKind.i64.bits a ^^^ BitVec.ofInt IntKind.i64.bits b).toNat = a.toNat ^^^ b.toNat := by
    show (BitVec.ofInt 64 a ^^^ BitVec.ofInt 64 b).toNat = _
    rw [BitVec.toNat_xor, ea, eb]
  simp only [binF, isSh, intBin, Bool.false_eq_true, if_false, if_true, e]
  rw [wrap_in (by omega) (by omega)]
@[go_sem] theorem bin_quoN {a b : Int} (h0 : 0 ≤ a) (h1 : 0 < b) (h2 : a ≤ 9223372036854775807) : binF .quo (.int .i64 a) (.int .i64 b) = some (.int .i64 (a / b)) := by
  have hb : b ≠ 0 := by omega
  have hq : a.tdiv b = a / b := Int.tdiv_eq_ediv_of_nonneg h0
  have q1 : 0 ≤ a / b := Int.ediv_nonneg h0 (by omega)
  have q2 : a / b ≤ a := Int.ediv_le_self _ h0
  simp only [binF, isSh, intBin, hb, if_false, if_true, Bool.false_eq_true, hq]
  rw [IntWalk.i64_in _ ⟨by omega, by omega⟩]
@[go_sem] theorem bin_remN {k : IntKind} {a b : Int} (h0 : 0 ≤ a) (h1 : 0 < b) : binF .rem (.int k a) (.int k b) = some (.int k (a % b)) := by
  have hb : b ≠ 0 := by omega
  have hq : a.tmod b = a % b := Int.tmod_eq_emod_of_nonneg h0
  simp [binF, isSh, intBin, hb, hq]
def EB (H : Heap) (n : Int) (l : List AV) : Prop := l = [.int .u8 n] ∧ 0 ≤ n ∧ n ≤ 255
theorem mono_B : Mono EB := fun _ _ _ _ _ h => h
abbrev IsB : Heap → AV → List Int → Prop := InS 1 EB
theorem IsB.at {w : AV} {code : List Int} (h : IsB H w code) {i : Nat} (hi : i < code.length) : ∃ A c ex k n, w = .sl A code.length c ex k ∧ H.get A.b (A.o + i) = some (.int .u8 n) ∧ 0 ≤ n ∧ n ≤ 255 := by
  obtain ⟨A, c, ex, k, u, rfl, h1, h2, h3⟩ := InS.get h hi
  simp only [List.cons.injEq, and_true] at h2
  subst h2
  exact ⟨A, c, ex, k, _, rfl, h1, h3⟩
set_option maxHeartbeats 4000000 in
theorem s_pick {rb : Nat} {w : AV} {code : List Int} {p n : Int} (hw : IsB (H.kill rb) w code) (hl : code.length ≤ 2000) (hm : H.rwCells rb = some [w, .int .i64 p]) (h0 : 0 ≤ p) (h1 : p ≤ 1099511627776) :
    ACall Try.prog n_spec_l40Rd_pick [.ptr (some (rb, 0)), .int .i64 n] H (fun r H' => H' = H.upd rb (.cells [w, .int .i64 (p + 1)] true) ∧ ∃ k : Int, r = .int .i64 k ∧ 0 ≤ k ∧ (1 ≤ n → k < n) ∧ (n < 1 → k = 0)) := by
  refine ACall.of fun R hR => a_spec_l40Rd_pick rfl ?_
  have hlen := hw.len
  obtain ⟨hsz, hbk⟩ := Heap.rwCells_blk hm
  have m1 : H.get rb 1 = some (.int .i64 p) := Rd.blk hsz hbk 1 _ rfl
  by_cases hn : n < 1
  · have hd : decide (n < 1) = true := by simp [hn]
    simp (maxSteps := 2000000) (disch := first | omega | assumption | exact idP rfl | exact idP (bL rfl) | (simp only [alloc_size, upd_size]; done) | (simp only [alloc_size, upd_size]; omega) | fail) only [go_sem, reduceIte, Nat.reduceEqDiff, m1, hm, hd]
    exact hR _ _ ⟨rfl, _, rfl, by omega, by omega, fun _ => by omega⟩
  have hd : decide (n < 1) = false := by simp [hn]
  by_cases hz : code.length = 0
  · have hz2 : decide ((code.length : Int) = 0) = true := by simp [hz]
    simp (maxSteps := 2000000) (disch := first | omega | assumption | exact idP rfl | exact idP (bL rfl) | (simp only [alloc_size, upd_size]; done) | (simp only [alloc_size, upd_size]; omega) | fail) only [go_sem, reduceIte, Nat.reduceEqDiff, m1, hm, hd, hlen, hz2]
    exact hR _ _ ⟨rfl, _, rfl, by omega, by omega, fun _ => by omega⟩
  have hz2 : decide ((code.length : Int) = 0) = false := decide_eq_false (by omega)
  have e1 : p + 1 - 1 = p := by omega
  have hup : ∀ b o v, (H.kill rb).get b o = some v → (H.upd rb (.cells [w, .int .i64 (p + 1)] true)).get b o = some v := fun b o v h => by
    have hL : Le (H.kill rb) (H.upd rb (.cells [w, .int .i64 (p + 1)] true)) := by rw [← upd_kill H rb (.cells [w, .int .i64 (p + 1)] true)]; exact Le.kill _ _
    exact hL.get h
  simp (maxSteps := 2000000) (disch := first | omega | assumption | exact idP rfl | exact idP (bL rfl) | (simp only [alloc_size, upd_size]; done) | (simp only [alloc_size, upd_size]; omega) | fail) only [go_sem, reduceIte, Nat.reduceEqDiff, m1, hm, hd, hlen, hz2, e1]
  refine condV_dec (fun hk => ?_) (fun hk => ?_)
  · obtain ⟨A, c, ex, kk, v, rfl, hc, c0, c1⟩ := hw.at (i := p.toNat) (by omega)
    have hc := hup _ _ _ hc
    simp (maxSteps := 2000000) (disch := first | omega | assumption | exact idP rfl | exact idP (bL rfl) | (simp only [alloc_size, upd_size]; done) | (simp only [alloc_size, upd_size]; omega) | fail) only [go_sem, reduceIte, Nat.reduceEqDiff, hc]
    have := Int.emod_nonneg v (b := n) (by omega)
    have := Int.emod_lt_of_pos v (b := n) (by omega)
    exact hR _ _ ⟨rfl, _, rfl, by omega, fun _ => by omega, fun _ => by omega⟩
  have hN : (0 : Int) < (code.length : Int) := by omega
  have m1 := Int.emod_nonneg p (b := (code.length : Int)) (by omega)
  have m2 := Int.emod_lt_of_pos p hN
  have m3 := Int.emod_nonneg (p * 7 + 3) (b := (code.length : Int)) (by omega)
  have m4 := Int.emod_lt_of_pos (p * 7 + 3) hN
  have m5 : 0 ≤ p / (code.length : Int) := Int.ediv_nonneg h0 (by omega)
  have m6 : p / (code.length : Int) ≤ p := Int.ediv_le_self _ h0
  generalize hq1 : p % (code.length : Int) = q1 at *
  generalize hq2 : (p * 7 + 3) % (code.length : Int) = q2 at *
  generalize hq3 : p / (code.length : Int) = q3 at *
  obtain ⟨A, c, ex, kk, v, rfl, hc, c0, c1⟩ := hw.at (i := q1.toNat) (by omega)
  obtain ⟨A2, c2, ex2, kk2, v2, e2, hc2, c02, c12⟩ := hw.at (i := q2.toNat) (by omega)
  cases e2
  have hc := hup _ _ _ hc
  have hc2 := hup _ _ _ hc2
  simp (maxSteps := 2000000) (disch := first | omega | assumption | exact idP rfl | exact idP (bL rfl) | (simp only [alloc_size, upd_size]; done) | (simp only [alloc_size, upd_size]; omega) | fail) only [go_sem, reduceIte, Nat.reduceEqDiff, hc, hc2, hq1, hq2, hq3]
  obtain ⟨z, hz, z0, z1⟩ := bin_xorN (a := v * 131 + v2 * 1117 + p * 29 + q3 * 53) (b := (v * 131 + v2 * 1117 + p * 29 + q3 * 53) / 64) (by omega) (by omega) (by omega) (by omega)
  simp (maxSteps := 2000000) (disch := first | omega | assumption | exact idP rfl | exact idP (bL rfl) | (simp only [alloc_size, upd_size]; done) | (simp only [alloc_size, upd_size]; omega) | fail) only [go_sem, reduceIte, Nat.reduceEqDiff, hq3, hz]
  have := Int.emod_nonneg z (b := n) (by omega)
  have := Int.emod_lt_of_pos z (b := n) (by omega)
  exact hR _ _ ⟨rfl, _, rfl, by omega, fun _ => by omega, fun _ => by omega⟩
structure Rdr (H : Heap) (rb : Nat) (w : AV) (code : List Int) (p : Int) : Prop where
  hw : IsB (H.kill rb) w code
  l : code.length ≤ 2000
  m : H.rwCells rb = some [w, .int .i64 p]
  lo : 0 ≤ p
theorem Rdr.upd {rb : Nat} {w : AV} {code : List Int} {p q : Int} (h : Rdr H rb w code p) (hq : 0 ≤ q) : Rdr (H.upd rb (.cells [w, .int .i64 q] true)) rb w code q :=
  ⟨by rw [upd_kill]; exact h.hw, h.l, rw_upd_same (Heap.rwCells_blk h.m).1, hq⟩
theorem Rdr.le {H' : Heap} {rb : Nat} {w : AV} {code : List Int} {p : Int} (h : Rdr H rb w code p) (hl : Le H H') : Rdr H' rb w code p :=
  ⟨h.hw.le mono_B (hl.kills rb), h.l, hl.rwCells h.m, h.lo⟩
theorem s_num {rb : Nat} {w v : AV} {code ks : List Int} {p : Int} (hr : Rdr H rb w code p) (h1 : p ≤ 1099511627776) (hv : IsI (H.kill rb) v ks) (hk : 0 < ks.length) :
    ACall Try.prog n_spec_l40Rd_num [.ptr (some (rb, 0)), v] H (fun r H' => H' = H.upd rb (.cells [w, .int .i64 (p + 1)] true) ∧ ∃ x ∈ ks, r = .int .i64 x) := by
  refine ACall.of fun R hR => a_spec_l40Rd_num rfl ?_
  obtain ⟨A, c, ex, k, rfl, hrd⟩ := hv.parts
  simp (maxSteps := 2000000) (disch := first | omega | assumption | exact idP rfl | exact idP (bL rfl) | (simp only [alloc_size, upd_size]; done) | (simp only [alloc_size, upd_size]; omega) | fail) only [go_sem, reduceIte, Nat.reduceEqDiff]
  refine (s_pick hr.hw hr.l hr.m hr.lo h1).mono ?_
  rintro r H1 ⟨rfl, j, rfl, j0, j1, _⟩
  have hj := j1 (by omega)
  have hL : Le (H.kill rb) (H.upd rb (.cells [w, .int .i64 (p + 1)] true)) := by rw [← upd_kill H rb (.cells [w, .int .i64 (p + 1)] true)]; exact Le.kill _ _
  have hg := hL.get (hrd j.toNat (by omega))
  rw [Nat.mul_one] at hg
  simp (maxSteps := 2000000) (disch := first | omega | assumption | exact idP rfl | exact idP (bL rfl) | (simp only [alloc_size, upd_size]; done) | (simp only [alloc_size, upd_size]; omega) | fail) only [go_sem, reduceIte, Nat.reduceEqDiff, hg]
  exact hR _ _ ⟨rfl, _, List.getElem_mem _, rfl⟩
theorem s_l40Open {v : AV} {xs : List Int} (hv : IsB H v xs) (hc : ∀ A n c ex k, v = .sl A n c ex k → n ≤ c) (hl : xs.length ≤ 1048576) :
    ACall Try.prog n_spec_l40Open [v] H (fun r H' => ∃ w code, r = .ptr (some (H.size, 0)) ∧ Rdr H' H.size w code 0 ∧ H' = H.alloc [w, .int .i64 0]) := by
  refine ACall.of fun R hR => a_spec_l40Open rfl ?_
  have hlen := hv.len
  have kl : ∀ c : List AV, Le H ((H.alloc c).kill H.size) := fun c => (Le.alloc _ _).killFresh (Nat.le_refl _)
  simp (maxSteps := 2000000) (disch := first | omega | assumption | exact idP rfl | exact idP (bL rfl) | (simp only [alloc_size, upd_size]; done) | (simp only [alloc_size, upd_size]; omega) | fail) only [go_sem, reduceIte, Nat.reduceEqDiff, hlen]
  refine condV_dec (fun h => ?_) (fun h => ?_)
  · rcases hv with ⟨A, c, ex, k, rfl, hr⟩ | ⟨rfl, rfl⟩
    · have hcc := hc _ _ _ _ _ rfl
      have e : slcF 1 none (some (.int .i64 2000)) none (.sl A xs.length c ex k) = some (.sl (some (A.b, A.o + 0 * 1)) (2000 - 0) (c - 0) (ex || false) k) := by
        have e1 : (0 : Int) ≤ 2000 ∧ (2000 : Int) ≤ (c : Int) := by omega
        simp only [slcF, bnds, natIn, Option.isSome_none, Bool.false_eq_true, if_false, e1, and_self, if_true]
        simp only [Int.reduceToNat]
        rw [if_neg (by omega), if_neg (by omega)]
      simp (maxSteps := 2000000) (disch := first | omega | assumption | exact idP rfl | exact idP (bL rfl) | (simp only [alloc_size, upd_size]; done) | (simp only [alloc_size, upd_size]; omega) | fail) only [go_sem, reduceIte, Nat.reduceEqDiff, e]
      refine hR _ _ ⟨_, xs.take 2000, rfl, ⟨.inl ⟨some (A.b, A.o), c, ex || false, k, ?_, fun i hi => ?_⟩, by simp; omega, rw_alloc_new rfl, by omega⟩, rfl⟩
      · simp [List.length_take]; omega
      · have hi2 : i < xs.length := by simp at hi; omega
        obtain ⟨cs, q1, q2, q3⟩ := hr i hi2
        exact ⟨cs, q1, q2.le (kl _), by rw [List.getElem_take]; exact q3⟩
    · simp at h
  · have ho : oneA v = true ∧ cellsOf v = some [v] := by
      rcases hv with hv | ⟨rfl, _⟩
      · exact oneA_isS hv
      · exact ⟨rfl, rfl⟩
    simp (maxSteps := 2000000) (disch := first | omega | assumption | exact idP rfl | exact idP (bL rfl) | (simp only [alloc_size, upd_size]; done) | (simp only [alloc_size, upd_size]; omega) | fail) only [go_sem, reduceIte, Nat.reduceEqDiff, ho.2]
    exact hR _ _ ⟨v, xs, rfl, ⟨hv.le mono_B (kl _), by omega, rw_alloc_new rfl, by omega⟩, rfl⟩
end Go.M2

namespace Go.M2
open Go.Proofs
variable {H : Heap}
end Go.M2

namespace Go.M2
open Go.Proofs
variable {H : Heap}
theorem marked_short {n : Nat} {xs : List Int} : (marked (given n xs)).length ≤ n := by
  unfold marked
  refine Nat.le_trans (List.length_filter_le _ _) ?_
  rw [List.length_drop, given_len]; omega
theorem s_l2Has {v : AV} {xs : List Int} {p : Int} (hv : IsI H v xs) (hl : xs.length ≤ 1048576) : ACall Try.prog n_spec_l2Has [v, .int .i64 p] H (fun r H' => H' = H ∧ ∃ b, r = .bool b ∧ (b = true ↔ p ∈ xs)) := by
  refine ACall.of fun R hR => a_spec_l2Has rfl ?_
  obtain ⟨A, c, ex, k, rfl, hr⟩ := hv.parts
  simp (maxSteps := 2000000) (disch := first | omega | assumption | exact idP rfl | exact idP (bL rfl) | (simp only [alloc_size, upd_size]; done) | (simp only [alloc_size, upd_size]; omega) | fail) only [go_sem, reduceIte, Nat.reduceEqDiff]
  refine wp_loop_k (fun e H' => H = H' ∧ ∃ i : Nat, i ≤ xs.length ∧ e 0 = .sl A xs.length c ex k ∧ e 1 = .int .i64 p ∧ e 5 = .int .i64 (i : Int) ∧ ∀ j (h : j < xs.length), j < i → xs[j] ≠ p) (fun e _ => ctr xs.length (e 5)) ?_ ?_
  · exact ⟨rfl, 0, Nat.zero_le _, by simp (maxSteps := 2000000) (disch := first | omega | assumption | exact idP rfl | exact idP (bL rfl) | (simp only [alloc_size, upd_size]; done) | (simp only [alloc_size, upd_size]; omega) | fail) only [go_sem, reduceIte, Nat.reduceEqDiff], by simp (maxSteps := 2000000) (disch := first | omega | assumption | exact idP rfl | exact idP (bL rfl) | (simp only [alloc_size, upd_size]; done) | (simp only [alloc_size, upd_size]; omega) | fail) only [go_sem, reduceIte, Nat.reduceEqDiff], by simp (maxSteps := 2000000) (disch := first | omega | assumption | exact idP rfl | exact idP (bL rfl) | (simp only [alloc_size, upd_size]; done) | (simp only [alloc_size, upd_size]; omega) | fail) only [go_sem, reduceIte, Nat.reduceEqDiff]; rfl, fun j _ h => by omega⟩
  · rintro e H1 ⟨rfl, i, hi, e0, e1, e5, hj⟩ K hK
    simp (maxSteps := 2000000) (disch := first | omega | assumption | exact idP rfl | exact idP (bL rfl) | (simp only [alloc_size, upd_size]; done) | (simp only [alloc_size, upd_size]; omega) | fail) only [go_sem, reduceIte, Nat.reduceEqDiff, e0, e1, e5]
    refine condV_dec (fun h => ?_) (fun h => ?_)
    · have hi' : i < xs.length := by omega
      have hg := hr i hi'
      rw [Nat.mul_one] at hg
      have e5' := e5
      simp (maxSteps := 2000000) (disch := first | omega | assumption | exact idP rfl | exact idP (bL rfl) | (simp only [alloc_size, upd_size]; done) | (simp only [alloc_size, upd_size]; omega) | fail) only [go_sem, reduceIte, Nat.reduceEqDiff, e0, e1, e5, hg]
      refine condV_dec (fun h0 => ?_) (fun h0 => ?_)
      · simp (maxSteps := 2000000) (disch := first | omega | assumption | exact idP rfl | exact idP (bL rfl) | (simp only [alloc_size, upd_size]; done) | (simp only [alloc_size, upd_size]; omega) | fail) only [go_sem, reduceIte, Nat.reduceEqDiff]
        exact hR _ _ ⟨rfl, true, rfl, by simp; exact h0 ▸ List.getElem_mem hi'⟩
      · simp (maxSteps := 2000000) (disch := first | omega | assumption | exact idP rfl | exact idP (bL rfl) | (simp only [alloc_size, upd_size]; done) | (simp only [alloc_size, upd_size]; omega) | fail) only [go_sem, reduceIte, Nat.reduceEqDiff, e5]
        refine hK _ _ ⟨rfl, i + 1, by omega, by simp (maxSteps := 2000000) (disch := first | omega | assumption | exact idP rfl | exact idP (bL rfl) | (simp only [alloc_size, upd_size]; done) | (simp only [alloc_size, upd_size]; omega) | fail) only [go_sem, reduceIte, Nat.reduceEqDiff, e0], by simp (maxSteps := 2000000) (disch := first | omega | assumption | exact idP rfl | exact idP (bL rfl) | (simp only [alloc_size, upd_size]; done) | (simp only [alloc_size, upd_size]; omega) | fail) only [go_sem, reduceIte, Nat.reduceEqDiff, e1], by simp (maxSteps := 2000000) (disch := first | omega | assumption | exact idP rfl | exact idP (bL rfl) | (simp only [alloc_size, upd_size]; done) | (simp only [alloc_size, upd_size]; omega) | fail) only [go_sem, reduceIte, Nat.reduceEqDiff]; rfl, fun j q1 q2 => ?_⟩ (by simp (maxSteps := 2000000) (disch := first | omega | assumption | exact idP rfl | exact idP (bL rfl) | (simp only [alloc_size, upd_size]; done) | (simp only [alloc_size, upd_size]; omega) | fail) only [go_sem, reduceIte, Nat.reduceEqDiff, ctr_int, e5']; omega)
        by_cases e : j = i
        · subst e; exact h0
        · exact hj j q1 (by omega)
    · simp (maxSteps := 2000000) (disch := first | omega | assumption | exact idP rfl | exact idP (bL rfl) | (simp only [alloc_size, upd_size]; done) | (simp only [alloc_size, upd_size]; omega) | fail) only [go_sem, reduceIte, Nat.reduceEqDiff]
      refine hR _ _ ⟨rfl, false, rfl, ?_⟩
      simp only [Bool.false_eq_true, false_iff]
      intro hm
      obtain ⟨j, q1, q2⟩ := List.getElem_of_mem hm
      exact hj j q1 (by omega) q2
end Go.M2

namespace Go.M2
open Go.Proofs
variable {H : Heap}
theorem apart_newer {rb n : Nat} {v : AV} (hn : newer n v) (h : rb < n) : apart rb v := by
  unfold newer at hn
  unfold apart
  split
  · rename_i b o m c ex k
    have hn : n ≤ b := hn
    omega
  · trivial
theorem base_kill {v : AV} {rb : Nat} (h : apart rb v) {x : Blk} : (base (H.upd rb x) v).kill rb = (base H v).kill rb := by
  rw [base_upd h, upd_kill]
set_option maxHeartbeats 8000000 in
theorem s_l11Lits {rb : Nat} {w : AV} {code : List Int} {p : Int} {n k : Nat} (hr : Rdr H rb w code p) (h1 : p ≤ 1000000000000) (hn : n ≤ 700) (hk : k ≤ 700) :
    ACall Try.prog n_spec_l11Lits [.ptr (some (rb, 0)), .int .i64 (n : Int), .int .i64 (k : Int)] H (fun r H' => ∃ (xs : List Int) (p' : Int), Own 1 H' r (xs.map (AV.int .i64)) ∧ xs.length ≤ 700 ∧ newer H.size r ∧ Rdr H' rb w code p' ∧ p' ≤ p + 2 * k ∧ Le (H.kill rb) ((base H' r).kill rb)) := by
  refine ACall.of fun R hR => a_spec_l11Lits rfl ?_
  have hrb := (Heap.rwCells_blk hr.m).1
  have hw0 := hr.hw
  have hrA : Rdr (H.alloc []) rb w code p := hr.le (Le.alloc _ _)
  have mkR : ∀ (H' : Heap) (s : AV) (q : Int), Le (H.kill rb) ((base H' s).kill rb) → H'.rwCells rb = some [w, .int .i64 q] → 0 ≤ q → Rdr H' rb w code q := fun H' s q z1 z2 z3 =>
    ⟨hw0.le mono_B (z1.trans ((base_le _ _).kills rb)), hr.l, z2, z3⟩
  simp (maxSteps := 2000000) (disch := first | omega | assumption | exact idP rfl | exact idP (bL rfl) | (simp only [alloc_size, upd_size]; done) | (simp only [alloc_size, upd_size]; omega) | fail) only [go_sem, reduceIte, Nat.reduceEqDiff]
  refine wp_loop_k (fun e H' => ∃ (i : Nat) (xs : List Int) (q : Int), i ≤ k ∧ e 0 = .ptr (some (rb, 0)) ∧ e 1 = .int .i64 (n : Int) ∧ e 2 = .int .i64 (k : Int) ∧ e 8 = .int .i64 (i : Int) ∧ xs.length ≤ i ∧ Lits n xs ∧ Own 1 H' (e 7) (xs.map (AV.int .i64)) ∧ newer H.size (e 7) ∧ H'.rwCells rb = some [w, .int .i64 q] ∧ 0 ≤ q ∧ q ≤ p + 2 * i ∧ Le (H.kill rb) ((base H' (e 7)).kill rb)) (fun e _ => ctr k (e 8)) ?_ ?_
  · exact ⟨0, [], p, Nat.zero_le _, by simp (maxSteps := 2000000) (disch := first | omega | assumption | exact idP rfl | exact idP (bL rfl) | (simp only [alloc_size, upd_size]; done) | (simp only [alloc_size, upd_size]; omega) | fail) only [go_sem, reduceIte, Nat.reduceEqDiff], by simp (maxSteps := 2000000) (disch := first | omega | assumption | exact idP rfl | exact idP (bL rfl) | (simp only [alloc_size, upd_size]; done) | (simp only [alloc_size, upd_size]; omega) | fail) only [go_sem, reduceIte, Nat.reduceEqDiff], by simp (maxSteps := 2000000) (disch := first | omega | assumption | exact idP rfl | exact idP (bL rfl) | (simp only [alloc_size, upd_size]; done) | (simp only [alloc_size, upd_size]; omega) | fail) only [go_sem, reduceIte, Nat.reduceEqDiff], by simp (maxSteps := 2000000) (disch := first | omega | assumption | exact idP rfl | exact idP (bL rfl) | (simp only [alloc_size, upd_size]; done) | (simp only [alloc_size, upd_size]; omega) | fail) only [go_sem, reduceIte, Nat.reduceEqDiff]; rfl, by simp, fun x h => by simp at h, by simp (maxSteps := 2000000) (disch := first | omega | assumption | exact idP rfl | exact idP (bL rfl) | (simp only [alloc_size, upd_size]; done) | (simp only [alloc_size, upd_size]; omega) | fail) only [go_sem, reduceIte, Nat.reduceEqDiff]; exact Own.new rfl, by simp (maxSteps := 2000000) (disch := first | omega | assumption | exact idP rfl | exact idP (bL rfl) | (simp only [alloc_size, upd_size]; done) | (simp only [alloc_size, upd_size]; omega) | fail) only [go_sem, reduceIte, Nat.reduceEqDiff]; exact Nat.le_refl _, hrA.m, hr.lo, by omega, by simp (maxSteps := 2000000) (disch := first | omega | assumption | exact idP rfl | exact idP (bL rfl) | (simp only [alloc_size, upd_size]; done) | (simp only [alloc_size, upd_size]; omega) | fail) only [go_sem, reduceIte, Nat.reduceEqDiff]; exact ((Le.alloc _ _).killFresh (Nat.le_refl _)).kills rb⟩
  rintro e H1 ⟨i, xs, q, hi, e0, e1, e2, e8, hxl, hlits, ho, hnew, hm, hq0, hq1, hle⟩ K hK
  have hap := apart_newer hnew hrb
  have fin : ∀ (q' : Int) (H2 : Heap), Le (H.kill rb) ((base H2 (e 7)).kill rb) → Own 1 H2 (e 7) (xs.map (AV.int .i64)) → H2.rwCells rb = some [w, .int .i64 q'] → 0 ≤ q' → q' ≤ p + 2 * k →
      ACall Try.prog n_spec_l11Clause [e 7, .int .i64 (n : Int)] H2 (fun r H' => ∃ u b, r = .tup [u, .bool b] ∧ ∃ (ys : List Int) (p' : Int), Own 1 H' u (ys.map (AV.int .i64)) ∧ ys.length ≤ 700 ∧ newer H.size u ∧ Rdr H' rb w code p' ∧ p' ≤ p + 2 * k ∧ Le (H.kill rb) ((base H' u).kill rb)) := fun q' H2 z1 z2 z3 z4 z5 => by
    have hs2 : H.size ≤ H2.size := by have := z1.1; simp only [Heap.kill, Heap.upd] at this; rw [base_size] at this; exact this
    refine (s_l11Clause z2.isI (by omega) hn hlits).mono ?_
    rintro r H3 ⟨c1, c2⟩
    by_cases hc : Contr n xs
    · obtain ⟨rfl, l3⟩ := c1 hc
      have hL := (z1.trans ((base_le _ _).kills rb)).trans (l3.kills rb)
      exact ⟨_, _, rfl, [], q', Own.nil, by simp, trivial, ⟨hw0.le mono_B hL, hr.l, l3.rwCells z3, z4⟩, z5, hL⟩
    · obtain ⟨u, rfl, o3, l3, n3⟩ := c2 hc
      have hL : Le (H.kill rb) ((base H3 u).kill rb) := (z1.trans ((base_le _ _).kills rb)).trans (l3.kills rb)
      exact ⟨u, _, rfl, _, q', o3, Nat.le_trans marked_short hn, n3.mono hs2, ⟨hw0.le mono_B (hL.trans ((base_le _ _).kills rb)), hr.l, (l3.trans (base_le _ _)).rwCells z3, z4⟩, z5, hL⟩
  by_cases hc : (i : Int) < (k : Int) ∧ (0 : Int) < (n : Int)
  · have e8' := e8
    simp (maxSteps := 2000000) (disch := first | omega | assumption | exact idP rfl | exact idP (bL rfl) | (simp only [alloc_size, upd_size]; done) | (simp only [alloc_size, upd_size]; omega) | fail) only [go_sem, reduceIte, Nat.reduceEqDiff, e1, e2, e8, hc, decide_true]
    have hr1 := mkR H1 (e 7) q hle hm hq0
    simp (maxSteps := 2000000) (disch := first | omega | assumption | exact idP rfl | exact idP (bL rfl) | (simp only [alloc_size, upd_size]; done) | (simp only [alloc_size, upd_size]; omega) | fail) only [go_sem, reduceIte, Nat.reduceEqDiff, e0]
    refine (s_pick hr1.hw hr1.l hr1.m hr1.lo (by omega)).mono ?_
    rintro r H2 ⟨rfl, j, rfl, j0, j1, _⟩
    have hj := j1 (by omega)
    have hle2 : Le (H.kill rb) ((base (H1.upd rb (.cells [w, .int .i64 (q + 1)] true)) (e 7)).kill rb) := by rw [base_kill hap]; exact hle
    have hm2 : (H1.upd rb (.cells [w, .int .i64 (q + 1)] true)).rwCells rb = some [w, .int .i64 (q + 1)] := rw_upd_same (Heap.rwCells_blk hm).1
    have hr2 := mkR _ (e 7) (q + 1) hle2 hm2 (by omega)
    simp (maxSteps := 2000000) (disch := first | omega | assumption | exact idP rfl | exact idP (bL rfl) | (simp only [alloc_size, upd_size]; done) | (simp only [alloc_size, upd_size]; omega) | fail) only [go_sem, reduceIte, Nat.reduceEqDiff, e0]
    refine (s_pick hr2.hw hr2.l hr2.m hr2.lo (by omega)).mono ?_
    rintro r H3 ⟨rfl, j', rfl, j0', j1', _⟩
    rw [Heap.upd_upd]
    have hle3 : Le (H.kill rb) ((base (H1.upd rb (.cells [w, .int .i64 (q + 1 + 1)] true)) (e 7)).kill rb) := by rw [base_kill hap]; exact hle
    have hm3 : (H1.upd rb (.cells [w, .int .i64 (q + 1 + 1)] true)).rwCells rb = some [w, .int .i64 (q + 1 + 1)] := rw_upd_same (Heap.rwCells_blk hm).1
    have ho3 : Own 1 (H1.upd rb (.cells [w, .int .i64 (q + 1 + 1)] true)) (e 7) (xs.map (AV.int .i64)) := by
      obtain ⟨A', n', ex', k', e7, y1, y2, y3⟩ := ho
      rw [e7] at hap ⊢
      refine ⟨A', n', ex', k', rfl, y1, y2, fun b' o' e' => ?_⟩
      subst e'
      obtain ⟨z1, z2, z3, z4⟩ := y3 b' o' rfl
      have hne : b' ≠ rb := hap
      exact ⟨z1, z2, z3, by rw [upd_blk_ne hne]; exact z4⟩
    generalize hG : (H1.upd rb (.cells [w, .int .i64 (q + 1 + 1)] true)) = G at *
    simp (maxSteps := 2000000) (disch := first | omega | assumption | exact idP rfl | exact idP (bL rfl) | (simp only [alloc_size, upd_size]; done) | (simp only [alloc_size, upd_size]; omega) | fail) only [go_sem, reduceIte, Nat.reduceEqDiff]
    refine condV_dec (fun hz => ?_) (fun hz => ?_)
    · simp (maxSteps := 2000000) (disch := first | omega | assumption | exact idP rfl | exact idP (bL rfl) | (simp only [alloc_size, upd_size]; done) | (simp only [alloc_size, upd_size]; omega) | fail) only [go_sem, reduceIte, Nat.reduceEqDiff]
      have hyl : (0 - (1 + j)) ≠ 0 ∧ (0 - (1 + j)).natAbs ≤ n := by omega
      refine (s_l2Has (p := 0 - (0 - (1 + j))) ho3.isI (by omega)).mono ?_
      rintro r H4 ⟨rfl, b, rfl, hb⟩
      cases b with
      | true =>
        simp (maxSteps := 2000000) (disch := first | omega | assumption | exact idP rfl | exact idP (bL rfl) | (simp only [alloc_size, upd_size]; done) | (simp only [alloc_size, upd_size]; omega) | fail) only [go_sem, reduceIte, Nat.reduceEqDiff, e8]
        exact hK _ _ ⟨i + 1, xs, q + 1 + 1, by omega, by simp (maxSteps := 2000000) (disch := first | omega | assumption | exact idP rfl | exact idP (bL rfl) | (simp only [alloc_size, upd_size]; done) | (simp only [alloc_size, upd_size]; omega) | fail) only [go_sem, reduceIte, Nat.reduceEqDiff, e0], by simp (maxSteps := 2000000) (disch := first | omega | assumption | exact idP rfl | exact idP (bL rfl) | (simp only [alloc_size, upd_size]; done) | (simp only [alloc_size, upd_size]; omega) | fail) only [go_sem, reduceIte, Nat.reduceEqDiff, e1], by simp (maxSteps := 2000000) (disch := first | omega | assumption | exact idP rfl | exact idP (bL rfl) | (simp only [alloc_size, upd_size]; done) | (simp only [alloc_size, upd_size]; omega) | fail) only [go_sem, reduceIte, Nat.reduceEqDiff, e2], by simp (maxSteps := 2000000) (disch := first | omega | assumption | exact idP rfl | exact idP (bL rfl) | (simp only [alloc_size, upd_size]; done) | (simp only [alloc_size, upd_size]; omega) | fail) only [go_sem, reduceIte, Nat.reduceEqDiff]; rfl, by omega, hlits, by simp (maxSteps := 2000000) (disch := first | omega | assumption | exact idP rfl | exact idP (bL rfl) | (simp only [alloc_size, upd_size]; done) | (simp only [alloc_size, upd_size]; omega) | fail) only [go_sem, reduceIte, Nat.reduceEqDiff]; exact ho3, by simp (maxSteps := 2000000) (disch := first | omega | assumption | exact idP rfl | exact idP (bL rfl) | (simp only [alloc_size, upd_size]; done) | (simp only [alloc_size, upd_size]; omega) | fail) only [go_sem, reduceIte, Nat.reduceEqDiff]; exact hnew, hm3, by omega, by omega, by simp (maxSteps := 2000000) (disch := first | omega | assumption | exact idP rfl | exact idP (bL rfl) | (simp only [alloc_size, upd_size]; done) | (simp only [alloc_size, upd_size]; omega) | fail) only [go_sem, reduceIte, Nat.reduceEqDiff]; exact hle3⟩ (by simp (maxSteps := 2000000) (disch := first | omega | assumption | exact idP rfl | exact idP (bL rfl) | (simp only [alloc_size, upd_size]; done) | (simp only [alloc_size, upd_size]; omega) | fail) only [go_sem, reduceIte, Nat.reduceEqDiff, ctr_int, e8']; omega)
      | false =>
        simp (maxSteps := 2000000) (disch := first | omega | assumption | exact idP rfl | exact idP (bL rfl) | (simp only [alloc_size, upd_size]; done) | (simp only [alloc_size, upd_size]; omega) | fail) only [go_sem, reduceIte, Nat.reduceEqDiff]
        refine app1 ho3 (hle3.trans (Le.kill _ _)) hnew rfl (by simp only [List.length_map]; omega) (by omega) ?_
        intro s H5 hs hle5 hn5 hst
        simp (maxSteps := 2000000) (disch := first | omega | assumption | exact idP rfl | exact idP (bL rfl) | (simp only [alloc_size, upd_size]; done) | (simp only [alloc_size, upd_size]; omega) | fail) only [go_sem, reduceIte, Nat.reduceEqDiff, e8]
        refine hK _ _ ⟨i + 1, xs ++ [0 - (1 + j)], q + 1 + 1, by omega, by simp (maxSteps := 2000000) (disch := first | omega | assumption | exact idP rfl | exact idP (bL rfl) | (simp only [alloc_size, upd_size]; done) | (simp only [alloc_size, upd_size]; omega) | fail) only [go_sem, reduceIte, Nat.reduceEqDiff, e0], by simp (maxSteps := 2000000) (disch := first | omega | assumption | exact idP rfl | exact idP (bL rfl) | (simp only [alloc_size, upd_size]; done) | (simp only [alloc_size, upd_size]; omega) | fail) only [go_sem, reduceIte, Nat.reduceEqDiff, e1], by simp (maxSteps := 2000000) (disch := first | omega | assumption | exact idP rfl | exact idP (bL rfl) | (simp only [alloc_size, upd_size]; done) | (simp only [alloc_size, upd_size]; omega) | fail) only [go_sem, reduceIte, Nat.reduceEqDiff, e2], by simp (maxSteps := 2000000) (disch := first | omega | assumption | exact idP rfl | exact idP (bL rfl) | (simp only [alloc_size, upd_size]; done) | (simp only [alloc_size, upd_size]; omega) | fail) only [go_sem, reduceIte, Nat.reduceEqDiff]; rfl, by simp; omega, fun z hz => ?_, by simp (maxSteps := 2000000) (disch := first | omega | assumption | exact idP rfl | exact idP (bL rfl) | (simp only [alloc_size, upd_size]; done) | (simp only [alloc_size, upd_size]; omega) | fail) only [go_sem, reduceIte, Nat.reduceEqDiff]; rw [List.map_append]; exact hs, by simp (maxSteps := 2000000) (disch := first | omega | assumption | exact idP rfl | exact idP (bL rfl) | (simp only [alloc_size, upd_size]; done) | (simp only [alloc_size, upd_size]; omega) | fail) only [go_sem, reduceIte, Nat.reduceEqDiff]; exact hn5, (base_le _ _).rwCells (hst.rwCells (base_rw hap hm3)), by omega, by omega, ?_⟩ (by simp (maxSteps := 2000000) (disch := first | omega | assumption | exact idP rfl | exact idP (bL rfl) | (simp only [alloc_size, upd_size]; done) | (simp only [alloc_size, upd_size]; omega) | fail) only [go_sem, reduceIte, Nat.reduceEqDiff, ctr_int, e8']; omega)
        · rcases List.mem_append.1 hz with hz | hz
          · exact hlits z hz
          · simp only [List.mem_singleton] at hz; subst hz; exact hyl
        · simp (maxSteps := 2000000) (disch := first | omega | assumption | exact idP rfl | exact idP (bL rfl) | (simp only [alloc_size, upd_size]; done) | (simp only [alloc_size, upd_size]; omega) | fail) only [go_sem, reduceIte, Nat.reduceEqDiff]
          have := hle5.kills rb
          rwa [kill_kill] at this
    · simp (maxSteps := 2000000) (disch := first | omega | assumption | exact idP rfl | exact idP (bL rfl) | (simp only [alloc_size, upd_size]; done) | (simp only [alloc_size, upd_size]; omega) | fail) only [go_sem, reduceIte, Nat.reduceEqDiff]
      have hyl : (1 + j) ≠ 0 ∧ (1 + j).natAbs ≤ n := by omega
      refine (s_l2Has (p := 0 - (1 + j)) ho3.isI (by omega)).mono ?_
      rintro r H4 ⟨rfl, b, rfl, hb⟩
      cases b with
      | true =>
        simp (maxSteps := 2000000) (disch := first | omega | assumption | exact idP rfl | exact idP (bL rfl) | (simp only [alloc_size, upd_size]; done) | (simp only [alloc_size, upd_size]; omega) | fail) only [go_sem, reduceIte, Nat.reduceEqDiff, e8]
        exact hK _ _ ⟨i + 1, xs, q + 1 + 1, by omega, by simp (maxSteps := 2000000) (disch := first | omega | assumption | exact idP rfl | exact idP (bL rfl) | (simp only [alloc_size, upd_size]; done) | (simp only [alloc_size, upd_size]; omega) | fail) only [go_sem, reduceIte, Nat.reduceEqDiff, e0], by simp (maxSteps := 2000000) (disch := first | omega | assumption | exact idP rfl | exact idP (bL rfl) | (simp only [alloc_size, upd_size]; done) | (simp only [alloc_size, upd_size]; omega) | fail) only [go_sem, reduceIte, Nat.reduceEqDiff, e1], by simp (maxSteps := 2000000) (disch := first | omega | assumption | exact idP rfl | exact idP (bL rfl) | (simp only [alloc_size, upd_size]; done) | (simp only [alloc_size, upd_size]; omega) | fail) only [go_sem, reduceIte, Nat.reduceEqDiff, e2], by simp (maxSteps := 2000000) (disch := first | omega | assumption | exact idP rfl | exact idP (bL rfl) | (simp only [alloc_size, upd_size]; done) | (simp only [alloc_size, upd_size]; omega) | fail) only [go_sem, reduceIte, Nat.reduceEqDiff]; rfl, by omega, hlits, by simp (maxSteps := 2000000) (disch := first | omega | assumption | exact idP rfl | exact idP (bL rfl) | (simp only [alloc_size, upd_size]; done) | (simp only [alloc_size, upd_size]; omega) | fail) only [go_sem, reduceIte, Nat.reduceEqDiff]; exact ho3, by simp (maxSteps := 2000000) (disch := first | omega | assumption | exact idP rfl | exact idP (bL rfl) | (simp only [alloc_size, upd_size]; done) | (simp only [alloc_size, upd_size]; omega) | fail) only [go_sem, reduceIte, Nat.reduceEqDiff]; exact hnew, hm3, by omega, by omega, by simp (maxSteps := 2000000) (disch := first | omega | assumption | exact idP rfl | exact idP (bL rfl) | (simp only [alloc_size, upd_size]; done) | (simp only [alloc_size, upd_size]; omega) | fail) only [go_sem, reduceIte, Nat.reduceEqDiff]; exact hle3⟩ (by simp (maxSteps := 2000000) (disch := first | omega | assumption | exact idP rfl | exact idP (bL rfl) | (simp only [alloc_size, upd_size]; done) | (simp only [alloc_size, upd_size]; omega) | fail) only [go_sem, reduceIte, Nat.reduceEqDiff, ctr_int, e8']; omega)
      | false =>
        simp (maxSteps := 2000000) (disch := first | omega | assumption | exact idP rfl | exact idP (bL rfl) | (simp only [alloc_size, upd_size]; done) | (simp only [alloc_size, upd_size]; omega) | fail) only [go_sem, reduceIte, Nat.reduceEqDiff]
        refine app1 ho3 (hle3.trans (Le.kill _ _)) hnew rfl (by simp only [List.length_map]; omega) (by omega) ?_
        intro s H5 hs hle5 hn5 hst
        simp (maxSteps := 2000000) (disch := first | omega | assumption | exact idP rfl | exact idP (bL rfl) | (simp only [alloc_size, upd_size]; done) | (simp only [alloc_size, upd_size]; omega) | fail) only [go_sem, reduceIte, Nat.reduceEqDiff, e8]
        refine hK _ _ ⟨i + 1, xs ++ [1 + j], q + 1 + 1, by omega, by simp (maxSteps := 2000000) (disch := first | omega | assumption | exact idP rfl | exact idP (bL rfl) | (simp only [alloc_size, upd_size]; done) | (simp only [alloc_size, upd_size]; omega) | fail) only [go_sem, reduceIte, Nat.reduceEqDiff, e0], by simp (maxSteps := 2000000) (disch := first | omega | assumption | exact idP rfl | exact idP (bL rfl) | (simp only [alloc_size, upd_size]; done) | (simp only [alloc_size, upd_size]; omega) | fail) only [go_sem, reduceIte, Nat.reduceEqDiff, e1], by simp (maxSteps := 2000000) (disch := first | omega | assumption | exact idP rfl | exact idP (bL rfl) | (simp only [alloc_size, upd_size]; done) | (simp only [alloc_size, upd_size]; omega) | fail) only [go_sem, reduceIte, Nat.reduceEqDiff, e2], by simp (maxSteps := 2000000) (disch := first | omega | assumption | exact idP rfl | exact idP (bL rfl) | (simp only [alloc_size, upd_size]; done) | (simp only [alloc_size, upd_size]; omega) | fail) only [go_sem, reduceIte, Nat.reduceEqDiff]; rfl, by simp; omega, fun z hz => ?_, by simp (maxSteps := 2000000) (disch := first | omega | assumption | exact idP rfl | exact idP (bL rfl) | (simp only [alloc_size, upd_size]; done) | (simp only [alloc_size, upd_size]; omega) | fail) only [go_sem, reduceIte, Nat.reduceEqDiff]; rw [List.map_append]; exact hs, by simp (maxSteps := 2000000) (disch := first | omega | assumption | exact idP rfl | exact idP (bL rfl) | (simp only [alloc_size, upd_size]; done) | (simp only [alloc_size, upd_size]; omega) | fail) only [go_sem, reduceIte, Nat.reduceEqDiff]; exact hn5, (base_le _ _).rwCells (hst.rwCells (base_rw hap hm3)), by omega, by omega, ?_⟩ (by simp (maxSteps := 2000000) (disch := first | omega | assumption | exact idP rfl | exact idP (bL rfl) | (simp only [alloc_size, upd_size]; done) | (simp only [alloc_size, upd_size]; omega) | fail) only [go_sem, reduceIte, Nat.reduceEqDiff, ctr_int, e8']; omega)
        · rcases List.mem_append.1 hz with hz | hz
          · exact hlits z hz
          · simp only [List.mem_singleton] at hz; subst hz; exact hyl
        · simp (maxSteps := 2000000) (disch := first | omega | assumption | exact idP rfl | exact idP (bL rfl) | (simp only [alloc_size, upd_size]; done) | (simp only [alloc_size, upd_size]; omega) | fail) only [go_sem, reduceIte, Nat.reduceEqDiff]
          have := hle5.kills rb
          rwa [kill_kill] at this
  · have ex : ∀ (H2 : Heap) (e2' : Env), True := fun _ _ => trivial
    by_cases hik : (i : Int) < (k : Int)
    · have hn0 : ¬ (0 : Int) < (n : Int) := fun h => hc ⟨hik, h⟩
      simp (maxSteps := 2000000) (disch := first | omega | assumption | exact idP rfl | exact idP (bL rfl) | (simp only [alloc_size, upd_size]; done) | (simp only [alloc_size, upd_size]; omega) | fail) only [go_sem, reduceIte, Nat.reduceEqDiff, e1, e2, e8, hik, hn0, decide_true, decide_false]
      refine (fin q H1 hle ho hm hq0 (by omega)).mono ?_
      rintro r H3 ⟨u, b, rfl, ys, p', z1, z2, z3, z4, z5, z6⟩
      simp (maxSteps := 2000000) (disch := first | omega | assumption | exact idP rfl | exact idP (bL rfl) | (simp only [alloc_size, upd_size]; done) | (simp only [alloc_size, upd_size]; omega) | fail) only [go_sem, reduceIte, Nat.reduceEqDiff]
      exact hR _ _ ⟨ys, p', z1, z2, z3, z4, z5, z6⟩
    · simp (maxSteps := 2000000) (disch := first | omega | assumption | exact idP rfl | exact idP (bL rfl) | (simp only [alloc_size, upd_size]; done) | (simp only [alloc_size, upd_size]; omega) | fail) only [go_sem, reduceIte, Nat.reduceEqDiff, e1, e2, e8, hik, decide_false]
      refine (fin q H1 hle ho hm hq0 (by omega)).mono ?_
      rintro r H3 ⟨u, b, rfl, ys, p', z1, z2, z3, z4, z5, z6⟩
      simp (maxSteps := 2000000) (disch := first | omega | assumption | exact idP rfl | exact idP (bL rfl) | (simp only [alloc_size, upd_size]; done) | (simp only [alloc_size, upd_size]; omega) | fail) only [go_sem, reduceIte, Nat.reduceEqDiff]
      exact hR _ _ ⟨ys, p', z1, z2, z3, z4, z5, z6⟩
end Go.M2

namespace Go.M2
open Go.Proofs
variable {H : Heap}
theorem isII_of {B : Heap} {p : AV} {pc : List AV} {P : List (List Int)} (h0 : Le B H) (hown : Own 1 H p pc) (hlen : pc.length = P.length) (hel : ∀ i (h : i < P.length), ∃ u, pc[i]? = some u ∧ IsI B u P[i]) : IsII H p P := by
  obtain ⟨A, n, ex, k, rfl, h1, h2, h3⟩ := hown
  have hrd := Own.rd (⟨⟨A, n, ex, k, rfl, h1, h2, h3⟩⟩ : Own 1 H (.sl A n n ex k) pc)
  have hn : n = P.length := by omega
  subst hn
  refine ⟨A, P.length, ex, k, rfl, fun i hi => ?_⟩
  obtain ⟨u, h4, h5⟩ := hel i hi
  refine ⟨[u], rfl, fun j z hj => ?_, u, rfl, h5.le h0⟩
  cases j with
  | zero =>
    simp at hj; subst hj
    simpa using hrd i u h4
  | succ j => simp at hj
theorem PL.isII {B : Heap} {p : AV} {P : List (List Int)} (h : PL B H p P) : IsII H p P := by
  obtain ⟨h0, pc, h1, h2, h3⟩ := h
  exact isII_of (h0.trans (base_le _ _)) h1 h2 h3
theorem PLO.isII {lo : Nat} {B : Heap} {p : AV} {P : List (List Int)} (h : PLO lo B H p P) : IsII H p P := by
  obtain ⟨h0, _, pc, h1, h2, h3, _⟩ := h
  refine isII_of (h0.trans (base_le _ _)) h1 h2 fun i hi => ?_
  obtain ⟨u, q1, q2, _⟩ := h3 i hi
  exact ⟨u, q1, q2.isI⟩
theorem PLO.few {lo : Nat} {B : Heap} {p : AV} {P : List (List Int)} (h : PLO lo B H p P) : ∀ c ∈ P, c.length ≤ 1048576 := by
  obtain ⟨h0, _, pc, h1, h2, h3, _⟩ := h
  intro c hc
  obtain ⟨i, hi, rfl⟩ := List.getElem_of_mem hc
  obtain ⟨u, q1, q2, q3, q4⟩ := h3 i hi
  omega
theorem PLO.lower {lo lo' : Nat} {B : Heap} {p : AV} {P : List (List Int)} (h : PLO lo B H p P) (hl : lo' ≤ lo) : PLO lo' B H p P := by
  obtain ⟨h0, hs, pc, h1, h2, h3, h4⟩ := h
  refine ⟨h0, by omega, pc, h1, h2, fun i hi => ?_, h4⟩
  obtain ⟨u, q1, q2, q3, q4⟩ := h3 i hi
  exact ⟨u, q1, q2, q3.mono hl, q4⟩
end Go.M2

namespace Go.M2
open Go.Proofs
variable {H : Heap}
set_option maxHeartbeats 8000000 in
theorem s_l11Draw {rb : Nat} {w : AV} {code : List Int} {p : Int} {n k : Nat} (hr : Rdr H rb w code p) (h1 : p ≤ 900000000000) (hn : n ≤ 700) (hk : k ≤ 700) :
    ACall Try.prog n_spec_l11Draw [.ptr (some (rb, 0)), .int .i64 (n : Int), .int .i64 (k : Int)] H (fun r H' => ∃ (v : AV) (P : List (List Int)) (p' : Int) (B : Heap), r = .agg [.int .i64 (n : Int), v] ∧ PLO H.size B H' v P ∧ P.length = k ∧ Le (H.kill rb) B ∧ B.blk rb = .dead ∧ (base H' v).rwCells rb = some [w, .int .i64 p'] ∧ 0 ≤ p' ∧ p' ≤ p + 20 * k) := by
  refine ACall.of fun R hR => a_spec_l11Draw rfl ?_
  have hrb := (Heap.rwCells_blk hr.m).1
  have hw0 := hr.hw
  simp (maxSteps := 2000000) (disch := first | omega | assumption | exact idP rfl | exact idP (bL rfl) | (simp only [alloc_size, upd_size]; done) | (simp only [alloc_size, upd_size]; omega) | fail) only [go_sem, reduceIte, Nat.reduceEqDiff]
  generalize hG0 : (((H.alloc [AV.int .i64 0, .sl none 0 0 true 0]).alloc [AV.int .i64 0, .sl none 0 0 true 0]).upd (H.size + 1) (.cells [.int .i64 (n : Int), .sl none 0 0 true 0] true)) = G0
  have hG0s : G0.size = H.size + 1 + 1 := by rw [← hG0]; rfl
  have hLG : Le H G0 := by rw [← hG0]; exact ((Le.refl _).allocs.allocs).updFresh (by omega)
  have hne1 : rb ≠ H.size := by omega
  have hne2 : rb ≠ H.size + 1 := by omega
  have c0 : G0.rwCells H.size = some [.int .i64 0, .sl none 0 0 true 0] := by rw [← hG0]; simp (maxSteps := 2000000) (disch := first | omega | assumption | exact idP rfl | exact idP (bL rfl) | (simp only [alloc_size, upd_size]; done) | (simp only [alloc_size, upd_size]; omega) | fail) only [go_sem, reduceIte, Nat.reduceEqDiff]
  have c1 : G0.rwCells (H.size + 1) = some [.int .i64 (n : Int), .sl none 0 0 true 0] := by rw [← hG0]; simp (maxSteps := 2000000) (disch := first | omega | assumption | exact idP rfl | exact idP (bL rfl) | (simp only [alloc_size, upd_size]; done) | (simp only [alloc_size, upd_size]; omega) | fail) only [go_sem, reduceIte, Nat.reduceEqDiff]
  have hB0 : Le (((G0.kill rb).kill H.size).kill (H.size + 1)) G0 := ((Le.kill _ _).trans (Le.kill _ _)).trans (Le.kill _ _)
  have hHB : Le (H.kill rb) (((G0.kill rb).kill H.size).kill (H.size + 1)) := ((hLG.kills rb).killFresh (Nat.le_refl _)).killFresh (Nat.le_succ _)
  refine wp_loop_k (fun e H' => ∃ (i : Nat) (P : List (List Int)) (q : Int) (B : Heap) (v : AV), i ≤ k ∧ e 0 = .ptr (some (rb, 0)) ∧ e 1 = .int .i64 (n : Int) ∧ e 2 = .int .i64 (k : Int) ∧ e 6 = .ptr (some (H.size, 0)) ∧ e 7 = .ptr (some (H.size + 1, 0)) ∧ e 8 = .int .i64 (i : Int) ∧ PLO H.size B H' v P ∧ P.length = i ∧ Le (H.kill rb) B ∧ H.size + 1 < B.size ∧ B.blk rb = .dead ∧ B.blk H.size = .dead ∧ B.blk (H.size + 1) = .dead ∧
    (base H' v).rwCells (H.size + 1) = some [.int .i64 (n : Int), v] ∧ (base H' v).rwCells H.size = some [.int .i64 0, .sl none 0 0 true 0] ∧ (base H' v).rwCells rb = some [w, .int .i64 q] ∧ 0 ≤ q ∧ q ≤ p + 20 * i) (fun e _ => ctr k (e 8)) ?_ ?_
  · refine ⟨0, [], p, ((G0.kill rb).kill H.size).kill (H.size + 1), .sl none 0 0 true 0, Nat.zero_le _, by simp (maxSteps := 2000000) (disch := first | omega | assumption | exact idP rfl | exact idP (bL rfl) | (simp only [alloc_size, upd_size]; done) | (simp only [alloc_size, upd_size]; omega) | fail) only [go_sem, reduceIte, Nat.reduceEqDiff], by simp (maxSteps := 2000000) (disch := first | omega | assumption | exact idP rfl | exact idP (bL rfl) | (simp only [alloc_size, upd_size]; done) | (simp only [alloc_size, upd_size]; omega) | fail) only [go_sem, reduceIte, Nat.reduceEqDiff], by simp (maxSteps := 2000000) (disch := first | omega | assumption | exact idP rfl | exact idP (bL rfl) | (simp only [alloc_size, upd_size]; done) | (simp only [alloc_size, upd_size]; omega) | fail) only [go_sem, reduceIte, Nat.reduceEqDiff], by simp (maxSteps := 2000000) (disch := first | omega | assumption | exact idP rfl | exact idP (bL rfl) | (simp only [alloc_size, upd_size]; done) | (simp only [alloc_size, upd_size]; omega) | fail) only [go_sem, reduceIte, Nat.reduceEqDiff], by simp (maxSteps := 2000000) (disch := first | omega | assumption | exact idP rfl | exact idP (bL rfl) | (simp only [alloc_size, upd_size]; done) | (simp only [alloc_size, upd_size]; omega) | fail) only [go_sem, reduceIte, Nat.reduceEqDiff], by simp (maxSteps := 2000000) (disch := first | omega | assumption | exact idP rfl | exact idP (bL rfl) | (simp only [alloc_size, upd_size]; done) | (simp only [alloc_size, upd_size]; omega) | fail) only [go_sem, reduceIte, Nat.reduceEqDiff]; rfl, ⟨hB0, by show H.size ≤ G0.size; omega, [], Own.nil, rfl, fun i h => by simp at h, fun i j u v h1 h2 => by simp at h2⟩, rfl, hHB, by show H.size + 1 < G0.size; omega, ?_, ?_, kill_dead _ _, c1, c0, hLG.rwCells hr.m, hr.lo, by omega⟩
    · rw [kill_ne hne2, kill_ne hne1, kill_dead]
    · rw [kill_ne (by omega), kill_dead]
  rintro e H1 ⟨i, P, q, B, v, hi, e0, e1, e2, e6, e7, e8, hpl, hPi, hHB', hsB, hdr, hd6, hd7, w7, w6, wr, hq0, hq1⟩ K hK
  simp (maxSteps := 2000000) (disch := first | omega | assumption | exact idP rfl | exact idP (bL rfl) | (simp only [alloc_size, upd_size]; done) | (simp only [alloc_size, upd_size]; omega) | fail) only [go_sem, reduceIte, Nat.reduceEqDiff, e2, e8]
  have a7 := apart_of w7
  have a6 := apart_of w6
  have ar := apart_of wr
  refine condV_dec (fun h => ?_) (fun h => ?_)
  · have e8' := e8
    have x7 := (base_le _ _).rwCells w7
    obtain ⟨y1, y2⟩ := Heap.rwCells_blk x7
    have l1 : H1.get (H.size + 1) 1 = some v := Rd.blk y1 y2 1 _ rfl
    have hBH : Le B H1 := hpl.1.trans (base_le _ _)
    simp (maxSteps := 2000000) (disch := first | omega | assumption | exact idP rfl | exact idP (bL rfl) | (simp only [alloc_size, upd_size]; done) | (simp only [alloc_size, upd_size]; omega) | fail) only [go_sem, reduceIte, Nat.reduceEqDiff, e0, e1, e7, l1]
    obtain ⟨pc1, own1, _⟩ := hpl.own
    have kB : ∀ X : Heap, Le B X → Le (H.kill rb) (X.kill rb) := fun X hX => hHB'.trans (hX.updDead hdr .dead)
    have hsB1 : B.size ≤ H1.size := hBH.1
    have hrb1 : rb < H1.size := by omega
    generalize hHa : (H1.alloc ((((((((zeros [AV.int .i64 0] 7).set 0 (.int .i64 2)).set 1 (.int .i64 3)).set 2 (.int .i64 3)).set 3 (.int .i64 2)).set 4 (.int .i64 1)).set 5 (.int .i64 3)).set 6 (.int .i64 4))) = Ha
    have hLa : Le H1 Ha := by rw [← hHa]; exact Le.alloc _ _
    have hsa : Ha.size = H1.size + 1 := by rw [← hHa]; rfl
    have hba : Ha.blk H1.size = .cells (([2, 3, 3, 2, 1, 3, 4] : List Int).map (AV.int .i64)) true := by rw [← hHa, alloc_new]; rfl
    have hra : Rdr Ha rb w code q := ⟨hw0.le mono_B (kB _ (hBH.trans hLa)), hr.l, hLa.rwCells ((base_le _ _).rwCells wr), hq0⟩
    have hla : IsI (Ha.kill rb) (.sl (some (H1.size, 0)) 7 7 true 1) [2, 3, 3, 2, 1, 3, 4] :=
      (⟨⟨some (H1.size, 0), 7, true, 1, rfl, rfl, fun h => (nomatch h), fun b o e => by cases e; exact ⟨rfl, rfl, by show H1.size < Ha.size; omega, by rw [kill_ne (by omega)]; exact hba⟩⟩⟩ : Own 1 (Ha.kill rb) (.sl (some (H1.size, 0)) 7 7 true 1) (([2, 3, 3, 2, 1, 3, 4] : List Int).map (AV.int .i64))).isI
    refine (s_num hra (by omega) hla (by simp)).mono ?_
    rintro r H2 ⟨rfl, x, hx, rfl⟩
    have hx14 : 1 ≤ x ∧ x ≤ 4 := by simp at hx; omega
    obtain ⟨kx, rfl⟩ : ∃ kx : Nat, x = kx := ⟨x.toNat, by omega⟩
    have hr2 := hra.upd (q := q + 1) (by omega)
    have l2 : (Ha.upd rb (.cells [w, .int .i64 (q + 1)] true)).get (H.size + 1) 1 = some v := by rw [get_upd_ne (by omega)]; exact hLa.get l1
    have hp2 : PLO H.size B ((Ha.upd rb (.cells [w, .int .i64 (q + 1)] true)).kill rb) v P := by
      rw [upd_kill]
      exact (hpl.le hLa).upd ar hdr
    have x72 : ((Ha.upd rb (.cells [w, .int .i64 (q + 1)] true)).kill rb).rwCells (H.size + 1) = some [.int .i64 (n : Int), v] := by
      rw [upd_kill]
      have := hLa.rwCells x7
      obtain ⟨z1, z2⟩ := Heap.rwCells_blk this
      exact rwCells_of z1 (by rw [kill_ne (by omega)]; exact z2)
    have x62 : ((Ha.upd rb (.cells [w, .int .i64 (q + 1)] true)).kill rb).rwCells H.size = some [.int .i64 0, .sl none 0 0 true 0] := by
      rw [upd_kill]
      have := hLa.rwCells ((base_le _ _).rwCells w6)
      obtain ⟨z1, z2⟩ := Heap.rwCells_blk this
      exact rwCells_of z1 (by rw [kill_ne (by omega)]; exact z2)
    generalize hH2 : (Ha.upd rb (.cells [w, .int .i64 (q + 1)] true)) = H2 at *
    have hs2 : H2.size = H1.size + 1 := by rw [← hH2]; exact hsa
    simp (maxSteps := 2000000) (disch := first | omega | assumption | exact idP rfl | exact idP (bL rfl) | (simp only [alloc_size, upd_size]; done) | (simp only [alloc_size, upd_size]; omega) | fail) only [go_sem, reduceIte, Nat.reduceEqDiff, l2]
    refine (s_l11Lits (n := n) (k := kx) hr2 (by omega) hn (by omega)).mono ?_
    rintro u H3 ⟨xs, q', ho, hxl, hnu, hr3, hq', hle3⟩
    rw [hs2] at hnu
    have hTo3 : Le ((base H3 u).kill rb) H3 := (Le.kill _ _).trans (base_le _ _)
    have hs3 : H1.size + 1 ≤ H3.size := by
      have := (hle3.trans hTo3).1
      have e : (H2.kill rb).size = H2.size := rfl
      omega
    have hp3 : PLO H.size B H3 v P := (hp2.le hle3).le hTo3
    have x73 := hTo3.rwCells (hle3.rwCells x72)
    have x63 := hTo3.rwCells (hle3.rwCells x62)
    have l3 : H3.get (H.size + 1) 1 = some v := by
      obtain ⟨z1, z2⟩ := Heap.rwCells_blk x73
      exact Rd.blk z1 z2 1 _ rfl
    have hu1 := (oneA_isS ho.isI)
    simp (maxSteps := 2000000) (disch := first | omega | assumption | exact idP rfl | exact idP (bL rfl) | (simp only [alloc_size, upd_size]; done) | (simp only [alloc_size, upd_size]; omega) | fail) only [go_sem, reduceIte, Nat.reduceEqDiff, l3, hu1.2]
    have ndd : Nd B ((B.pad (H1.size + 1)).over H3) := (pad_nd (by omega)).trans (over_nd (by rw [pad_size]; exact hs3))
    have hB1 : Le ((B.pad (H1.size + 1)).over H3) (base H3 v) := over_le (pad_le hp3.1 (by rw [base_size]; exact hs3)) base_size.symm fun b hb' => by
      rw [pad_size] at hb'
      exact base_blk (apart_fresh own1 (by omega))
    have huF : Own 1 ((B.pad (H1.size + 1)).over H3) u (xs.map (AV.int .i64)) := (ho.later (n := H1.size + 1) hnu).le (by have := later_over (B.pad (H1.size + 1)) H3; rwa [pad_size] at this)
    refine plo_app hp3 ndd.1 hB1 huF (hnu.mono (by omega)) hxl (by omega) (by omega) ?_
    intro p' H4 hp4 hle4
    have w74 := hle4.rwCells (base_rw a7 x73)
    have w64 := hle4.rwCells (base_rw a6 x63)
    have wr4 := hle4.rwCells (base_rw ar hr3.m)
    have b7 := apart_of w74
    have b6 := apart_of w64
    have br := apart_of wr4
    have hp4o := hp4.one.1
    have x74 := (base_le _ _).rwCells w74
    have z74 := (Heap.rwCells_blk x74).1
    simp (maxSteps := 2000000) (disch := first | omega | assumption | exact idP rfl | exact idP (bL rfl) | (simp only [alloc_size, upd_size]; done) | (simp only [alloc_size, upd_size]; omega) | fail) only [go_sem, reduceIte, Nat.reduceEqDiff, e7, e8, x74, hp4.one.2]
    refine hK _ _ ⟨i + 1, P ++ [xs], q', _, p', by omega, by simp (maxSteps := 2000000) (disch := first | omega | assumption | exact idP rfl | exact idP (bL rfl) | (simp only [alloc_size, upd_size]; done) | (simp only [alloc_size, upd_size]; omega) | fail) only [go_sem, reduceIte, Nat.reduceEqDiff, e0], by simp (maxSteps := 2000000) (disch := first | omega | assumption | exact idP rfl | exact idP (bL rfl) | (simp only [alloc_size, upd_size]; done) | (simp only [alloc_size, upd_size]; omega) | fail) only [go_sem, reduceIte, Nat.reduceEqDiff, e1], by simp (maxSteps := 2000000) (disch := first | omega | assumption | exact idP rfl | exact idP (bL rfl) | (simp only [alloc_size, upd_size]; done) | (simp only [alloc_size, upd_size]; omega) | fail) only [go_sem, reduceIte, Nat.reduceEqDiff, e2], by simp (maxSteps := 2000000) (disch := first | omega | assumption | exact idP rfl | exact idP (bL rfl) | (simp only [alloc_size, upd_size]; done) | (simp only [alloc_size, upd_size]; omega) | fail) only [go_sem, reduceIte, Nat.reduceEqDiff, e6], by simp (maxSteps := 2000000) (disch := first | omega | assumption | exact idP rfl | exact idP (bL rfl) | (simp only [alloc_size, upd_size]; done) | (simp only [alloc_size, upd_size]; omega) | fail) only [go_sem, reduceIte, Nat.reduceEqDiff, e7], by simp (maxSteps := 2000000) (disch := first | omega | assumption | exact idP rfl | exact idP (bL rfl) | (simp only [alloc_size, upd_size]; done) | (simp only [alloc_size, upd_size]; omega) | fail) only [go_sem, reduceIte, Nat.reduceEqDiff]; rfl, hp4.upd b7 (ndd.2 _ hsB hd7), by simp [hPi], hHB'.trans ndd.1, Nat.lt_of_lt_of_le hsB ndd.1.1, ndd.2 _ (by omega) hdr, ndd.2 _ (by omega) hd6, ndd.2 _ hsB hd7, base_rw b7 (by simp (maxSteps := 2000000) (disch := first | omega | assumption | exact idP rfl | exact idP (bL rfl) | (simp only [alloc_size, upd_size]; done) | (simp only [alloc_size, upd_size]; omega) | fail) only [go_sem, reduceIte, Nat.reduceEqDiff]), ?_, ?_, hr3.lo, by omega⟩ (by simp (maxSteps := 2000000) (disch := first | omega | assumption | exact idP rfl | exact idP (bL rfl) | (simp only [alloc_size, upd_size]; done) | (simp only [alloc_size, upd_size]; omega) | fail) only [go_sem, reduceIte, Nat.reduceEqDiff, ctr_int, e8']; omega)
    · rw [base_upd b7, rw_upd_ne (by omega)]; exact w64
    · rw [base_upd b7, rw_upd_ne (by omega)]; exact wr4
  · obtain rfl : i = k := by omega
    have x7 := (base_le _ _).rwCells w7
    obtain ⟨y1, y2⟩ := Heap.rwCells_blk x7
    have l0 : H1.get (H.size + 1) 0 = some (.int .i64 (n : Int)) := Rd.blk y1 y2 0 _ rfl
    have l1 : H1.get (H.size + 1) 1 = some v := Rd.blk y1 y2 1 _ rfl
    have x6 := (base_le _ _).rwCells w6
    have z6 := (Heap.rwCells_blk x6).1
    have hvo := hpl.one.1
    simp (maxSteps := 2000000) (disch := first | omega | assumption | exact idP rfl | exact idP (bL rfl) | (simp only [alloc_size, upd_size]; done) | (simp only [alloc_size, upd_size]; omega) | fail) only [go_sem, reduceIte, Nat.reduceEqDiff, e6, e7, l0, l1, x6, hpl.one.2]
    refine hR _ _ ⟨v, P, q, B, rfl, hpl.upd a6 hd6, hPi, hHB', hdr, ?_, hq0, hq1⟩
    rw [base_upd a6, rw_upd_ne (by omega)]; exact wr
end Go.M2

namespace Go.M2
open Go.Proofs
variable {H : Heap}
theorem plo_lit {lo : Nat} {B : Heap} {v : AV} {P : List (List Int)} (h : PLO lo B H v P) (cl : List Int) (hc : cl.length ≤ 700) (hP : P.length ≤ 1048576) {K : AV → Heap → Prop}
    (hk : ∀ p' H', PLO lo ((B.pad H.size).over (H.alloc (cl.map (AV.int .i64)))) H' p' (P ++ [cl]) → Le (base H v) (base H' p') → K p' H') :
    appP 1 24 v (.sl (some (H.size + 1, 0)) 1 1 true 1) ((H.alloc (cl.map (AV.int .i64))).alloc [.sl (some (H.size, 0)) cl.length cl.length true 1]) K := by
  obtain ⟨pc, own1, _⟩ := h.own
  have hBH : Le B H := h.1.trans (base_le _ _)
  have hsB := hBH.1
  have hp1 : PLO lo B (H.alloc (cl.map (AV.int .i64))) v P := h.le (Le.alloc _ _)
  have ndd : Nd B ((B.pad H.size).over (H.alloc (cl.map (AV.int .i64)))) := (pad_nd hsB).trans (over_nd (by rw [pad_size]; exact Nat.le_succ _))
  have hB1 : Le ((B.pad H.size).over (H.alloc (cl.map (AV.int .i64)))) (base (H.alloc (cl.map (AV.int .i64))) v) := over_le (pad_le hp1.1 (by rw [base_size]; exact Nat.le_succ _)) base_size.symm fun b hb' => by
    rw [pad_size] at hb'
    exact base_blk (apart_fresh own1 hb')
  have ho : Own 1 (H.alloc (cl.map (AV.int .i64))) (.sl (some (H.size, 0)) cl.length cl.length true 1) (cl.map (AV.int .i64)) := Own.new (by simp)
  have huF : Own 1 ((B.pad H.size).over (H.alloc (cl.map (AV.int .i64)))) (.sl (some (H.size, 0)) cl.length cl.length true 1) (cl.map (AV.int .i64)) :=
    (ho.later (n := H.size) (Nat.le_refl _)).le (by have := later_over (B.pad H.size) (H.alloc (cl.map (AV.int .i64))); rwa [pad_size] at this)
  exact plo_app hp1 ndd.1 hB1 huF hsB hc hP (by omega) fun p' H' z1 z2 => hk p' H' z1 ((base_mono (Le.alloc _ _) v).trans z2)
end Go.M2

namespace Go.M2
open Go.Proofs
variable {H : Heap}
def RefRes (n : Int) (xss : List (List Int)) (Q : List (List Int)) (ok : Bool) : Prop :=
  (¬ ClsOk n xss ∧ Q = [] ∧ ok = false) ∨ (ClsOk n xss ∧ ∃ (m : Nat) (res : Res) (P : List (List Int)) (d : Nat), n = m ∧ Try xss m [] [] 0 res P d ∧ ((res = .no ∧ Q = P ∧ ok = true) ∨ (res ≠ .no ∧ Q = [] ∧ ok = false)))
theorem RefRes.det {n : Int} {xss : List (List Int)} {v v' : List (List Int)} {b b' : Bool} (h : RefRes n xss v b) (h' : RefRes n xss v' b') : v = v' ∧ b = b' := by
  rcases h with ⟨h1, rfl, rfl⟩ | ⟨h1, m, res, P, d, rfl, h2, h3⟩
  · rcases h' with ⟨_, rfl, rfl⟩ | ⟨h1', _⟩
    · exact ⟨rfl, rfl⟩
    · exact absurd h1' h1
  · rcases h' with ⟨h1', _⟩ | ⟨_, m', res', P', d', hm, h2', h3'⟩
    · exact absurd h1 h1'
    · obtain rfl : m = m' := by omega
      obtain ⟨rfl, rfl, rfl⟩ := h2.det h2'
      rcases h3 with ⟨h4, rfl, rfl⟩ | ⟨h4, rfl, rfl⟩
      · rcases h3' with ⟨_, rfl, rfl⟩ | ⟨h5, _⟩
        · exact ⟨rfl, rfl⟩
        · exact absurd h4 h5
      · rcases h3' with ⟨h5, _⟩ | ⟨_, rfl, rfl⟩
        · exact absurd h5 h4
        · exact ⟨rfl, rfl⟩
theorem s_specRefute {x : AV} {k : Int} {xss : List (List Int)} (hx : IsCl H x k xss) (hl : xss.length ≤ 1048576) (hxl : ∀ xs ∈ xss, xs.length ≤ 1048576) :
    ACall Try.prog n_spec_Refute [x] H (fun r H' => Le H H' ∧ ∃ u Q ok, r = .tup [u, .bool ok] ∧ IsII H' u Q ∧ RefRes k xss Q ok) := by
  refine ACall.of fun R hR => a_spec_Refute rfl ?_
  obtain ⟨fl, rfl, hv⟩ := hx
  have nilI : ∀ H' : Heap, IsII H' (.sl none 0 0 true 0) [] := fun H' => ⟨none, 0, true, 0, rfl, fun i h => by simp at h⟩
  simp (maxSteps := 2000000) (disch := first | omega | assumption | exact idP rfl | exact idP (bL rfl) | (simp only [alloc_size, upd_size]; done) | (simp only [alloc_size, upd_size]; omega) | fail) only [go_sem, reduceIte, Nat.reduceEqDiff]
  have hcl : IsCl (H.alloc [.int .i64 k, fl]) (.agg [.int .i64 k, fl]) k xss := ⟨fl, rfl, hv.le (Le.alloc _ _)⟩
  refine (s_specClausesValid hcl hl hxl).mono ?_
  rintro r H1 ⟨hle1, b, rfl, hb⟩
  have hH1 := (Le.alloc H [.int .i64 k, fl]).trans hle1
  cases b with
  | false =>
    have hnot : ¬ ClsOk k xss := fun h => by have := hb.2 h; cases this
    simp (maxSteps := 2000000) (disch := first | omega | assumption | exact idP rfl | exact idP (bL rfl) | (simp only [alloc_size, upd_size]; done) | (simp only [alloc_size, upd_size]; omega) | fail) only [go_sem, reduceIte, Nat.reduceEqDiff]
    exact hR _ _ ⟨hH1, _, [], false, rfl, nilI _, .inl ⟨hnot, rfl, rfl⟩⟩
  | true =>
    have hok := hb.1 rfl
    obtain ⟨n, rfl⟩ : ∃ n : Nat, k = n := ⟨k.toNat, by have := hok.lo; omega⟩
    have g0 : H1.get H.size 0 = some (.int .i64 (n : Int)) := hle1.get (by simp (maxSteps := 2000000) (disch := first | omega | assumption | exact idP rfl | exact idP (bL rfl) | (simp only [alloc_size, upd_size]; done) | (simp only [alloc_size, upd_size]; omega) | fail) only [go_sem, reduceIte, Nat.reduceEqDiff])
    have g1 : H1.get H.size 1 = some fl := hle1.get (by simp (maxSteps := 2000000) (disch := first | omega | assumption | exact idP rfl | exact idP (bL rfl) | (simp only [alloc_size, upd_size]; done) | (simp only [alloc_size, upd_size]; omega) | fail) only [go_sem, reduceIte, Nat.reduceEqDiff])
    simp (maxSteps := 2000000) (disch := first | omega | assumption | exact idP rfl | exact idP (bL rfl) | (simp only [alloc_size, upd_size]; done) | (simp only [alloc_size, upd_size]; omega) | fail) only [go_sem, reduceIte, Nat.reduceEqDiff, g0, g1]
    refine (s_l12Search (hcl.le hle1) hok hl hxl).mono ?_
    rintro r H2 ⟨res, P', d', fl', p', w, ok, ct, B', htry, rfl, hle2, hof, hop, how, hno, hcut, hsat⟩
    have hc1 : cellsOf p' = some [p'] := by cases p' <;> first | rfl | cases hop
    have hc2 : cellsOf fl' = some [fl'] := by cases fl' <;> first | rfl | cases hof
    simp (maxSteps := 2000000) (disch := first | omega | assumption | exact idP rfl | exact idP (bL rfl) | (simp only [alloc_size, upd_size]; done) | (simp only [alloc_size, upd_size]; omega) | fail) only [go_sem, reduceIte, Nat.reduceEqDiff, hc1, hc2]
    have hH2 := hH1.trans hle2
    cases res with
    | cut =>
      obtain ⟨rfl, rfl, rfl⟩ := hcut rfl
      simp (maxSteps := 2000000) (disch := first | omega | assumption | exact idP rfl | exact idP (bL rfl) | (simp only [alloc_size, upd_size]; done) | (simp only [alloc_size, upd_size]; omega) | fail) only [go_sem, reduceIte, Nat.reduceEqDiff]
      exact hR _ _ ⟨hH2.allocs.updFresh hH2.1, _, [], false, rfl, nilI _, .inr ⟨hok, n, .cut, P', d', rfl, htry, .inr ⟨by simp, rfl, rfl⟩⟩⟩
    | no =>
      obtain ⟨rfl, rfl, hpl, rfl⟩ := hno rfl
      simp (maxSteps := 2000000) (disch := first | omega | assumption | exact idP rfl | exact idP (bL rfl) | (simp only [alloc_size, upd_size]; done) | (simp only [alloc_size, upd_size]; omega) | fail) only [go_sem, reduceIte, Nat.reduceEqDiff]
      exact hR _ _ ⟨hH2.allocs.updFresh hH2.1, p', P', true, rfl, hpl.isII.le ((Le.refl H2).allocs.updFresh (Nat.le_refl _)), .inr ⟨hok, n, .no, P', d', rfl, htry, .inl ⟨rfl, rfl, rfl⟩⟩⟩
    | sat m =>
      obtain ⟨rfl, rfl, hw, hB⟩ := hsat m rfl
      simp (maxSteps := 2000000) (disch := first | omega | assumption | exact idP rfl | exact idP (bL rfl) | (simp only [alloc_size, upd_size]; done) | (simp only [alloc_size, upd_size]; omega) | fail) only [go_sem, reduceIte, Nat.reduceEqDiff]
      exact hR _ _ ⟨hH2.allocs.updFresh hH2.1, _, [], false, rfl, nilI _, .inr ⟨hok, n, .sat m, P', d', rfl, htry, .inr ⟨by simp, rfl, rfl⟩⟩⟩
theorem s_implCloneS {v : AV} {pc : List AV} (hv : Own 1 H v pc) (ho : pc.all oneA = true) (hl : pc.length ≤ 1048576) :
    ACall Try.prog n_impl_clone_Sint [v] H (fun r H' => Own 1 H' r pc ∧ Le H (base H' r) ∧ newer H.size r) := by
  refine ACall.of fun R hR => a_impl_clone_Sint rfl ?_
  have hv' := hv
  obtain ⟨A, n, ex, k, rfl, h1, h2, h3⟩ := hv'
  have hrd := Own.rd hv
  have hn : n = pc.length := by omega
  subst hn
  simp (maxSteps := 2000000) (disch := first | omega | assumption | exact idP rfl | exact idP (bL rfl) | (simp only [alloc_size, upd_size]; done) | (simp only [alloc_size, upd_size]; omega) | fail) only [go_sem, reduceIte, Nat.reduceEqDiff]
  refine condV_dec (fun h => ?_) (fun h => ?_)
  · have : pc = [] := List.eq_nil_of_length_eq_zero (by omega)
    subst this
    simp (maxSteps := 2000000) (disch := first | omega | assumption | exact idP rfl | exact idP (bL rfl) | (simp only [alloc_size, upd_size]; done) | (simp only [alloc_size, upd_size]; omega) | fail) only [go_sem, reduceIte, Nat.reduceEqDiff]
    exact hR _ _ ⟨Own.nil, Le.refl _, trivial⟩
  · simp (maxSteps := 2000000) (disch := first | omega | assumption | exact idP rfl | exact idP (bL rfl) | (simp only [alloc_size, upd_size]; done) | (simp only [alloc_size, upd_size]; omega) | fail) only [go_sem, reduceIte, Nat.reduceEqDiff]
    refine mks_own (by omega) (by simp [mostCells]; omega) (by simp [mostCells]; omega) ?_
    simp (maxSteps := 2000000) (disch := first | omega | assumption | exact idP rfl | exact idP (bL rfl) | (simp only [alloc_size, upd_size]; done) | (simp only [alloc_size, upd_size]; omega) | fail) only [go_sem, reduceIte, Nat.reduceEqDiff]
    have hld : loadN (H.alloc (zeros [.sl none 0 0 true 0] pc.length)) A.b A.o pc.length = some pc := (hrd.le (Le.alloc H (zeros [.sl none 0 0 true 0] pc.length))).loadN
    unfold copyP
    simp only [AA.b_some, AA.o_some, Nat.min_self, Nat.mul_one, hld]
    rw [if_neg (by omega), rw_alloc_new rfl]
    refine ⟨ho, by rw [zeros_len rfl]; omega, ?_⟩
    have hz := setAt_all pc (zeros [.sl none 0 0 true 0] pc.length) [] (by rw [zeros_len rfl])
    simp only [List.nil_append, List.length_nil] at hz
    rw [hz]
    simp (maxSteps := 2000000) (disch := first | omega | assumption | exact idP rfl | exact idP (bL rfl) | (simp only [alloc_size, upd_size]; done) | (simp only [alloc_size, upd_size]; omega) | fail) only [go_sem, reduceIte, Nat.reduceEqDiff]
    refine hR _ _ ⟨⟨some (H.size, 0), pc.length, true, 1, rfl, by simp, fun h => (nomatch h), fun b o e => ?_⟩, ?_, Nat.le_refl _⟩
    · cases e; exact ⟨rfl, rfl, Nat.lt_succ_self _, upd_blk_same'⟩
    · show Le H ((_ : Heap).kill H.size)
      exact (((Le.alloc H _).updFresh (Nat.le_refl _))).killFresh (Nat.le_refl _)
theorem plo_nil {lo : Nat} (h : lo ≤ H.size) : PLO lo H H (.sl none 0 0 true 0) [] := ⟨Le.refl _, h, [], Own.nil, rfl, fun i h => by simp at h, fun i j u v h1 h2 => by simp at h2⟩
theorem s_implRefute {x : AV} {k : Int} {xss : List (List Int)} (hx : IsCl H x k xss) (hl : xss.length ≤ 1048576) (hxl : ∀ xs ∈ xss, xs.length ≤ 1048576) :
    ACall Try.prog n_impl_Refute [x] H (fun r H' => ∃ u Q ok B', r = .tup [u, .bool ok] ∧ PLO H.size B' H' u Q ∧ Le H H' ∧ newer H.size u ∧ Q.length ≤ 600 ∧ RefRes k xss Q ok) := by
  refine ACall.of fun R hR => a_impl_Refute rfl ?_
  obtain ⟨fl, rfl, hv⟩ := hx
  simp (maxSteps := 2000000) (disch := first | omega | assumption | exact idP rfl | exact idP (bL rfl) | (simp only [alloc_size, upd_size]; done) | (simp only [alloc_size, upd_size]; omega) | fail) only [go_sem, reduceIte, Nat.reduceEqDiff]
  have hcl : IsCl (H.alloc [.int .i64 k, fl]) (.agg [.int .i64 k, fl]) k xss := ⟨fl, rfl, hv.le (Le.alloc _ _)⟩
  refine (s_implClausesValid hcl hl hxl).mono ?_
  rintro r H1 ⟨hle1, b, rfl, hb⟩
  have hH1 := (Le.alloc H [.int .i64 k, fl]).trans hle1
  cases b with
  | false =>
    have hnot : ¬ ClsOk k xss := fun h => by have := hb.2 h; cases this
    simp (maxSteps := 2000000) (disch := first | omega | assumption | exact idP rfl | exact idP (bL rfl) | (simp only [alloc_size, upd_size]; done) | (simp only [alloc_size, upd_size]; omega) | fail) only [go_sem, reduceIte, Nat.reduceEqDiff]
    exact hR _ _ ⟨.sl none 0 0 true 0, [], false, _, rfl, plo_nil hH1.1, hH1, trivial, by simp, .inl ⟨hnot, rfl, rfl⟩⟩
  | true =>
    have hok := hb.1 rfl
    obtain ⟨n, rfl⟩ : ∃ n : Nat, k = n := ⟨k.toNat, by have := hok.lo; omega⟩
    have g0 : H1.get H.size 0 = some (.int .i64 (n : Int)) := hle1.get (by simp (maxSteps := 2000000) (disch := first | omega | assumption | exact idP rfl | exact idP (bL rfl) | (simp only [alloc_size, upd_size]; done) | (simp only [alloc_size, upd_size]; omega) | fail) only [go_sem, reduceIte, Nat.reduceEqDiff])
    have g1 : H1.get H.size 1 = some fl := hle1.get (by simp (maxSteps := 2000000) (disch := first | omega | assumption | exact idP rfl | exact idP (bL rfl) | (simp only [alloc_size, upd_size]; done) | (simp only [alloc_size, upd_size]; omega) | fail) only [go_sem, reduceIte, Nat.reduceEqDiff])
    simp (maxSteps := 2000000) (disch := first | omega | assumption | exact idP rfl | exact idP (bL rfl) | (simp only [alloc_size, upd_size]; done) | (simp only [alloc_size, upd_size]; omega) | fail) only [go_sem, reduceIte, Nat.reduceEqDiff, g0, g1]
    refine (s_hunted (hcl.le hle1) hok hl hxl).mono ?_
    rintro r H2 ⟨res, P', d', hb, fl', p', w, ct, B', htry, rfl, hle2, hw, hof, hop, how, hno, hcut, hsat⟩
    obtain ⟨q1, q2⟩ := Heap.rwCells_blk hw
    have u2 : H2.get hb 2 = some p' := Rd.blk q1 q2 2 _ rfl
    have u4 : H2.get hb 4 = some w := Rd.blk q1 q2 4 _ rfl
    have u5 : H2.get hb 5 = some (.bool ct) := Rd.blk q1 q2 5 _ rfl
    have hH2 := hH1.trans hle2
    simp (maxSteps := 2000000) (disch := first | omega | assumption | exact idP rfl | exact idP (bL rfl) | (simp only [alloc_size, upd_size]; done) | (simp only [alloc_size, upd_size]; omega) | fail) only [go_sem, reduceIte, Nat.reduceEqDiff, u5]
    cases res with
    | cut =>
      obtain rfl := hcut rfl
      simp (maxSteps := 2000000) (disch := first | omega | assumption | exact idP rfl | exact idP (bL rfl) | (simp only [alloc_size, upd_size]; done) | (simp only [alloc_size, upd_size]; omega) | fail) only [go_sem, reduceIte, Nat.reduceEqDiff]
      exact hR _ _ ⟨.sl none 0 0 true 0, [], false, _, rfl, plo_nil hH2.1, hH2, trivial, by simp, .inr ⟨hok, n, .cut, P', d', rfl, htry, .inr ⟨by simp, rfl, rfl⟩⟩⟩
    | sat m =>
      obtain ⟨rfl, hwi, hB, bb, nn, rfl⟩ := hsat m rfl
      simp (maxSteps := 2000000) (disch := first | omega | assumption | exact idP rfl | exact idP (bL rfl) | (simp only [alloc_size, upd_size]; done) | (simp only [alloc_size, upd_size]; omega) | fail) only [go_sem, reduceIte, Nat.reduceEqDiff, u4]
      exact hR _ _ ⟨.sl none 0 0 true 0, [], false, _, rfl, plo_nil hH2.1, hH2, trivial, by simp, .inr ⟨hok, n, .sat m, P', d', rfl, htry, .inr ⟨by simp, rfl, rfl⟩⟩⟩
    | no =>
      obtain ⟨rfl, hpl, hfew, rfl⟩ := hno rfl
      obtain ⟨p0, ps, pc, po, pl, pe, pd⟩ := hpl.lower hH1.1
      simp (maxSteps := 2000000) (disch := first | omega | assumption | exact idP rfl | exact idP (bL rfl) | (simp only [alloc_size, upd_size]; done) | (simp only [alloc_size, upd_size]; omega) | fail) only [go_sem, reduceIte, Nat.reduceEqDiff, u4, u2]
      refine (s_implCloneS po ?_ (by omega)).mono ?_
      · rw [List.all_eq_true]
        intro u hu
        obtain ⟨i, hi, rfl⟩ := List.getElem_of_mem hu
        obtain ⟨u', e1, e2, _⟩ := pe i (by omega)
        rw [List.getElem?_eq_getElem hi] at e1
        cases e1
        obtain ⟨_, _, _, _, e, _⟩ := e2
        rw [e]; rfl
      rintro u H3 ⟨ho, hle3, hnew⟩
      simp (maxSteps := 2000000) (disch := first | omega | assumption | exact idP rfl | exact idP (bL rfl) | (simp only [alloc_size, upd_size]; done) | (simp only [alloc_size, upd_size]; omega) | fail) only [go_sem, reduceIte, Nat.reduceEqDiff]
      exact hR _ _ ⟨u, P', true, B', rfl, ⟨(p0.trans (base_le _ _)).trans hle3, ps, pc, ho, pl, pe, pd⟩, hH2.trans (hle3.trans (base_le _ _)), hnew.mono hH2.1, hfew, .inr ⟨hok, n, .no, P', d', rfl, htry, .inl ⟨rfl, rfl, rfl⟩⟩⟩
end Go.M2

namespace Go.M2
open Go.Proofs
variable {H : Heap}
theorem base_later {u : AV} {n : Nat} : base (H.later n) u = (base H u).later n := by
  unfold base
  split
  · unfold Heap.kill Heap.upd Heap.later
    simp only [Heap.mk.injEq, true_and]
    funext i
    split <;> split <;> simp_all
  · rfl
theorem PLO.later {lo : Nat} {B : Heap} {u : AV} {P : List (List Int)} (h : PLO lo B H u P) (hn : newer lo u) : PLO lo (B.later lo) (H.later lo) u P := by
  obtain ⟨h0, hs, pc, h1, h2, h3, h4⟩ := h
  refine ⟨by rw [base_later]; exact later_mono h0 (Nat.le_refl _), hs, pc, h1.later hn, h2, fun i hi => ?_, h4⟩
  obtain ⟨w, q1, q2, q3, q4⟩ := h3 i hi
  exact ⟨w, q1, q2.later q3, q3, q4⟩
theorem PLO.short {lo : Nat} {B : Heap} {u : AV} {P : List (List Int)} (h : PLO lo B H u P) : ∀ i (hi : i < P.length), P[i].length ≤ 700 := by
  obtain ⟨h0, hs, pc, h1, h2, h3, h4⟩ := h
  intro i hi
  obtain ⟨w, q1, q2, q3, q4⟩ := h3 i hi
  exact q4
end Go.M2

namespace Go.M2
open Go.Proofs
variable {H : Heap}
theorem s_numL {rb : Nat} {w : AV} {code : List Int} {q : Int} (hr : Rdr H rb w code q) (h1 : q ≤ 1099511627776) (ks : List Int) (hk : 0 < ks.length) {X : List AV} (hX : X = ks.map (AV.int .i64)) {m : Nat} (hm : m = ks.length) :
    ACall Try.prog n_spec_l40Rd_num [.ptr (some (rb, 0)), .sl (some (H.size, 0)) m m true 1] (H.alloc X) (fun r H' => H' = (H.alloc X).upd rb (.cells [w, .int .i64 (q + 1)] true) ∧ Rdr H' rb w code (q + 1) ∧ ∃ x ∈ ks, r = .int .i64 x) := by
  subst hX hm
  have hrb := (Heap.rwCells_blk hr.m).1
  have hra := hr.le (Le.alloc H (ks.map (AV.int .i64)))
  have hla : IsI ((H.alloc (ks.map (AV.int .i64))).kill rb) (.sl (some (H.size, 0)) ks.length ks.length true 1) ks :=
    (⟨⟨some (H.size, 0), ks.length, true, 1, rfl, by simp, fun h => (nomatch h), fun b o e => by cases e; exact ⟨rfl, rfl, Nat.lt_succ_self _, by rw [kill_ne (by omega)]; exact alloc_new _ _⟩⟩⟩ : Own 1 ((H.alloc (ks.map (AV.int .i64))).kill rb) (.sl (some (H.size, 0)) ks.length ks.length true 1) (ks.map (AV.int .i64))).isI
  refine (s_num hra h1 hla hk).mono ?_
  rintro r H' ⟨rfl, x, hx, rfl⟩
  exact ⟨rfl, hra.upd (by have := hr.lo; omega), x, hx, rfl⟩
theorem Own.updNe' {sz b : Nat} {H : Heap} {u : AV} {l : List AV} {x : Blk} (h : Own sz H u l) (ha : apart b u) : Own sz (H.upd b x) u l := by
  obtain ⟨A, n, ex, k, rfl, q1, q2, q3⟩ := h
  refine ⟨A, n, ex, k, rfl, q1, q2, fun b' o e => ?_⟩
  subst e
  obtain ⟨r1, r2, r3, r4⟩ := q3 b' o rfl
  have hne : b' ≠ b := ha
  exact ⟨r1, r2, r3, by rw [upd_blk_ne hne]; exact r4⟩
theorem PLO.old {lo b : Nat} {B : Heap} {v : AV} {P : List (List Int)} {x : Blk} (h : PLO lo B H v P) (ha : apart b v) (hb : b < lo) : PLO lo (B.kill b) (H.upd b x) v P := by
  obtain ⟨h0, hs, pc, h1, h2, h3, h4⟩ := h
  refine ⟨by rw [base_upd ha]; exact ((Le.kill _ _).trans h0).updDead (kill_dead _ _) x, hs, pc, h1.updNe' ha, h2, fun i hi => ?_, h4⟩
  obtain ⟨u, q1, q2, q3, q4⟩ := h3 i hi
  exact ⟨u, q1, q2.updNe' (apart_newer q3 hb), q3, q4⟩
def DrawnCl (H : Heap) (rb : Nat) (w : AV) (p : Int) (r : AV) (H' : Heap) : Prop := ∃ (n : Int) (v : AV) (P : List (List Int)) (p' : Int) (B : Heap), r = .agg [.int .i64 n, v] ∧ PLO H.size B H' v P ∧ P.length ≤ 700 ∧ Le (H.kill rb) B ∧ B.blk rb = .dead ∧ (base H' v).rwCells rb = some [w, .int .i64 p'] ∧ 0 ≤ p' ∧ p' ≤ p + 20000
set_option maxHeartbeats 8000000 in
theorem s_l12Some {rb : Nat} {w : AV} {code : List Int} {p : Int} (hr : Rdr H rb w code p) (h1 : p ≤ 100000)
    (hsome : ∀ {H1 : Heap} {q : Int}, Rdr H1 rb w code q → q ≤ 200000 → ACall Try.prog n_spec_l11Some [.ptr (some (rb, 0))] H1 (DrawnCl H1 rb w q)) :
    ACall Try.prog n_spec_l12Some [.ptr (some (rb, 0))] H (fun r H' => ∃ (n : Int) (v : AV) (P : List (List Int)) (B : Heap), r = .agg [.int .i64 n, v] ∧ PLO H.size B H' v P ∧ P.length ≤ 701 ∧ Le (H.kill rb) (base H' v)) := by
  refine ACall.of fun R hR => a_spec_l12Some rfl ?_
  have hrb := (Heap.rwCells_blk hr.m).1
  simp (maxSteps := 2000000) (disch := first | omega | assumption | exact idP rfl | exact idP (bL rfl) | (simp only [alloc_size, upd_size]; done) | (simp only [alloc_size, upd_size]; omega) | fail) only [go_sem, reduceIte, Nat.reduceEqDiff]
  have hr0 := hr.le (Le.alloc H [.int .i64 0, .sl none 0 0 true 0])
  refine (s_pick hr0.hw hr0.l hr0.m hr0.lo (by omega)).mono ?_
  rintro r H1 ⟨rfl, j, rfl, j0, _, _⟩
  have hr1 := hr0.upd (q := p + 1) (by have := hr.lo; omega)
  simp (maxSteps := 2000000) (disch := first | omega | assumption | exact idP rfl | exact idP (bL rfl) | (simp only [alloc_size, upd_size]; done) | (simp only [alloc_size, upd_size]; omega) | fail) only [go_sem, reduceIte, Nat.reduceEqDiff]
  refine condV_dec (fun hz => ?_) (fun hz => ?_)
  · simp (maxSteps := 2000000) (disch := first | omega | assumption | exact idP rfl | exact idP (bL rfl) | (simp only [alloc_size, upd_size]; done) | (simp only [alloc_size, upd_size]; omega) | fail) only [go_sem, reduceIte, Nat.reduceEqDiff]
    refine (hsome hr1 (by omega)).mono ?_
    rintro r H2 ⟨n, v, P, p', B, rfl, hpl, hP, hLB, hdr, hwr, hp0, hp1⟩
    have x6 : (base H2 v).rwCells H.size = some [.int .i64 0, .sl none 0 0 true 0] := (hLB.trans hpl.1).rwCells (rwCells_of (Nat.lt_succ_self _) (by rw [kill_ne (by omega), upd_blk_ne (by omega), alloc_new]))
    have a6 := apart_of x6
    have x6' := (base_le _ _).rwCells x6
    have z6 := (Heap.rwCells_blk x6').1
    have hvo := hpl.one.1
    simp (maxSteps := 2000000) (disch := first | omega | assumption | exact idP rfl | exact idP (bL rfl) | (simp only [alloc_size, upd_size]; done) | (simp only [alloc_size, upd_size]; omega) | fail) only [go_sem, reduceIte, Nat.reduceEqDiff, x6', hpl.one.2]
    have hp2 := hpl.old (x := .cells [.int .i64 n, v] true) a6 (by simp only [upd_size, alloc_size]; omega)
    refine hR _ _ ⟨n, v, P, _, rfl, hp2.lower (by simp only [upd_size, alloc_size]; omega), by omega, ?_⟩
    · have q1 : Le (H.kill rb) (((H.alloc [.int .i64 0, .sl none 0 0 true 0]).upd rb (.cells [w, .int .i64 (p + 1)] true)).kill rb) := by rw [upd_kill]; exact (Le.alloc _ _).kills rb
      rw [base_upd a6]
      exact ((q1.trans hLB).trans hpl.1).updFresh (Nat.le_refl _)
  · simp (maxSteps := 2000000) (disch := first | omega | assumption | exact idP rfl | exact idP (bL rfl) | (simp only [alloc_size, upd_size]; done) | (simp only [alloc_size, upd_size]; omega) | fail) only [go_sem, reduceIte, Nat.reduceEqDiff]
    refine (s_numL hr1 (by omega) [3, 4, 5, 6, 2] (by simp) rfl rfl).mono ?_
    rintro r H3 ⟨hH3, hr3, x, hx, rfl⟩
    have hx6 : 0 ≤ x ∧ x ≤ 6 := by simp at hx; omega
    obtain ⟨nx, rfl⟩ : ∃ nx : Nat, x = nx := ⟨x.toNat, by omega⟩
    simp (maxSteps := 2000000) (disch := first | omega | assumption | exact idP rfl | exact idP (bL rfl) | (simp only [alloc_size, upd_size]; done) | (simp only [alloc_size, upd_size]; omega) | fail) only [go_sem, reduceIte, Nat.reduceEqDiff]
    refine (s_numL hr3 (by omega) [8, 12, 16, 20, 4] (by simp) rfl rfl).mono ?_
    rintro r H4 ⟨hH4, hr4, y, hy, rfl⟩
    have hy6 : 0 ≤ y ∧ y ≤ 20 := by simp at hy; omega
    obtain ⟨ny, rfl⟩ : ∃ ny : Nat, y = ny := ⟨y.toNat, by omega⟩
    have hs4 : H.size < H4.size := by rw [hH4, hH3]; simp only [upd_size, alloc_size]; omega
    have x4 : H4.rwCells H.size = some [.int .i64 0, .sl none 0 0 true 0] := by
      rw [hH4, hH3]
      simp (maxSteps := 2000000) (disch := first | omega | assumption | exact idP rfl | exact idP (bL rfl) | (simp only [alloc_size, upd_size]; done) | (simp only [alloc_size, upd_size]; omega) | fail) only [go_sem, reduceIte, Nat.reduceEqDiff]
    simp (maxSteps := 2000000) (disch := first | omega | assumption | exact idP rfl | exact idP (bL rfl) | (simp only [alloc_size, upd_size]; done) | (simp only [alloc_size, upd_size]; omega) | fail) only [go_sem, reduceIte, Nat.reduceEqDiff]
    refine (s_l11Draw (n := nx) (k := ny) hr4 (by omega) (by omega) (by omega)).mono ?_
    rintro r H5 ⟨v, P, p', B, rfl, hpl, hP, hLB, hdr, hwr, hp0, hp1⟩
    have x4k : (H4.kill rb).rwCells H.size = some [.int .i64 0, .sl none 0 0 true 0] := by
      obtain ⟨z1, z2⟩ := Heap.rwCells_blk x4
      exact rwCells_of z1 (by rw [kill_ne (by omega)]; exact z2)
    have x5 : (base H5 v).rwCells H.size = some [.int .i64 0, .sl none 0 0 true 0] := (hLB.trans hpl.1).rwCells x4k
    have ar := apart_of hwr
    have a5 := apart_of x5
    have hvo := hpl.one.1
    have z5 := (Heap.rwCells_blk ((base_le _ _).rwCells x5)).1
    simp (maxSteps := 2000000) (disch := first | omega | assumption | exact idP rfl | exact idP (bL rfl) | (simp only [alloc_size, upd_size]; done) | (simp only [alloc_size, upd_size]; omega) | fail) only [go_sem, reduceIte, Nat.reduceEqDiff, hpl.one.2]
    obtain ⟨pc5, own5, _⟩ := hpl.own
    have hsz5 : H4.size ≤ H5.size := by
      have z1 := (hLB.trans (hpl.1.trans (base_le _ _))).1
      exact z1
    have hrb5 : rb < H5.size := by omega
    have hL56 : Le H5 ((H5.alloc [.int .i64 0, .sl none 0 0 true 0]).upd H5.size (.cells [.int .i64 (nx : Int), v] true)) := ((Le.refl _).allocs).updFresh (Nat.le_refl _)
    have t6 : ((H5.alloc [.int .i64 0, .sl none 0 0 true 0]).upd H5.size (.cells [.int .i64 (nx : Int), v] true)).rwCells H5.size = some [.int .i64 (nx : Int), v] := by simp (maxSteps := 2000000) (disch := first | omega | assumption | exact idP rfl | exact idP (bL rfl) | (simp only [alloc_size, upd_size]; done) | (simp only [alloc_size, upd_size]; omega) | fail) only [go_sem, reduceIte, Nat.reduceEqDiff]
    generalize hG : ((H5.alloc [AV.int .i64 0, .sl none 0 0 true 0]).upd H5.size (.cells [.int .i64 (nx : Int), v] true)) = H6 at *
    have hs6 : H6.size = H5.size + 1 := by rw [← hG]; rfl
    have hr6 : Rdr H6 rb w code p' := ⟨hr4.hw.le mono_B (hLB.trans ((hpl.1.trans ((base_le _ _).trans hL56)).updDead hdr .dead)), hr.l, hL56.rwCells ((base_le _ _).rwCells hwr), hp0⟩
    refine (s_pick hr6.hw hr6.l hr6.m hr6.lo (by omega)).mono ?_
    rintro r H7 ⟨hH7, j2, rfl, _⟩
    have hp7 : PLO H4.size B H7 v P := by rw [hH7]; exact (hpl.le hL56).upd ar hdr
    have hs7 : H7.size = H5.size + 1 := by rw [hH7]; exact hs6
    have t7 : H7.rwCells H5.size = some [.int .i64 (nx : Int), v] := by rw [hH7, rw_upd_ne (by omega)]; exact t6
    have x7 : H7.rwCells H.size = some [.int .i64 0, .sl none 0 0 true 0] := by rw [hH7, rw_upd_ne (by omega)]; exact hL56.rwCells ((base_le _ _).rwCells x5)
    have at5 : apart H5.size v := apart_fresh own5 (Nat.le_refl _)
    have tl : H7.get H5.size 0 = some (.int .i64 (nx : Int)) ∧ H7.get H5.size 1 = some v := by
      obtain ⟨z1, z2⟩ := Heap.rwCells_blk t7
      exact ⟨Rd.blk z1 z2 0 _ rfl, Rd.blk z1 z2 1 _ rfl⟩
    have z7 := (Heap.rwCells_blk x7).1
    have hL4 : Le (H.kill rb) (H4.kill rb) := by
      rw [hH4, upd_kill]
      refine Le.trans ?_ ((Le.alloc _ _).kills rb)
      rw [hH3, upd_kill]
      refine Le.trans ?_ ((Le.alloc _ _).kills rb)
      rw [upd_kill]
      exact (Le.alloc _ _).kills rb
    have hend : ∀ (v2 : AV) (H8 : Heap), Le B (base H8 v2) → Le (H.kill rb) (base H8 v2) := fun v2 H8 z => (hL4.trans hLB).trans z
    simp (maxSteps := 2000000) (disch := first | omega | assumption | exact idP rfl | exact idP (bL rfl) | (simp only [alloc_size, upd_size]; done) | (simp only [alloc_size, upd_size]; omega) | fail) only [go_sem, reduceIte, Nat.reduceEqDiff]
    refine condV_dec (fun hz2 => ?_) (fun hz2 => ?_)
    · simp (maxSteps := 2000000) (disch := first | omega | assumption | exact idP rfl | exact idP (bL rfl) | (simp only [alloc_size, upd_size]; done) | (simp only [alloc_size, upd_size]; omega) | fail) only [go_sem, reduceIte, Nat.reduceEqDiff, tl.2]
      refine plo_lit hp7 [] (by simp) (by omega) ?_
      intro p2 H8 hp8 hle8
      have t8 := hle8.rwCells (base_rw at5 t7)
      have x8 := hle8.rwCells (base_rw a5 x7)
      have b5 := apart_of t8
      have b6 := apart_of x8
      have hpo8 := hp8.one.1
      have t8' := (base_le _ _).rwCells t8
      have x8' := (base_le _ _).rwCells x8
      have zt8 := (Heap.rwCells_blk t8').1
      have zx8 := (Heap.rwCells_blk x8').1
      have hBs : B.size ≤ H5.size := by have := hpl.1.1; rw [base_size] at this; exact this
      have hdd : ((B.pad H7.size).over (H7.alloc (([] : List Int).map (AV.int .i64)))).blk H5.size = .dead := (over_nd (by rw [pad_size]; exact Nat.le_succ _)).2 _ (by rw [pad_size]; omega) (pad_dead hBs)
      have hp9 := hp8.upd (x := .cells [.int .i64 (nx : Int), p2] true) b5 hdd
      simp (maxSteps := 2000000) (disch := first | omega | assumption | exact idP rfl | exact idP (bL rfl) | (simp only [alloc_size, upd_size]; done) | (simp only [alloc_size, upd_size]; omega) | fail) only [go_sem, reduceIte, Nat.reduceEqDiff, t8', hp8.one.2, x8']
      have hp10 := hp9.old (x := .cells [.int .i64 (nx : Int), p2] true) b6 hs4
      refine hR _ _ ⟨nx, p2, P ++ [[]], _, rfl, hp10.lower (by omega), by simp; omega, ?_⟩
      · rw [base_upd b6, base_upd b5]
        exact ((hend p2 H8 (hp7.1.trans hle8)).updFresh (b := H5.size) (by show H.size ≤ _; omega)).updFresh (Nat.le_refl _)
    · simp (maxSteps := 2000000) (disch := first | omega | assumption | exact idP rfl | exact idP (bL rfl) | (simp only [alloc_size, upd_size]; done) | (simp only [alloc_size, upd_size]; omega) | fail) only [go_sem, reduceIte, Nat.reduceEqDiff, tl.1, tl.2, x7, hpl.one.2]
      have hp10 := hp7.old (x := .cells [.int .i64 (nx : Int), v] true) a5 hs4
      refine hR _ _ ⟨nx, v, P, _, rfl, hp10.lower (by omega), by omega, ?_⟩
      · rw [base_upd a5]
        exact (hend v H7 hp7.1).updFresh (Nat.le_refl _)
end Go.M2

namespace Go.M2
open Go.Proofs
variable {H : Heap}
set_option maxHeartbeats 8000000 in
theorem s_l11Some {rb : Nat} {w : AV} {code : List Int} {p : Int} (hr : Rdr H rb w code p) (h1 : p ≤ 200000) :
    ACall Try.prog n_spec_l11Some [.ptr (some (rb, 0))] H (DrawnCl H rb w p) := by
  refine ACall.of fun R hR => a_spec_l11Some rfl ?_
  have hrb := (Heap.rwCells_blk hr.m).1
  simp (maxSteps := 2000000) (disch := first | omega | assumption | exact idP rfl | exact idP (bL rfl) | (simp only [alloc_size, upd_size]; done) | (simp only [alloc_size, upd_size]; omega) | fail) only [go_sem, reduceIte, Nat.reduceEqDiff]
  have hr0 := hr.le (Le.alloc H [.int .i64 0, .sl none 0 0 true 0])
  refine (s_numL hr0 (by omega) [2, 3, 4, 5, 6, 1, 0] (by simp) rfl rfl).mono ?_
  rintro r H3 ⟨hH3, hr3, x, hx, rfl⟩
  have hx6 : 0 ≤ x ∧ x ≤ 6 := by simp at hx; omega
  obtain ⟨nx, rfl⟩ : ∃ nx : Nat, x = nx := ⟨x.toNat, by omega⟩
  simp (maxSteps := 2000000) (disch := first | omega | assumption | exact idP rfl | exact idP (bL rfl) | (simp only [alloc_size, upd_size]; done) | (simp only [alloc_size, upd_size]; omega) | fail) only [go_sem, reduceIte, Nat.reduceEqDiff]
  refine (s_numL hr3 (by omega) [3, 6, 9, 12, 2, 15, 0] (by simp) rfl rfl).mono ?_
  rintro r H4 ⟨hH4, hr4, y, hy, rfl⟩
  have hy6 : 0 ≤ y ∧ y ≤ 20 := by simp at hy; omega
  obtain ⟨ny, rfl⟩ : ∃ ny : Nat, y = ny := ⟨y.toNat, by omega⟩
  have hs4 : H.size < H4.size := by rw [hH4, hH3]; simp only [upd_size, alloc_size]; omega
  have x4 : H4.rwCells H.size = some [.int .i64 0, .sl none 0 0 true 0] := by
    rw [hH4, hH3]
    simp (maxSteps := 2000000) (disch := first | omega | assumption | exact idP rfl | exact idP (bL rfl) | (simp only [alloc_size, upd_size]; done) | (simp only [alloc_size, upd_size]; omega) | fail) only [go_sem, reduceIte, Nat.reduceEqDiff]
  have hL4 : Le (H.kill rb) (H4.kill rb) := by
    rw [hH4, upd_kill]
    refine Le.trans ?_ ((Le.alloc _ _).kills rb)
    rw [hH3, upd_kill]
    exact ((Le.alloc _ _).trans (Le.alloc _ _)).kills rb
  simp (maxSteps := 2000000) (disch := first | omega | assumption | exact idP rfl | exact idP (bL rfl) | (simp only [alloc_size, upd_size]; done) | (simp only [alloc_size, upd_size]; omega) | fail) only [go_sem, reduceIte, Nat.reduceEqDiff]
  refine (s_l11Draw (n := nx) (k := ny) hr4 (by omega) (by omega) (by omega)).mono ?_
  rintro r H5 ⟨v, P, p', B, rfl, hpl, hP, hLB, hdr, hwr, hp0, hp1⟩
  have x4k : (H4.kill rb).rwCells H.size = some [.int .i64 0, .sl none 0 0 true 0] := by
    obtain ⟨z1, z2⟩ := Heap.rwCells_blk x4
    exact rwCells_of z1 (by rw [kill_ne (by omega)]; exact z2)
  have x5 : (base H5 v).rwCells H.size = some [.int .i64 0, .sl none 0 0 true 0] := (hLB.trans hpl.1).rwCells x4k
  have ar := apart_of hwr
  have a5 := apart_of x5
  have hvo := hpl.one.1
  have z5 := (Heap.rwCells_blk ((base_le _ _).rwCells x5)).1
  simp (maxSteps := 2000000) (disch := first | omega | assumption | exact idP rfl | exact idP (bL rfl) | (simp only [alloc_size, upd_size]; done) | (simp only [alloc_size, upd_size]; omega) | fail) only [go_sem, reduceIte, Nat.reduceEqDiff, hpl.one.2]
  obtain ⟨pc5, own5, _⟩ := hpl.own
  have hsz5 : H4.size ≤ H5.size := (hLB.trans (hpl.1.trans (base_le _ _))).1
  have hrb5 : rb < H5.size := by omega
  have hL56 : Le H5 ((H5.alloc [.int .i64 0, .sl none 0 0 true 0]).upd H5.size (.cells [.int .i64 (nx : Int), v] true)) := ((Le.refl _).allocs).updFresh (Nat.le_refl _)
  have t6 : ((H5.alloc [.int .i64 0, .sl none 0 0 true 0]).upd H5.size (.cells [.int .i64 (nx : Int), v] true)).rwCells H5.size = some [.int .i64 (nx : Int), v] := by simp (maxSteps := 2000000) (disch := first | omega | assumption | exact idP rfl | exact idP (bL rfl) | (simp only [alloc_size, upd_size]; done) | (simp only [alloc_size, upd_size]; omega) | fail) only [go_sem, reduceIte, Nat.reduceEqDiff]
  generalize hG : ((H5.alloc [AV.int .i64 0, .sl none 0 0 true 0]).upd H5.size (.cells [.int .i64 (nx : Int), v] true)) = H6 at *
  have hs6 : H6.size = H5.size + 1 := by rw [← hG]; rfl
  have hr6 : Rdr H6 rb w code p' := ⟨hr4.hw.le mono_B (hLB.trans ((hpl.1.trans ((base_le _ _).trans hL56)).updDead hdr .dead)), hr.l, hL56.rwCells ((base_le _ _).rwCells hwr), hp0⟩
  refine (s_pick hr6.hw hr6.l hr6.m hr6.lo (by omega)).mono ?_
  rintro r H7 ⟨hH7, j2, rfl, _⟩
  have hr7 : Rdr H7 rb w code (p' + 1) := by rw [hH7]; exact hr6.upd (by omega)
  have hp7 : PLO H4.size B H7 v P := by rw [hH7]; exact (hpl.le hL56).upd ar hdr
  have hs7 : H7.size = H5.size + 1 := by rw [hH7]; exact hs6
  have t7 : H7.rwCells H5.size = some [.int .i64 (nx : Int), v] := by rw [hH7, rw_upd_ne (by omega)]; exact t6
  have x7 : H7.rwCells H.size = some [.int .i64 0, .sl none 0 0 true 0] := by rw [hH7, rw_upd_ne (by omega)]; exact hL56.rwCells ((base_le _ _).rwCells x5)
  have at5 : apart H5.size v := apart_fresh own5 (Nat.le_refl _)
  have hBs : B.size ≤ H5.size := by have := hpl.1.1; rw [base_size] at this; exact this
  -- how it ends: the box is copied into the result's
  have fin : ∀ (m : Int) (v2 : AV) (P2 : List (List Int)) (q2 : Int) (B2 H8 : Heap), PLO H4.size B2 H8 v2 P2 → P2.length ≤ 21 → Le (H4.kill rb) B2 → B2.blk rb = .dead → (base H8 v2).rwCells rb = some [w, .int .i64 q2] → 0 ≤ q2 → q2 ≤ p + 1000 → (base H8 v2).rwCells H.size = some [.int .i64 0, .sl none 0 0 true 0] →
      R (.agg [.int .i64 m, v2]) (H8.upd H.size (.cells [.int .i64 m, v2] true)) := fun m v2 P2 q2 B2 H8 z1 z2 z3 z4 z5 z6 z7 z8 => by
    have b6 := apart_of z8
    refine hR _ _ ⟨m, v2, P2, q2, B2.kill H.size, rfl, (z1.old b6 hs4).lower (by omega), by omega, ?_, ?_, ?_, z6, by omega⟩
    · exact (hL4.trans z3).killFresh (Nat.le_refl _)
    · rw [kill_ne (by omega)]; exact z4
    · rw [base_upd b6, rw_upd_ne (by omega)]; exact z5
  simp (maxSteps := 2000000) (disch := first | omega | assumption | exact idP rfl | exact idP (bL rfl) | (simp only [alloc_size, upd_size]; done) | (simp only [alloc_size, upd_size]; omega) | fail) only [go_sem, reduceIte, Nat.reduceEqDiff]
  refine condV_dec (fun hz2 => ?_) (fun hz2 => ?_)
  · have hk7 : ∀ (G : Heap) (q : Int), G = H7.upd rb (.cells [w, .int .i64 q] true) → 0 ≤ q → Rdr G rb w code q ∧ PLO H4.size B G v P ∧ G.size = H5.size + 1 ∧ G.rwCells H5.size = some [.int .i64 (nx : Int), v] ∧ G.rwCells H.size = some [.int .i64 0, .sl none 0 0 true 0] := fun G q e hq => by
      subst e
      exact ⟨hr7.upd hq, hp7.upd ar hdr, hs7, by rw [rw_upd_ne (by omega)]; exact t7, by rw [rw_upd_ne (by omega)]; exact x7⟩
    have hrbB : rb < B.size := by
      have := hLB.1
      have e : (H4.kill rb).size = H4.size := rfl
      omega
    -- a clause is appended
    have lit : ∀ (G : Heap) (q : Int) (cl : List Int) (p2 : AV) (H9 : Heap), Rdr G rb w code q → PLO H4.size B G v P → H5.size < G.size → G.rwCells H5.size = some [.int .i64 (nx : Int), v] → G.rwCells H.size = some [.int .i64 0, .sl none 0 0 true 0] → q ≤ p + 1000 →
        PLO H4.size ((B.pad G.size).over (G.alloc (cl.map (AV.int .i64)))) H9 p2 (P ++ [cl]) → Le (base G v) (base H9 p2) →
        H9.rwCells H5.size = some [.int .i64 (nx : Int), v] ∧ H9.rwCells H.size = some [.int .i64 0, .sl none 0 0 true 0] ∧ oneA p2 = true ∧ cellsOf p2 = some [p2] ∧ H5.size < H9.size ∧ H.size < H9.size ∧
        R (.agg [.int .i64 (nx : Int), p2]) ((H9.upd H5.size (.cells [.int .i64 (nx : Int), p2] true)).upd H.size (.cells [.int .i64 (nx : Int), p2] true)) := by
      intro G q cl p2 H9 z1 z2 z3 z4 z5 z6 z7 z8
      have t9 := z8.rwCells (base_rw at5 z4)
      have x9 := z8.rwCells (base_rw a5 z5)
      have r9 := z8.rwCells (base_rw ar z1.m)
      have b5 := apart_of t9
      have b6 := apart_of x9
      have br := apart_of r9
      have hBG : B.size ≤ G.size := by omega
      have nd := (pad_nd hBG).trans (over_nd (H := G.alloc (cl.map (AV.int .i64))) (by rw [pad_size]; exact Nat.le_succ _))
      have hdd : ((B.pad G.size).over (G.alloc (cl.map (AV.int .i64)))).blk H5.size = .dead := (over_nd (by rw [pad_size]; exact Nat.le_succ _)).2 _ (by rw [pad_size]; omega) (pad_dead hBs)
      have hp9 := z7.upd (x := .cells [.int .i64 (nx : Int), p2] true) b5 hdd
      have hne : rb ≠ H5.size := by omega
      refine ⟨(base_le _ _).rwCells t9, (base_le _ _).rwCells x9, z7.one.1, z7.one.2, (Heap.rwCells_blk ((base_le _ _).rwCells t9)).1, (Heap.rwCells_blk ((base_le _ _).rwCells x9)).1, ?_⟩
      refine fin nx p2 _ q _ _ hp9 (by simp; omega) (hLB.trans nd.1) (nd.2 rb hrbB hdr) ?_ z1.lo z6 ?_
      · rw [base_upd b5, rw_upd_ne hne]; exact r9
      · rw [base_upd b5, rw_upd_ne (by omega)]; exact x9
    simp (maxSteps := 2000000) (disch := first | omega | assumption | exact idP rfl | exact idP (bL rfl) | (simp only [alloc_size, upd_size]; done) | (simp only [alloc_size, upd_size]; omega) | fail) only [go_sem, reduceIte, Nat.reduceEqDiff]
    refine (s_pick hr7.hw hr7.l hr7.m hr7.lo (by omega)).mono ?_
    rintro r H8 ⟨hH8, k, rfl, k0, k1, _⟩
    have hk := k1 (by omega)
    obtain ⟨hr8, hp8, hs8, t8, x8⟩ := hk7 H8 _ hH8 (by omega)
    have tl8 : H8.get H5.size 0 = some (.int .i64 (nx : Int)) ∧ H8.get H5.size 1 = some v := by
      obtain ⟨z1, z2⟩ := Heap.rwCells_blk t8
      exact ⟨Rd.blk z1 z2 0 _ rfl, Rd.blk z1 z2 1 _ rfl⟩
    simp (maxSteps := 2000000) (disch := first | omega | assumption | exact idP rfl | exact idP (bL rfl) | (simp only [alloc_size, upd_size]; done) | (simp only [alloc_size, upd_size]; omega) | fail) only [go_sem, reduceIte, Nat.reduceEqDiff]
    refine condV_dec (fun c0 => ?_) (fun c0 => ?_)
    · simp (maxSteps := 2000000) (disch := first | omega | assumption | exact idP rfl | exact idP (bL rfl) | (simp only [alloc_size, upd_size]; done) | (simp only [alloc_size, upd_size]; omega) | fail) only [go_sem, reduceIte, Nat.reduceEqDiff]
      refine (s_numL hr8 (by omega) [-1, 701, 0] (by simp) rfl rfl).mono ?_
      rintro r H9 ⟨hH9, hr9, x, hx, rfl⟩
      have hp9 : PLO H4.size B H9 v P := by rw [hH9]; exact (hp8.le (Le.alloc _ _)).upd ar hdr
      have t9 : H9.rwCells H5.size = some [.int .i64 (nx : Int), v] := by rw [hH9, rw_upd_ne (by omega)]; exact (Le.alloc _ _).rwCells t8
      have x9 : H9.rwCells H.size = some [.int .i64 0, .sl none 0 0 true 0] := by rw [hH9, rw_upd_ne (by omega)]; exact (Le.alloc _ _).rwCells x8
      have z9 := (Heap.rwCells_blk t9).1
      have y9 := (Heap.rwCells_blk x9).1
      have hs9 : H9.size = H5.size + 1 + 1 := by rw [hH9]; simp only [upd_size, alloc_size]; omega
      have hpP := hp9.at (pad_nd (n := H9.size) (by omega)).1 (pad_le hp9.1 (by rw [base_size]; exact Nat.le_refl _))
      have hpQ := hpP.upd (x := .cells [.int .i64 x, v] true) at5 (pad_dead hBs)
      simp (maxSteps := 2000000) (disch := first | omega | assumption | exact idP rfl | exact idP (bL rfl) | (simp only [alloc_size, upd_size]; done) | (simp only [alloc_size, upd_size]; omega) | fail) only [go_sem, reduceIte, Nat.reduceEqDiff, t9, x9, hpl.one.2]
      refine fin x v P (p' + 1 + 1 + 1) _ _ hpQ (by omega) (hLB.trans (pad_nd (by omega)).1) ((pad_nd (by omega)).2 rb hrbB hdr) ?_ (by omega) (by omega) ?_
      · rw [base_upd at5, rw_upd_ne (by omega)]; exact base_rw ar hr9.m
      · rw [base_upd at5, rw_upd_ne (by omega)]; exact base_rw a5 x9
    · simp (maxSteps := 2000000) (disch := first | omega | assumption | exact idP rfl | exact idP (bL rfl) | (simp only [alloc_size, upd_size]; done) | (simp only [alloc_size, upd_size]; omega) | fail) only [go_sem, reduceIte, Nat.reduceEqDiff]
      refine condV_dec (fun c1 => ?_) (fun c1 => ?_)
      · simp (maxSteps := 2000000) (disch := first | omega | assumption | exact idP rfl | exact idP (bL rfl) | (simp only [alloc_size, upd_size]; done) | (simp only [alloc_size, upd_size]; omega) | fail) only [go_sem, reduceIte, Nat.reduceEqDiff, tl8.2]
        refine plo_lit hp8 [2, 1] (by simp) (by omega) ?_
        intro p2 H9 z1 z2
        obtain ⟨t9, x9, o9, c9, l5, l6, hfin⟩ := lit H8 _ [2, 1] p2 H9 hr8 hp8 (by omega) t8 x8 (by omega) z1 z2
        simp (maxSteps := 2000000) (disch := first | omega | assumption | exact idP rfl | exact idP (bL rfl) | (simp only [alloc_size, upd_size]; done) | (simp only [alloc_size, upd_size]; omega) | fail) only [go_sem, reduceIte, Nat.reduceEqDiff, t9, c9, x9]
        exact hfin
      · simp (maxSteps := 2000000) (disch := first | omega | assumption | exact idP rfl | exact idP (bL rfl) | (simp only [alloc_size, upd_size]; done) | (simp only [alloc_size, upd_size]; omega) | fail) only [go_sem, reduceIte, Nat.reduceEqDiff]
        refine condV_dec (fun c2 => ?_) (fun c2 => ?_)
        · simp (maxSteps := 2000000) (disch := first | omega | assumption | exact idP rfl | exact idP (bL rfl) | (simp only [alloc_size, upd_size]; done) | (simp only [alloc_size, upd_size]; omega) | fail) only [go_sem, reduceIte, Nat.reduceEqDiff, tl8.2]
          refine (s_numL hr8 (by omega) [0, (nx : Int) + 1, 0 - (nx : Int) - 1] (by simp) rfl rfl).mono ?_
          rintro r H9 ⟨hH9, hr9, x, hx, rfl⟩
          have hp9 : PLO H4.size B H9 v P := by rw [hH9]; exact (hp8.le (Le.alloc _ _)).upd ar hdr
          have t9 : H9.rwCells H5.size = some [.int .i64 (nx : Int), v] := by rw [hH9, rw_upd_ne (by omega)]; exact (Le.alloc _ _).rwCells t8
          have x9 : H9.rwCells H.size = some [.int .i64 0, .sl none 0 0 true 0] := by rw [hH9, rw_upd_ne (by omega)]; exact (Le.alloc _ _).rwCells x8
          have hs9 : H9.size = H5.size + 1 + 1 := by rw [hH9]; simp only [upd_size, alloc_size]; omega
          have tl9 : H9.get H5.size 0 = some (.int .i64 (nx : Int)) ∧ H9.get H5.size 1 = some v := by
            obtain ⟨z1, z2⟩ := Heap.rwCells_blk t9
            exact ⟨Rd.blk z1 z2 0 _ rfl, Rd.blk z1 z2 1 _ rfl⟩
          simp (maxSteps := 2000000) (disch := first | omega | assumption | exact idP rfl | exact idP (bL rfl) | (simp only [alloc_size, upd_size]; done) | (simp only [alloc_size, upd_size]; omega) | fail) only [go_sem, reduceIte, Nat.reduceEqDiff, tl9.2]
          refine plo_lit hp9 [x] (by simp) (by omega) ?_
          intro p2 H10 z1 z2
          obtain ⟨t10, x10, o10, c10, l5, l6, hfin⟩ := lit H9 _ [x] p2 H10 hr9 hp9 (by omega) t9 x9 (by omega) z1 z2
          simp (maxSteps := 2000000) (disch := first | omega | assumption | exact idP rfl | exact idP (bL rfl) | (simp only [alloc_size, upd_size]; done) | (simp only [alloc_size, upd_size]; omega) | fail) only [go_sem, reduceIte, Nat.reduceEqDiff, t10, c10, x10]
          exact hfin
        · simp (maxSteps := 2000000) (disch := first | omega | assumption | exact idP rfl | exact idP (bL rfl) | (simp only [alloc_size, upd_size]; done) | (simp only [alloc_size, upd_size]; omega) | fail) only [go_sem, reduceIte, Nat.reduceEqDiff, tl8.2]
          refine plo_lit hp8 [1, -1] (by simp) (by omega) ?_
          intro p2 H9 z1 z2
          obtain ⟨t9, x9, o9, c9, l5, l6, hfin⟩ := lit H8 _ [1, -1] p2 H9 hr8 hp8 (by omega) t8 x8 (by omega) z1 z2
          simp (maxSteps := 2000000) (disch := first | omega | assumption | exact idP rfl | exact idP (bL rfl) | (simp only [alloc_size, upd_size]; done) | (simp only [alloc_size, upd_size]; omega) | fail) only [go_sem, reduceIte, Nat.reduceEqDiff, t9, c9, x9]
          exact hfin
  · have tl : H7.get H5.size 0 = some (.int .i64 (nx : Int)) ∧ H7.get H5.size 1 = some v := by
      obtain ⟨z1, z2⟩ := Heap.rwCells_blk t7
      exact ⟨Rd.blk z1 z2 0 _ rfl, Rd.blk z1 z2 1 _ rfl⟩
    have z7 := (Heap.rwCells_blk x7).1
    simp (maxSteps := 2000000) (disch := first | omega | assumption | exact idP rfl | exact idP (bL rfl) | (simp only [alloc_size, upd_size]; done) | (simp only [alloc_size, upd_size]; omega) | fail) only [go_sem, reduceIte, Nat.reduceEqDiff, tl.1, tl.2, x7, hpl.one.2]
    exact fin nx v P (p' + 1) B H7 hp7 (by omega) hLB hdr (base_rw ar hr7.m) (by omega) (by omega) (base_rw a5 x7)
end Go.M2
