/- Contract: the search, the reference's side. -/
import Derived.Test.YthpjcfjemogbeaaRf5
import Derived.Shelf.SlSortCmp.NoneTotal
set_option linter.unusedVariables false
set_option linter.unusedSimpArgs false
set_option maxRecDepth 10000
set_option maxHeartbeats 4000000
namespace Go.M2
open Go.Proofs
variable {H : Heap}
theorem s_l3Copy {v : AV} {xs : List Int} (hv : IsI H v xs) (hl : xs.length ≤ 1048576) :
    ACall Try.prog n_spec_l3Copy [v] H (fun r H' => Own 1 H' r (xs.map (AV.int .i64)) ∧ Le H (base H' r) ∧ newer H.size r) := by
  refine ACall.of fun R hR => a_spec_l3Copy rfl ?_
  obtain ⟨A, c, ex, k, rfl, hr⟩ := hv.parts
  simp (maxSteps := 2000000) (disch := first | omega | assumption | exact idP rfl | exact idP (bL rfl) | (simp only [alloc_size, upd_size]; done) | (simp only [alloc_size, upd_size]; omega) | fail) only [go_sem, reduceIte, Nat.reduceEqDiff]
  refine wp_loop_k (fun e H' => ∃ i : Nat, i ≤ xs.length ∧ e 0 = .sl A xs.length c ex k ∧ e 4 = .int .i64 (i : Int) ∧ Own 1 H' (e 3) ((xs.take i).map (AV.int .i64)) ∧ Le H (base H' (e 3)) ∧ newer H.size (e 3)) (fun e _ => ctr xs.length (e 4)) ?_ ?_
  · exact ⟨0, Nat.zero_le _, by simp (maxSteps := 2000000) (disch := first | omega | assumption | exact idP rfl | exact idP (bL rfl) | (simp only [alloc_size, upd_size]; done) | (simp only [alloc_size, upd_size]; omega) | fail) only [go_sem, reduceIte, Nat.reduceEqDiff], by simp (maxSteps := 2000000) (disch := first | omega | assumption | exact idP rfl | exact idP (bL rfl) | (simp only [alloc_size, upd_size]; done) | (simp only [alloc_size, upd_size]; omega) | fail) only [go_sem, reduceIte, Nat.reduceEqDiff]; rfl, by simp (maxSteps := 2000000) (disch := first | omega | assumption | exact idP rfl | exact idP (bL rfl) | (simp only [alloc_size, upd_size]; done) | (simp only [alloc_size, upd_size]; omega) | fail) only [go_sem, reduceIte, Nat.reduceEqDiff]; exact Own.new rfl, by simp (maxSteps := 2000000) (disch := first | omega | assumption | exact idP rfl | exact idP (bL rfl) | (simp only [alloc_size, upd_size]; done) | (simp only [alloc_size, upd_size]; omega) | fail) only [go_sem, reduceIte, Nat.reduceEqDiff]; exact (Le.alloc _ _).killFresh (Nat.le_refl _), by simp (maxSteps := 2000000) (disch := first | omega | assumption | exact idP rfl | exact idP (bL rfl) | (simp only [alloc_size, upd_size]; done) | (simp only [alloc_size, upd_size]; omega) | fail) only [go_sem, reduceIte, Nat.reduceEqDiff]; exact Nat.le_refl _⟩
  · rintro e H1 ⟨i, hi, e0, e4, ho, hle, hnew⟩ K hK
    simp (maxSteps := 2000000) (disch := first | omega | assumption | exact idP rfl | exact idP (bL rfl) | (simp only [alloc_size, upd_size]; done) | (simp only [alloc_size, upd_size]; omega) | fail) only [go_sem, reduceIte, Nat.reduceEqDiff, e0, e4]
    refine condV_dec (fun h => ?_) (fun h => ?_)
    · have hi' : i < xs.length := by omega
      have hg := (hle.trans (base_le _ _)).get (hr i hi')
      rw [Nat.mul_one] at hg
      simp (maxSteps := 2000000) (disch := first | omega | assumption | exact idP rfl | exact idP (bL rfl) | (simp only [alloc_size, upd_size]; done) | (simp only [alloc_size, upd_size]; omega) | fail) only [go_sem, reduceIte, Nat.reduceEqDiff, e0, e4, hg]
      refine app1 ho hle hnew rfl (by simp; omega) (by omega) ?_
      intro s H2 hs hle2 hn2 _
      simp (maxSteps := 2000000) (disch := first | omega | assumption | exact idP rfl | exact idP (bL rfl) | (simp only [alloc_size, upd_size]; done) | (simp only [alloc_size, upd_size]; omega) | fail) only [go_sem, reduceIte, Nat.reduceEqDiff, e4]
      refine hK _ _ ⟨i + 1, by omega, by simp (maxSteps := 2000000) (disch := first | omega | assumption | exact idP rfl | exact idP (bL rfl) | (simp only [alloc_size, upd_size]; done) | (simp only [alloc_size, upd_size]; omega) | fail) only [go_sem, reduceIte, Nat.reduceEqDiff, e0], by simp (maxSteps := 2000000) (disch := first | omega | assumption | exact idP rfl | exact idP (bL rfl) | (simp only [alloc_size, upd_size]; done) | (simp only [alloc_size, upd_size]; omega) | fail) only [go_sem, reduceIte, Nat.reduceEqDiff]; rfl, ?_, by simp (maxSteps := 2000000) (disch := first | omega | assumption | exact idP rfl | exact idP (bL rfl) | (simp only [alloc_size, upd_size]; done) | (simp only [alloc_size, upd_size]; omega) | fail) only [go_sem, reduceIte, Nat.reduceEqDiff]; exact hle2, by simp (maxSteps := 2000000) (disch := first | omega | assumption | exact idP rfl | exact idP (bL rfl) | (simp only [alloc_size, upd_size]; done) | (simp only [alloc_size, upd_size]; omega) | fail) only [go_sem, reduceIte, Nat.reduceEqDiff]; exact hn2⟩ (by simp (maxSteps := 2000000) (disch := first | omega | assumption | exact idP rfl | exact idP (bL rfl) | (simp only [alloc_size, upd_size]; done) | (simp only [alloc_size, upd_size]; omega) | fail) only [go_sem, reduceIte, Nat.reduceEqDiff, ctr_int, e4]; omega)
      simp (maxSteps := 2000000) (disch := first | omega | assumption | exact idP rfl | exact idP (bL rfl) | (simp only [alloc_size, upd_size]; done) | (simp only [alloc_size, upd_size]; omega) | fail) only [go_sem, reduceIte, Nat.reduceEqDiff]
      rw [← take_map_succ hi']; exact hs
    · simp (maxSteps := 2000000) (disch := first | omega | assumption | exact idP rfl | exact idP (bL rfl) | (simp only [alloc_size, upd_size]; done) | (simp only [alloc_size, upd_size]; omega) | fail) only [go_sem, reduceIte, Nat.reduceEqDiff]
      obtain rfl : i = xs.length := by omega
      rw [List.take_length] at ho
      exact hR _ _ ⟨ho, hle, hnew⟩
def TryPost (cl : List (List Int)) (n : Nat) (g : List Int) (P : List (List Int)) (d : Nat) (B H : Heap) (p fl : AV) (r : AV) (H' : Heap) : Prop :=
  ∃ (res : Res) (P' : List (List Int)) (d' : Nat) (p' w : AV) (ok ct : Bool) (B' : Heap), Try cl n g P d res P' d' ∧ r = .tup [.agg [fl, p', .int .i64 (d' : Int), .bool ct], w, .bool ok] ∧ Nd B B' ∧ Le (base H p) (base H' p') ∧ (∀ b, H'.size ≤ b → apart b p') ∧ oneA p' = true ∧ oneA w = true ∧
    (res = .no → ct = false ∧ ok = false ∧ PL B' H' p' P' ∧ P'.length ≤ 600 ∧ d' ≤ P'.length + g.length ∧ w = .sl none 0 0 true 0) ∧ (res = .cut → ct = true ∧ ok = false ∧ w = .sl none 0 0 true 0) ∧
    (∀ m, res = .sat m → ct = false ∧ ok = true ∧ PL B' H' p' P' ∧ IsI B' w ((m.drop 1).map valF))
theorem PL.updFresh {B : Heap} {p : AV} {P : List (List Int)} {b : Nat} {x : Blk} (h : PL B H p P) (ha : apart b p) (hd : B.size ≤ b) : PL B (H.upd b x) p P := by
  obtain ⟨h0, pc, h1, h2, h3⟩ := h
  refine ⟨by rw [base_upd ha]; exact h0.updFresh hd, pc, ?_, h2, h3⟩
  obtain ⟨A, n, ex, k, rfl, q1, q2, q3⟩ := h1
  refine ⟨A, n, ex, k, rfl, q1, q2, fun b' o e => ?_⟩
  subst e
  obtain ⟨r1, r2, r3, r4⟩ := q3 b' o rfl
  have hne : b' ≠ b := ha
  exact ⟨r1, r2, r3, by rw [upd_blk_ne hne]; exact r4⟩
attribute [-go_sem] w_spec_l12Try_18
set_option maxHeartbeats 4000000 in
theorem s_l12Try {xss : List (List Int)} {n : Nat} (hn : n ≤ 700) (hl : xss.length ≤ 1048576) (hxl : ∀ xs ∈ xss, xs.length ≤ 1048576) (hx : ∀ xs ∈ xss, Lits n xs) : ∀ (N : Nat) {B H : Heap} {g : List Int} {P : List (List Int)} {d k : Nat} {fl p gv : AV},
    n - k < N → k ≤ n → Low xss n g k → B.size = H.size → IsII B fl xss → IsI B gv g → PL B H p P → P.length ≤ 600 → d ≤ P.length + g.length →
    ACall Try.prog n_spec_l12Try [.agg [fl, p, .int .i64 (d : Int), .bool false], gv, .int .i64 (n : Int)] H (TryPost xss n g P d B H p fl) := by
  intro N
  induction N with
  | zero => intro B H g P d k fl p gv hN; omega
  | succ N ih =>
    intro B H g P d k fl p gv hN hk hlow hs hfl hgv hp hP hd
    refine ACall.of fun R hR => a_spec_l12Try rfl ?_
    have hlen : g.length ≤ k := asc_len hlow.asc (fun x h => (hlow.lits x h).1) hlow.le
    have hBH : Le B H := hp.1.trans (base_le H p)
    have hof : oneA fl = true ∧ cellsOf fl = some [fl] := oneA_isS hfl
    obtain ⟨pc, hown, hpc⟩ := hp.own
    simp (maxSteps := 2000000) (disch := first | omega | assumption | exact idP rfl | exact idP (bL rfl) | (simp only [alloc_size, upd_size]; done) | (simp only [alloc_size, upd_size]; omega) | fail) only [go_sem, reduceIte, Nat.reduceEqDiff]
    have hHA : Le H ((H.alloc [fl, p, .int .i64 (d : Int), .bool false]).alloc [.sl none 0 0 true 0, .sl none 0 0 true 0, .int .i64 0, .bool false]) := (Le.refl _).allocs.allocs
    refine (s_l11Given (hgv.le (hBH.trans hHA)) (by omega) hn hlow.lits).mono ?_
    rintro r H1 ⟨rfl, hrow⟩
    simp (maxSteps := 2000000) (disch := first | omega | assumption | exact idP rfl | exact idP (bL rfl) | (simp only [alloc_size, upd_size]; done) | (simp only [alloc_size, upd_size]; omega) | fail) only [go_sem, reduceIte, Nat.reduceEqDiff]
    simp only [alloc_size] at hrow
    have w3 : H1.rwCells H.size = some [fl, p, .int .i64 (d : Int), .bool false] := hrow.le'.rwCells (by simp (maxSteps := 2000000) (disch := first | omega | assumption | exact idP rfl | exact idP (bL rfl) | (simp only [alloc_size, upd_size]; done) | (simp only [alloc_size, upd_size]; omega) | fail) only [go_sem, reduceIte, Nat.reduceEqDiff])
    have g3 : H1.get H.size 0 = some fl := hrow.le'.get (by simp (maxSteps := 2000000) (disch := first | omega | assumption | exact idP rfl | exact idP (bL rfl) | (simp only [alloc_size, upd_size]; done) | (simp only [alloc_size, upd_size]; omega) | fail) only [go_sem, reduceIte, Nat.reduceEqDiff])
    simp (maxSteps := 2000000) (disch := first | omega | assumption | exact idP rfl | exact idP (bL rfl) | (simp only [alloc_size, upd_size]; done) | (simp only [alloc_size, upd_size]; omega) | fail) only [go_sem, reduceIte, Nat.reduceEqDiff, g3]
    refine (s_l11Force (hfl.le (hBH.trans hHA)) hl hxl hn hx hrow given_len).mono ?_
    rintro r H2 ⟨res, hforce, hle2, hb2, hnone, hsome⟩
    have hA2 : Le ((H.alloc [fl, p, .int .i64 (d : Int), .bool false]).alloc [.sl none 0 0 true 0, .sl none 0 0 true 0, .int .i64 0, .bool false]) (H2.kill (H.size + 1 + 1)) := hrow.le.trans hle2
    have hA2' := hA2.trans (Le.kill _ _)
    have hH2 : Le H H2 := hHA.trans hA2'
    have hsz2 : H.size + 1 + 1 < H2.size := hb2
    have a3 : apart H.size p := apart_fresh hown (Nat.le_refl _)
    have a6 : apart (H.size + 1) p := apart_fresh hown (by omega)
    have hp2 : PL (B.pad H2.size) H2 p P := (hp.le hH2).at (pad_nd (by omega)).1 (pad_le (hp.1.trans (base_mono hH2 p)) (by rw [base_size]; exact Nat.le_refl _))
    have u3 : H2.rwCells H.size = some [fl, p, .int .i64 (d : Int), .bool false] := hA2'.rwCells (by simp (maxSteps := 2000000) (disch := first | omega | assumption | exact idP rfl | exact idP (bL rfl) | (simp only [alloc_size, upd_size]; done) | (simp only [alloc_size, upd_size]; omega) | fail) only [go_sem, reduceIte, Nat.reduceEqDiff])
    have u6 : H2.rwCells (H.size + 1) = some [.sl none 0 0 true 0, .sl none 0 0 true 0, .int .i64 0, .bool false] := hA2'.rwCells (by simp (maxSteps := 2000000) (disch := first | omega | assumption | exact idP rfl | exact idP (bL rfl) | (simp only [alloc_size, upd_size]; done) | (simp only [alloc_size, upd_size]; omega) | fail) only [go_sem, reduceIte, Nat.reduceEqDiff])
    have hnd : Nd B (B.pad H2.size) := pad_nd (by omega)
    have hLend : Le (base H p) (((base H2 p).kill H.size).kill (H.size + 1)) := ((base_mono hH2 p).killFresh (by rw [base_size]; exact Nat.le_refl _)).killFresh (by rw [base_size]; omega)
    cases res with
    | none =>
      obtain rfl := hnone rfl
      simp (maxSteps := 2000000) (disch := first | omega | assumption | exact idP rfl | exact idP (bL rfl) | (simp only [alloc_size, upd_size]; done) | (simp only [alloc_size, upd_size]; omega) | fail) only [go_sem, reduceIte, Nat.reduceEqDiff]
      refine wp_seq'.mp (try_leaf (B := B.pad H2.size) (d := d) (t3 := H.size) (t6 := H.size + 1) hn hlow.asc hlow.lits (by omega) hP hof.1 ?_ ?_ ?_ ?_ (by omega) rfl (pad_size _ _) (pad_dead (by omega)) (pad_dead (by omega)) (base_rw a3 u3) (base_rw a6 u6) hp2 (hgv.le hnd.1) ?_)
      · simp (maxSteps := 2000000) (disch := first | omega | assumption | exact idP rfl | exact idP (bL rfl) | (simp only [alloc_size, upd_size]; done) | (simp only [alloc_size, upd_size]; omega) | fail) only [go_sem, reduceIte, Nat.reduceEqDiff]
      · simp (maxSteps := 2000000) (disch := first | omega | assumption | exact idP rfl | exact idP (bL rfl) | (simp only [alloc_size, upd_size]; done) | (simp only [alloc_size, upd_size]; omega) | fail) only [go_sem, reduceIte, Nat.reduceEqDiff]
      · simp (maxSteps := 2000000) (disch := first | omega | assumption | exact idP rfl | exact idP (bL rfl) | (simp only [alloc_size, upd_size]; done) | (simp only [alloc_size, upd_size]; omega) | fail) only [go_sem, reduceIte, Nat.reduceEqDiff]
      · simp (maxSteps := 2000000) (disch := first | omega | assumption | exact idP rfl | exact idP (bL rfl) | (simp only [alloc_size, upd_size]; done) | (simp only [alloc_size, upd_size]; omega) | fail) only [go_sem, reduceIte, Nat.reduceEqDiff]
      intro B' H' p' hn' hp' hle'
      have hap' : ∀ b, H'.size ≤ b → apart b p' := fun b hb => by obtain ⟨_, q, _⟩ := hp'.own; exact apart_fresh q hb
      by_cases h6 : P.length = 600
      · refine hR _ _ ⟨.cut, P, d, p', _, _, _, B', .confC hforce h6, rfl, hnd.trans hn', hLend.trans hle', hap', hp'.one.1, rfl, fun h => (by cases h), fun _ => ⟨?_, rfl, rfl⟩, fun m h => (by cases h)⟩
        simp [h6]
      · refine hR _ _ ⟨.no, _, d, p', _, _, _, B', .confN hforce h6, rfl, hnd.trans hn', hLend.trans hle', hap', hp'.one.1, rfl, fun _ => ⟨?_, rfl, hp', ?_, ?_, rfl⟩, fun h => (by cases h), fun m h => (by cases h)⟩
        · simp; omega
        · simp; omega
        · simp; omega
    | some m =>
      obtain ⟨rfl, hrow2, hml⟩ := hsome m rfl
      simp (maxSteps := 2000000) (disch := first | omega | assumption | exact idP rfl | exact idP (bL rfl) | (simp only [alloc_size, upd_size]; done) | (simp only [alloc_size, upd_size]; omega) | fail) only [go_sem, reduceIte, Nat.reduceEqDiff]
      refine (s_l12Next hrow2 hml (by omega)).mono ?_
      rintro r H3 ⟨rfl, a, rfl, hnext⟩
      simp (maxSteps := 2000000) (disch := first | omega | assumption | exact idP rfl | exact idP (bL rfl) | (simp only [alloc_size, upd_size]; done) | (simp only [alloc_size, upd_size]; omega) | fail) only [go_sem, reduceIte, Nat.reduceEqDiff]
      refine condV_dec (fun h0 => ?_) (fun h0 => ?_)
      · obtain rfl : a = 0 := by omega
        have l0 : H3.get H.size 0 = some fl := by obtain ⟨q1, q2⟩ := Heap.rwCells_blk u3; exact Rd.blk q1 q2 0 fl rfl
        have l1 : H3.get H.size 1 = some p := by obtain ⟨q1, q2⟩ := Heap.rwCells_blk u3; exact Rd.blk q1 q2 1 p rfl
        have l2 : H3.get H.size 2 = some (.int .i64 (d : Int)) := by obtain ⟨q1, q2⟩ := Heap.rwCells_blk u3; exact Rd.blk q1 q2 2 _ rfl
        have l3 : H3.get H.size 3 = some (.bool false) := by obtain ⟨q1, q2⟩ := Heap.rwCells_blk u3; exact Rd.blk q1 q2 3 _ rfl
        have hpo := hp.one
        simp (maxSteps := 2000000) (disch := first | omega | assumption | exact idP rfl | exact idP (bL rfl) | (simp only [alloc_size, upd_size]; done) | (simp only [alloc_size, upd_size]; omega) | fail) only [go_sem, reduceIte, Nat.reduceEqDiff, l0, l1, l2, l3]
        refine (s_l12Values hrow2 hml (by omega) (by omega)).mono ?_
        rintro w H4 ⟨hw, hle4, hnw⟩
        have hH4 : Le H3 H4 := hle4.trans (base_le _ _)
        have m0 := hH4.get l0
        have m1 := hH4.get l1
        have m2 := hH4.get l2
        have m3 := hH4.get l3
        have u6' := hH4.rwCells u6
        have hof1 := hof.1
        have hpo1 := hpo.1
        have hsz6 := (Heap.rwCells_blk u6').1
        simp (maxSteps := 2000000) (disch := first | omega | assumption | exact idP rfl | exact idP (bL rfl) | (simp only [alloc_size, upd_size]; done) | (simp only [alloc_size, upd_size]; omega) | fail) only [go_sem, reduceIte, Nat.reduceEqDiff, m0, m1, m2, m3, u6']
        have hsB : (B.pad H3.size).size = H3.size := pad_size _ _
        have hB4 : Le ((B.pad H3.size).over H4) (base H4 p) := over_le (hp2.1.trans (base_mono hH4 p)) base_size.symm fun b hb => base_blk (apart_fresh hown (by have := hH2.1; omega))
        have hnd4 : Nd (B.pad H3.size) ((B.pad H3.size).over H4) := over_nd (by have := hH4.1; omega)
        have hp4 := (hp2.le hH4).at hnd4.1 hB4
        have hwi : IsI ((B.pad H3.size).over H4) w ((m.drop 1).map valF) := (hw.later hnw).isI.le (by have := later_over (B.pad H3.size) H4; rwa [hsB] at this)
        have d6 := hnd4.2 (H.size + 1) (by omega) (pad_dead (by omega))
        refine hR _ _ ⟨.sat m, P, d, p, w, true, false, (B.pad H3.size).over H4, .sat hforce hnext, rfl, hnd.trans hnd4, ?_, fun b hb => apart_fresh hown (Nat.le_trans (hH2.trans hH4).1 hb), hpo.1, (oneA_isS hwi).1, fun h => (by cases h), fun h => (by cases h), fun m' h => ?_⟩
        · rw [base_upd a6]
          exact (base_mono (hH2.trans hH4) p).updFresh (by rw [base_size]; omega)
        · cases h
          exact ⟨rfl, rfl, hp4.upd a6 d6, hwi⟩
      · have ha0 : a ≠ 0 := by omega
        have han : a ≤ n := by
          rcases hnext with ⟨e, _⟩ | ⟨_, ⟨h1, _⟩, _⟩
          · exact absurd e ha0
          · omega
        obtain ⟨hka, hlow1⟩ := hlow.next (x := -(a : Int)) hforce hml hnext ha0 (by omega)
        obtain ⟨_, hlow2⟩ := hlow.next (x := (a : Int)) hforce hml hnext ha0 (by omega)
        have l0 : H3.get H.size 0 = some fl := by obtain ⟨q1, q2⟩ := Heap.rwCells_blk u3; exact Rd.blk q1 q2 0 fl rfl
        have l1 : H3.get H.size 1 = some p := by obtain ⟨q1, q2⟩ := Heap.rwCells_blk u3; exact Rd.blk q1 q2 1 p rfl
        have l2 : H3.get H.size 2 = some (.int .i64 (d : Int)) := by obtain ⟨q1, q2⟩ := Heap.rwCells_blk u3; exact Rd.blk q1 q2 2 _ rfl
        have l3 : H3.get H.size 3 = some (.bool false) := by obtain ⟨q1, q2⟩ := Heap.rwCells_blk u3; exact Rd.blk q1 q2 3 _ rfl
        have hs3 : H.size < H3.size := by omega
        simp (maxSteps := 2000000) (disch := first | omega | assumption | exact idP rfl | exact idP (bL rfl) | (simp only [alloc_size, upd_size]; done) | (simp only [alloc_size, upd_size]; omega) | fail) only [go_sem, reduceIte, Nat.reduceEqDiff, l2, u3]
        have hH3B : Le B (H3.upd H.size (.cells [fl, p, .int .i64 ((d : Int) + 1), .bool false] true)) := (hBH.trans hH2).updFresh (by omega)
        refine (s_l3Copy (hgv.le hH3B) (by omega)).mono ?_
        rintro c H4 ⟨hc, hle4, hnc⟩
        have hH4 := hle4.trans (base_le _ _)
        have v3 : H4.rwCells H.size = some [fl, p, .int .i64 ((d : Int) + 1), .bool false] := hH4.rwCells (by simp (maxSteps := 2000000) (disch := first | omega | assumption | exact idP rfl | exact idP (bL rfl) | (simp only [alloc_size, upd_size]; done) | (simp only [alloc_size, upd_size]; omega) | fail) only [go_sem, reduceIte, Nat.reduceEqDiff])
        have m0 : H4.get H.size 0 = some fl := by obtain ⟨q1, q2⟩ := Heap.rwCells_blk v3; exact Rd.blk q1 q2 0 fl rfl
        have m1 : H4.get H.size 1 = some p := by obtain ⟨q1, q2⟩ := Heap.rwCells_blk v3; exact Rd.blk q1 q2 1 p rfl
        have m2 : H4.get H.size 2 = some (.int .i64 ((d : Int) + 1)) := by obtain ⟨q1, q2⟩ := Heap.rwCells_blk v3; exact Rd.blk q1 q2 2 _ rfl
        have m3 : H4.get H.size 3 = some (.bool false) := by obtain ⟨q1, q2⟩ := Heap.rwCells_blk v3; exact Rd.blk q1 q2 3 _ rfl
        simp (maxSteps := 2000000) (disch := first | omega | assumption | exact idP rfl | exact idP (bL rfl) | (simp only [alloc_size, upd_size]; done) | (simp only [alloc_size, upd_size]; omega) | fail) only [go_sem, reduceIte, Nat.reduceEqDiff, m0, m1, m2, m3]
        have hgl : g.length ≤ 700 := by omega
        refine app1 hc hle4 hnc rfl (by simp; omega) (by omega) ?_
        intro c1 H5 hc1 hle5 hnc1 hstep
        have hH5 := hle5.trans (base_le _ _)
        have x3 : H5.rwCells H.size = some [fl, p, .int .i64 ((d : Int) + 1), .bool false] := hH5.rwCells (by simp (maxSteps := 2000000) (disch := first | omega | assumption | exact idP rfl | exact idP (bL rfl) | (simp only [alloc_size, upd_size]; done) | (simp only [alloc_size, upd_size]; omega) | fail) only [go_sem, reduceIte, Nat.reduceEqDiff])
        have n0 : H5.get H.size 0 = some fl := by obtain ⟨q1, q2⟩ := Heap.rwCells_blk x3; exact Rd.blk q1 q2 0 fl rfl
        have n1 : H5.get H.size 1 = some p := by obtain ⟨q1, q2⟩ := Heap.rwCells_blk x3; exact Rd.blk q1 q2 1 p rfl
        have n2 : H5.get H.size 2 = some (.int .i64 ((d : Int) + 1)) := by obtain ⟨q1, q2⟩ := Heap.rwCells_blk x3; exact Rd.blk q1 q2 2 _ rfl
        have n3 : H5.get H.size 3 = some (.bool false) := by obtain ⟨q1, q2⟩ := Heap.rwCells_blk x3; exact Rd.blk q1 q2 3 _ rfl
        have x6 : H5.rwCells (H.size + 1) = some [.sl none 0 0 true 0, .sl none 0 0 true 0, .int .i64 0, .bool false] := hH5.rwCells (by simp (maxSteps := 2000000) (disch := first | omega | assumption | exact idP rfl | exact idP (bL rfl) | (simp only [alloc_size, upd_size]; done) | (simp only [alloc_size, upd_size]; omega) | fail) only [go_sem, reduceIte, Nat.reduceEqDiff, u6])
        have hHU : Le H (H3.upd H.size (.cells [fl, p, .int .i64 ((d : Int) + 1), .bool false] true)) := hH2.updFresh (Nat.le_refl _)
        have hH05 : Le H H5 := hHU.trans hH5
        have hsz5 : H3.size ≤ H5.size := hH5.1
        have hsB : (B.pad H3.size).size = H3.size := pad_size _ _
        have hBp5 : Le (B.pad H3.size) (base H5 p) := pad_le (hp.1.trans (base_mono hH05 p)) (by rw [base_size]; exact hsz5)
        have hB5 : Le ((B.pad H3.size).over H5) (base H5 p) := over_le hBp5 base_size.symm fun b hb => base_blk (apart_fresh hown (by have := hH2.1; omega))
        have hnd5 : Nd (B.pad H3.size) ((B.pad H3.size).over H5) := over_nd (by omega)
        have hp5 : PL ((B.pad H3.size).over H5) H5 p P := (hp.le hH05).at (hnd.trans hnd5).1 hB5
        have hci : IsI ((B.pad H3.size).over H5) c1 (g ++ [-(a : Int)]) := by
          have h1 : Own 1 H5 c1 ((g ++ [-(a : Int)]).map (AV.int .i64)) := by
            have e : (0 : Int) - (a : Int) = -(a : Int) := by omega
            rw [List.map_append, ← e]; exact hc1
          exact (h1.later hnc1).isI.le (later_over (B.pad H3.size) H5)
        simp (maxSteps := 2000000) (disch := first | omega | assumption | exact idP rfl | exact idP (bL rfl) | (simp only [alloc_size, upd_size]; done) | (simp only [alloc_size, upd_size]; omega) | fail) only [go_sem, reduceIte, Nat.reduceEqDiff, n0, n1, n2, n3]
        have hd1 : ((d : Int) + 1) = ((d + 1 : Nat) : Int) := by omega
        rw [hd1]
        refine (ih (B := (B.pad H3.size).over H5) (H := H5) (k := a) (by omega) han hlow1 rfl (hfl.le (hnd.trans hnd5).1) hci hp5 hP (by simp; omega)).mono ?_
        rintro r H6 ⟨res1, P1, d1, p1, w1, ok1, ct1, B6, htry1, rfl, hnd6, hle6, hap1, ho1, how1, hno1, hcut1, hsat1⟩
        have y3 : (base H6 p1).rwCells H.size = some [fl, p, .int .i64 ((d : Int) + 1), .bool false] := hle6.rwCells (base_rw a3 x3)
        have y6 : (base H6 p1).rwCells (H.size + 1) = some [.sl none 0 0 true 0, .sl none 0 0 true 0, .int .i64 0, .bool false] := hle6.rwCells (base_rw a6 x6)
        have z6 := (base_le H6 p1).rwCells y6
        have hsz6 := (Heap.rwCells_blk z6).1
        have hof1 := hof.1
        have hndB6 := (hnd.trans hnd5).trans hnd6
        have q6 := apart_of y6
        have hdead : ∀ b, H.size ≤ b → b < H3.size → B6.blk b = .dead := fun b h1 h2 => hnd6.2 b (Nat.lt_of_lt_of_le h2 hsz5) (hnd5.2 b (by rw [hsB]; exact h2) (pad_dead (by omega)))
        have fin1 : ∀ (c4 d4 : List AV), Le (base H p) (base (((H6.alloc c4).upd H6.size (.cells d4 true)).upd (H.size + 1) (.cells d4 true)) p1) := by
          intro c4 d4
          rw [base_upd q6, base_upd (hap1 _ (Nat.le_refl _))]
          exact ((((base_mono hH05 p).trans hle6).trans (base_mono (Le.alloc _ _) p1)).updFresh (by rw [base_size]; omega)).updFresh (by rw [base_size]; omega)
        simp (maxSteps := 2000000) (disch := first | omega | assumption | exact idP rfl | exact idP (bL rfl) | (simp only [alloc_size, upd_size]; done) | (simp only [alloc_size, upd_size]; omega) | fail) only [go_sem, reduceIte, Nat.reduceEqDiff]
        cases res1 with
        | sat m1 =>
          obtain ⟨rfl, rfl, hpl, hwi⟩ := hsat1 m1 rfl
          have ho1' := hpl.one
          simp (maxSteps := 2000000) (disch := first | omega | assumption | exact idP rfl | exact idP (bL rfl) | (simp only [alloc_size, upd_size]; done) | (simp only [alloc_size, upd_size]; omega) | fail) only [go_sem, reduceIte, Nat.reduceEqDiff, z6]
          refine hR _ _ ⟨.sat m1, P1, d1, p1, w1, true, false, B6, .left hforce hnext ha0 htry1 (by intro h; cases h), rfl, hndB6, fin1 _ _, fun b hb => hap1 b (Nat.le_trans (Nat.le_succ _) hb), ho1, how1, fun h => (by cases h), fun h => (by cases h), fun m' h => ?_⟩
          cases h
          exact ⟨rfl, rfl, ((hpl.le (Le.alloc _ _)).updFresh (hap1 _ (Nat.le_refl _)) (by have := hpl.1.1; rw [base_size] at this; exact this)).upd q6 (hdead _ (by omega) (by omega)), hwi⟩
        | cut =>
          obtain ⟨rfl, rfl, rfl⟩ := hcut1 rfl
          have hc1 : cellsOf p1 = some [p1] := by cases p1 <;> first | rfl | cases ho1
          simp (maxSteps := 2000000) (disch := first | omega | assumption | exact idP rfl | exact idP (bL rfl) | (simp only [alloc_size, upd_size]; done) | (simp only [alloc_size, upd_size]; omega) | fail) only [go_sem, reduceIte, Nat.reduceEqDiff, z6, hc1]
          exact hR _ _ ⟨.cut, P1, d1, p1, _, false, true, B6, .left hforce hnext ha0 htry1 (by intro h; cases h), rfl, hndB6, fin1 _ _, fun b hb => hap1 b (Nat.le_trans (Nat.le_succ _) hb), ho1, how1, fun h => (by cases h), fun _ => ⟨rfl, rfl, rfl⟩, fun m' h => (by cases h)⟩
        | no =>
          obtain ⟨rfl, rfl, hpl, hlen1, hd1', _⟩ := hno1 rfl
          have hgl1 : (g ++ [-(a : Int)]).length = g.length + 1 := by simp
          have hdl1 : d1 ≤ 1400 := by omega
          have hpo1 := hpl.one
          have hB6s : B6.size ≤ H6.size := by have := hpl.1.1; rw [base_size] at this; exact this
          have z3 := (base_le H6 p1).rwCells y3
          have hsz3 := (Heap.rwCells_blk z3).1
          have q3 := apart_of y3
          have q11 := hap1 _ (Nat.le_refl H6.size)
          obtain ⟨pc1, hown1, _⟩ := hpl.own
          simp (maxSteps := 2000000) (disch := first | omega | assumption | exact idP rfl | exact idP (bL rfl) | (simp only [alloc_size, upd_size]; done) | (simp only [alloc_size, upd_size]; omega) | fail) only [go_sem, reduceIte, Nat.reduceEqDiff]
          have hB7 : Le B6 ((H6.alloc [.sl none 0 0 true 0, .sl none 0 0 true 0, .int .i64 0, .bool false]).upd H6.size (.cells [fl, p1, .int .i64 (d1 : Int), .bool false] true)) := ((hpl.1.trans (base_le H6 p1)).allocs).updFresh hB6s
          refine (s_l3Copy ((hgv.le hndB6.1).le hB7) (by omega)).mono ?_
          rintro c2 H8 ⟨hc2, hle8, hnc2⟩
          have hH8 := hle8.trans (base_le _ _)
          have v11 : H8.rwCells H6.size = some [fl, p1, .int .i64 (d1 : Int), .bool false] := hH8.rwCells (by simp (maxSteps := 2000000) (disch := first | omega | assumption | exact idP rfl | exact idP (bL rfl) | (simp only [alloc_size, upd_size]; done) | (simp only [alloc_size, upd_size]; omega) | fail) only [go_sem, reduceIte, Nat.reduceEqDiff])
          have m0 : H8.get H6.size 0 = some fl := by obtain ⟨q1, q2⟩ := Heap.rwCells_blk v11; exact Rd.blk q1 q2 0 fl rfl
          have m1 : H8.get H6.size 1 = some p1 := by obtain ⟨q1, q2⟩ := Heap.rwCells_blk v11; exact Rd.blk q1 q2 1 p1 rfl
          have m2 : H8.get H6.size 2 = some (.int .i64 (d1 : Int)) := by obtain ⟨q1, q2⟩ := Heap.rwCells_blk v11; exact Rd.blk q1 q2 2 _ rfl
          have m3 : H8.get H6.size 3 = some (.bool false) := by obtain ⟨q1, q2⟩ := Heap.rwCells_blk v11; exact Rd.blk q1 q2 3 _ rfl
          simp (maxSteps := 2000000) (disch := first | omega | assumption | exact idP rfl | exact idP (bL rfl) | (simp only [alloc_size, upd_size]; done) | (simp only [alloc_size, upd_size]; omega) | fail) only [go_sem, reduceIte, Nat.reduceEqDiff, m0, m1, m2, m3]
          refine app1 hc2 hle8 hnc2 rfl (by simp; omega) (by omega) ?_
          intro c3 H9 hc3 hle9 hnc3 _
          have hH9 := hle9.trans (base_le _ _)
          have x11 : H9.rwCells H6.size = some [fl, p1, .int .i64 (d1 : Int), .bool false] := hH9.rwCells (by simp (maxSteps := 2000000) (disch := first | omega | assumption | exact idP rfl | exact idP (bL rfl) | (simp only [alloc_size, upd_size]; done) | (simp only [alloc_size, upd_size]; omega) | fail) only [go_sem, reduceIte, Nat.reduceEqDiff])
          have n0 : H9.get H6.size 0 = some fl := by obtain ⟨q1, q2⟩ := Heap.rwCells_blk x11; exact Rd.blk q1 q2 0 fl rfl
          have n1 : H9.get H6.size 1 = some p1 := by obtain ⟨q1, q2⟩ := Heap.rwCells_blk x11; exact Rd.blk q1 q2 1 p1 rfl
          have n2 : H9.get H6.size 2 = some (.int .i64 (d1 : Int)) := by obtain ⟨q1, q2⟩ := Heap.rwCells_blk x11; exact Rd.blk q1 q2 2 _ rfl
          have n3 : H9.get H6.size 3 = some (.bool false) := by obtain ⟨q1, q2⟩ := Heap.rwCells_blk x11; exact Rd.blk q1 q2 3 _ rfl
          simp (maxSteps := 2000000) (disch := first | omega | assumption | exact idP rfl | exact idP (bL rfl) | (simp only [alloc_size, upd_size]; done) | (simp only [alloc_size, upd_size]; omega) | fail) only [go_sem, reduceIte, Nat.reduceEqDiff, n0, n1, n2, n3]
          have hL69 : Le H6 H9 := ((Le.alloc H6 _).updFresh (Nat.le_refl _)).trans hH9
          have hsz9 : H6.size + 1 ≤ H9.size := hH9.1
          have hsB7 : (B6.pad (H6.size + 1)).size = H6.size + 1 := pad_size _ _
          have hndp : Nd B6 (B6.pad (H6.size + 1)) := pad_nd (by omega)
          have hBp9 : Le (B6.pad (H6.size + 1)) (base H9 p1) := pad_le (hpl.1.trans (base_mono hL69 p1)) (by rw [base_size]; exact hsz9)
          have hB9 : Le ((B6.pad (H6.size + 1)).over H9) (base H9 p1) := over_le hBp9 base_size.symm fun b hb => base_blk (apart_fresh hown1 (by omega))
          have hnd9 : Nd (B6.pad (H6.size + 1)) ((B6.pad (H6.size + 1)).over H9) := over_nd (by omega)
          have hp9 := (hpl.le hL69).at (hndp.trans hnd9).1 hB9
          have hci3 : IsI ((B6.pad (H6.size + 1)).over H9) c3 (g ++ [(a : Int)]) := by
            have h1 : Own 1 H9 c3 ((g ++ [(a : Int)]).map (AV.int .i64)) := by rw [List.map_append]; exact hc3
            have h2 : newer (H6.size + 1) c3 := hnc3
            have := later_over (B6.pad (H6.size + 1)) H9
            rw [hsB7] at this
            exact (h1.later h2).isI.le this
          refine (ih (B := (B6.pad (H6.size + 1)).over H9) (H := H9) (k := a) (by omega) han hlow2 rfl (hfl.le ((hndB6.trans hndp).trans hnd9).1) hci3 hp9 hlen1 (by simp; omega)).mono ?_
          rintro r H10 ⟨res2, P2, d2, p2, w2, ok2, ct2, B10, htry2, rfl, hnd10, hle10, hap2, ho2, how2, hno2, hcut2, hsat2⟩
          have hLb : Le (base H6 p1) (base H10 p2) := (base_mono hL69 p1).trans hle10
          have yy3 := hLb.rwCells y3
          have yy6 := hLb.rwCells y6
          have zz3 := (base_le H10 p2).rwCells yy3
          have zz6 := (base_le H10 p2).rwCells yy6
          have hsz63 := (Heap.rwCells_blk zz6).1
          have hsz33 := (Heap.rwCells_blk zz3).1
          have qq3 := apart_of yy3
          have qq6 := apart_of yy6
          have hndB10 := ((hndB6.trans hndp).trans hnd9).trans hnd10
          have hdead2 : ∀ b, H.size ≤ b → b < H3.size → B10.blk b = .dead := fun b h1 h2 => by
            have e6 := hdead b h1 h2
            have hb6 : b < B6.size := Nat.lt_of_lt_of_le h2 (Nat.le_trans hsz5 hnd6.1.1)
            exact ((hndp.trans hnd9).trans hnd10).2 b hb6 e6
          have hLe10 : Le (base H p) (base H10 p2) := ((base_mono hH05 p).trans hle6).trans hLb
          have fin2 : ∀ (c4 d4 : List AV), Le (base H p) (base (((H10.alloc c4).upd H10.size (.cells d4 true)).upd (H.size + 1) (.cells d4 true)) p2) := by
            intro c4 d4
            rw [base_upd qq6, base_upd (hap2 _ (Nat.le_refl _))]
            exact ((hLe10.trans (base_mono (Le.alloc _ _) p2)).updFresh (by rw [base_size]; omega)).updFresh (by rw [base_size]; omega)
          simp (maxSteps := 2000000) (disch := first | omega | assumption | exact idP rfl | exact idP (bL rfl) | (simp only [alloc_size, upd_size]; done) | (simp only [alloc_size, upd_size]; omega) | fail) only [go_sem, reduceIte, Nat.reduceEqDiff]
          cases res2 with
          | sat m2 =>
            obtain ⟨rfl, rfl, hpl2, hwi2⟩ := hsat2 m2 rfl
            have ho2' := hpl2.one
            simp (maxSteps := 2000000) (disch := first | omega | assumption | exact idP rfl | exact idP (bL rfl) | (simp only [alloc_size, upd_size]; done) | (simp only [alloc_size, upd_size]; omega) | fail) only [go_sem, reduceIte, Nat.reduceEqDiff, zz6]
            refine hR _ _ ⟨.sat m2, P2, d2, p2, w2, true, false, B10, .right hforce hnext ha0 htry1 htry2 (by intro h; cases h), rfl, hndB10, fin2 _ _, fun b hb => hap2 b (Nat.le_trans (Nat.le_succ _) hb), ho2, how2, fun h => (by cases h), fun h => (by cases h), fun m' h => ?_⟩
            cases h
            exact ⟨rfl, rfl, ((hpl2.le (Le.alloc _ _)).updFresh (hap2 _ (Nat.le_refl _)) (by have := hpl2.1.1; rw [base_size] at this; exact this)).upd qq6 (hdead2 _ (by omega) (by omega)), hwi2⟩
          | cut =>
            obtain ⟨rfl, rfl, rfl⟩ := hcut2 rfl
            have hc2' : cellsOf p2 = some [p2] := by cases p2 <;> first | rfl | cases ho2
            simp (maxSteps := 2000000) (disch := first | omega | assumption | exact idP rfl | exact idP (bL rfl) | (simp only [alloc_size, upd_size]; done) | (simp only [alloc_size, upd_size]; omega) | fail) only [go_sem, reduceIte, Nat.reduceEqDiff, zz6, hc2']
            exact hR _ _ ⟨.cut, P2, d2, p2, _, false, true, B10, .right hforce hnext ha0 htry1 htry2 (by intro h; cases h), rfl, hndB10, fin2 _ _, fun b hb => hap2 b (Nat.le_trans (Nat.le_succ _) hb), ho2, how2, fun h => (by cases h), fun _ => ⟨rfl, rfl, rfl⟩, fun m' h => (by cases h)⟩
          | no =>
            obtain ⟨rfl, rfl, hpl2, hlen2, hd2', _⟩ := hno2 rfl
            have ho2' := hpl2.one
            have hb10 : B10.size ≤ H10.size := by have := hpl2.1.1; rw [base_size] at this; exact this
            have hs3b : H3.size ≤ B10.size := Nat.le_trans (Nat.le_trans hsz5 hnd6.1.1) ((hndp.trans hnd9).trans hnd10).1.1
            have hndq : Nd B10 (B10.pad (H10.size + 1)) := pad_nd (by omega)
            simp (maxSteps := 2000000) (disch := first | omega | assumption | exact idP rfl | exact idP (bL rfl) | (simp only [alloc_size, upd_size]; done) | (simp only [alloc_size, upd_size]; omega) | fail) only [go_sem, reduceIte, Nat.reduceEqDiff, zz3]
            refine wp_seq'.mp (try_leaf (B := B10.pad (H10.size + 1)) (c6 := [.sl none 0 0 true 0, .sl none 0 0 true 0, .int .i64 0, .bool false]) (p := p2) (d := d2) (t3 := H.size) (t6 := H.size + 1) hn hlow.asc hlow.lits (by omega) hlen2 hof.1 ?_ ?_ ?_ ?_ (by omega) rfl rfl (hndq.2 _ (by omega) (hdead2 _ (by omega) (by omega))) (hndq.2 _ (by omega) (hdead2 _ (by omega) (by omega))) (base_rw qq3 (by simp (maxSteps := 2000000) (disch := first | omega | assumption | exact idP rfl | exact idP (bL rfl) | (simp only [alloc_size, upd_size]; done) | (simp only [alloc_size, upd_size]; omega) | fail) only [go_sem, reduceIte, Nat.reduceEqDiff])) (base_rw qq6 (by simp (maxSteps := 2000000) (disch := first | omega | assumption | exact idP rfl | exact idP (bL rfl) | (simp only [alloc_size, upd_size]; done) | (simp only [alloc_size, upd_size]; omega) | fail) only [go_sem, reduceIte, Nat.reduceEqDiff, zz6])) ?_ (hgv.le (hndB10.trans hndq).1) ?_)
            · simp (maxSteps := 2000000) (disch := first | omega | assumption | exact idP rfl | exact idP (bL rfl) | (simp only [alloc_size, upd_size]; done) | (simp only [alloc_size, upd_size]; omega) | fail) only [go_sem, reduceIte, Nat.reduceEqDiff]
            · simp (maxSteps := 2000000) (disch := first | omega | assumption | exact idP rfl | exact idP (bL rfl) | (simp only [alloc_size, upd_size]; done) | (simp only [alloc_size, upd_size]; omega) | fail) only [go_sem, reduceIte, Nat.reduceEqDiff]
            · simp (maxSteps := 2000000) (disch := first | omega | assumption | exact idP rfl | exact idP (bL rfl) | (simp only [alloc_size, upd_size]; done) | (simp only [alloc_size, upd_size]; omega) | fail) only [go_sem, reduceIte, Nat.reduceEqDiff]
            · simp (maxSteps := 2000000) (disch := first | omega | assumption | exact idP rfl | exact idP (bL rfl) | (simp only [alloc_size, upd_size]; done) | (simp only [alloc_size, upd_size]; omega) | fail) only [go_sem, reduceIte, Nat.reduceEqDiff]
            · have hplu := ((hpl2.le (Le.alloc H10 [.sl none 0 0 true 0, .sl none 0 0 true 0, .int .i64 0, .bool false])).updFresh (x := .cells [fl, p2, .int .i64 (d2 : Int), .bool false] true) (hap2 _ (Nat.le_refl _)) hb10).upd (x := .cells [fl, p2, .int .i64 (d2 : Int), .bool false] true) qq3 (hdead2 _ (by omega) (by omega))
              exact hplu.at hndq.1 (pad_le hplu.1 (by rw [base_size]; exact Nat.le_refl _))
            · intro B' H' p' hn' hp' hle'
              have hap' : ∀ b, H'.size ≤ b → apart b p' := fun b hb => by obtain ⟨_, q, _⟩ := hp'.own; exact apart_fresh q hb
              have hLz : Le (base H p) (base H' p') := by
                refine Le.trans ?_ hle'
                rw [base_upd qq3, base_upd (hap2 _ (Nat.le_refl _))]
                exact ((((hLe10.trans (base_mono (Le.alloc _ _) p2)).updFresh (by rw [base_size]; omega)).updFresh (by rw [base_size]; exact Nat.le_refl _)).killFresh (by rw [base_size]; exact Nat.le_refl _)).killFresh (by rw [base_size]; omega)
              by_cases h6 : P2.length = 600
              · refine hR _ _ ⟨.cut, P2, d2, p', _, _, _, B', .bothC hforce hnext ha0 htry1 htry2 h6, rfl, (hndB10.trans hndq).trans hn', hLz, hap', hp'.one.1, rfl, fun h => (by cases h), fun _ => ⟨?_, rfl, rfl⟩, fun m h => (by cases h)⟩
                simp [h6]
              · refine hR _ _ ⟨.no, _, d2, p', _, _, _, B', .bothN hforce hnext ha0 htry1 htry2 h6, rfl, (hndB10.trans hndq).trans hn', hLz, hap', hp'.one.1, rfl, fun _ => ⟨?_, rfl, hp', ?_, ?_, rfl⟩, fun h => (by cases h), fun m h => (by cases h)⟩
                · simp; omega
                · simp; omega
                · simp at hd2' ⊢; omega
end Go.M2

namespace Go.M2
open Go.Proofs
variable {H : Heap}
theorem clOk_lits {n : Nat} {xs : List Int} (h : ClOk (n : Int) xs) : Lits n xs := by
  intro x hx
  obtain ⟨i, hi, rfl⟩ := List.getElem_of_mem hx
  have := litOk_iff.1 (h i hi).1
  omega
def SearchPost (cl : List (List Int)) (n : Nat) (H : Heap) (r : AV) (H' : Heap) : Prop :=
  ∃ (res : Res) (P' : List (List Int)) (d' : Nat) (fl p' w : AV) (ok ct : Bool) (B' : Heap), Try cl n [] [] 0 res P' d' ∧ r = .tup [.agg [fl, p', .int .i64 (d' : Int), .bool ct], w, .bool ok] ∧ Le H H' ∧ oneA fl = true ∧ oneA p' = true ∧ oneA w = true ∧
    (res = .no → ct = false ∧ ok = false ∧ PL B' H' p' P' ∧ w = .sl none 0 0 true 0) ∧ (res = .cut → ct = true ∧ ok = false ∧ w = .sl none 0 0 true 0) ∧ (∀ m, res = .sat m → ct = false ∧ ok = true ∧ IsI B' w ((m.drop 1).map valF) ∧ Le B' (base H' p'))
theorem s_l12Search {x : AV} {n : Nat} {xss : List (List Int)} (hx : IsCl H x (n : Int) xss) (hok : ClsOk (n : Int) xss) (hl : xss.length ≤ 1048576) (hxl : ∀ xs ∈ xss, xs.length ≤ 1048576) :
    ACall Try.prog n_spec_l12Search [x] H (SearchPost xss n H) := by
  refine ACall.of fun R hR => a_spec_l12Search rfl ?_
  obtain ⟨fl, rfl, hv⟩ := hx
  have hof := oneA_isS hv
  have hof1 := hof.1
  have hn := hok.hi
  simp (maxSteps := 2000000) (disch := first | omega | assumption | exact idP rfl | exact idP (bL rfl) | (simp only [alloc_size, upd_size]; done) | (simp only [alloc_size, upd_size]; omega) | fail) only [go_sem, reduceIte, Nat.reduceEqDiff, hof.2]
  have hH3 : Le H (((H.alloc [.int .i64 (n : Int), fl]).alloc [.sl none 0 0 true 0, .sl none 0 0 true 0, .int .i64 0, .bool false]).alloc []) := (Le.refl _).allocs.allocs.allocs
  have hnp : Nd H (H.pad (H.size + 1 + 1 + 1)) := pad_nd (by omega)
  have hpl : PL (H.pad (H.size + 1 + 1 + 1)) (((H.alloc [.int .i64 (n : Int), fl]).alloc [.sl none 0 0 true 0, .sl none 0 0 true 0, .int .i64 0, .bool false]).alloc []) (.sl none 0 0 true 0) [] :=
    ⟨pad_le hH3 (Nat.le_refl _), [], Own.nil, rfl, fun i h => by simp at h⟩
  refine (s_l12Try (n := n) (xss := xss) (by omega) hl hxl (fun xs h => clOk_lits (hok.all xs h)) (n + 1) (B := H.pad (H.size + 1 + 1 + 1)) (H := ((H.alloc [.int .i64 (n : Int), fl]).alloc [.sl none 0 0 true 0, .sl none 0 0 true 0, .int .i64 0, .bool false]).alloc []) (g := []) (P := []) (d := 0) (k := 0) (by omega) (by omega) (Low.nil _ _) rfl (hv.le hnp.1) ⟨_, 0, true, 1, rfl, fun i h => by simp at h⟩ hpl (by simp) (by simp)).mono ?_
  rintro r H4 ⟨res, P', d', p', w, ok, ct, B', htry, rfl, hnd, hle, hap, ho1, how, hno, hcut, hsat⟩
  have hle' : Le (((H.alloc [.int .i64 (n : Int), fl]).alloc [.sl none 0 0 true 0, .sl none 0 0 true 0, .int .i64 0, .bool false]).alloc []) (base H4 p') := hle
  have z2b : (base H4 p').rwCells (H.size + 1) = some [.sl none 0 0 true 0, .sl none 0 0 true 0, .int .i64 0, .bool false] := hle'.rwCells (by simp (maxSteps := 2000000) (disch := first | omega | assumption | exact idP rfl | exact idP (bL rfl) | (simp only [alloc_size, upd_size]; done) | (simp only [alloc_size, upd_size]; omega) | fail) only [go_sem, reduceIte, Nat.reduceEqDiff])
  have q2 := apart_of z2b
  have z2 := (base_le H4 p').rwCells z2b
  have hsz := (Heap.rwCells_blk z2).1
  have hc1 : cellsOf p' = some [p'] := by cases p' <;> first | rfl | cases ho1
  have hd2 : B'.blk (H.size + 1) = .dead := hnd.2 _ (by rw [pad_size]; omega) (pad_dead (by omega))
  simp (maxSteps := 2000000) (disch := first | omega | assumption | exact idP rfl | exact idP (bL rfl) | (simp only [alloc_size, upd_size]; done) | (simp only [alloc_size, upd_size]; omega) | fail) only [go_sem, reduceIte, Nat.reduceEqDiff, z2, hc1]
  refine hR _ _ ⟨res, P', d', fl, p', w, ok, ct, B', htry, rfl, ((hH3.trans (hle'.trans (base_le _ _))).updFresh (by omega)), hof1, ho1, how, fun h => ?_, hcut, fun m h => ?_⟩
  · obtain ⟨h1, h2, h3, _, _, h4⟩ := hno h
    exact ⟨h1, h2, h3.upd q2 hd2, h4⟩
  · obtain ⟨h1, h2, h3, h4⟩ := hsat m h
    exact ⟨h1, h2, h4, (h3.upd q2 hd2).1⟩
end Go.M2

namespace Go.M2
open Go.Proofs
variable {H : Heap}
end Go.M2

namespace Go.M2
open Go.Proofs
variable {H : Heap}
def cmpI (a b : Int) : Int := if a < b then -1 else if b < a then 1 else 0
theorem s_isNaN {a : Int} : ACall Try.prog n_cmp_isNaN_int [.int .i64 a] H (fun r H' => H' = H ∧ r = .bool false) := by
  refine ACall.of fun R hR => a_cmp_isNaN_int rfl ?_
  simp (maxSteps := 2000000) (disch := first | omega | assumption | exact idP rfl | exact idP (bL rfl) | (simp only [alloc_size, upd_size]; done) | (simp only [alloc_size, upd_size]; omega) | fail) only [go_sem, reduceIte, Nat.reduceEqDiff]
  exact hR _ _ ⟨rfl, rfl⟩
theorem s_Compare {a b : Int} : ACall Try.prog n_cmp_Compare_int [.int .i64 a, .int .i64 b] H (fun r H' => H' = H ∧ r = .int .i64 (cmpI a b)) := by
  refine ACall.of fun R hR => a_cmp_Compare_int rfl ?_
  simp (maxSteps := 2000000) (disch := first | omega | assumption | exact idP rfl | exact idP (bL rfl) | (simp only [alloc_size, upd_size]; done) | (simp only [alloc_size, upd_size]; omega) | fail) only [go_sem, reduceIte, Nat.reduceEqDiff]
  refine s_isNaN.mono ?_
  rintro r H1 ⟨rfl, rfl⟩
  simp (maxSteps := 2000000) (disch := first | omega | assumption | exact idP rfl | exact idP (bL rfl) | (simp only [alloc_size, upd_size]; done) | (simp only [alloc_size, upd_size]; omega) | fail) only [go_sem, reduceIte, Nat.reduceEqDiff]
  refine s_isNaN.mono ?_
  rintro r H2 ⟨rfl, rfl⟩
  by_cases h : a < b
  · simp (maxSteps := 2000000) (disch := first | omega | assumption | exact idP rfl | exact idP (bL rfl) | (simp only [alloc_size, upd_size]; done) | (simp only [alloc_size, upd_size]; omega) | fail) only [go_sem, reduceIte, Nat.reduceEqDiff, h]
    exact hR _ _ ⟨rfl, by simp [cmpI, h]⟩
  · by_cases h2 : b < a
    · simp (maxSteps := 2000000) (disch := first | omega | assumption | exact idP rfl | exact idP (bL rfl) | (simp only [alloc_size, upd_size]; done) | (simp only [alloc_size, upd_size]; omega) | fail) only [go_sem, reduceIte, Nat.reduceEqDiff, h, h2]
      exact hR _ _ ⟨rfl, by simp [cmpI, h, h2]⟩
    · simp (maxSteps := 2000000) (disch := first | omega | assumption | exact idP rfl | exact idP (bL rfl) | (simp only [alloc_size, upd_size]; done) | (simp only [alloc_size, upd_size]; omega) | fail) only [go_sem, reduceIte, Nat.reduceEqDiff, h, h2]
      exact hR _ _ ⟨rfl, by simp [cmpI, h, h2]⟩
theorem s_Or2 {b : Nat} {x y : Int} (hx : H.get b 0 = some (.int .i64 x)) (hy : H.get b 1 = some (.int .i64 y)) : ACall Try.prog n_cmp_Or_int [.sl (some (b, 0)) 2 2 true 1] H (fun r H' => H' = H ∧ r = .int .i64 (if x ≠ 0 then x else y)) := by
  refine ACall.of fun R hR => a_cmp_Or_int rfl ?_
  simp (maxSteps := 2000000) (disch := first | omega | assumption | exact idP rfl | exact idP (bL rfl) | (simp only [alloc_size, upd_size]; done) | (simp only [alloc_size, upd_size]; omega) | fail) only [go_sem, reduceIte, Nat.reduceEqDiff]
  refine wp_loop_k (fun e H' => H' = H ∧ ∃ (i : Nat), i ≤ 2 ∧ e 3 = .int .i64 0 ∧ e 6 = .sl (some (b, 0)) 2 2 true 1 ∧ e 7 = .int .i64 ((2 : Nat) : Int) ∧ e 8 = .int .i64 (i : Int) ∧ (1 ≤ i → x = 0) ∧ (2 ≤ i → y = 0)) (fun e _ => ctr 2 (e 8)) ?_ ?_
  · exact ⟨rfl, 0, by omega, by simp (maxSteps := 2000000) (disch := first | omega | assumption | exact idP rfl | exact idP (bL rfl) | (simp only [alloc_size, upd_size]; done) | (simp only [alloc_size, upd_size]; omega) | fail) only [go_sem, reduceIte, Nat.reduceEqDiff], by simp (maxSteps := 2000000) (disch := first | omega | assumption | exact idP rfl | exact idP (bL rfl) | (simp only [alloc_size, upd_size]; done) | (simp only [alloc_size, upd_size]; omega) | fail) only [go_sem, reduceIte, Nat.reduceEqDiff], by simp (maxSteps := 2000000) (disch := first | omega | assumption | exact idP rfl | exact idP (bL rfl) | (simp only [alloc_size, upd_size]; done) | (simp only [alloc_size, upd_size]; omega) | fail) only [go_sem, reduceIte, Nat.reduceEqDiff], by simp (maxSteps := 2000000) (disch := first | omega | assumption | exact idP rfl | exact idP (bL rfl) | (simp only [alloc_size, upd_size]; done) | (simp only [alloc_size, upd_size]; omega) | fail) only [go_sem, reduceIte, Nat.reduceEqDiff]; rfl, by omega, by omega⟩
  · rintro e H1 ⟨rfl, i, hi, e3, e6, e7, e8, h1, h2⟩ K hK
    simp (maxSteps := 2000000) (disch := first | omega | assumption | exact idP rfl | exact idP (bL rfl) | (simp only [alloc_size, upd_size]; done) | (simp only [alloc_size, upd_size]; omega) | fail) only [go_sem, reduceIte, Nat.reduceEqDiff, e7, e8]
    refine condV_dec (fun h => ?_) (fun h => ?_)
    · obtain ⟨z, hz, hz2⟩ : ∃ z, H1.get b i = some (.int .i64 z) ∧ (i = 0 → z = x) ∧ (i = 1 → z = y) := by
        rcases (show i = 0 ∨ i = 1 by omega) with rfl | rfl
        · exact ⟨x, hx, fun _ => rfl, fun h => by omega⟩
        · exact ⟨y, hy, fun h => by omega, fun _ => rfl⟩
      simp (maxSteps := 2000000) (disch := first | omega | assumption | exact idP rfl | exact idP (bL rfl) | (simp only [alloc_size, upd_size]; done) | (simp only [alloc_size, upd_size]; omega) | fail) only [go_sem, reduceIte, Nat.reduceEqDiff, e3, e6, e8, hz]
      by_cases hz0 : z = 0
      · simp (maxSteps := 2000000) (disch := first | omega | assumption | exact idP rfl | exact idP (bL rfl) | (simp only [alloc_size, upd_size]; done) | (simp only [alloc_size, upd_size]; omega) | fail) only [go_sem, reduceIte, Nat.reduceEqDiff, hz0, e8]
        exact hK _ _ ⟨rfl, i + 1, by omega, by simp (maxSteps := 2000000) (disch := first | omega | assumption | exact idP rfl | exact idP (bL rfl) | (simp only [alloc_size, upd_size]; done) | (simp only [alloc_size, upd_size]; omega) | fail) only [go_sem, reduceIte, Nat.reduceEqDiff, e3], by simp (maxSteps := 2000000) (disch := first | omega | assumption | exact idP rfl | exact idP (bL rfl) | (simp only [alloc_size, upd_size]; done) | (simp only [alloc_size, upd_size]; omega) | fail) only [go_sem, reduceIte, Nat.reduceEqDiff, e6], by simp (maxSteps := 2000000) (disch := first | omega | assumption | exact idP rfl | exact idP (bL rfl) | (simp only [alloc_size, upd_size]; done) | (simp only [alloc_size, upd_size]; omega) | fail) only [go_sem, reduceIte, Nat.reduceEqDiff, e7], by simp (maxSteps := 2000000) (disch := first | omega | assumption | exact idP rfl | exact idP (bL rfl) | (simp only [alloc_size, upd_size]; done) | (simp only [alloc_size, upd_size]; omega) | fail) only [go_sem, reduceIte, Nat.reduceEqDiff]; rfl, fun _ => by
          by_cases h0 : i = 0
          · rw [← hz2.1 h0]; exact hz0
          · exact h1 (by omega), fun _ => by rw [← hz2.2 (by omega)]; exact hz0⟩ (by simp (maxSteps := 2000000) (disch := first | omega | assumption | exact idP rfl | exact idP (bL rfl) | (simp only [alloc_size, upd_size]; done) | (simp only [alloc_size, upd_size]; omega) | fail) only [go_sem, reduceIte, Nat.reduceEqDiff, ctr_int, e8]; omega)
      · simp (maxSteps := 2000000) (disch := first | omega | assumption | exact idP rfl | exact idP (bL rfl) | (simp only [alloc_size, upd_size]; done) | (simp only [alloc_size, upd_size]; omega) | fail) only [go_sem, reduceIte, Nat.reduceEqDiff, hz0]
        refine hR _ _ ⟨rfl, ?_⟩
        rcases (show i = 0 ∨ i = 1 by omega) with rfl | rfl
        · obtain rfl := hz2.1 rfl; simp [hz0]
        · obtain rfl := hz2.2 rfl; simp [h1 (by omega)]
    · simp (maxSteps := 2000000) (disch := first | omega | assumption | exact idP rfl | exact idP (bL rfl) | (simp only [alloc_size, upd_size]; done) | (simp only [alloc_size, upd_size]; omega) | fail) only [go_sem, reduceIte, Nat.reduceEqDiff, e3]
      exact hR _ _ ⟨rfl, by simp [h1 (by omega), h2 (by omega)]⟩
def cmpL (a b : Int) : Int := if cmpI a.natAbs b.natAbs ≠ 0 then cmpI a.natAbs b.natAbs else cmpI a b
theorem s_clauseOf1 {a b : Int} (ha : -9223372036854775808 < a ∧ a ≤ 9223372036854775807) (hb : -9223372036854775808 < b ∧ b ≤ 9223372036854775807) :
    ACall Try.prog n_impl_clauseOf_1 [.int .i64 a, .int .i64 b] H (fun r H' => Le H H' ∧ r = .int .i64 (cmpL a b)) := by
  refine ACall.of fun R hR => a_impl_clauseOf_1 rfl ?_
  simp (maxSteps := 2000000) (disch := first | omega | assumption | exact idP rfl | exact idP (bL rfl) | (simp only [alloc_size, upd_size]; done) | (simp only [alloc_size, upd_size]; omega) | fail) only [go_sem, reduceIte, Nat.reduceEqDiff]
  refine (s_atomOf ha.1 ha.2).mono ?_
  rintro r H1 ⟨rfl, rfl⟩
  simp (maxSteps := 2000000) (disch := first | omega | assumption | exact idP rfl | exact idP (bL rfl) | (simp only [alloc_size, upd_size]; done) | (simp only [alloc_size, upd_size]; omega) | fail) only [go_sem, reduceIte, Nat.reduceEqDiff]
  refine (s_atomOf hb.1 hb.2).mono ?_
  rintro r H2 ⟨rfl, rfl⟩
  simp (maxSteps := 2000000) (disch := first | omega | assumption | exact idP rfl | exact idP (bL rfl) | (simp only [alloc_size, upd_size]; done) | (simp only [alloc_size, upd_size]; omega) | fail) only [go_sem, reduceIte, Nat.reduceEqDiff]
  refine s_Compare.mono ?_
  rintro r H3 ⟨rfl, rfl⟩
  simp (maxSteps := 2000000) (disch := first | omega | assumption | exact idP rfl | exact idP (bL rfl) | (simp only [alloc_size, upd_size]; done) | (simp only [alloc_size, upd_size]; omega) | fail) only [go_sem, reduceIte, Nat.reduceEqDiff]
  refine s_Compare.mono ?_
  rintro r H4 ⟨rfl, rfl⟩
  have z2 : zeros [.int .i64 0] 2 = [.int .i64 0, .int .i64 0] := rfl
  simp (maxSteps := 2000000) (disch := first | omega | assumption | exact idP rfl | exact idP (bL rfl) | (simp only [alloc_size, upd_size]; done) | (simp only [alloc_size, upd_size]; omega) | fail) only [go_sem, reduceIte, Nat.reduceEqDiff, z2]
  refine (s_Or2 (x := cmpI (a.natAbs : Int) (b.natAbs : Int)) (y := cmpI a b) (by simp (maxSteps := 2000000) (disch := first | omega | assumption | exact idP rfl | exact idP (bL rfl) | (simp only [alloc_size, upd_size]; done) | (simp only [alloc_size, upd_size]; omega) | fail) only [go_sem, reduceIte, Nat.reduceEqDiff]) (by simp (maxSteps := 2000000) (disch := first | omega | assumption | exact idP rfl | exact idP (bL rfl) | (simp only [alloc_size, upd_size]; done) | (simp only [alloc_size, upd_size]; omega) | fail) only [go_sem, reduceIte, Nat.reduceEqDiff])).mono ?_
  rintro r H5 ⟨rfl, rfl⟩
  simp (maxSteps := 2000000) (disch := first | omega | assumption | exact idP rfl | exact idP (bL rfl) | (simp only [alloc_size, upd_size]; done) | (simp only [alloc_size, upd_size]; omega) | fail) only [go_sem, reduceIte, Nat.reduceEqDiff]
  exact hR _ _ ⟨Le.alloc _ _, rfl⟩
theorem app_full {by_ n k : Nat} {A : AA} {xs : List Int} {y : Int} {K : AV → Heap → Prop} (hv : IsI H (.sl A n n true k) xs) (hl : xs.length ≤ 1048576) (hby : by_ ≤ 16)
    (hk : ∀ s' H', Own 1 H' s' ((xs ++ [y]).map (AV.int .i64)) → Le H (base H' s') → newer H.size s' → K s' H') : appP 1 by_ (.sl A n n true k) (.sl (some (H.size, 0)) 1 1 true 1) (H.alloc [.int .i64 y]) K := by
  obtain ⟨hn, hrd⟩ := hv.rd
  subst hn
  have hld : loadN (H.alloc [.int .i64 y]) A.b A.o (xs.length * 1) = some (xs.map (AV.int .i64)) := by
    have := (hrd.le (Le.alloc H [.int .i64 y])).loadN
    rwa [List.length_map, ← Nat.mul_one xs.length] at this
  have hnew : loadN (H.alloc [.int .i64 y]) H.size 0 (1 * 1) = some [.int .i64 y] := by
    have := (Rd.blk (H := H.alloc [.int .i64 y]) (b := H.size) (Nat.lt_succ_self _) (alloc_new _ _)).loadN
    simpa using this
  unfold appP
  simp only [AA.b_some, AA.o_some, hnew]
  rw [if_neg (by omega), if_neg (by omega)]
  refine ⟨?_, by simp [mostCells]; omega, ?_⟩
  · have : (xs.length + 1) * by_ ≤ (xs.length + 1) * 16 := Nat.mul_le_mul_left _ hby
    simp only [mostCells]; omega
  · simp only [if_true, hld]
    refine hk _ _ ?_ ?_ ?_
    · rw [List.map_append]
      exact Own.new (by simp)
    · exact ((Le.alloc H [.int .i64 y]).trans (Le.alloc _ _)).killFresh (Nat.le_succ _)
    · exact Nat.le_succ _
theorem s_Clip {A : AA} {n c k : Nat} {ex : Bool} {xs : List Int} (hv : IsI H (.sl A n c ex k) xs) (hl : xs.length ≤ 1048576) (hc : n ≤ c) (hex : ex = true ∨ 0 < n) (hk : k = 1 ∨ True) :
    ACall Try.prog n_slices_Clip_Sint_int [.sl A n c ex k] H (fun r H' => H' = H ∧ ∃ A' k', r = .sl A' n n true k' ∧ IsI H r xs) := by
  refine ACall.of fun R hR => a_slices_Clip_Sint_int rfl ?_
  obtain ⟨hn, hrd⟩ := hv.rd
  subst hn
  simp (maxSteps := 2000000) (disch := first | omega | assumption | exact idP rfl | exact idP (bL rfl) | (simp only [alloc_size, upd_size]; done) | (simp only [alloc_size, upd_size]; omega) | fail) only [go_sem, reduceIte, Nat.reduceEqDiff]
  have e : slcF 1 none (some (.int .i64 (xs.length : Int))) (some (.int .i64 (xs.length : Int))) (.sl A xs.length c ex k) = some (.sl (if xs.length = 0 then A else some (A.b, A.o + 0 * 1)) xs.length xs.length true k) := by
    have c1 : (0 : Int) ≤ xs.length ∧ (xs.length : Int) ≤ (c : Int) := by omega
    have c2 : (0 : Int) ≤ xs.length ∧ (xs.length : Int) ≤ (xs.length : Int) := by omega
    have b1 : bnds xs.length c none (some (.int .i64 (xs.length : Int))) (some (.int .i64 (xs.length : Int))) = some (0, xs.length, xs.length) := by
      simp only [bnds, natIn, if_pos c1, if_pos c2, Int.toNat_natCast]
    simp only [slcF, b1]
    rw [if_neg (by simp)]
    simp
  simp (maxSteps := 2000000) (disch := first | omega | assumption | exact idP rfl | exact idP (bL rfl) | (simp only [alloc_size, upd_size]; done) | (simp only [alloc_size, upd_size]; omega) | fail) only [go_sem, reduceIte, Nat.reduceEqDiff, e]
  refine hR _ _ ⟨rfl, _, k, rfl, ?_⟩
  refine ⟨_, xs.length, true, k, rfl, fun i hi => ⟨[.int .i64 xs[i]], rfl, ?_, rfl⟩⟩
  intro j z hj
  cases j with
  | zero =>
    simp at hj; subst hj
    have := hrd i (.int .i64 xs[i]) (by simp [hi])
    rw [if_neg (by omega)]
    simpa using this
  | succ j => simp at hj
end Go.M2

namespace Go.M2
open Go.Proofs
variable {H : Heap}
theorem s_Clone {A : AA} {n c k : Nat} {ex : Bool} {xs : List Int} (hv : IsI H (.sl A n c ex k) xs) (hl : xs.length ≤ 1048576) (hA : A = none → xs = []) :
    ACall Try.prog n_slices_Clone_Sint_int [.sl A n c ex k] H (fun r H' => Own 1 H' r (xs.map (AV.int .i64)) ∧ Le H (base H' r) ∧ newer H.size r) := by
  refine ACall.of fun R hR => a_slices_Clone_Sint_int rfl ?_
  obtain ⟨hn, hrd⟩ := hv.rd
  cases A with
  | none =>
    obtain rfl := hA rfl
    simp (maxSteps := 2000000) (disch := first | omega | assumption | exact idP rfl | exact idP (bL rfl) | (simp only [alloc_size, upd_size]; done) | (simp only [alloc_size, upd_size]; omega) | fail) only [go_sem, reduceIte, Nat.reduceEqDiff]
    exact hR _ _ ⟨Own.nil, Le.refl _, trivial⟩
  | some p =>
    obtain ⟨b, o⟩ := p
    simp (maxSteps := 2000000) (disch := first | omega | assumption | exact idP rfl | exact idP (bL rfl) | (simp only [alloc_size, upd_size]; done) | (simp only [alloc_size, upd_size]; omega) | fail) only [go_sem, reduceIte, Nat.reduceEqDiff]
    refine app_own (sz := 1) (by omega) (Own.new (l := []) (n := 0) rfl) (hrd.le (Le.alloc _ _)) (by simp [hn]) (by simp [List.all_map, oneA]) (by simp [mostCells]; omega) (by simp [mostCells]; omega) ?_
    intro s H2 hs hle hn2
    simp (maxSteps := 2000000) (disch := first | omega | assumption | exact idP rfl | exact idP (bL rfl) | (simp only [alloc_size, upd_size]; done) | (simp only [alloc_size, upd_size]; omega) | fail) only [go_sem, reduceIte, Nat.reduceEqDiff]
    refine hR _ _ ⟨by simpa using hs, ?_, hn2 _ (Nat.le_succ _) (Nat.le_refl _)⟩
    exact ((Le.alloc H []).killFresh (Nat.le_refl _)).trans hle
theorem setAt_all : ∀ (l z pre : List AV), z.length = l.length → setAt (pre ++ z) pre.length l = pre ++ l
  | [], z, pre, h => by
    have : z = [] := List.eq_nil_of_length_eq_zero (by simpa using h)
    subst this; rfl
  | x :: t, [], pre, h => by simp at h
  | x :: t, y :: u, pre, h => by
    simp only [setAt]
    have e1 : (pre ++ y :: u).set pre.length x = (pre ++ [x]) ++ u := by simp
    have e2 : pre.length + 1 = (pre ++ [x]).length := by simp
    rw [e1, e2, setAt_all t u (pre ++ [x]) (by simpa using h)]
    simp
theorem s_implClone {A : AA} {n c k : Nat} {ex : Bool} {xs : List Int} (hv : IsI H (.sl A n c ex k) xs) (hl : xs.length ≤ 1048576) :
    ACall Try.prog n_impl_clone_int [.sl A n c ex k] H (fun r H' => Own 1 H' r (xs.map (AV.int .i64)) ∧ Le H (base H' r) ∧ newer H.size r) := by
  refine ACall.of fun R hR => a_impl_clone_int rfl ?_
  obtain ⟨hn, hrd⟩ := hv.rd
  subst hn
  simp (maxSteps := 2000000) (disch := first | omega | assumption | exact idP rfl | exact idP (bL rfl) | (simp only [alloc_size, upd_size]; done) | (simp only [alloc_size, upd_size]; omega) | fail) only [go_sem, reduceIte, Nat.reduceEqDiff]
  refine condV_dec (fun h => ?_) (fun h => ?_)
  · have : xs = [] := List.eq_nil_of_length_eq_zero (by omega)
    subst this
    simp (maxSteps := 2000000) (disch := first | omega | assumption | exact idP rfl | exact idP (bL rfl) | (simp only [alloc_size, upd_size]; done) | (simp only [alloc_size, upd_size]; omega) | fail) only [go_sem, reduceIte, Nat.reduceEqDiff]
    exact hR _ _ ⟨Own.nil, Le.refl _, trivial⟩
  · simp (maxSteps := 2000000) (disch := first | omega | assumption | exact idP rfl | exact idP (bL rfl) | (simp only [alloc_size, upd_size]; done) | (simp only [alloc_size, upd_size]; omega) | fail) only [go_sem, reduceIte, Nat.reduceEqDiff]
    refine mks_own (by omega) (by simp [mostCells]; omega) (by simp [mostCells]; omega) ?_
    simp (maxSteps := 2000000) (disch := first | omega | assumption | exact idP rfl | exact idP (bL rfl) | (simp only [alloc_size, upd_size]; done) | (simp only [alloc_size, upd_size]; omega) | fail) only [go_sem, reduceIte, Nat.reduceEqDiff]
    have hld : loadN (H.alloc (zeros [.int .i64 0] xs.length)) A.b A.o xs.length = some (xs.map (AV.int .i64)) := by
      have := (hrd.le (Le.alloc H (zeros [.int .i64 0] xs.length))).loadN
      rw [List.length_map] at this
      exact this
    unfold copyP
    simp only [AA.b_some, AA.o_some, Nat.min_self, Nat.mul_one, hld]
    rw [if_neg (by omega), rw_alloc_new rfl]
    refine ⟨by simp [List.all_map, oneA], by rw [zeros_len rfl]; omega, ?_⟩
    have hz := setAt_all (xs.map (AV.int .i64)) (zeros [.int .i64 0] xs.length) [] (by rw [zeros_len rfl]; simp)
    simp only [List.nil_append, List.length_nil] at hz
    rw [hz]
    simp (maxSteps := 2000000) (disch := first | omega | assumption | exact idP rfl | exact idP (bL rfl) | (simp only [alloc_size, upd_size]; done) | (simp only [alloc_size, upd_size]; omega) | fail) only [go_sem, reduceIte, Nat.reduceEqDiff]
    refine hR _ _ ⟨⟨some (H.size, 0), xs.length, true, 1, rfl, by simp, fun h => (nomatch h), fun b o e => ?_⟩, ?_, Nat.le_refl _⟩
    · cases e; exact ⟨rfl, rfl, Nat.lt_succ_self _, upd_blk_same'⟩
    · show Le H ((_ : Heap).kill H.size)
      exact (((Le.alloc H _).updFresh (Nat.le_refl _))).killFresh (Nat.le_refl _)
end Go.M2

namespace Go.M2
open Go.Proofs Go.Shelf Go.Sort
variable {w0 w : World} {ρ : Nat → BI} {H : Heap}
structure LitS where
  val : Int
  ok : -9223372036854775808 < val ∧ val ≤ 9223372036854775807
theorem LitS.ext' {x y : LitS} (h : x.1 = y.1) : x = y := by
  cases x; cases y; simp only at h; subst h; rfl
instance : Inhabited LitS := ⟨⟨0, by omega, by omega⟩⟩
def encL (x : LitS) : Value := .int .i64 x.1
def eaL (x : LitS) : AV := .int .i64 x.1
def cfL (x y : LitS) : Int := cmpL x.1 y.1
theorem ltL_iff {x y : LitS} : ltOf cfL x y = true ↔ x.1.natAbs < y.1.natAbs ∨ (x.1.natAbs = y.1.natAbs ∧ x.1 < y.1) := by
  unfold ltOf cfL cmpL cmpI
  rw [decide_eq_true_eq]
  by_cases h1 : (x.1.natAbs : Int) < (y.1.natAbs : Int)
  · simp [h1]; omega
  · by_cases h2 : (y.1.natAbs : Int) < (x.1.natAbs : Int)
    · simp [h1, h2]; omega
    · by_cases h3 : x.1 < y.1
      · simp [h1, h2, h3]; omega
      · by_cases h4 : y.1 < x.1
        · simp [h1, h2, h3, h4]; omega
        · simp [h1, h2, h3, h4]; omega
theorem ltL_false {x y : LitS} : ltOf cfL x y = false ↔ ¬ (x.1.natAbs < y.1.natAbs ∨ (x.1.natAbs = y.1.natAbs ∧ x.1 < y.1)) := by
  rw [← ltL_iff]; simp
theorem swoL : SWO (ltOf cfL) where
  irrefl x := by rw [ltL_false]; omega
  trans x y z h1 h2 := by rw [ltL_iff] at h1 h2 ⊢; omega
  ntrans x y z h1 h2 := by rw [ltL_false] at h1 h2 ⊢; omega
theorem totL (x y : LitS) (h1 : ltOf cfL x y = false) (h2 : ltOf cfL y x = false) : x = y := by
  rw [ltL_false] at h1 h2
  exact LitS.ext' (by omega)
theorem HI.growB : ∀ (l : List Obj) {w : World}, HI w0 ρ H w → HI w0 ρ H (Sort.grow w l.toArray) ∧ Evol ρ H w ρ H (Sort.grow w l.toArray)
  | [], w, h => by
    have e : Sort.grow w ([] : List Obj).toArray = w := Sort.grow_empty w
    rw [e]; exact ⟨h, Evol.refl _ _ _⟩
  | o :: t, w, h => by
    have e : Sort.grow w (o :: t).toArray = Sort.grow (w.alloc o) t.toArray := by
      rw [Sort.alloc_eq_grow, Sort.grow_grow]
      congr 1
      simp
    rw [e]
    obtain ⟨h1, h2⟩ := HI.growB t (h.grow o)
    exact ⟨h1, (Evol.grow ρ H w o).trans h2⟩
theorem take_set_dropB {α : Type} {ys zs : List α} (hl : ys.length = zs.length) {k : Nat} (hk : k < ys.length) : (ys.take k ++ zs.drop k).set k ys[k] = ys.take (k + 1) ++ zs.drop (k + 1) := by
  rw [List.set_append_right _ _ (by simp; omega), List.length_take, Nat.min_eq_left (by omega), Nat.sub_self, List.drop_eq_getElem_cons (by omega : k < zs.length), List.set_cons_zero, List.take_succ_eq_append_getElem hk, List.append_assoc]
  rfl
theorem HI.putL {b : Nat} {zs : List LitS} {rest : List AV} (h : HI w0 ρ H w) (hb : b < H.size) (hblk : H.blk b = .cells (zs.map eaL ++ rest) true) {ys : List LitS} (hl : ys.length = zs.length) :
    ∀ k, k ≤ ys.length → HI w0 ρ (H.upd b (.cells ((ys.take k ++ zs.drop k).map eaL ++ rest) true)) (Sort.putRow encL w (ρ b).blk (ρ b).off (ys.take k ++ zs.drop k).toArray) ∧
      Evol ρ H w ρ (H.upd b (.cells ((ys.take k ++ zs.drop k).map eaL ++ rest) true)) (Sort.putRow encL w (ρ b).blk (ρ b).off (ys.take k ++ zs.drop k).toArray)
  | 0, _ => by
    simp only [List.take_zero, List.drop_zero, List.nil_append]
    have e : H.upd b (.cells (zs.map eaL ++ rest) true) = H := by
      cases H with
      | mk n f =>
        simp only [Heap.upd, Heap.mk.injEq, true_and]
        funext b'
        split
        · rename_i e; subst e; exact hblk.symm
        · rfl
    obtain ⟨o1, o2, cs, t, o3, o4⟩ := h.own b _ hb hblk
    have e2 : Sort.putRow encL w (ρ b).blk (ρ b).off zs.toArray = w := by
      refine Sort.mapBlock_id w _ _ fun c e fr hc => ?_
      rw [o3] at hc
      cases hc
      apply Array.ext_getElem?
      intro k
      simp only [Sort.putCells, Array.getElem?_mapIdx]
      cases hk : cs[k]? with
      | none => rfl
      | some y =>
        simp only [Option.map_some]
        split
        · rename_i hr
          obtain ⟨r1, r2⟩ := hr
          have hz : k - (ρ b).off < zs.length := by simpa using (by omega : k - (ρ b).off < zs.toArray.size)
          obtain ⟨v, hv, hr⟩ := h.cell b _ true hb hblk (k - (ρ b).off) (eaL (zs[k - (ρ b).off]'hz)) (by
            rw [List.getElem?_append_left (by simpa using hz)]; simp [hz])
          rw [show (ρ b).off + (k - (ρ b).off) = k by omega] at hv
          simp only [World.cell?, o3] at hv
          have hv : cs[k]? = some v := by simpa using hv
          rw [hk] at hv
          cases hv
          cases hr
          rw [getElem!_pos _ _ (by simpa using hz)]
          simp [encL]
        · rfl
    rw [e, e2]; exact ⟨h, Evol.refl _ _ _⟩
  | k + 1, hk => by
    obtain ⟨h1, h2⟩ := HI.putL h hb hblk hl k (by omega)
    have hk' : k < ys.length := hk
    have hsz := (h1.own b _ hb (Heap.upd_blk_same _ _ _)).2.1
    have hst := take_set_dropB hl hk'
    have hlen : (ys.take k ++ zs.drop k).length = ys.length := by simp; omega
    have h3 := h1.write (c := ((ys.take k ++ zs.drop k).map eaL ++ rest)) hb (Heap.upd_blk_same _ _ _) k (by simp at hsz; omega) ((ys.take (k + 1) ++ zs.drop (k + 1)).map eaL ++ rest) (by simp at hsz ⊢; omega) (encL ys[k])
      (fun j y hy hj => by
        rw [← hst, List.map_set, ← List.set_append_left _ _ (by simp; omega), List.getElem?_set_ne (by omega)] at hy
        exact hy)
      (fun y hy => by
        rw [← hst, List.map_set, ← List.set_append_left _ _ (by simp; omega), List.getElem?_set_self (by simp; omega)] at hy
        cases hy; exact .int _ _)
    have hd : (ys.take k ++ zs.drop k).toArray.setIfInBounds k ys[k] = (ys.take (k + 1) ++ zs.drop (k + 1)).toArray := by rw [← hst]; simp
    have hp := Sort.putRow_set encL w (ρ b).blk (ρ b).off (ys.take k ++ zs.drop k).toArray k ys[k] (by simp; omega)
    rw [hd] at hp
    obtain ⟨_, _, h4, h5⟩ := h3
    rw [hp, Heap.upd_upd] at h4 h5
    exact ⟨h4, h2.trans h5⟩
theorem grown_of {W w' : World} (hb : Go.RowKit.Below W.heap.size W w') (hm : W.drawn ≤ w'.drawn) : ∃ q os', w' = Sort.grow (W.drewN q) os' := by
  refine ⟨w'.drawn - W.drawn, w'.heap.extract W.heap.size w'.heap.size, ?_⟩
  obtain ⟨b1, b2, b3, b4, b5⟩ := hb
  have hh : w'.heap = W.heap ++ w'.heap.extract W.heap.size w'.heap.size := by
    apply Array.ext_getElem?
    intro i
    by_cases hi : i < W.heap.size
    · rw [b5 i hi, Array.getElem?_append_left hi]
    · rw [Array.getElem?_append_right (by omega), Array.getElem?_extract]
      split
      · congr 1; omega
      · rw [Array.getElem?_eq_none]; omega
  have hd : w'.drawn = W.drawn + (w'.drawn - W.drawn) := by omega
  cases W with
  | mk =>
    cases w' with
    | mk =>
      simp only at b1 b2 b3 hh hd
      subst b1 b2 b3
      simp only [Sort.grow, World.drewN, World.mk.injEq, true_and, and_true]
      first | exact ⟨hh, hd⟩ | exact ⟨hd, hh⟩ | (constructor <;> assumption)
theorem cmpL_lays {blk off size : Nat} {w : World} : CmpLays1 Try.prog n_impl_clauseOf_1 #[] encL cfL blk off size w := by
  intro m os dk hs x y
  generalize sortWorld encL w blk off m dk os = W
  have hi : HI W (fun _ => ⟨0, 0, 0, false⟩) ⟨0, fun _ => .dead⟩ W := ⟨Go.RowKit.Below.refl _ _, fun b h => absurd h (Nat.not_lt_zero _), fun b c h => absurd h (Nat.not_lt_zero _), fun b c r h => absurd h (Nat.not_lt_zero _), fun b c r h => absurd h (Nat.not_lt_zero _), fun b c h => absurd h (Nat.not_lt_zero _), fun b es h => absurd h (Nat.not_lt_zero _), fun b b' h => absurd h (Nat.not_lt_zero _)⟩
  refine ((s_clauseOf1 x.2 y.2).2 W _ W [encL x, encL y] hi ?_).mono ?_
  · refine ⟨rfl, fun i a v h1 h2 => ?_⟩
    match i with
    | 0 => simp at h1 h2; subst h1 h2; exact .int _ _
    | 1 => simp at h1 h2; subst h1 h2; exact .int _ _
    | i + 2 => simp at h1
  · rintro e w' ⟨r, H', ρ', v, rfl, hv, hev, hi', _, rfl⟩
    cases hv
    exact ⟨rfl, grown_of hi'.below hev.mono⟩
def sortS (zs : List LitS) : List LitS := zs.mergeSort fun x y => !(ltOf cfL) y x
theorem sortS_len {zs : List LitS} : (sortS zs).length = zs.length := by simp [sortS]
theorem s_SortFunc {rn : Ren} (Ly : SlLaysF.n6 Try.prog rn) (hcb : callable Try.prog (rn.f 6) = true)
    (eg : ∀ args w, (callFunc n_impl_clauseOf_1 args).run Try.prog w = .ok (.enter n_impl_clauseOf_1 args) w) {b n c : Nat} {ex : Bool} {zs : List LitS} {rest : List AV}
    (hb : H.rwCells b = some (zs.map eaL ++ rest)) (hn : n = zs.length) (h62 : zs.length < 4611686018427387904) :
    ACall Try.prog (rn.f 6) [.sl (some (b, 0)) n c ex 1, .fn n_impl_clauseOf_1 []] H (fun r H' => r = .tup [] ∧ H' = H.upd b (.cells ((sortS zs).map eaL ++ rest) true)) := by
  subst hn
  obtain ⟨hbs, hblk⟩ := Heap.rwCells_blk hb
  refine ⟨hcb, fun w0 ρ w vs hi hvs => ?_⟩
  obtain ⟨v, t, rfl, hv, ht⟩ := hvs.uncons
  obtain ⟨u, t, rfl, hu, ht⟩ := ht.uncons
  have := ht.unnil; subst this
  generalize hq : (AV.sl (some (b, 0)) zs.length c ex 1) = q at hv
  cases hv <;> cases hq
  rename_i c' h1 h2 h3 h4 h5
  cases hu
  rename_i a ha1 ha2
  obtain rfl : a = #[] := by
    have : a.size = 0 := ha1.symm
    exact Array.eq_empty_of_size_eq_zero this
  obtain ⟨o1, o2, cs, t, o3, o4⟩ := hi.own b _ hbs hblk
  have hH : Sort.Holds encL w (ρ b).blk ((ρ b).off + 0) zs.toArray := by
    intro j hj
    have hj : j < zs.length := by simpa using hj
    obtain ⟨v, hv, hr⟩ := hi.cell b _ true hbs hblk j (eaL zs[j]) (by rw [List.getElem?_append_left (by simpa using hj)]; simp [hj])
    cases hr
    refine ⟨?_, by simp [World.frozen?, o3]⟩
    rw [Nat.add_zero, hv, getElem!_pos _ _ (by simpa using hj)]
    simp [encL]
  have hc := Any.slices_SortFunc_total Ly encL (fun _ => rfl) cfL swoL n_impl_clauseOf_1 #[] (ρ b).blk ((ρ b).off + 0) c' zs.toArray w eg cmpL_lays hH (hi.bound b hbs) (by simpa using h62) totL
  refine (show Calls Try.prog (rn.f 6) #[.slice (some ⟨(ρ b).blk, (ρ b).off + 0, none⟩) zs.length c', .func (.func n_impl_clauseOf_1) #[] #[]] w _ from hc).mono ?_
  rintro e w' ⟨rfl, N, os, rfl⟩
  have d1 : HI w0 ρ H (Sort.ahead w N) := hi.drawn _
  have d2 : Evol ρ H w ρ H (Sort.ahead w N) := Evol.drawn ρ H w _
  obtain ⟨p1, p2⟩ := d1.putL hbs hblk (ys := sortS zs) sortS_len (sortS zs).length (Nat.le_refl _)
  have e0 : (sortS zs).take (sortS zs).length ++ zs.drop (sortS zs).length = sortS zs := by rw [List.take_length, sortS_len, List.drop_length, List.append_nil]
  rw [e0] at p1 p2
  obtain ⟨g1, g2⟩ := HI.growB os.toList p1
  refine ⟨.tup [], _, ρ, .tuple #[], rfl, .tup [] #[] rfl (fun i x v h => by simp at h), (d2.trans p2).trans g2, g1, rfl, rfl⟩
theorem s_SortFuncNone {rn : Ren} (Ly : SlLaysF.n6 Try.prog rn) (hcb : callable Try.prog (rn.f 6) = true) {k : Nat} {fv : AV} :
    ACall Try.prog (rn.f 6) [.sl none 0 0 true k, fv] H (fun r H' => r = .tup [] ∧ H' = H) := by
  refine ⟨hcb, fun w0 ρ w vs hi hvs => ?_⟩
  obtain ⟨v, t, rfl, hv, ht⟩ := hvs.uncons
  obtain ⟨u, t, rfl, hu, ht⟩ := ht.uncons
  have := ht.unnil; subst this
  cases hv
  refine (show Calls Try.prog (rn.f 6) #[.slice none 0 0, u] w _ from AnyF.slices_SortFunc_none { Ly with } none 0 u w).mono ?_
  rintro e w' ⟨rfl, rfl⟩
  exact ⟨.tup [], H, ρ, .tuple #[], rfl, .tup [] #[] rfl (fun i x v h => by simp at h), Evol.refl _ _ _, hi, rfl, rfl⟩
end Go.M2

namespace Go.M2
open Go.Proofs Go.Shelf
set_option maxRecDepth 100000
def sortf_ren : Ren := ⟨fun | 6 => 126 | 14 => 139 | 15 => 140 | 20 => 147 | 21 => 148 | 22 => 149 | 23 => 150 | 24 => 151 | 25 => 152 | 26 => 153 | 27 => 154 | 28 => 155 | 29 => 156 | 46 => 158 | 47 => 159 | 48 => 160 | 49 => 161 | 50 => 162 | 57 => 163 | n => n, fun | 0 => 0 | 3 => 3 | 4 => 4 | 5 => 5 | 9 => 9 | 22 => 44 | 24 => 3 | 25 => 122 | 39 => 130 | 45 => 139 | 46 => 140 | 50 => 36 | 53 => 146 | 55 => 148 | 66 => 150 | 70 => 154 | 76 => 156 | 77 => 131 | n => n, fun n => n⟩
theorem laysf : SlLaysF.n6 Try.prog sortf_ren where
  mixed := by kernel_rfl
  f6 := ⟨ "slices.SortFunc[[]int,int]", by kernel_rfl, Try.func126.trans (congrArg some (by kernel_rfl))⟩
  f14 := ⟨ "slices.pdqsortCmpFunc[int]", by kernel_rfl, Try.func139.trans (congrArg some (by kernel_rfl))⟩
  f15 := Try.func140.trans (congrArg some (by kernel_rfl))
  f20 := ⟨ "slices.insertionSortCmpFunc[int]", by kernel_rfl, Try.func147.trans (congrArg some (by kernel_rfl))⟩
  f21 := ⟨ "slices.heapSortCmpFunc[int]", by kernel_rfl, Try.func148.trans (congrArg some (by kernel_rfl))⟩
  f22 := ⟨ "slices.breakPatternsCmpFunc[int]", by kernel_rfl, Try.func149.trans (congrArg some (by kernel_rfl))⟩
  f23 := ⟨ "slices.choosePivotCmpFunc[int]", by kernel_rfl, Try.func150.trans (congrArg some (by kernel_rfl))⟩
  f24 := ⟨ "slices.reverseRangeCmpFunc[int]", by kernel_rfl, Try.func151.trans (congrArg some (by kernel_rfl))⟩
  f25 := ⟨ "slices.partialInsertionSortCmpFunc[int]", by kernel_rfl, Try.func152.trans (congrArg some (by kernel_rfl))⟩
  f26 := ⟨ "slices.partitionEqualCmpFunc[int]", by kernel_rfl, Try.func153.trans (congrArg some (by kernel_rfl))⟩
  f27 := ⟨ "slices.partitionCmpFunc[int]", by kernel_rfl, Try.func154.trans (congrArg some (by kernel_rfl))⟩
  f28 := Try.func155.trans (congrArg some (by kernel_rfl))
  f29 := Try.func156.trans (congrArg some (by kernel_rfl))
  f46 := ⟨ "slices.siftDownCmpFunc[int]", by kernel_rfl, Try.func158.trans (congrArg some (by kernel_rfl))⟩
  f47 := Try.func159.trans (congrArg some (by kernel_rfl))
  f48 := Try.func160.trans (congrArg some (by kernel_rfl))
  f49 := ⟨ "slices.medianAdjacentCmpFunc[int]", by kernel_rfl, Try.func161.trans (congrArg some (by kernel_rfl))⟩
  f50 := ⟨ "slices.medianCmpFunc[int]", by kernel_rfl, Try.func162.trans (congrArg some (by kernel_rfl))⟩
  f57 := ⟨ "slices.order2CmpFunc[int]", by kernel_rfl, Try.func163.trans (congrArg some (by kernel_rfl))⟩
  t0 := Try.underlying0
  a0 := Try.isAgg0
  z0 := Try.sizeOf0
  v0 := Try.zeroValue0
  t3 := Try.underlying3
  a3 := Try.isAgg3
  z3 := Try.sizeOf3
  v3 := Try.zeroValue3
  t4 := Try.underlying4
  a4 := Try.isAgg4
  z4 := Try.sizeOf4
  v4 := Try.zeroValue4
  t5 := Try.underlying5
  a5 := Try.isAgg5
  z5 := Try.sizeOf5
  v5 := Try.zeroValue5
  t9 := Try.underlying9
  a9 := Try.isAgg9
  z9 := Try.sizeOf9
  v9 := Try.zeroValue9
  t22 := Try.underlying44
  a22 := Try.isAgg44
  z22 := Try.sizeOf44
  v22 := Try.zeroValue44
  a24 := Try.isAgg3
  z24 := Try.sizeOf3
  t25 := Try.underlying122
  a25 := Try.isAgg122
  z25 := Try.sizeOf122
  v25 := Try.zeroValue122
  t39 := Try.underlying130
  a39 := Try.isAgg130
  z39 := Try.sizeOf130
  v39 := Try.zeroValue130
  t45 := Try.underlying139
  a45 := Try.isAgg139
  z45 := Try.sizeOf139
  v45 := Try.zeroValue139
  t46 := Try.underlying140
  a46 := Try.isAgg140
  z46 := Try.sizeOf140
  v46 := Try.zeroValue140
  t50 := Try.underlying36
  a50 := Try.isAgg36
  z50 := Try.sizeOf36
  v50 := Try.zeroValue36
  t53 := Try.underlying146
  a53 := Try.isAgg146
  z53 := Try.sizeOf146
  v53 := Try.zeroValue146
  t55 := Try.underlying148
  a55 := Try.isAgg148
  z55 := Try.sizeOf148
  v55 := Try.zeroValue148
  t66 := Try.underlying150
  a66 := Try.isAgg150
  z66 := Try.sizeOf150
  v66 := Try.zeroValue150
  t70 := Try.underlying154
  a70 := Try.isAgg154
  z70 := Try.sizeOf154
  v70 := Try.zeroValue154
  t76 := Try.underlying156
  a76 := Try.isAgg156
  z76 := Try.sizeOf156
  v76 := Try.zeroValue156
  t77 := Try.underlying131
  a77 := Try.isAgg131
  z77 := Try.sizeOf131
  v77 := Try.zeroValue131
variable {H : Heap}
theorem s_SortLits {b n c : Nat} {ex : Bool} {zs : List LitS} {rest : List AV}
    (hb : H.rwCells b = some (zs.map eaL ++ rest)) (hn : n = zs.length) (h62 : zs.length < 4611686018427387904) :
    ACall Try.prog n_slices_SortFunc_Sint_int [.sl (some (b, 0)) n c ex 1, .fn n_impl_clauseOf_1 []] H (fun r H' => r = .tup [] ∧ H' = H.upd b (.cells ((sortS zs).map eaL ++ rest) true)) :=
  s_SortFunc laysf (by kernel_rfl) (enters_of Try.func127 (by kernel_rfl) rfl) hb hn h62
theorem s_SortLitsNone {k : Nat} {fv : AV} : ACall Try.prog n_slices_SortFunc_Sint_int [.sl none 0 0 true k, fv] H (fun r H' => r = .tup [] ∧ H' = H) :=
  s_SortFuncNone laysf (by kernel_rfl)
end Go.M2

namespace Go.M2
open Go.Proofs
variable {H : Heap}
theorem s_CompactId {v : AV} {xs : List Int} (hv : IsI H v xs) (hl : xs.length ≤ 1048576) (hne : ∀ i (h : i < xs.length), 0 < i → xs[i] ≠ xs[i - 1]) :
    ACall Try.prog n_slices_Compact_Sint_int [v] H (fun r H' => r = v ∧ H' = H) := by
  refine ACall.of fun R hR => a_slices_Compact_Sint_int rfl ?_
  obtain ⟨A, c, ex, k, rfl, hr⟩ := hv.parts
  simp (maxSteps := 2000000) (disch := first | omega | assumption | exact idP rfl | exact idP (bL rfl) | (simp only [alloc_size, upd_size]; done) | (simp only [alloc_size, upd_size]; omega) | fail) only [go_sem, reduceIte, Nat.reduceEqDiff]
  refine condV_dec (fun h => ?_) (fun h => ?_)
  · simp (maxSteps := 2000000) (disch := first | omega | assumption | exact idP rfl | exact idP (bL rfl) | (simp only [alloc_size, upd_size]; done) | (simp only [alloc_size, upd_size]; omega) | fail) only [go_sem, reduceIte, Nat.reduceEqDiff]
    exact hR _ _ ⟨rfl, rfl⟩
  · simp (maxSteps := 2000000) (disch := first | omega | assumption | exact idP rfl | exact idP (bL rfl) | (simp only [alloc_size, upd_size]; done) | (simp only [alloc_size, upd_size]; omega) | fail) only [go_sem, reduceIte, Nat.reduceEqDiff]
    refine wp_loop_k (fun e H' => H' = H ∧ ∃ i : Nat, 1 ≤ i ∧ i ≤ xs.length ∧ e 0 = .sl A xs.length c ex k ∧ e 3 = .int .i64 (i : Int)) (fun e _ => ctr xs.length (e 3)) ?_ ?_
    · exact ⟨rfl, 1, by omega, by omega, by simp (maxSteps := 2000000) (disch := first | omega | assumption | exact idP rfl | exact idP (bL rfl) | (simp only [alloc_size, upd_size]; done) | (simp only [alloc_size, upd_size]; omega) | fail) only [go_sem, reduceIte, Nat.reduceEqDiff], by simp (maxSteps := 2000000) (disch := first | omega | assumption | exact idP rfl | exact idP (bL rfl) | (simp only [alloc_size, upd_size]; done) | (simp only [alloc_size, upd_size]; omega) | fail) only [go_sem, reduceIte, Nat.reduceEqDiff]; rfl⟩
    · rintro e H1 ⟨rfl, i, hi1, hi, e0, e3⟩ K hK
      simp (maxSteps := 2000000) (disch := first | omega | assumption | exact idP rfl | exact idP (bL rfl) | (simp only [alloc_size, upd_size]; done) | (simp only [alloc_size, upd_size]; omega) | fail) only [go_sem, reduceIte, Nat.reduceEqDiff, e0, e3]
      refine condV_dec (fun h => ?_) (fun h => ?_)
      · have hi' : i < xs.length := by omega
        have hg := hr i hi'
        have hg2 := hr (i - 1) (by omega)
        rw [Nat.mul_one] at hg hg2
        have hsub : ((i : Int) - 1).toNat = i - 1 := by omega
        simp (maxSteps := 2000000) (disch := first | omega | assumption | exact idP rfl | exact idP (bL rfl) | (simp only [alloc_size, upd_size]; done) | (simp only [alloc_size, upd_size]; omega) | fail) only [go_sem, reduceIte, Nat.reduceEqDiff, e0, e3, hg, hsub, hg2]
        refine condV_dec (fun heq => absurd heq (hne i hi' hi1)) (fun heq => ?_)
        simp (maxSteps := 2000000) (disch := first | omega | assumption | exact idP rfl | exact idP (bL rfl) | (simp only [alloc_size, upd_size]; done) | (simp only [alloc_size, upd_size]; omega) | fail) only [go_sem, reduceIte, Nat.reduceEqDiff, e0, e3]
        exact hK _ _ ⟨rfl, i + 1, by omega, by omega, by simp (maxSteps := 2000000) (disch := first | omega | assumption | exact idP rfl | exact idP (bL rfl) | (simp only [alloc_size, upd_size]; done) | (simp only [alloc_size, upd_size]; omega) | fail) only [go_sem, reduceIte, Nat.reduceEqDiff, e0], by simp (maxSteps := 2000000) (disch := first | omega | assumption | exact idP rfl | exact idP (bL rfl) | (simp only [alloc_size, upd_size]; done) | (simp only [alloc_size, upd_size]; omega) | fail) only [go_sem, reduceIte, Nat.reduceEqDiff]; rfl⟩ (by simp (maxSteps := 2000000) (disch := first | omega | assumption | exact idP rfl | exact idP (bL rfl) | (simp only [alloc_size, upd_size]; done) | (simp only [alloc_size, upd_size]; omega) | fail) only [go_sem, reduceIte, Nat.reduceEqDiff, ctr_int, e3]; omega)
      · simp (maxSteps := 2000000) (disch := first | omega | assumption | exact idP rfl | exact idP (bL rfl) | (simp only [alloc_size, upd_size]; done) | (simp only [alloc_size, upd_size]; omega) | fail) only [go_sem, reduceIte, Nat.reduceEqDiff, e0]
        exact hR _ _ ⟨rfl, rfl⟩
theorem upd_self {b : Nat} {x : Blk} (h : H.blk b = x) : H.upd b x = H := by
  cases H with
  | mk n f =>
    simp only [Heap.upd, Heap.mk.injEq, true_and]
    funext b'
    split
    · rename_i e; subst e; exact h.symm
    · rfl
theorem sortS_asc {zs : List LitS} (h : zs.Pairwise fun x y => x.1.natAbs < y.1.natAbs) : sortS zs = zs := by
  unfold sortS
  refine List.mergeSort_of_pairwise (h.imp fun {x y} hxy => ?_)
  have : Go.Proofs.ltOf cfL y x = false := by rw [ltL_false]; omega
  simp [this]
theorem s_SortAsc {v : AV} {xs : List Int} {n : Nat} (hv : Own 1 H v (xs.map (AV.int .i64))) (hl : xs.length ≤ 1048576) (hn : n ≤ 700) (hx : Lits n xs) (ha : Asc xs) :
    ACall Try.prog n_slices_SortFunc_Sint_int [v, .fn n_impl_clauseOf_1 []] H (fun r H' => r = .tup [] ∧ H' = H) := by
  obtain ⟨A, m, ex, k, rfl, h1, h2, h3⟩ := hv
  have h1 : xs.length = m := by simpa using h1
  cases A with
  | none =>
    obtain ⟨rfl, rfl⟩ := h2 rfl
    exact s_SortLitsNone
  | some p =>
    obtain ⟨b, o⟩ := p
    obtain ⟨rfl, rfl, h4, h5⟩ := h3 b o rfl
    have hr : ∀ x ∈ xs, -9223372036854775808 < x ∧ x ≤ 9223372036854775807 := fun x hx' => by have := hx x hx'; omega
    have ez : (xs.pmap LitS.mk hr : List LitS).map eaL = xs.map (AV.int .i64) := by
      rw [List.map_pmap]
      exact List.pmap_eq_map (f := AV.int .i64) _
    have hasc : (xs.pmap LitS.mk hr : List LitS).Pairwise fun x y => x.1.natAbs < y.1.natAbs := by
      rw [List.pairwise_pmap]
      exact ha.imp fun h _ _ => h
    refine (s_SortLits (zs := xs.pmap LitS.mk hr) (rest := []) (by rw [ez, List.append_nil]; exact rwCells_of h4 h5) (by simp [h1]) (by simp; omega)).mono ?_
    rintro r H' ⟨rfl, rfl⟩
    rw [sortS_asc hasc, ez, List.append_nil]
    exact ⟨rfl, upd_self h5⟩
theorem s_clauseOf {A : AA} {m c k : Nat} {ex : Bool} {xs : List Int} {n : Nat} (hv : IsI H (.sl A m c ex k) xs) (hA : A = none → xs = []) (hl : xs.length ≤ 1048576) (hn : n ≤ 700) (hx : Lits n xs) (ha : Asc xs) :
    ACall Try.prog n_impl_clauseOf [.sl A m c ex k] H (fun r H' => ∃ u, r = .tup [u, .bool true] ∧ Own 1 H' u (xs.map (AV.int .i64)) ∧ Le H (base H' u) ∧ newer H.size u) := by
  refine ACall.of fun R hR => a_impl_clauseOf rfl ?_
  simp (maxSteps := 2000000) (disch := first | omega | assumption | exact idP rfl | exact idP (bL rfl) | (simp only [alloc_size, upd_size]; done) | (simp only [alloc_size, upd_size]; omega) | fail) only [go_sem, reduceIte, Nat.reduceEqDiff]
  refine (s_Clone hv hl hA).mono ?_
  rintro v1 H1 ⟨ho1, hle1, hn1⟩
  simp (maxSteps := 2000000) (disch := first | omega | assumption | exact idP rfl | exact idP (bL rfl) | (simp only [alloc_size, upd_size]; done) | (simp only [alloc_size, upd_size]; omega) | fail) only [go_sem, reduceIte, Nat.reduceEqDiff]
  refine (s_SortAsc ho1 hl hn hx ha).mono ?_
  rintro r H2 ⟨rfl, rfl⟩
  simp (maxSteps := 2000000) (disch := first | omega | assumption | exact idP rfl | exact idP (bL rfl) | (simp only [alloc_size, upd_size]; done) | (simp only [alloc_size, upd_size]; omega) | fail) only [go_sem, reduceIte, Nat.reduceEqDiff]
  have hv1 : IsI H2 v1 xs := ho1.isI
  refine (s_CompactId hv1 hl fun i h h0 e => ?_).mono ?_
  · have := List.pairwise_iff_getElem.1 ha (i - 1) i (by omega) h (by omega)
    rw [e] at this; omega
  rintro r H3 ⟨rfl, rfl⟩
  obtain ⟨A', c', ex', k', rfl, hr⟩ := hv1.parts
  simp (maxSteps := 2000000) (disch := first | omega | assumption | exact idP rfl | exact idP (bL rfl) | (simp only [alloc_size, upd_size]; done) | (simp only [alloc_size, upd_size]; omega) | fail) only [go_sem, reduceIte, Nat.reduceEqDiff]
  refine wp_loop_k (fun e H' => H' = H3 ∧ ∃ i : Nat, 1 ≤ i ∧ (i ≤ xs.length ∨ i = 1) ∧ e 4 = .sl A' xs.length c' ex' k' ∧ e 5 = .int .i64 (i : Int)) (fun e _ => ctr xs.length (e 5)) ?_ ?_
  · exact ⟨rfl, 1, by omega, .inr rfl, by simp (maxSteps := 2000000) (disch := first | omega | assumption | exact idP rfl | exact idP (bL rfl) | (simp only [alloc_size, upd_size]; done) | (simp only [alloc_size, upd_size]; omega) | fail) only [go_sem, reduceIte, Nat.reduceEqDiff], by simp (maxSteps := 2000000) (disch := first | omega | assumption | exact idP rfl | exact idP (bL rfl) | (simp only [alloc_size, upd_size]; done) | (simp only [alloc_size, upd_size]; omega) | fail) only [go_sem, reduceIte, Nat.reduceEqDiff]; rfl⟩
  · rintro e H4 ⟨rfl, i, hi1, hi, e4, e5⟩ K hK
    simp (maxSteps := 2000000) (disch := first | omega | assumption | exact idP rfl | exact idP (bL rfl) | (simp only [alloc_size, upd_size]; done) | (simp only [alloc_size, upd_size]; omega) | fail) only [go_sem, reduceIte, Nat.reduceEqDiff, e4, e5]
    refine condV_dec (fun h => ?_) (fun h => ?_)
    · have hi' : i < xs.length := by omega
      have hg := hr i hi'
      have hg2 := hr (i - 1) (by omega)
      rw [Nat.mul_one] at hg hg2
      have hsub : ((i : Int) - 1).toNat = i - 1 := by omega
      have hb := hx _ (List.getElem_mem (show i - 1 < xs.length by omega))
      simp (maxSteps := 2000000) (disch := first | omega | assumption | exact idP rfl | exact idP (bL rfl) | (simp only [alloc_size, upd_size]; done) | (simp only [alloc_size, upd_size]; omega) | fail) only [go_sem, reduceIte, Nat.reduceEqDiff, e4, e5, hg, hsub, hg2]
      refine condV_dec (fun heq => ?_) (fun heq => ?_)
      · have := List.pairwise_iff_getElem.1 ha (i - 1) i (by omega) hi' (by omega)
        rw [heq] at this; omega
      · simp (maxSteps := 2000000) (disch := first | omega | assumption | exact idP rfl | exact idP (bL rfl) | (simp only [alloc_size, upd_size]; done) | (simp only [alloc_size, upd_size]; omega) | fail) only [go_sem, reduceIte, Nat.reduceEqDiff, e4, e5]
        exact hK _ _ ⟨rfl, i + 1, by omega, .inl (by omega), by simp (maxSteps := 2000000) (disch := first | omega | assumption | exact idP rfl | exact idP (bL rfl) | (simp only [alloc_size, upd_size]; done) | (simp only [alloc_size, upd_size]; omega) | fail) only [go_sem, reduceIte, Nat.reduceEqDiff, e4], by simp (maxSteps := 2000000) (disch := first | omega | assumption | exact idP rfl | exact idP (bL rfl) | (simp only [alloc_size, upd_size]; done) | (simp only [alloc_size, upd_size]; omega) | fail) only [go_sem, reduceIte, Nat.reduceEqDiff]; rfl⟩ (by simp (maxSteps := 2000000) (disch := first | omega | assumption | exact idP rfl | exact idP (bL rfl) | (simp only [alloc_size, upd_size]; done) | (simp only [alloc_size, upd_size]; omega) | fail) only [go_sem, reduceIte, Nat.reduceEqDiff, ctr_int, e5]; omega)
    · simp (maxSteps := 2000000) (disch := first | omega | assumption | exact idP rfl | exact idP (bL rfl) | (simp only [alloc_size, upd_size]; done) | (simp only [alloc_size, upd_size]; omega) | fail) only [go_sem, reduceIte, Nat.reduceEqDiff, e4]
      refine (s_implClone hv1 hl).mono ?_
      rintro u H5 ⟨ho5, hle5, hn5⟩
      simp (maxSteps := 2000000) (disch := first | omega | assumption | exact idP rfl | exact idP (bL rfl) | (simp only [alloc_size, upd_size]; done) | (simp only [alloc_size, upd_size]; omega) | fail) only [go_sem, reduceIte, Nat.reduceEqDiff]
      exact hR _ _ ⟨u, rfl, ho5, (hle1.trans (base_le _ _)).trans hle5, hn5.mono (hle1.trans (base_le _ _)).1⟩
end Go.M2

namespace Go.M2
open Go.Proofs
variable {H : Heap}
@[go_sem] theorem st_bslo {P : Program} {e : Env} {K : AV → Heap → Prop} {a b : Nat} {z : List AV} {p : List (Nat × X)} : stepL P (.bslo a b z p) e H K = bslcP a b (bslF e a (zeros z b) p) H K := idE rfl
theorem mk_givenF : ∀ {xs m : List Int}, Mk m → Mk (givenF xs m)
  | [], m, h => h
  | x :: t, m, h => mk_givenF (xs := t) h.set
theorem mk_given {n : Nat} {xs : List Int} : Mk (given n xs) := mk_givenF fun a h => .inl (by simp)
def dis (u v : AV) : Prop := match v with
  | .sl (some (b, _)) _ _ _ _ => apart b u
  | _ => True
theorem Own.base {sz : Nat} {H : Heap} {u v : AV} {l : List AV} (h : Own sz H u l) (hd : dis u v) : Own sz (base H v) u l := by
  obtain ⟨A, n, ex, k, rfl, h1, h2, h3⟩ := h
  refine ⟨A, n, ex, k, rfl, h1, h2, fun b o e => ?_⟩
  subst e
  obtain ⟨q1, q2, q3, q4⟩ := h3 b o rfl
  refine ⟨q1, q2, by rw [base_size]; exact q3, ?_⟩
  unfold M2.base
  split
  · rename_i b' _ _ _ _ _
    have hne : b ≠ b' := by simpa [dis, apart] using hd
    rw [kill_ne hne]; exact q4
  · exact q4
theorem dis_new {H : Heap} {sz n : Nat} {u v : AV} {l : List AV} (h : Own sz H u l) (hs : H.size ≤ n) (hn : newer n v) : dis u v ∧ dis v u := by
  obtain ⟨A, m, ex, k, rfl, h1, h2, h3⟩ := h
  constructor
  · unfold dis
    split
    · rename_i b _ _ _ _ _
      unfold apart
      split
      · rename_i b' o _ _ _ _ e
        cases e
        have := (h3 b' o rfl).2.2.1
        have hn : n ≤ b := hn
        omega
      · trivial
    · trivial
  · unfold dis
    split
    · rename_i b o _ _ _ _ e
      cases e
      have := (h3 b o rfl).2.2.1
      unfold apart
      split
      · rename_i b' _ _ _ _ _
        have hn : n ≤ b' := hn
        omega
      · trivial
    · trivial
def PLO (lo : Nat) (B H : Heap) (p : AV) (P : List (List Int)) : Prop := Le B (base H p) ∧ lo ≤ B.size ∧ ∃ pc : List AV, Own 1 H p pc ∧ pc.length = P.length ∧ (∀ i (h : i < P.length), ∃ u, pc[i]? = some u ∧ Own 1 B u (P[i].map (AV.int .i64)) ∧ newer lo u ∧ P[i].length ≤ 700) ∧
  ∀ (i j : Nat) (u v : AV), i < j → pc[i]? = some u → pc[j]? = some v → dis u v ∧ dis v u
section
variable {lo : Nat} {B : Heap} {p : AV} {P : List (List Int)}
theorem PLO.own (h : PLO lo B H p P) : ∃ pc, Own 1 H p pc ∧ pc.length = P.length := by
  obtain ⟨_, _, pc, h1, h2, _⟩ := h; exact ⟨pc, h1, h2⟩
theorem PLO.len (h : PLO lo B H p P) : lenF p = some (.int .i64 (P.length : Int)) := by
  obtain ⟨_, _, pc, h1, h2, _⟩ := h
  obtain ⟨A, n, ex, k, rfl, h3, _⟩ := h1
  have : n = P.length := by omega
  subst this; rfl
theorem PLO.one (h : PLO lo B H p P) : oneA p = true ∧ cellsOf p = some [p] := by
  obtain ⟨_, _, pc, h1, _⟩ := h
  obtain ⟨A, n, ex, k, rfl, _⟩ := h1
  exact ⟨rfl, rfl⟩
theorem PLO.le {H' : Heap} (h : PLO lo B H p P) (hl : Le H H') : PLO lo B H' p P := by
  obtain ⟨h0, hs, pc, h1, h2, h3⟩ := h
  exact ⟨h0.trans (base_mono hl p), hs, pc, h1.le hl, h2, h3⟩
theorem PLO.at {B' : Heap} (h : PLO lo B H p P) (hB : Le B B') (hl : Le B' (base H p)) : PLO lo B' H p P := by
  obtain ⟨h0, hs, pc, h1, h2, h3, h4⟩ := h
  refine ⟨hl, Nat.le_trans hs hB.1, pc, h1, h2, fun i hi => ?_, h4⟩
  obtain ⟨u, h4, h5, h6, h7⟩ := h3 i hi
  exact ⟨u, h4, h5.le hB, h6, h7⟩
theorem PLO.upd {b : Nat} {x : Blk} (h : PLO lo B H p P) (ha : apart b p) (hd : B.blk b = .dead) : PLO lo B (H.upd b x) p P := by
  obtain ⟨h0, hs, pc, h1, h2, h3⟩ := h
  refine ⟨by rw [base_upd ha]; exact h0.updDead hd x, hs, pc, ?_, h2, h3⟩
  obtain ⟨A, n, ex, k, rfl, q1, q2, q3⟩ := h1
  refine ⟨A, n, ex, k, rfl, q1, q2, fun b' o e => ?_⟩
  subst e
  obtain ⟨r1, r2, r3, r4⟩ := q3 b' o rfl
  have hne : b' ≠ b := ha
  exact ⟨r1, r2, r3, by rw [upd_blk_ne hne]; exact r4⟩
theorem plo_app {B1 : Heap} {by_ : Nat} {u : AV} {c : List Int} {K : AV → Heap → Prop} (h : PLO lo B H p P) (hB : Le B B1) (hB1 : Le B1 (base H p)) (hu : Own 1 B1 u (c.map (AV.int .i64))) (hun : newer B.size u) (hc7 : c.length ≤ 700) (hb : P.length ≤ 1048576) (hby : by_ ≤ 64)
    (hk : ∀ p' H', PLO lo B1 H' p' (P ++ [c]) → Le (base H p) (base H' p') → K p' H') : appP 1 by_ p (.sl (some (H.size, 0)) 1 1 true 1) (H.alloc [u]) K := by
  obtain ⟨_, hs, pc, h1, h2, h3, h4⟩ := h
  have ho : oneA u = true := by obtain ⟨A, n, ex, k, rfl, _⟩ := hu; rfl
  refine app_own (sz := 1) (by omega) (h1.le (Le.alloc _ _)) (Rd.blk (Nat.lt_succ_self _) (alloc_new _ _)) rfl (by simp [ho]) ?_ (by simp [mostCells]; omega) ?_
  · have : (pc.length + 1) * by_ ≤ (pc.length + 1) * 64 := Nat.mul_le_mul_left _ hby
    simp only [mostCells]; omega
  · intro p' H' q1 q2 _
    have q3 := (base_mono (Le.alloc H [u]) p).trans q2
    have old : ∀ i w, i < P.length → (pc ++ [u])[i]? = some w → pc[i]? = some w := fun i w hi hw => by rwa [List.getElem?_append_left (by omega)] at hw
    have new : ∀ i w, ¬ i < P.length → (pc ++ [u])[i]? = some w → i = P.length ∧ w = u := fun i w hi hw => by
      rw [List.getElem?_append_right (by omega), h2] at hw
      by_cases e : i = P.length
      · subst e; simp at hw; exact ⟨rfl, hw.symm⟩
      · rw [List.getElem?_eq_none (by simp; omega)] at hw; cases hw
    refine hk p' H' ⟨hB1.trans q3, Nat.le_trans hs hB.1, pc ++ [u], q1, by simp [h2], fun i hi => ?_, fun i j w x hij hw hx => ?_⟩ q3
    · by_cases hi2 : i < P.length
      · obtain ⟨w, h4, h5, h6, h7⟩ := h3 i hi2
        refine ⟨w, by rw [List.getElem?_append_left (by omega)]; exact h4, ?_, h6, ?_⟩
        · rw [List.getElem_append_left hi2]; exact h5.le hB
        · rw [List.getElem_append_left hi2]; exact h7
      · have : i = P.length := by simp at hi; omega
        subst this
        refine ⟨u, by rw [List.getElem?_append_right (by omega), h2]; simp, ?_, hun.mono hs, ?_⟩
        · rw [List.getElem_append_right (by omega)]
          simpa using hu
        · rw [List.getElem_append_right (by omega)]
          simpa using hc7
    · by_cases hj2 : j < P.length
      · exact h4 i j w x hij (old i w (by omega) hw) (old j x hj2 hx)
      · obtain ⟨rfl, rfl⟩ := new j x hj2 hx
        obtain ⟨w', r1, r2, _⟩ := h3 i (by omega)
        have hw' := old i w (by omega) hw
        rw [r1] at hw'; cases hw'
        exact dis_new r2 (Nat.le_refl _) hun
end
abbrev underT : IR := .seq (.seq impl_hunt_under_32 impl_hunt_under_35) (.seq impl_hunt_under_36 (.seq (.seq impl_hunt_under_37 impl_hunt_under_45) (.seq impl_hunt_under_46 (.seq impl_hunt_under_47 (.seq impl_hunt_under_48 .ret)))))
set_option maxHeartbeats 4000000 in
theorem under_leaf {lo : Nat} {B : Heap} {e : Env} {hb n d : Nat} {g : List Int} {P : List (List Int)} {fl p gv vals : AV} {R : AV → Heap → Prop} (hn : n ≤ 700) (hasc : Asc g) (hlits : Lits n g) (hlg : g.length ≤ 700) (hP : P.length ≤ 600) (hof : oneA fl = true) (hov : oneA vals = true)
    (e0 : e 0 = .ptr (some (hb, 0))) (e1 : e 1 = gv) (hs : B.size = H.size) (hd : B.blk hb = .dead)
    (w : (base H p).rwCells hb = some [.int .i64 (n : Int), fl, p, .int .i64 (d : Int), vals, .bool false]) (hp : PLO lo B H p P) (hgv : IsI B gv g)
    (hcut : P.length = 600 → R (.bool true) (H.upd hb (.cells [.int .i64 (n : Int), fl, p, .int .i64 (d : Int), vals, .bool true] true)))
    (hno : P.length ≠ 600 → ∀ B' H' p', Nd B B' → PLO lo B' H' p' (P ++ [negs g]) → Le ((base H p).kill hb) (base H' p') → (base H' p').rwCells hb = some [.int .i64 (n : Int), fl, p', .int .i64 (d : Int), vals, .bool false] → R (.bool false) H') :
    wp Try.prog underT (postQ [RV.t 4] R) e H := by
  have w' := (base_le H p).rwCells w
  obtain ⟨hsz, hbk⟩ := Heap.rwCells_blk w'
  have g2 : H.get hb 2 = some p := Rd.blk hsz hbk 2 p rfl
  have hBH : Le B H := hp.1.trans (base_le H p)
  have hpl := hp.len
  have hapb := apart_of w
  unfold underT
  simp (maxSteps := 2000000) (disch := first | omega | assumption | exact idP rfl | exact idP (bL rfl) | (simp only [alloc_size, upd_size]; done) | (simp only [alloc_size, upd_size]; omega) | fail) only [go_sem, reduceIte, Nat.reduceEqDiff, e0, e1, g2, hpl]
  refine condV_dec (fun h6 => ?_) (fun h6 => ?_)
  · simp (maxSteps := 2000000) (disch := first | omega | assumption | exact idP rfl | exact idP (bL rfl) | (simp only [alloc_size, upd_size]; done) | (simp only [alloc_size, upd_size]; omega) | fail) only [go_sem, reduceIte, Nat.reduceEqDiff, e0, w']
    exact hcut (by omega)
  · have hgv' := hgv.le hBH
    obtain ⟨A, c, ex, k, rfl, hr⟩ := hgv'.parts
    simp (maxSteps := 2000000) (disch := first | omega | assumption | exact idP rfl | exact idP (bL rfl) | (simp only [alloc_size, upd_size]; done) | (simp only [alloc_size, upd_size]; omega) | fail) only [go_sem, reduceIte, Nat.reduceEqDiff, e0, e1]
    refine wp_loop_k (fun e H' => ∃ i : Nat, i ≤ g.length ∧ e 0 = .ptr (some (hb, 0)) ∧ e 107 = .sl A g.length c ex k ∧ e 108 = .int .i64 (g.length : Int) ∧ e 109 = .int .i64 (i : Int) ∧ Own 1 H' (e 9) ((negs (g.take i)).map (AV.int .i64)) ∧ Le H (base H' (e 9)) ∧ newer H.size (e 9)) (fun e _ => ctr g.length (e 109)) ?_ ?_
    · exact ⟨0, Nat.zero_le _, by simp (maxSteps := 2000000) (disch := first | omega | assumption | exact idP rfl | exact idP (bL rfl) | (simp only [alloc_size, upd_size]; done) | (simp only [alloc_size, upd_size]; omega) | fail) only [go_sem, reduceIte, Nat.reduceEqDiff, e0], by simp (maxSteps := 2000000) (disch := first | omega | assumption | exact idP rfl | exact idP (bL rfl) | (simp only [alloc_size, upd_size]; done) | (simp only [alloc_size, upd_size]; omega) | fail) only [go_sem, reduceIte, Nat.reduceEqDiff, e1], by simp (maxSteps := 2000000) (disch := first | omega | assumption | exact idP rfl | exact idP (bL rfl) | (simp only [alloc_size, upd_size]; done) | (simp only [alloc_size, upd_size]; omega) | fail) only [go_sem, reduceIte, Nat.reduceEqDiff], by simp (maxSteps := 2000000) (disch := first | omega | assumption | exact idP rfl | exact idP (bL rfl) | (simp only [alloc_size, upd_size]; done) | (simp only [alloc_size, upd_size]; omega) | fail) only [go_sem, reduceIte, Nat.reduceEqDiff]; rfl, by simp (maxSteps := 2000000) (disch := first | omega | assumption | exact idP rfl | exact idP (bL rfl) | (simp only [alloc_size, upd_size]; done) | (simp only [alloc_size, upd_size]; omega) | fail) only [go_sem, reduceIte, Nat.reduceEqDiff]; exact Own.nil, by simp (maxSteps := 2000000) (disch := first | omega | assumption | exact idP rfl | exact idP (bL rfl) | (simp only [alloc_size, upd_size]; done) | (simp only [alloc_size, upd_size]; omega) | fail) only [go_sem, reduceIte, Nat.reduceEqDiff]; exact Le.refl _, by simp (maxSteps := 2000000) (disch := first | omega | assumption | exact idP rfl | exact idP (bL rfl) | (simp only [alloc_size, upd_size]; done) | (simp only [alloc_size, upd_size]; omega) | fail) only [go_sem, reduceIte, Nat.reduceEqDiff]; trivial⟩
    · rintro e H1 ⟨i, hi, e0, e107, e108, e109, ho, hle, hnew⟩ K hK
      simp (maxSteps := 2000000) (disch := first | omega | assumption | exact idP rfl | exact idP (bL rfl) | (simp only [alloc_size, upd_size]; done) | (simp only [alloc_size, upd_size]; omega) | fail) only [go_sem, reduceIte, Nat.reduceEqDiff, e107, e108, e109]
      refine condV_dec (fun h => ?_) (fun h => ?_)
      · have hi' : i < g.length := by omega
        have hg := (hle.trans (base_le _ _)).get (hr i hi')
        rw [Nat.mul_one] at hg
        have hxi := hlits _ (List.getElem_mem hi')
        simp (maxSteps := 2000000) (disch := first | omega | assumption | exact idP rfl | exact idP (bL rfl) | (simp only [alloc_size, upd_size]; done) | (simp only [alloc_size, upd_size]; omega) | fail) only [go_sem, reduceIte, Nat.reduceEqDiff, e107, e109, hg]
        refine app1 ho hle hnew rfl (by simp [negs]; omega) (by omega) ?_
        intro s H2 hs2 hle2 hn2 _
        simp (maxSteps := 2000000) (disch := first | omega | assumption | exact idP rfl | exact idP (bL rfl) | (simp only [alloc_size, upd_size]; done) | (simp only [alloc_size, upd_size]; omega) | fail) only [go_sem, reduceIte, Nat.reduceEqDiff, e109]
        refine hK _ _ ⟨i + 1, by omega, by simp (maxSteps := 2000000) (disch := first | omega | assumption | exact idP rfl | exact idP (bL rfl) | (simp only [alloc_size, upd_size]; done) | (simp only [alloc_size, upd_size]; omega) | fail) only [go_sem, reduceIte, Nat.reduceEqDiff, e0], by simp (maxSteps := 2000000) (disch := first | omega | assumption | exact idP rfl | exact idP (bL rfl) | (simp only [alloc_size, upd_size]; done) | (simp only [alloc_size, upd_size]; omega) | fail) only [go_sem, reduceIte, Nat.reduceEqDiff, e107], by simp (maxSteps := 2000000) (disch := first | omega | assumption | exact idP rfl | exact idP (bL rfl) | (simp only [alloc_size, upd_size]; done) | (simp only [alloc_size, upd_size]; omega) | fail) only [go_sem, reduceIte, Nat.reduceEqDiff, e108], by simp (maxSteps := 2000000) (disch := first | omega | assumption | exact idP rfl | exact idP (bL rfl) | (simp only [alloc_size, upd_size]; done) | (simp only [alloc_size, upd_size]; omega) | fail) only [go_sem, reduceIte, Nat.reduceEqDiff]; rfl, ?_, by simp (maxSteps := 2000000) (disch := first | omega | assumption | exact idP rfl | exact idP (bL rfl) | (simp only [alloc_size, upd_size]; done) | (simp only [alloc_size, upd_size]; omega) | fail) only [go_sem, reduceIte, Nat.reduceEqDiff]; exact hle2, by simp (maxSteps := 2000000) (disch := first | omega | assumption | exact idP rfl | exact idP (bL rfl) | (simp only [alloc_size, upd_size]; done) | (simp only [alloc_size, upd_size]; omega) | fail) only [go_sem, reduceIte, Nat.reduceEqDiff]; exact hn2⟩ (by simp (maxSteps := 2000000) (disch := first | omega | assumption | exact idP rfl | exact idP (bL rfl) | (simp only [alloc_size, upd_size]; done) | (simp only [alloc_size, upd_size]; omega) | fail) only [go_sem, reduceIte, Nat.reduceEqDiff, ctr_int, e109]; omega)
        simp (maxSteps := 2000000) (disch := first | omega | assumption | exact idP rfl | exact idP (bL rfl) | (simp only [alloc_size, upd_size]; done) | (simp only [alloc_size, upd_size]; omega) | fail) only [go_sem, reduceIte, Nat.reduceEqDiff]
        rw [negs_take hi', List.map_append]; exact hs2
      · obtain rfl : i = g.length := by omega
        rw [List.take_length] at ho
        have hoi := ho.isI
        obtain ⟨A2, n2, ex2, k2, e9, q1, q2, q3⟩ := ho
        rw [e9] at hoi hle hnew
        simp (maxSteps := 2000000) (disch := first | omega | assumption | exact idP rfl | exact idP (bL rfl) | (simp only [alloc_size, upd_size]; done) | (simp only [alloc_size, upd_size]; omega) | fail) only [go_sem, reduceIte, Nat.reduceEqDiff, e9]
        refine (s_clauseOf hoi (fun h => ?_) (by simp [negs]; omega) hn (negs_lits hlits) (negs_asc hasc)).mono ?_
        · have := (q2 h).1
          simp only [List.length_map] at q1
          exact List.eq_nil_of_length_eq_zero (by omega)
        rintro r H3 ⟨u, rfl, hu, hle3, hnew3⟩
        have hH1 : Le H H1 := hle.trans (base_le _ _)
        have hH3 : Le H H3 := hH1.trans (hle3.trans (base_le _ _))
        have hnew3' : newer H.size u := hnew3.mono hH1.1
        obtain ⟨pc, hown, hpc⟩ := hp.own
        have g2' := hH3.get g2
        have huo := (hu.later hnew3').le (show Le (H3.later H.size) (B.over H3) by rw [← hs]; exact later_over B H3)
        have hui : IsI (B.over H3) u (negs g) := huo.isI
        have hB1 : Le (B.over H3) (base H3 p) := over_le (hp.1.trans (base_mono hH3 p)) base_size.symm fun b hb => base_blk (apart_fresh hown (by omega))
        have hnd : Nd B (B.over H3) := over_nd (by have := hH3.1; omega)
        have hu1 := oneA_isS hui
        simp (maxSteps := 2000000) (disch := first | omega | assumption | exact idP rfl | exact idP (bL rfl) | (simp only [alloc_size, upd_size]; done) | (simp only [alloc_size, upd_size]; omega) | fail) only [go_sem, reduceIte, Nat.reduceEqDiff, e0, g2', hu1.2]
        refine plo_app (hp.le hH3) hnd.1 hB1 huo (by rw [hs]; exact hnew3') (by simp [negs]; omega) (by omega) (by omega) ?_
        intro p' H4 hp4 hle4
        have b3 := hle4.rwCells ((base_mono hH3 p).rwCells w)
        have a3 := apart_of b3
        have w3' := (base_le H4 p').rwCells b3
        have hp4o := hp4.one.1
        have l3 := (Heap.rwCells_blk w3').1
        have d3 := hnd.2 hb (by rw [hs]; exact hsz) hd
        simp (maxSteps := 2000000) (disch := first | omega | assumption | exact idP rfl | exact idP (bL rfl) | (simp only [alloc_size, upd_size]; done) | (simp only [alloc_size, upd_size]; omega) | fail) only [go_sem, reduceIte, Nat.reduceEqDiff, w3', hp4.one.2]
        refine hno (by omega) (B.over H3) _ p' hnd (hp4.upd a3 d3) ?_ ?_
        · rw [base_upd a3]
          have hL : Le ((base H p).kill hb) (base H4 p') := (Le.kill _ _).trans ((base_mono hH3 p).trans hle4)
          exact hL.updDead (kill_dead _ _) _
        · exact base_rw a3 (by simp (maxSteps := 2000000) (disch := first | omega | assumption | exact idP rfl | exact idP (bL rfl) | (simp only [alloc_size, upd_size]; done) | (simp only [alloc_size, upd_size]; omega) | fail) only [go_sem, reduceIte, Nat.reduceEqDiff])
end Go.M2

namespace Go.M2
open Go.Proofs
variable {H : Heap}
def dnA : AV → Nat
  | .int _ i => i.toNat
  | _ => 0
@[go_sem] theorem dnA_int {k : IntKind} {i : Int} : dnA (.int k i) = i.toNat := idE rfl
def NextOver (m : List Int) (a nx : Nat) : Prop := (nx = 0 ∧ ∀ i (h : i < m.length), a < i → m[i] ≠ 0) ∨ (a < nx ∧ (∃ h : nx < m.length, m[nx] = 0) ∧ ∀ i (h : i < m.length), a < i → i < nx → m[i] ≠ 0)
theorem NextOver.isNext {m : List Int} {nx : Nat} (h : NextOver m 0 nx) : IsNext m nx := by
  rcases h with ⟨h1, h2⟩ | ⟨h1, h2, h3⟩
  · exact .inl ⟨h1, fun i h hi => h2 i h (by omega)⟩
  · exact .inr ⟨h1, h2, fun i h hi => h3 i h (by omega)⟩
def gvOk (gv : AV) (g : List Int) : Prop := ∃ A c ex k, gv = .sl A g.length c ex k ∧ g.length ≤ c ∧ (ex = true ∨ 0 < g.length)
theorem Own.gvOk {H : Heap} {v : AV} {g : List Int} (h : Own 1 H v (g.map (AV.int .i64))) (h0 : 0 < g.length) : gvOk v g := by
  obtain ⟨A, n, ex, k, rfl, h1, _⟩ := h
  have : g.length = n := by simpa using h1
  subst this
  exact ⟨A, g.length, ex, k, rfl, Nat.le_refl _, .inr h0⟩
def UnderPost (cl : List (List Int)) (n : Nat) (g : List Int) (P : List (List Int)) (d : Nat) (lo : Nat) (B H : Heap) (hb : Nat) (fl p vals : AV) (r : AV) (H' : Heap) : Prop :=
  ∃ (res : Res) (P' : List (List Int)) (d' : Nat) (p' w : AV) (ok ct : Bool) (B' : Heap), Try cl n g P d res P' d' ∧ r = .bool ok ∧ Nd B B' ∧ Le ((base H p).kill hb) (base H' p') ∧ (base H' p').rwCells hb = some [.int .i64 (n : Int), fl, p', .int .i64 (d' : Int), w, .bool ct] ∧ (∀ b, H'.size ≤ b → apart b p') ∧ oneA p' = true ∧ oneA w = true ∧
    (res = .no → ct = false ∧ ok = false ∧ PLO lo B' H' p' P' ∧ P'.length ≤ 600 ∧ d' ≤ P'.length + g.length ∧ w = vals) ∧ (res = .cut → ct = true ∧ ok = true) ∧
    (∀ m, res = .sat m → ct = false ∧ ok = true ∧ PLO lo B' H' p' P' ∧ IsI B' w ((m.drop 1).map valF) ∧ ∃ b nn, w = .sl (some (b, 0)) nn nn true 1)
theorem kill_kill (H : Heap) (b : Nat) : (H.kill b).kill b = H.kill b := by
  unfold Heap.kill Heap.upd
  simp only [Heap.mk.injEq, true_and]
  funext i
  split <;> simp_all
attribute [-go_sem] w_impl_hunt_under_32
set_option maxHeartbeats 8000000 in
theorem s_under {xss : List (List Int)} {n lo : Nat} (hn : n ≤ 700) (hl : xss.length ≤ 1048576) (hxl : ∀ xs ∈ xss, xs.length ≤ 1048576) (hx : ∀ xs ∈ xss, Lits n xs) : ∀ (N : Nat) {B H : Heap} {g : List Int} {P : List (List Int)} {d k hb : Nat} {fl p gv vals : AV},
    n - k < N → k ≤ n → Low xss n g k → B.size = H.size → IsII B fl xss → IsI B gv g → gvOk gv g → PLO lo B H p P → P.length ≤ 600 → d ≤ P.length + g.length → B.blk hb = .dead →
    (base H p).rwCells hb = some [.int .i64 (n : Int), fl, p, .int .i64 (d : Int), vals, .bool false] → oneA vals = true →
    ACall Try.prog n_impl_hunt_under [.ptr (some (hb, 0)), gv] H (UnderPost xss n g P d lo B H hb fl p vals) := by
  intro N
  induction N with
  | zero => intro B H g P d k hb fl p gv vals hN; omega
  | succ N ih =>
    intro B H g P d k hb fl p gv vals hN hk hlow hs hfl hgv hgo hp hP hd hdead hw hov
    refine ACall.of fun R hR => a_impl_hunt_under rfl ?_
    have hlen : g.length ≤ k := asc_len hlow.asc (fun x h => (hlow.lits x h).1) hlow.le
    have hBH : Le B H := hp.1.trans (base_le H p)
    have hof : oneA fl = true ∧ cellsOf fl = some [fl] := oneA_isS hfl
    obtain ⟨pc, hown, hpc⟩ := hp.own
    have hof1 := hof.1
    have ahb := apart_of hw
    have w' := (base_le H p).rwCells hw
    obtain ⟨hsz, hbk⟩ := Heap.rwCells_blk w'
    have g0 : H.get hb 0 = some (.int .i64 (n : Int)) := Rd.blk hsz hbk 0 _ rfl
    have g1 : H.get hb 1 = some fl := Rd.blk hsz hbk 1 _ rfl
    obtain ⟨A, c, ex, kk, rfl, hgc, hgx⟩ := hgo
    simp (maxSteps := 2000000) (disch := first | omega | assumption | exact idP rfl | exact idP (bL rfl) | (simp only [alloc_size, upd_size]; done) | (simp only [alloc_size, upd_size]; omega) | fail) only [go_sem, reduceIte, Nat.reduceEqDiff, g0]
    refine (s_signs (hgv.le hBH) (by omega) hn hlow.lits).mono ?_
    rintro r H1 ⟨rfl, hrow⟩
    have g1' := hrow.le'.get g1
    simp (maxSteps := 2000000) (disch := first | omega | assumption | exact idP rfl | exact idP (bL rfl) | (simp only [alloc_size, upd_size]; done) | (simp only [alloc_size, upd_size]; omega) | fail) only [go_sem, reduceIte, Nat.reduceEqDiff, g1']
    refine (s_forced (hfl.le hBH) hl hxl hn hx hrow given_len mk_given).mono ?_
    rintro r H2 ⟨res, hforce, hle2, hb2, hnone, hsome⟩
    have hA2 : Le H (H2.kill H.size) := hrow.le.trans hle2
    have hH2 : Le H H2 := hA2.trans (Le.kill _ _)
    have u := hH2.rwCells w'
    have hsz2 : hb < H2.size := (Heap.rwCells_blk u).1
    have hp2 : PLO lo (B.pad H2.size) H2 p P := (hp.le hH2).at (pad_nd (by omega)).1 (pad_le (hp.1.trans (base_mono hH2 p)) (by rw [base_size]; exact Nat.le_refl _))
    have hnd : Nd B (B.pad H2.size) := pad_nd (by omega)
    have w2 := (base_mono hH2 p).rwCells hw
    have hd2 : (B.pad H2.size).blk hb = .dead := hnd.2 hb (by omega) hdead
    have apF : ∀ (H' : Heap) b, Le H H' → H'.size ≤ b → apart b p := fun H' b hle hb' => apart_fresh hown (Nat.le_trans hle.1 hb')
    cases res with
    | none =>
      obtain rfl := hnone rfl
      simp (maxSteps := 2000000) (disch := first | omega | assumption | exact idP rfl | exact idP (bL rfl) | (simp only [alloc_size, upd_size]; done) | (simp only [alloc_size, upd_size]; omega) | fail) only [go_sem, reduceIte, Nat.reduceEqDiff]
      refine wp_seq'.mp (wp_seq'.mp (under_leaf (B := B.pad H2.size) (d := d) (n := n) hn hlow.asc hlow.lits (by omega) hP hof1 hov ?_ ?_ (pad_size _ _) hd2 w2 hp2 (hgv.le hnd.1) ?_ ?_))
      · simp (maxSteps := 2000000) (disch := first | omega | assumption | exact idP rfl | exact idP (bL rfl) | (simp only [alloc_size, upd_size]; done) | (simp only [alloc_size, upd_size]; omega) | fail) only [go_sem, reduceIte, Nat.reduceEqDiff]
      · simp (maxSteps := 2000000) (disch := first | omega | assumption | exact idP rfl | exact idP (bL rfl) | (simp only [alloc_size, upd_size]; done) | (simp only [alloc_size, upd_size]; omega) | fail) only [go_sem, reduceIte, Nat.reduceEqDiff]
      · intro h6
        refine hR _ _ ⟨.cut, P, d, p, vals, true, true, B.pad H2.size, .confC hforce h6, rfl, hnd, ?_, ?_, fun b hb' => apF _ b hH2 hb', hp.one.1, hov, fun h => (by cases h), fun _ => ⟨rfl, rfl⟩, fun m h => (by cases h)⟩
        · rw [base_upd ahb]
          exact ((Le.kill _ _).trans (base_mono hH2 p)).updDead (kill_dead _ _) _
        · exact base_rw ahb (by simp (maxSteps := 2000000) (disch := first | omega | assumption | exact idP rfl | exact idP (bL rfl) | (simp only [alloc_size, upd_size]; done) | (simp only [alloc_size, upd_size]; omega) | fail) only [go_sem, reduceIte, Nat.reduceEqDiff])
      · intro h6 B' H' p' hn' hp' hle' hw'
        refine hR _ _ ⟨.no, _, d, p', vals, false, false, B', .confN hforce h6, rfl, hnd.trans hn', ?_, hw', fun b hb' => by obtain ⟨_, q, _⟩ := hp'.own; exact apart_fresh q hb', hp'.one.1, hov, fun _ => ⟨rfl, rfl, hp', ?_, ?_, rfl⟩, fun h => (by cases h), fun m h => (by cases h)⟩
        · exact ((base_mono hH2 p).kills hb).trans hle'
        · simp; omega
        · simp; omega
    | some m =>
      obtain ⟨rfl, hrow2, hml, hmk⟩ := hsome m rfl
      have u0 := hH2.get g0
      simp (maxSteps := 2000000) (disch := first | omega | assumption | exact idP rfl | exact idP (bL rfl) | (simp only [alloc_size, upd_size]; done) | (simp only [alloc_size, upd_size]; omega) | fail) only [go_sem, reduceIte, Nat.reduceEqDiff, u0]
      refine wp_loop_k (fun e H' => H2 = H' ∧ ∃ (a nx : Nat), a ≤ n ∧ e 0 = .ptr (some (hb, 0)) ∧ e 1 = .sl A g.length c ex kk ∧ e 5 = .sl (some (H.size, 0)) (n + 1) (n + 1) true 1 ∧ e 6 = .int .i64 (nx : Int) ∧ e 7 = .int .i64 (a : Int) ∧ NextOver m a nx) (fun e _ => dnA (e 7)) ?_ ?_
      · exact ⟨rfl, n, 0, Nat.le_refl _, by simp (maxSteps := 2000000) (disch := first | omega | assumption | exact idP rfl | exact idP (bL rfl) | (simp only [alloc_size, upd_size]; done) | (simp only [alloc_size, upd_size]; omega) | fail) only [go_sem, reduceIte, Nat.reduceEqDiff], by simp (maxSteps := 2000000) (disch := first | omega | assumption | exact idP rfl | exact idP (bL rfl) | (simp only [alloc_size, upd_size]; done) | (simp only [alloc_size, upd_size]; omega) | fail) only [go_sem, reduceIte, Nat.reduceEqDiff], by simp (maxSteps := 2000000) (disch := first | omega | assumption | exact idP rfl | exact idP (bL rfl) | (simp only [alloc_size, upd_size]; done) | (simp only [alloc_size, upd_size]; omega) | fail) only [go_sem, reduceIte, Nat.reduceEqDiff], by simp (maxSteps := 2000000) (disch := first | omega | assumption | exact idP rfl | exact idP (bL rfl) | (simp only [alloc_size, upd_size]; done) | (simp only [alloc_size, upd_size]; omega) | fail) only [go_sem, reduceIte, Nat.reduceEqDiff]; rfl, by simp (maxSteps := 2000000) (disch := first | omega | assumption | exact idP rfl | exact idP (bL rfl) | (simp only [alloc_size, upd_size]; done) | (simp only [alloc_size, upd_size]; omega) | fail) only [go_sem, reduceIte, Nat.reduceEqDiff], .inl ⟨rfl, fun i h1 h2 => by omega⟩⟩
      rintro e _ ⟨rfl, a, nx, ha, e0, e1, e5, e6, e7, hov'⟩ K hK
      simp (maxSteps := 2000000) (disch := first | omega | assumption | exact idP rfl | exact idP (bL rfl) | (simp only [alloc_size, upd_size]; done) | (simp only [alloc_size, upd_size]; omega) | fail) only [go_sem, reduceIte, Nat.reduceEqDiff, e7]
      refine condV_dec (fun h => ?_) (fun h => ?_)
      · have hgm := hrow2.get (i := a) (by simp; omega)
        simp only [List.getElem_map] at hgm
        have e7' := e7
        simp (maxSteps := 2000000) (disch := first | omega | assumption | exact idP rfl | exact idP (bL rfl) | (simp only [alloc_size, upd_size]; done) | (simp only [alloc_size, upd_size]; omega) | fail) only [go_sem, reduceIte, Nat.reduceEqDiff, e5, e7, hgm]
        refine condV_dec (fun h0 => ?_) (fun h0 => ?_)
        · simp (maxSteps := 2000000) (disch := first | omega | assumption | exact idP rfl | exact idP (bL rfl) | (simp only [alloc_size, upd_size]; done) | (simp only [alloc_size, upd_size]; omega) | fail) only [go_sem, reduceIte, Nat.reduceEqDiff, e7]
          refine hK _ _ ⟨rfl, a - 1, a, by omega, by simp (maxSteps := 2000000) (disch := first | omega | assumption | exact idP rfl | exact idP (bL rfl) | (simp only [alloc_size, upd_size]; done) | (simp only [alloc_size, upd_size]; omega) | fail) only [go_sem, reduceIte, Nat.reduceEqDiff, e0], by simp (maxSteps := 2000000) (disch := first | omega | assumption | exact idP rfl | exact idP (bL rfl) | (simp only [alloc_size, upd_size]; done) | (simp only [alloc_size, upd_size]; omega) | fail) only [go_sem, reduceIte, Nat.reduceEqDiff, e1], by simp (maxSteps := 2000000) (disch := first | omega | assumption | exact idP rfl | exact idP (bL rfl) | (simp only [alloc_size, upd_size]; done) | (simp only [alloc_size, upd_size]; omega) | fail) only [go_sem, reduceIte, Nat.reduceEqDiff, e5], by simp (maxSteps := 2000000) (disch := first | omega | assumption | exact idP rfl | exact idP (bL rfl) | (simp only [alloc_size, upd_size]; done) | (simp only [alloc_size, upd_size]; omega) | fail) only [go_sem, reduceIte, Nat.reduceEqDiff], by simp (maxSteps := 2000000) (disch := first | omega | assumption | exact idP rfl | exact idP (bL rfl) | (simp only [alloc_size, upd_size]; done) | (simp only [alloc_size, upd_size]; omega) | fail) only [go_sem, reduceIte, Nat.reduceEqDiff]; rw [show (a : Int) - 1 = ((a - 1 : Nat) : Int) by omega], .inr ⟨by omega, ⟨by omega, sgn_zero.1 h0⟩, fun i h1 h2 h3 => by omega⟩⟩ (by simp (maxSteps := 2000000) (disch := first | omega | assumption | exact idP rfl | exact idP (bL rfl) | (simp only [alloc_size, upd_size]; done) | (simp only [alloc_size, upd_size]; omega) | fail) only [go_sem, reduceIte, Nat.reduceEqDiff, dnA_int, e7']; omega)
        · simp (maxSteps := 2000000) (disch := first | omega | assumption | exact idP rfl | exact idP (bL rfl) | (simp only [alloc_size, upd_size]; done) | (simp only [alloc_size, upd_size]; omega) | fail) only [go_sem, reduceIte, Nat.reduceEqDiff, e7]
          refine hK _ _ ⟨rfl, a - 1, nx, by omega, by simp (maxSteps := 2000000) (disch := first | omega | assumption | exact idP rfl | exact idP (bL rfl) | (simp only [alloc_size, upd_size]; done) | (simp only [alloc_size, upd_size]; omega) | fail) only [go_sem, reduceIte, Nat.reduceEqDiff, e0], by simp (maxSteps := 2000000) (disch := first | omega | assumption | exact idP rfl | exact idP (bL rfl) | (simp only [alloc_size, upd_size]; done) | (simp only [alloc_size, upd_size]; omega) | fail) only [go_sem, reduceIte, Nat.reduceEqDiff, e1], by simp (maxSteps := 2000000) (disch := first | omega | assumption | exact idP rfl | exact idP (bL rfl) | (simp only [alloc_size, upd_size]; done) | (simp only [alloc_size, upd_size]; omega) | fail) only [go_sem, reduceIte, Nat.reduceEqDiff, e5], by simp (maxSteps := 2000000) (disch := first | omega | assumption | exact idP rfl | exact idP (bL rfl) | (simp only [alloc_size, upd_size]; done) | (simp only [alloc_size, upd_size]; omega) | fail) only [go_sem, reduceIte, Nat.reduceEqDiff, e6], by simp (maxSteps := 2000000) (disch := first | omega | assumption | exact idP rfl | exact idP (bL rfl) | (simp only [alloc_size, upd_size]; done) | (simp only [alloc_size, upd_size]; omega) | fail) only [go_sem, reduceIte, Nat.reduceEqDiff]; rw [show (a : Int) - 1 = ((a - 1 : Nat) : Int) by omega], ?_⟩ (by simp (maxSteps := 2000000) (disch := first | omega | assumption | exact idP rfl | exact idP (bL rfl) | (simp only [alloc_size, upd_size]; done) | (simp only [alloc_size, upd_size]; omega) | fail) only [go_sem, reduceIte, Nat.reduceEqDiff, dnA_int, e7']; omega)
          have hma : m[a]'(by omega) ≠ 0 := fun e => h0 (sgn_zero.2 e)
          rcases hov' with ⟨q1, q2⟩ | ⟨q1, q2, q3⟩
          · refine .inl ⟨q1, fun i h1 h2 => ?_⟩
            by_cases e : i = a
            · subst e; exact hma
            · exact q2 i h1 (by omega)
          · refine .inr ⟨by omega, q2, fun i h1 h2 h3 => ?_⟩
            by_cases e : i = a
            · subst e; exact hma
            · exact q3 i h1 (by omega) h3
      obtain rfl : a = 0 := by omega
      have hnext := hov'.isNext
      clear hov' hK
      simp (maxSteps := 2000000) (disch := first | omega | assumption | exact idP rfl | exact idP (bL rfl) | (simp only [alloc_size, upd_size]; done) | (simp only [alloc_size, upd_size]; omega) | fail) only [go_sem, reduceIte, Nat.reduceEqDiff, e6]
      refine condV_dec (fun h0 => ?_) (fun h0 => ?_)
      · -- values for all
        obtain rfl : nx = 0 := by omega
        simp (maxSteps := 2000000) (disch := first | omega | assumption | exact idP rfl | exact idP (bL rfl) | (simp only [alloc_size, upd_size]; done) | (simp only [alloc_size, upd_size]; omega) | fail) only [go_sem, reduceIte, Nat.reduceEqDiff, e0, u0]
        refine mks_own (by omega) (by simp [mostCells]; omega) (by simp [mostCells]; omega) ?_
        have en : (n : Int).toNat = n := Int.toNat_natCast n
        rw [en]
        have hne : H2.size ≠ hb := by omega
        simp (maxSteps := 2000000) (disch := first | omega | assumption | exact idP rfl | exact idP (bL rfl) | (simp only [alloc_size, upd_size]; done) | (simp only [alloc_size, upd_size]; omega) | fail) only [go_sem, reduceIte, Nat.reduceEqDiff, e0, u]
        have rowX : Row (H2.upd hb (.cells [.int .i64 (n : Int), fl, p, .int .i64 (d : Int), .sl (some (H2.size, 0)) n n true 1, .bool false] true)) ((H2.alloc (zeros [.int .i64 0] n)).upd hb (.cells [.int .i64 (n : Int), fl, p, .int .i64 (d : Int), .sl (some (H2.size, 0)) n n true 1, .bool false] true)) H2.size (List.replicate n 0) := by
          refine ⟨Nat.lt_succ_self _, by rw [upd_blk_ne hne, alloc_new, zeros_int], Nat.le_succ _, fun b hb' => .inr ?_⟩
          have hb' : b < H2.size := hb'
          rw [kill_ne (by omega)]
          by_cases hbb : b = hb
          · subst hbb; rw [upd_blk_same', upd_blk_same']
          · rw [upd_blk_ne hbb, upd_blk_ne hbb, alloc_old (by omega)]
        generalize hX : [AV.int .i64 (n : Int), fl, p, .int .i64 (d : Int), .sl (some (H2.size, 0)) n n true 1, .bool false] = X at *
        have sgG : ∀ H', Le (H2.upd hb (.cells X true)) H' → H'.get hb 4 = some (.sl (some (H2.size, 0)) n n true 1) := fun H' hle => hle.get (by rw [get_upd_same hsz2, ← hX]; rfl)
        have hsn : H.size ≠ hb := by omega
        refine wp_loop_k (fun e H' => ∃ (i : Nat) (L : List Int), i ≤ n ∧ e 0 = .ptr (some (hb, 0)) ∧ e 5 = .sl (some (H.size, 0)) (n + 1) (n + 1) true 1 ∧ e 56 = .int .i64 (n : Int) ∧ e 57 = .int .i64 (i : Int) ∧ L.length = n ∧ (∀ j, j < i → L[j]? = ((m.drop 1).map valF)[j]?) ∧ Row (H2.upd hb (.cells X true)) H' H2.size L) (fun e _ => ctr n (e 57)) ?_ ?_
        · exact ⟨0, _, Nat.zero_le _, by simp (maxSteps := 2000000) (disch := first | omega | assumption | exact idP rfl | exact idP (bL rfl) | (simp only [alloc_size, upd_size]; done) | (simp only [alloc_size, upd_size]; omega) | fail) only [go_sem, reduceIte, Nat.reduceEqDiff, e0], by simp (maxSteps := 2000000) (disch := first | omega | assumption | exact idP rfl | exact idP (bL rfl) | (simp only [alloc_size, upd_size]; done) | (simp only [alloc_size, upd_size]; omega) | fail) only [go_sem, reduceIte, Nat.reduceEqDiff, e5], by simp (maxSteps := 2000000) (disch := first | omega | assumption | exact idP rfl | exact idP (bL rfl) | (simp only [alloc_size, upd_size]; done) | (simp only [alloc_size, upd_size]; omega) | fail) only [go_sem, reduceIte, Nat.reduceEqDiff], by simp (maxSteps := 2000000) (disch := first | omega | assumption | exact idP rfl | exact idP (bL rfl) | (simp only [alloc_size, upd_size]; done) | (simp only [alloc_size, upd_size]; omega) | fail) only [go_sem, reduceIte, Nat.reduceEqDiff]; rfl, by simp, fun j h => by omega, rowX⟩
        rintro e H3 ⟨i, L, hi, e0, e5, e56, e57, hL, hLj, hrowL⟩ K hK
        simp (maxSteps := 2000000) (disch := first | omega | assumption | exact idP rfl | exact idP (bL rfl) | (simp only [alloc_size, upd_size]; done) | (simp only [alloc_size, upd_size]; omega) | fail) only [go_sem, reduceIte, Nat.reduceEqDiff, e56, e57]
        refine condV_dec (fun h => ?_) (fun h => ?_)
        · have hgm := hrow2.get (i := i + 1) (by simp; omega)
          simp only [List.getElem_map] at hgm
          have hgm' := hrowL.le'.get (b := H.size) (o := i + 1) (by rw [get_upd_ne hsn]; exact hgm)
          have v4' := sgG _ hrowL.le'
          have et : ((i : Int) + 1).toNat = i + 1 := by omega
          have e57' := e57
          simp (maxSteps := 2000000) (disch := first | omega | assumption | exact idP rfl | exact idP (bL rfl) | (simp only [alloc_size, upd_size]; done) | (simp only [alloc_size, upd_size]; omega) | fail) only [go_sem, reduceIte, Nat.reduceEqDiff, e0, e5, e57, v4', et, hgm']
          refine s_bit.mono ?_
          rintro r H4 ⟨rfl, rfl⟩
          simp (maxSteps := 2000000) (disch := first | omega | assumption | exact idP rfl | exact idP (bL rfl) | (simp only [alloc_size, upd_size]; done) | (simp only [alloc_size, upd_size]; omega) | fail) only [go_sem, reduceIte, Nat.reduceEqDiff, e0, e5, e57, v4', hrowL.rw]
          rw [stoK_1 rfl (by simp; omega)]
          simp (maxSteps := 2000000) (disch := first | omega | assumption | exact idP rfl | exact idP (bL rfl) | (simp only [alloc_size, upd_size]; done) | (simp only [alloc_size, upd_size]; omega) | fail) only [go_sem, reduceIte, Nat.reduceEqDiff, e57]
          refine hK _ _ ⟨i + 1, _, by omega, by simp (maxSteps := 2000000) (disch := first | omega | assumption | exact idP rfl | exact idP (bL rfl) | (simp only [alloc_size, upd_size]; done) | (simp only [alloc_size, upd_size]; omega) | fail) only [go_sem, reduceIte, Nat.reduceEqDiff, e0], by simp (maxSteps := 2000000) (disch := first | omega | assumption | exact idP rfl | exact idP (bL rfl) | (simp only [alloc_size, upd_size]; done) | (simp only [alloc_size, upd_size]; omega) | fail) only [go_sem, reduceIte, Nat.reduceEqDiff, e5], by simp (maxSteps := 2000000) (disch := first | omega | assumption | exact idP rfl | exact idP (bL rfl) | (simp only [alloc_size, upd_size]; done) | (simp only [alloc_size, upd_size]; omega) | fail) only [go_sem, reduceIte, Nat.reduceEqDiff, e56], by simp (maxSteps := 2000000) (disch := first | omega | assumption | exact idP rfl | exact idP (bL rfl) | (simp only [alloc_size, upd_size]; done) | (simp only [alloc_size, upd_size]; omega) | fail) only [go_sem, reduceIte, Nat.reduceEqDiff]; rfl, ?_, fun j hj => ?_, hrowL.set _ _⟩ (by simp (maxSteps := 2000000) (disch := first | omega | assumption | exact idP rfl | exact idP (bL rfl) | (simp only [alloc_size, upd_size]; done) | (simp only [alloc_size, upd_size]; omega) | fail) only [go_sem, reduceIte, Nat.reduceEqDiff, ctr_int, e57']; omega)
          · simpa using hL
          · by_cases hji : j = i
            · subst hji
              rw [List.getElem?_set_self (by omega)]
              rw [List.getElem?_map, List.getElem?_drop, Nat.add_comm 1 j, List.getElem?_eq_getElem (by omega)]
              by_cases hq : 0 < m[j + 1]
              · have := sgn_pos.2 hq
                simp [valF, hq, this]
              · have : ¬ 0 < sgn m[j + 1] := fun e => hq (sgn_pos.1 e)
                simp [valF, hq, this]
            · rw [List.getElem?_set_ne (by omega)]; exact hLj j (by omega)
        · obtain rfl : i = n := by omega
          have hLe : L = (m.drop 1).map valF := by
            apply List.ext_getElem?
            intro j
            by_cases hj : j < i
            · exact hLj j hj
            · rw [List.getElem?_eq_none (by omega), List.getElem?_eq_none (by simp; omega)]
          subst hLe
          simp (maxSteps := 2000000) (disch := first | omega | assumption | exact idP rfl | exact idP (bL rfl) | (simp only [alloc_size, upd_size]; done) | (simp only [alloc_size, upd_size]; omega) | fail) only [go_sem, reduceIte, Nat.reduceEqDiff]
          have hL3 : Le (H2.upd hb (.cells X true)) H3 := hrowL.le'
          have hsz3 : H2.size ≤ H3.size := hL3.1
          have hpA : PLO lo (B.pad H2.size) H3 p P := (hp2.upd ahb hd2).le hL3
          have hB4 : Le ((B.pad H2.size).over H3) (base H3 p) := over_le hpA.1 base_size.symm fun b hb' => base_blk (apart_fresh hown (by have := hH2.1; rw [pad_size] at hb'; omega))
          have hnd4 : Nd (B.pad H2.size) ((B.pad H2.size).over H3) := over_nd (by rw [pad_size]; exact hsz3)
          have hown3 : Own 1 H3 (.sl (some (H2.size, 0)) i i true 1) (((m.drop 1).map valF).map (AV.int .i64)) := ⟨some (H2.size, 0), i, true, 1, rfl, by simp; omega, fun h => (nomatch h), fun b o e => by cases e; exact ⟨rfl, rfl, hrowL.lt, hrowL.blk⟩⟩
          have hwi : IsI ((B.pad H2.size).over H3) (.sl (some (H2.size, 0)) i i true 1) ((m.drop 1).map valF) := (hown3.later (n := H2.size) (Nat.le_refl _)).isI.le (by have := later_over (B.pad H2.size) H3; rwa [pad_size] at this)
          refine hR _ _ ⟨.sat m, P, d, p, .sl (some (H2.size, 0)) i i true 1, true, false, (B.pad H2.size).over H3, .sat hforce hnext, rfl, hnd.trans hnd4, ?_, ?_, fun b hb' => apF _ b hH2 (Nat.le_trans hsz3 hb'), hp.one.1, rfl, fun h => (by cases h), fun h => (by cases h), fun m' h => ?_⟩
          · have h1 : Le (base (H2.upd hb (.cells X true)) p) (base H3 p) := base_mono hL3 p
            rw [base_upd ahb] at h1
            exact (((Le.kill _ _).trans (base_mono hH2 p)).updDead (kill_dead _ _) _).trans h1
          · rw [hX]
            exact base_rw ahb (hL3.rwCells (by simp (maxSteps := 2000000) (disch := first | omega | assumption | exact idP rfl | exact idP (bL rfl) | (simp only [alloc_size, upd_size]; done) | (simp only [alloc_size, upd_size]; omega) | fail) only [go_sem, reduceIte, Nat.reduceEqDiff]))
          · cases h
            exact ⟨rfl, rfl, hpA.at hnd4.1 hB4, hwi, _, _, rfl⟩
      · -- a choice
        have ha0 : nx ≠ 0 := by omega
        have han : nx ≤ n := by
          rcases hnext with ⟨e, _⟩ | ⟨_, ⟨h1, _⟩, _⟩
          · exact absurd e ha0
          · omega
        obtain ⟨hka, hlow1⟩ := hlow.next (x := -(nx : Int)) hforce hml hnext ha0 (by omega)
        obtain ⟨_, hlow2⟩ := hlow.next (x := (nx : Int)) hforce hml hnext ha0 (by omega)
        have u3 : H2.get hb 3 = some (.int .i64 (d : Int)) := hH2.get (Rd.blk hsz hbk 3 _ rfl)
        simp (maxSteps := 2000000) (disch := first | omega | assumption | exact idP rfl | exact idP (bL rfl) | (simp only [alloc_size, upd_size]; done) | (simp only [alloc_size, upd_size]; omega) | fail) only [go_sem, reduceIte, Nat.reduceEqDiff, e0, u3, u]
        have hd1 : ((d : Int) + 1) = ((d + 1 : Nat) : Int) := by omega
        generalize hX : [AV.int .i64 (n : Int), fl, p, .int .i64 ((d : Int) + 1), vals, .bool false] = X at *
        have hp3 : PLO lo (B.pad H2.size) (H2.upd hb (.cells X true)) p P := hp2.upd ahb hd2
        have hgvH := (hgv.le hnd.1).le (hp3.1.trans (base_le _ _))
        have hgl : g.length ≤ 700 := by omega
        simp (maxSteps := 2000000) (disch := first | omega | assumption | exact idP rfl | exact idP (bL rfl) | (simp only [alloc_size, upd_size]; done) | (simp only [alloc_size, upd_size]; omega) | fail) only [go_sem, reduceIte, Nat.reduceEqDiff, e1]
        refine (s_Clip hgvH (by omega) hgc hgx (.inr trivial)).mono ?_
        rintro r H3 ⟨rfl, A1, k1, rfl, hcl⟩
        simp (maxSteps := 2000000) (disch := first | omega | assumption | exact idP rfl | exact idP (bL rfl) | (simp only [alloc_size, upd_size]; done) | (simp only [alloc_size, upd_size]; omega) | fail) only [go_sem, reduceIte, Nat.reduceEqDiff, e6]
        refine app_full hcl (by omega) (by omega) ?_
        intro c1 H5 hc1 hle5 hnc1
        have hH5 := hle5.trans (base_le _ _)
        have hsz5 : H2.size ≤ H5.size := hH5.1
        have x5 : H5.rwCells hb = some X := hH5.rwCells (by simp (maxSteps := 2000000) (disch := first | omega | assumption | exact idP rfl | exact idP (bL rfl) | (simp only [alloc_size, upd_size]; done) | (simp only [alloc_size, upd_size]; omega) | fail) only [go_sem, reduceIte, Nat.reduceEqDiff])
        have w5 := base_rw ahb x5
        have hpA := hp3.le hH5
        have hB5 : Le ((B.pad H2.size).over H5) (base H5 p) := over_le hpA.1 base_size.symm fun b hb' => base_blk (apF _ b hH2 (by rw [pad_size] at hb'; exact hb'))
        have hnd5 : Nd (B.pad H2.size) ((B.pad H2.size).over H5) := over_nd (by rw [pad_size]; exact hsz5)
        have hp5 := hpA.at hnd5.1 hB5
        have hc1' : Own 1 H5 c1 ((g ++ [-(nx : Int)]).map (AV.int .i64)) := by
          have e : (0 : Int) - (nx : Int) = -(nx : Int) := by omega
          rw [← e]; exact hc1
        have hci : IsI ((B.pad H2.size).over H5) c1 (g ++ [-(nx : Int)]) := (hc1'.later (n := H2.size) hnc1).isI.le (by have := later_over (B.pad H2.size) H5; rwa [pad_size] at this)
        have hdd5 := hnd5.2 hb (by rw [pad_size]; exact hsz2) hd2
        simp (maxSteps := 2000000) (disch := first | omega | assumption | exact idP rfl | exact idP (bL rfl) | (simp only [alloc_size, upd_size]; done) | (simp only [alloc_size, upd_size]; omega) | fail) only [go_sem, reduceIte, Nat.reduceEqDiff, e0]
        rw [← hX, hd1] at w5
        refine (ih (B := (B.pad H2.size).over H5) (H := H5) (k := nx) (by omega) han hlow1 rfl (hfl.le (hnd.trans hnd5).1) hci (hc1'.gvOk (by simp)) hp5 hP (by simp; omega) hdd5 w5 hov).mono ?_
        rintro r H6 ⟨res1, P1, d1, p1, w1, ok1, ct1, B6, htry1, rfl, hnd6, hle6, hw6, hap1, ho1, how1, hno1, hcut1, hsat1⟩
        have hndB6 := (hnd.trans hnd5).trans hnd6
        have hL5 : Le ((base H p).kill hb) ((base H5 p).kill hb) := by
          have h1 := (base_mono hH5 p).kills hb
          rw [base_upd ahb, upd_kill] at h1
          exact ((base_mono hH2 p).kills hb).trans h1
        have hL6 : Le ((base H p).kill hb) (base H6 p1) := hL5.trans hle6
        cases res1 with
        | sat m1 =>
          obtain ⟨rfl, rfl, hpl, hwi, hwf⟩ := hsat1 m1 rfl
          simp (maxSteps := 2000000) (disch := first | omega | assumption | exact idP rfl | exact idP (bL rfl) | (simp only [alloc_size, upd_size]; done) | (simp only [alloc_size, upd_size]; omega) | fail) only [go_sem, reduceIte, Nat.reduceEqDiff]
          exact hR _ _ ⟨.sat m1, P1, d1, p1, w1, true, false, B6, .left hforce hnext ha0 htry1 (by intro h; cases h), rfl, hndB6, hL6, hw6, hap1, ho1, how1, fun h => (by cases h), fun h => (by cases h), fun m' h => by cases h; exact ⟨rfl, rfl, hpl, hwi, hwf⟩⟩
        | cut =>
          obtain ⟨rfl, rfl⟩ := hcut1 rfl
          simp (maxSteps := 2000000) (disch := first | omega | assumption | exact idP rfl | exact idP (bL rfl) | (simp only [alloc_size, upd_size]; done) | (simp only [alloc_size, upd_size]; omega) | fail) only [go_sem, reduceIte, Nat.reduceEqDiff]
          exact hR _ _ ⟨.cut, P1, d1, p1, w1, true, true, B6, .left hforce hnext ha0 htry1 (by intro h; cases h), rfl, hndB6, hL6, hw6, hap1, ho1, how1, fun h => (by cases h), fun _ => ⟨rfl, rfl⟩, fun m' h => by cases h⟩
        | no =>
          obtain ⟨rfl, rfl, hpl, hlen1, hd1', hwv1⟩ := hno1 rfl
          have hgl1 : (g ++ [-(nx : Int)]).length = g.length + 1 := by simp
          have hsB6 : B6.size ≤ H6.size := by have := hpl.1.1; rw [base_size] at this; exact this
          obtain ⟨pc1, hown1, _⟩ := hpl.own
          have q6 := apart_of hw6
          have hgv6 := (hgv.le hndB6.1).le (hpl.1.trans (base_le _ _))
          simp (maxSteps := 2000000) (disch := first | omega | assumption | exact idP rfl | exact idP (bL rfl) | (simp only [alloc_size, upd_size]; done) | (simp only [alloc_size, upd_size]; omega) | fail) only [go_sem, reduceIte, Nat.reduceEqDiff, e0, e1]
          refine (s_Clip hgv6 (by omega) hgc hgx (.inr trivial)).mono ?_
          rintro r H7 ⟨rfl, A2, k2, rfl, hcl2⟩
          simp (maxSteps := 2000000) (disch := first | omega | assumption | exact idP rfl | exact idP (bL rfl) | (simp only [alloc_size, upd_size]; done) | (simp only [alloc_size, upd_size]; omega) | fail) only [go_sem, reduceIte, Nat.reduceEqDiff, e6]
          refine app_full hcl2 (by omega) (by omega) ?_
          intro c3 H9 hc3 hle9 hnc3
          have hH9 := hle9.trans (base_le _ _)
          have hsz9 : H7.size ≤ H9.size := hH9.1
          have hpB := hpl.le hH9
          have w9 := (base_mono hH9 p1).rwCells hw6
          have hndp : Nd B6 (B6.pad H7.size) := pad_nd hsB6
          have hBp9 : Le (B6.pad H7.size) (base H9 p1) := pad_le hpB.1 (by rw [base_size]; exact hsz9)
          have hB9 : Le ((B6.pad H7.size).over H9) (base H9 p1) := over_le hBp9 base_size.symm fun b hb' => base_blk (apart_fresh hown1 (by rw [pad_size] at hb'; exact hb'))
          have hnd9 : Nd (B6.pad H7.size) ((B6.pad H7.size).over H9) := over_nd (by rw [pad_size]; exact hsz9)
          have hp9 := hpB.at (hndp.trans hnd9).1 hB9
          have hci3 : IsI ((B6.pad H7.size).over H9) c3 (g ++ [(nx : Int)]) := (hc3.later (n := H7.size) hnc3).isI.le (by have := later_over (B6.pad H7.size) H9; rwa [pad_size] at this)
          have hszB6 : hb < B6.size := Nat.lt_of_lt_of_le (Nat.lt_of_lt_of_le hsz2 hsz5) hnd6.1.1
          have hd6 : B6.blk hb = .dead := hnd6.2 hb (Nat.lt_of_lt_of_le hsz2 hsz5) hdd5
          have hdd9 := (hndp.trans hnd9).2 hb hszB6 hd6
          simp (maxSteps := 2000000) (disch := first | omega | assumption | exact idP rfl | exact idP (bL rfl) | (simp only [alloc_size, upd_size]; done) | (simp only [alloc_size, upd_size]; omega) | fail) only [go_sem, reduceIte, Nat.reduceEqDiff, e0]
          refine (ih (B := (B6.pad H7.size).over H9) (H := H9) (k := nx) (by omega) han hlow2 rfl (hfl.le ((hndB6.trans hndp).trans hnd9).1) hci3 (hc3.gvOk (by simp)) hp9 hlen1 (by simp at hd1' ⊢; omega) hdd9 w9 how1).mono ?_
          rintro r H10 ⟨res2, P2, d2, p2, w3, ok2, ct2, B10, htry2, rfl, hnd10, hle10, hw10, hap2, ho2, how2, hno2, hcut2, hsat2⟩
          have hndB10 := ((hndB6.trans hndp).trans hnd9).trans hnd10
          have hL10 : Le ((base H p).kill hb) (base H10 p2) := by
            have h2 : Le ((base H p).kill hb) ((base H7 p1).kill hb) := by
              have h3 := hL6.kills hb
              rwa [kill_kill] at h3
            exact (h2.trans ((base_mono hH9 p1).kills hb)).trans hle10
          cases res2 with
          | sat m2 =>
            obtain ⟨rfl, rfl, hpl2, hwi2, hwf2⟩ := hsat2 m2 rfl
            simp (maxSteps := 2000000) (disch := first | omega | assumption | exact idP rfl | exact idP (bL rfl) | (simp only [alloc_size, upd_size]; done) | (simp only [alloc_size, upd_size]; omega) | fail) only [go_sem, reduceIte, Nat.reduceEqDiff]
            exact hR _ _ ⟨.sat m2, P2, d2, p2, w3, true, false, B10, .right hforce hnext ha0 htry1 htry2 (by intro h; cases h), rfl, hndB10, hL10, hw10, hap2, ho2, how2, fun h => (by cases h), fun h => (by cases h), fun m' h => by cases h; exact ⟨rfl, rfl, hpl2, hwi2, hwf2⟩⟩
          | cut =>
            obtain ⟨rfl, rfl⟩ := hcut2 rfl
            simp (maxSteps := 2000000) (disch := first | omega | assumption | exact idP rfl | exact idP (bL rfl) | (simp only [alloc_size, upd_size]; done) | (simp only [alloc_size, upd_size]; omega) | fail) only [go_sem, reduceIte, Nat.reduceEqDiff]
            exact hR _ _ ⟨.cut, P2, d2, p2, w3, true, true, B10, .right hforce hnext ha0 htry1 htry2 (by intro h; cases h), rfl, hndB10, hL10, hw10, hap2, ho2, how2, fun h => (by cases h), fun _ => ⟨rfl, rfl⟩, fun m' h => by cases h⟩
          | no =>
            obtain ⟨rfl, rfl, hpl2, hlen2, hd2', hwv2⟩ := hno2 rfl
            have hb10 : B10.size ≤ H10.size := by have := hpl2.1.1; rw [base_size] at this; exact this
            have hndq : Nd B10 (B10.pad H10.size) := pad_nd hb10
            have hszB10 : hb < B10.size := Nat.lt_of_lt_of_le hszB6 ((hndp.trans hnd9).trans hnd10).1.1
            have hd10 : B10.blk hb = .dead := hnd10.2 hb (Nat.lt_of_lt_of_le hszB6 (hndp.trans hnd9).1.1) hdd9
            have hpq : PLO lo (B10.pad H10.size) H10 p2 P2 := hpl2.at hndq.1 (pad_le hpl2.1 (by rw [base_size]; exact Nat.le_refl _))
            have q10 := apart_of hw10
            simp (maxSteps := 2000000) (disch := first | omega | assumption | exact idP rfl | exact idP (bL rfl) | (simp only [alloc_size, upd_size]; done) | (simp only [alloc_size, upd_size]; omega) | fail) only [go_sem, reduceIte, Nat.reduceEqDiff]
            refine wp_seq'.mp (wp_seq'.mp (under_leaf (B := B10.pad H10.size) (d := d2) (n := n) (g := g) (P := P2) hn hlow.asc hlow.lits (by omega) hlen2 hof1 how2 ?_ ?_ (pad_size _ _) (hndq.2 hb hszB10 hd10) hw10 hpq (hgv.le (hndB10.trans hndq).1) ?_ ?_))
            · simp (maxSteps := 2000000) (disch := first | omega | assumption | exact idP rfl | exact idP (bL rfl) | (simp only [alloc_size, upd_size]; done) | (simp only [alloc_size, upd_size]; omega) | fail) only [go_sem, reduceIte, Nat.reduceEqDiff, e0]
            · simp (maxSteps := 2000000) (disch := first | omega | assumption | exact idP rfl | exact idP (bL rfl) | (simp only [alloc_size, upd_size]; done) | (simp only [alloc_size, upd_size]; omega) | fail) only [go_sem, reduceIte, Nat.reduceEqDiff, e1]
            · intro h6
              refine hR _ _ ⟨.cut, P2, d2, p2, w3, true, true, B10.pad H10.size, .bothC hforce hnext ha0 htry1 htry2 h6, rfl, hndB10.trans hndq, ?_, ?_, hap2, ho2, how2, fun h => (by cases h), fun _ => ⟨rfl, rfl⟩, fun m h => (by cases h)⟩
              · rw [base_upd q10]
                exact hL10.updDead (kill_dead _ _) _
              · exact base_rw q10 (by simp (maxSteps := 2000000) (disch := first | omega | assumption | exact idP rfl | exact idP (bL rfl) | (simp only [alloc_size, upd_size]; done) | (simp only [alloc_size, upd_size]; omega) | fail) only [go_sem, reduceIte, Nat.reduceEqDiff, (Heap.rwCells_blk ((base_le H10 p2).rwCells hw10)).1])
            · intro h6 B' H' p' hn' hp' hle' hw'
              refine hR _ _ ⟨.no, _, d2, p', w3, false, false, B', .bothN hforce hnext ha0 htry1 htry2 h6, rfl, (hndB10.trans hndq).trans hn', ?_, hw', fun b hb' => by obtain ⟨_, q, _⟩ := hp'.own; exact apart_fresh q hb', hp'.one.1, how2, fun _ => ⟨rfl, rfl, hp', ?_, ?_, hwv2.trans hwv1⟩, fun h => (by cases h), fun m h => (by cases h)⟩
              · have h3 := hL10.kills hb
                rw [kill_kill] at h3
                exact h3.trans hle'
              · simp; omega
              · simp at hd2' ⊢; omega
end Go.M2

namespace Go.M2
open Go.Proofs
variable {H : Heap}
def HuntPost (cl : List (List Int)) (n : Nat) (H : Heap) (r : AV) (H' : Heap) : Prop :=
  ∃ (res : Res) (P' : List (List Int)) (d' hb : Nat) (fl p' w : AV) (ct : Bool) (B' : Heap), Try cl n [] [] 0 res P' d' ∧ r = .ptr (some (hb, 0)) ∧ Le H H' ∧ H'.rwCells hb = some [.int .i64 (n : Int), fl, p', .int .i64 (d' : Int), w, .bool ct] ∧ oneA fl = true ∧ oneA p' = true ∧ oneA w = true ∧
    (res = .no → ct = false ∧ PLO H.size B' H' p' P' ∧ P'.length ≤ 600 ∧ w = .sl none 0 0 true 0) ∧ (res = .cut → ct = true) ∧ (∀ m, res = .sat m → ct = false ∧ IsI B' w ((m.drop 1).map valF) ∧ Le B' (base H' p') ∧ ∃ b nn, w = .sl (some (b, 0)) nn nn true 1)
theorem s_hunted {x : AV} {n : Nat} {xss : List (List Int)} (hx : IsCl H x (n : Int) xss) (hok : ClsOk (n : Int) xss) (hl : xss.length ≤ 1048576) (hxl : ∀ xs ∈ xss, xs.length ≤ 1048576) :
    ACall Try.prog n_impl_hunted [x] H (HuntPost xss n H) := by
  refine ACall.of fun R hR => a_impl_hunted rfl ?_
  obtain ⟨fl, rfl, hv⟩ := hx
  have hof := oneA_isS hv
  have hof1 := hof.1
  have hn := hok.hi
  simp (maxSteps := 2000000) (disch := first | omega | assumption | exact idP rfl | exact idP (bL rfl) | (simp only [alloc_size, upd_size]; done) | (simp only [alloc_size, upd_size]; omega) | fail) only [go_sem, reduceIte, Nat.reduceEqDiff, hof.2]
  have hH3 : Le H ((H.alloc [.int .i64 (n : Int), fl]).alloc [.int .i64 (n : Int), fl, .sl none 0 0 true 0, .int .i64 0, .sl none 0 0 true 0, .bool false]) := (Le.refl _).allocs.allocs
  have hnp : Nd H (H.pad (H.size + 1 + 1)) := pad_nd (by omega)
  have hpl : PLO H.size (H.pad (H.size + 1 + 1)) ((H.alloc [.int .i64 (n : Int), fl]).alloc [.int .i64 (n : Int), fl, .sl none 0 0 true 0, .int .i64 0, .sl none 0 0 true 0, .bool false]) (.sl none 0 0 true 0) [] :=
    ⟨pad_le hH3 (Nat.le_refl _), by rw [pad_size]; omega, [], Own.nil, rfl, fun i h => by simp at h, fun i j u v h1 h2 => by simp at h2⟩
  refine (s_under (n := n) (xss := xss) (by omega) hl hxl (fun xs h => clOk_lits (hok.all xs h)) (n + 1) (B := H.pad (H.size + 1 + 1)) (H := (H.alloc [.int .i64 (n : Int), fl]).alloc [.int .i64 (n : Int), fl, .sl none 0 0 true 0, .int .i64 0, .sl none 0 0 true 0, .bool false]) (g := []) (P := []) (d := 0) (k := 0) (hb := H.size + 1) (fl := fl) (p := .sl none 0 0 true 0) (vals := .sl none 0 0 true 0)
    (by omega) (by omega) (Low.nil _ _) rfl (hv.le hnp.1) ⟨_, 0, true, 0, rfl, fun i h => by simp at h⟩ ⟨_, 0, true, 0, rfl, Nat.le_refl _, .inl rfl⟩ hpl (by simp) (by simp) (pad_dead (by omega)) (show ((H.alloc [.int .i64 (n : Int), fl]).alloc [.int .i64 (n : Int), fl, .sl none 0 0 true 0, .int .i64 0, .sl none 0 0 true 0, .bool false]).rwCells (H.size + 1) = some _ from rw_alloc_new rfl) rfl).mono ?_
  rintro r H4 ⟨res, P', d', p', w, ok, ct, B', htry, rfl, hnd, hle, hw, hap, ho1, how, hno, hcut, hsat⟩
  simp (maxSteps := 2000000) (disch := first | omega | assumption | exact idP rfl | exact idP (bL rfl) | (simp only [alloc_size, upd_size]; done) | (simp only [alloc_size, upd_size]; omega) | fail) only [go_sem, reduceIte, Nat.reduceEqDiff]
  have hL : Le H (base H4 p') := Le.trans (hH3.killFresh (Nat.le_succ _)) hle
  refine hR _ _ ⟨res, P', d', H.size + 1, fl, p', w, ct, B', htry, rfl, hL.trans (base_le _ _), (base_le _ _).rwCells hw, hof1, ho1, how, fun h => ?_, fun h => (hcut h).1, fun m h => ?_⟩
  · obtain ⟨h1, h2, h3, h5, _, h4⟩ := hno h
    exact ⟨h1, h3, h5, h4⟩
  · obtain ⟨h1, h2, h3, h4, h5⟩ := hsat m h
    exact ⟨h1, h4, h3.1, h5⟩
def DecRes (n : Int) (xss : List (List Int)) (a : Int) (b : Bool) : Prop :=
  (¬ ClsOk n xss ∧ a = 0 ∧ b = false) ∨ (ClsOk n xss ∧ ∃ (m : Nat) (res : Res) (P : List (List Int)) (d : Nat), n = m ∧ Try xss m [] [] 0 res P d ∧ ((res = .cut ∧ a = 0 ∧ b = false) ∨ (res ≠ .cut ∧ a = d ∧ b = true)))
theorem DecRes.det {n : Int} {xss : List (List Int)} {a a' : Int} {b b' : Bool} (h : DecRes n xss a b) (h' : DecRes n xss a' b') : a = a' ∧ b = b' := by
  rcases h with ⟨h1, rfl, rfl⟩ | ⟨h1, m, res, P, d, rfl, h2, h3⟩
  · rcases h' with ⟨_, rfl, rfl⟩ | ⟨h1', _⟩
    · exact ⟨rfl, rfl⟩
    · exact absurd h1' h1
  · rcases h' with ⟨h1', _⟩ | ⟨_, m', res', P', d', hm, h2', h3'⟩
    · exact absurd h1 h1'
    · obtain rfl : m = m' := by omega
      obtain ⟨rfl, rfl, rfl⟩ := h2.det h2'
      rcases h3 with ⟨h4, rfl, rfl⟩ | ⟨h4, rfl, rfl⟩
      · rcases h3' with ⟨_, rfl, rfl⟩ | ⟨h5, _⟩
        · exact ⟨rfl, rfl⟩
        · exact absurd h4 h5
      · rcases h3' with ⟨h5, _⟩ | ⟨_, rfl, rfl⟩
        · exact absurd h5 h4
        · exact ⟨rfl, rfl⟩
end Go.M2

namespace Go.M2
open Go.Proofs
variable {H : Heap}
theorem Le.newBase {A H : Heap} (h : Le A H) {v : AV} (hn : newer A.size v) : Le A (base H v) := by
  unfold base
  split
  · exact h.killFresh hn
  · exact h
def marks (k : Int) (n : Nat) : List Int := (List.range n).map fun (i : Nat) => k + i
theorem marks_len {k : Int} {n : Nat} : (marks k n).length = n := by simp [marks]
theorem marks_at {k : Int} {n j : Nat} (h : j < n) : (marks k n)[j]? = some (k + j) := by simp [marks, h]
theorem s_markIntS {b n c : Nat} {ex : Bool} {zs : List Int} {k : Int} (hb : H.rwCells b = some (zs.map (AV.int .i64))) (hn : n = zs.length) (h0 : 0 ≤ k) (h1 : k + n ≤ 4611686018427387904) :
    ACall Try.prog n_laws_markIntS [.sl (some (b, 0)) n c ex 1, .int .i64 k] H (fun r H' => r = .int .i64 (k + n) ∧ H' = H.upd b (.cells ((marks k n).map (AV.int .i64)) true)) := by
  refine ACall.of fun R hR => a_laws_markIntS rfl ?_
  obtain ⟨hlt, hblk⟩ := Heap.rwCells_blk hb
  simp (maxSteps := 2000000) (disch := first | omega | assumption | exact idP rfl | exact idP (bL rfl) | (simp only [alloc_size, upd_size]; done) | (simp only [alloc_size, upd_size]; omega) | fail) only [go_sem, reduceIte, Nat.reduceEqDiff]
  refine wp_loop_k (fun e H' => ∃ (i : Nat) (L : List Int), i ≤ n ∧ e 0 = .sl (some (b, 0)) n c ex 1 ∧ e 1 = .int .i64 (k + i) ∧ e 5 = .int .i64 (i : Int) ∧ H' = H.upd b (.cells (L.map (AV.int .i64)) true) ∧ L.length = n ∧ ∀ j, j < i → L[j]? = some (k + j)) (fun e _ => ctr n (e 5)) ?_ ?_
  · exact ⟨0, zs, Nat.zero_le _, by simp (maxSteps := 2000000) (disch := first | omega | assumption | exact idP rfl | exact idP (bL rfl) | (simp only [alloc_size, upd_size]; done) | (simp only [alloc_size, upd_size]; omega) | fail) only [go_sem, reduceIte, Nat.reduceEqDiff], by simp (maxSteps := 2000000) (disch := first | omega | assumption | exact idP rfl | exact idP (bL rfl) | (simp only [alloc_size, upd_size]; done) | (simp only [alloc_size, upd_size]; omega) | fail) only [go_sem, reduceIte, Nat.reduceEqDiff]; rw [show k + ((0 : Nat) : Int) = k by omega], by simp (maxSteps := 2000000) (disch := first | omega | assumption | exact idP rfl | exact idP (bL rfl) | (simp only [alloc_size, upd_size]; done) | (simp only [alloc_size, upd_size]; omega) | fail) only [go_sem, reduceIte, Nat.reduceEqDiff]; rfl, (upd_self hblk).symm, hn.symm, fun j h => by omega⟩
  · rintro e H1 ⟨i, L, hi, e0, e1, e5, rfl, hL, hj⟩ K hK
    simp (maxSteps := 2000000) (disch := first | omega | assumption | exact idP rfl | exact idP (bL rfl) | (simp only [alloc_size, upd_size]; done) | (simp only [alloc_size, upd_size]; omega) | fail) only [go_sem, reduceIte, Nat.reduceEqDiff, e0, e5]
    refine condV_dec (fun h => ?_) (fun h => ?_)
    · have e5' := e5
      simp (maxSteps := 2000000) (disch := first | omega | assumption | exact idP rfl | exact idP (bL rfl) | (simp only [alloc_size, upd_size]; done) | (simp only [alloc_size, upd_size]; omega) | fail) only [go_sem, reduceIte, Nat.reduceEqDiff, e0, e1, e5, hlt]
      rw [stoK_1 rfl (by simp; omega)]
      simp (maxSteps := 2000000) (disch := first | omega | assumption | exact idP rfl | exact idP (bL rfl) | (simp only [alloc_size, upd_size]; done) | (simp only [alloc_size, upd_size]; omega) | fail) only [go_sem, reduceIte, Nat.reduceEqDiff, e1, e5]
      refine hK _ _ ⟨i + 1, L.set i (k + i), by omega, by simp (maxSteps := 2000000) (disch := first | omega | assumption | exact idP rfl | exact idP (bL rfl) | (simp only [alloc_size, upd_size]; done) | (simp only [alloc_size, upd_size]; omega) | fail) only [go_sem, reduceIte, Nat.reduceEqDiff, e0], by simp (maxSteps := 2000000) (disch := first | omega | assumption | exact idP rfl | exact idP (bL rfl) | (simp only [alloc_size, upd_size]; done) | (simp only [alloc_size, upd_size]; omega) | fail) only [go_sem, reduceIte, Nat.reduceEqDiff]; rw [show k + (i : Int) + 1 = k + ((i + 1 : Nat) : Int) by omega], by simp (maxSteps := 2000000) (disch := first | omega | assumption | exact idP rfl | exact idP (bL rfl) | (simp only [alloc_size, upd_size]; done) | (simp only [alloc_size, upd_size]; omega) | fail) only [go_sem, reduceIte, Nat.reduceEqDiff]; rfl, by rw [Heap.upd_upd, List.map_set], by simpa using hL, fun j hj2 => ?_⟩ (by simp (maxSteps := 2000000) (disch := first | omega | assumption | exact idP rfl | exact idP (bL rfl) | (simp only [alloc_size, upd_size]; done) | (simp only [alloc_size, upd_size]; omega) | fail) only [go_sem, reduceIte, Nat.reduceEqDiff, ctr_int, e5']; omega)
      by_cases hji : j = i
      · subst hji; rw [List.getElem?_set_self (by omega)]
      · rw [List.getElem?_set_ne (by omega)]; exact hj j (by omega)
    · obtain rfl : i = n := by omega
      simp (maxSteps := 2000000) (disch := first | omega | assumption | exact idP rfl | exact idP (bL rfl) | (simp only [alloc_size, upd_size]; done) | (simp only [alloc_size, upd_size]; omega) | fail) only [go_sem, reduceIte, Nat.reduceEqDiff, e1]
      refine hR _ _ ⟨rfl, ?_⟩
      congr 2
      congr 1
      apply List.ext_getElem?
      intro j
      by_cases hj' : j < i
      · rw [hj j hj', marks_at hj']
      · rw [List.getElem?_eq_none (by omega), List.getElem?_eq_none (by rw [marks_len]; omega)]
theorem s_markNil {k : Int} {kk : Nat} (h0 : 0 ≤ k) : ACall Try.prog n_laws_markIntS [.sl none 0 0 true kk, .int .i64 k] H (fun r H' => r = .int .i64 k ∧ H' = H) := by
  refine ACall.of fun R hR => a_laws_markIntS rfl ?_
  simp (maxSteps := 2000000) (disch := first | omega | assumption | exact idP rfl | exact idP (bL rfl) | (simp only [alloc_size, upd_size]; done) | (simp only [alloc_size, upd_size]; omega) | fail) only [go_sem, reduceIte, Nat.reduceEqDiff]
  refine wp_loop_k (fun e H' => H' = H ∧ e 0 = .sl none 0 0 true kk ∧ e 1 = .int .i64 k ∧ e 5 = .int .i64 0) (fun e _ => 0) ?_ ?_
  · exact ⟨rfl, by simp (maxSteps := 2000000) (disch := first | omega | assumption | exact idP rfl | exact idP (bL rfl) | (simp only [alloc_size, upd_size]; done) | (simp only [alloc_size, upd_size]; omega) | fail) only [go_sem, reduceIte, Nat.reduceEqDiff], by simp (maxSteps := 2000000) (disch := first | omega | assumption | exact idP rfl | exact idP (bL rfl) | (simp only [alloc_size, upd_size]; done) | (simp only [alloc_size, upd_size]; omega) | fail) only [go_sem, reduceIte, Nat.reduceEqDiff], by simp (maxSteps := 2000000) (disch := first | omega | assumption | exact idP rfl | exact idP (bL rfl) | (simp only [alloc_size, upd_size]; done) | (simp only [alloc_size, upd_size]; omega) | fail) only [go_sem, reduceIte, Nat.reduceEqDiff]⟩
  · rintro e H1 ⟨rfl, e0, e1, e5⟩ K hK
    simp (maxSteps := 2000000) (disch := first | omega | assumption | exact idP rfl | exact idP (bL rfl) | (simp only [alloc_size, upd_size]; done) | (simp only [alloc_size, upd_size]; omega) | fail) only [go_sem, reduceIte, Nat.reduceEqDiff, e0, e5]
    refine condV_dec (fun h => absurd h (by omega)) (fun h => ?_)
    simp (maxSteps := 2000000) (disch := first | omega | assumption | exact idP rfl | exact idP (bL rfl) | (simp only [alloc_size, upd_size]; done) | (simp only [alloc_size, upd_size]; omega) | fail) only [go_sem, reduceIte, Nat.reduceEqDiff, e1]
    exact hR _ _ ⟨rfl, rfl⟩
theorem s_markOwn {v : AV} {zs : List Int} {k : Int} (hv : Own 1 H v (zs.map (AV.int .i64))) (h0 : 0 ≤ k) (h1 : k + zs.length ≤ 4611686018427387904) :
    ACall Try.prog n_laws_markIntS [v, .int .i64 k] H (fun r H' => r = .int .i64 (k + zs.length) ∧ Own 1 H' v ((marks k zs.length).map (AV.int .i64)) ∧ Le (base H v) (base H' v)) := by
  obtain ⟨A, m, ex, kk, rfl, q1, q2, q3⟩ := hv
  have q1 : zs.length = m := by simpa using q1
  cases A with
  | none =>
    obtain ⟨rfl, rfl⟩ := q2 rfl
    refine (s_markNil h0).mono ?_
    rintro r H' ⟨rfl, rfl⟩
    refine ⟨by rw [q1]; simp, ?_, Le.refl _⟩
    rw [q1]; exact Own.nil
  | some p =>
    obtain ⟨b, o⟩ := p
    obtain ⟨rfl, rfl, q4, q5⟩ := q3 b o rfl
    refine (s_markIntS (zs := zs) (rwCells_of q4 q5) q1.symm h0 (by omega)).mono ?_
    rintro r H' ⟨rfl, rfl⟩
    refine ⟨by rw [q1], ⟨some (b, 0), m, ex, 1, rfl, by simp [marks_len, q1], fun h => (nomatch h), fun b' o e => ?_⟩, ?_⟩
    · cases e
      exact ⟨rfl, rfl, q4, by rw [upd_blk_same', q1]⟩
    · show Le (H.kill b) ((H.upd b _).kill b)
      rw [upd_kill]; exact Le.refl _
theorem s_heldIntS {v : AV} {n : Nat} {k : Int} (hv : IsI H v (marks k n)) (h0 : 0 ≤ k) (h1 : k + n ≤ 4611686018427387904) :
    ACall Try.prog n_laws_heldIntS [v, .int .i64 k] H (fun r H' => r = .int .i64 (k + n) ∧ H' = H) := by
  refine ACall.of fun R hR => a_laws_heldIntS rfl ?_
  obtain ⟨A, c, ex, kk, rfl, hr⟩ := hv.parts
  simp only [marks_len] at hr ⊢
  simp (maxSteps := 2000000) (disch := first | omega | assumption | exact idP rfl | exact idP (bL rfl) | (simp only [alloc_size, upd_size]; done) | (simp only [alloc_size, upd_size]; omega) | fail) only [go_sem, reduceIte, Nat.reduceEqDiff]
  refine wp_loop_k (fun e H' => H = H' ∧ ∃ (i : Nat), i ≤ n ∧ e 0 = .sl A n c ex kk ∧ e 1 = .int .i64 (k + i) ∧ e 5 = .int .i64 (i : Int)) (fun e _ => ctr n (e 5)) ?_ ?_
  · exact ⟨rfl, 0, Nat.zero_le _, by simp (maxSteps := 2000000) (disch := first | omega | assumption | exact idP rfl | exact idP (bL rfl) | (simp only [alloc_size, upd_size]; done) | (simp only [alloc_size, upd_size]; omega) | fail) only [go_sem, reduceIte, Nat.reduceEqDiff], by simp (maxSteps := 2000000) (disch := first | omega | assumption | exact idP rfl | exact idP (bL rfl) | (simp only [alloc_size, upd_size]; done) | (simp only [alloc_size, upd_size]; omega) | fail) only [go_sem, reduceIte, Nat.reduceEqDiff]; rw [show k + ((0 : Nat) : Int) = k by omega], by simp (maxSteps := 2000000) (disch := first | omega | assumption | exact idP rfl | exact idP (bL rfl) | (simp only [alloc_size, upd_size]; done) | (simp only [alloc_size, upd_size]; omega) | fail) only [go_sem, reduceIte, Nat.reduceEqDiff]; rfl⟩
  · rintro e H1 ⟨rfl, i, hi, e0, e1, e5⟩ K hK
    simp (maxSteps := 2000000) (disch := first | omega | assumption | exact idP rfl | exact idP (bL rfl) | (simp only [alloc_size, upd_size]; done) | (simp only [alloc_size, upd_size]; omega) | fail) only [go_sem, reduceIte, Nat.reduceEqDiff, e0, e5]
    refine condV_dec (fun h => ?_) (fun h => ?_)
    · have e5' := e5
      have hg := hr i (by omega)
      have hm : (marks k n)[i]'(by rw [marks_len]; omega) = k + i := by
        have := marks_at (k := k) (n := n) (j := i) (by omega)
        rw [List.getElem?_eq_getElem (by rw [marks_len]; omega)] at this
        exact Option.some.inj this
      rw [Nat.mul_one, hm] at hg
      have hne : ¬ (k + (i : Int) ≠ k + (i : Int)) := fun h => h rfl
      simp (maxSteps := 2000000) (disch := first | omega | assumption | exact idP rfl | exact idP (bL rfl) | (simp only [alloc_size, upd_size]; done) | (simp only [alloc_size, upd_size]; omega) | fail) only [go_sem, reduceIte, Nat.reduceEqDiff, e0, e1, e5, hg]
      refine hK _ _ ⟨rfl, i + 1, by omega, by simp (maxSteps := 2000000) (disch := first | omega | assumption | exact idP rfl | exact idP (bL rfl) | (simp only [alloc_size, upd_size]; done) | (simp only [alloc_size, upd_size]; omega) | fail) only [go_sem, reduceIte, Nat.reduceEqDiff, e0], by simp (maxSteps := 2000000) (disch := first | omega | assumption | exact idP rfl | exact idP (bL rfl) | (simp only [alloc_size, upd_size]; done) | (simp only [alloc_size, upd_size]; omega) | fail) only [go_sem, reduceIte, Nat.reduceEqDiff]; rw [show k + (i : Int) + 1 = k + ((i + 1 : Nat) : Int) by omega], by simp (maxSteps := 2000000) (disch := first | omega | assumption | exact idP rfl | exact idP (bL rfl) | (simp only [alloc_size, upd_size]; done) | (simp only [alloc_size, upd_size]; omega) | fail) only [go_sem, reduceIte, Nat.reduceEqDiff]; rfl⟩ (by simp (maxSteps := 2000000) (disch := first | omega | assumption | exact idP rfl | exact idP (bL rfl) | (simp only [alloc_size, upd_size]; done) | (simp only [alloc_size, upd_size]; omega) | fail) only [go_sem, reduceIte, Nat.reduceEqDiff, ctr_int, e5']; omega)
    · obtain rfl : i = n := by omega
      simp (maxSteps := 2000000) (disch := first | omega | assumption | exact idP rfl | exact idP (bL rfl) | (simp only [alloc_size, upd_size]; done) | (simp only [alloc_size, upd_size]; omega) | fail) only [go_sem, reduceIte, Nat.reduceEqDiff, e1]
      exact hR _ _ ⟨rfl, rfl⟩
def Heap.gap (H : Heap) (lo hi : Nat) : Heap := ⟨H.size, fun b => if lo ≤ b ∧ b < hi then .dead else H.blk b⟩
theorem gap_le (H : Heap) (lo hi : Nat) : Le (H.gap lo hi) H := ⟨Nat.le_refl _, fun b hb => by
  simp only [Heap.gap]
  split
  · exact .inl rfl
  · exact .inr rfl⟩
theorem Le.gapLow {H H' : Heap} (h : Le H H') {lo hi : Nat} (hl : H.size ≤ lo) : Le H (H'.gap lo hi) := ⟨h.1, fun b hb => by
  simp only [Heap.gap]
  rw [if_neg (by omega)]
  exact h.2 b hb⟩
theorem later_gap (H : Heap) {lo hi n : Nat} (h : hi ≤ n) : Le (H.later n) (H.gap lo hi) := ⟨Nat.le_refl _, fun b hb => by
  simp only [Heap.later, Heap.gap]
  by_cases h1 : b < n
  · rw [if_pos h1]; exact .inl rfl
  · rw [if_neg h1, if_neg (by omega)]; exact .inr rfl⟩
theorem gap_upd {H : Heap} {lo hi b : Nat} {x : Blk} (h1 : lo ≤ b) (h2 : b < hi) : (H.upd b x).gap lo hi = H.gap lo hi := by
  unfold Heap.gap Heap.upd
  simp only [Heap.mk.injEq, true_and]
  funext i
  by_cases h : lo ≤ i ∧ i < hi
  · rw [if_pos h, if_pos h]
  · rw [if_neg h, if_neg h, if_neg (by omega)]
theorem s_markIntSS {r : AV} {lo hi : Nat} {xss : List (List Int)} (ht : Tree H lo hi r xss) (hl : xss.length ≤ 1048576) (hxl : ∀ xs ∈ xss, xs.length ≤ 1048576) :
    ACall Try.prog n_laws_markIntSS [r, .int .i64 1] H (fun r' H' => ∃ k : Int, r' = .int .i64 k ∧ 0 ≤ k ∧ H'.size = H.size ∧ H'.gap lo hi = H.gap lo hi) := by
  refine ACall.of fun R hR => a_laws_markIntSS rfl ?_
  obtain ⟨b, l, rfl, q1, q2, q3, q4, q5, q6⟩ := ht
  simp (maxSteps := 2000000) (disch := first | omega | assumption | exact idP rfl | exact idP (bL rfl) | (simp only [alloc_size, upd_size]; done) | (simp only [alloc_size, upd_size]; omega) | fail) only [go_sem, reduceIte, Nat.reduceEqDiff]
  refine wp_loop_k (fun e H' => ∃ (i : Nat) (k : Int), i ≤ xss.length ∧ e 0 = .sl (some (b, 0)) xss.length xss.length true 1 ∧ e 1 = .int .i64 k ∧ e 5 = .int .i64 (i : Int) ∧ 0 ≤ k ∧ k ≤ 1 + (i : Int) * 1048576 ∧ H'.size = H.size ∧ H'.gap lo hi = H.gap lo hi ∧ H'.blk b = .cells l true ∧
    ∀ j (hj : j < xss.length), ∃ bj, l[j]? = some (.sl (some (bj, 0)) xss[j].length xss[j].length true 1) ∧ lo ≤ bj ∧ bj < hi ∧ bj ≠ b ∧ bj < H.size ∧ ∃ zs : List Int, zs.length = xss[j].length ∧ H'.blk bj = .cells (zs.map (AV.int .i64)) true) (fun e _ => ctr xss.length (e 5)) ?_ ?_
  · exact ⟨0, 1, Nat.zero_le _, by simp (maxSteps := 2000000) (disch := first | omega | assumption | exact idP rfl | exact idP (bL rfl) | (simp only [alloc_size, upd_size]; done) | (simp only [alloc_size, upd_size]; omega) | fail) only [go_sem, reduceIte, Nat.reduceEqDiff], by simp (maxSteps := 2000000) (disch := first | omega | assumption | exact idP rfl | exact idP (bL rfl) | (simp only [alloc_size, upd_size]; done) | (simp only [alloc_size, upd_size]; omega) | fail) only [go_sem, reduceIte, Nat.reduceEqDiff], by simp (maxSteps := 2000000) (disch := first | omega | assumption | exact idP rfl | exact idP (bL rfl) | (simp only [alloc_size, upd_size]; done) | (simp only [alloc_size, upd_size]; omega) | fail) only [go_sem, reduceIte, Nat.reduceEqDiff]; rfl, by omega, by omega, rfl, rfl, q4, q6⟩
  · rintro e H1 ⟨i, k, hi', e0, e1, e5, k0, k1, hsz, hgap, hbl, hj⟩ K hK
    simp (maxSteps := 2000000) (disch := first | omega | assumption | exact idP rfl | exact idP (bL rfl) | (simp only [alloc_size, upd_size]; done) | (simp only [alloc_size, upd_size]; omega) | fail) only [go_sem, reduceIte, Nat.reduceEqDiff, e0, e5]
    refine condV_dec (fun h => ?_) (fun h => ?_)
    · have e5' := e5
      have hi2 : i < xss.length := by omega
      obtain ⟨bj, r1, r2, r3, r4, r5, zs, r6, r7⟩ := hj i hi2
      have hxi := hxl _ (List.getElem_mem hi2)
      have hg : H1.get b i = some (.sl (some (bj, 0)) xss[i].length xss[i].length true 1) := by
        have := Rd.blk (by omega) hbl i _ r1
        simpa using this
      simp (maxSteps := 2000000) (disch := first | omega | assumption | exact idP rfl | exact idP (bL rfl) | (simp only [alloc_size, upd_size]; done) | (simp only [alloc_size, upd_size]; omega) | fail) only [go_sem, reduceIte, Nat.reduceEqDiff, e0, e1, e5, hg]
      refine (s_markIntS (zs := zs) (rwCells_of (by omega) r7) r6.symm k0 (by omega)).mono ?_
      rintro r H2 ⟨rfl, rfl⟩
      simp (maxSteps := 2000000) (disch := first | omega | assumption | exact idP rfl | exact idP (bL rfl) | (simp only [alloc_size, upd_size]; done) | (simp only [alloc_size, upd_size]; omega) | fail) only [go_sem, reduceIte, Nat.reduceEqDiff, e5]
      refine hK _ _ ⟨i + 1, k + (xss[i].length : Int), by omega, by simp (maxSteps := 2000000) (disch := first | omega | assumption | exact idP rfl | exact idP (bL rfl) | (simp only [alloc_size, upd_size]; done) | (simp only [alloc_size, upd_size]; omega) | fail) only [go_sem, reduceIte, Nat.reduceEqDiff, e0], by simp (maxSteps := 2000000) (disch := first | omega | assumption | exact idP rfl | exact idP (bL rfl) | (simp only [alloc_size, upd_size]; done) | (simp only [alloc_size, upd_size]; omega) | fail) only [go_sem, reduceIte, Nat.reduceEqDiff], by simp (maxSteps := 2000000) (disch := first | omega | assumption | exact idP rfl | exact idP (bL rfl) | (simp only [alloc_size, upd_size]; done) | (simp only [alloc_size, upd_size]; omega) | fail) only [go_sem, reduceIte, Nat.reduceEqDiff]; rfl, by omega, by omega, hsz, by rw [gap_upd r2 r3]; exact hgap, by rw [upd_blk_ne (fun e => r4 e.symm)]; exact hbl, fun j hjj => ?_⟩ (by simp (maxSteps := 2000000) (disch := first | omega | assumption | exact idP rfl | exact idP (bL rfl) | (simp only [alloc_size, upd_size]; done) | (simp only [alloc_size, upd_size]; omega) | fail) only [go_sem, reduceIte, Nat.reduceEqDiff, ctr_int, e5']; omega)
      obtain ⟨bk, s1, s2, s3, s4, s5, zs', s6, s7⟩ := hj j hjj
      refine ⟨bk, s1, s2, s3, s4, s5, ?_⟩
      by_cases hbk : bk = bj
      · subst hbk
        rw [r7] at s7
        simp only [Blk.cells.injEq, and_true] at s7
        have hzz : zs.length = zs'.length := by simpa using congrArg List.length s7
        exact ⟨_, by rw [marks_len]; omega, upd_blk_same'⟩
      · exact ⟨zs', s6, by rw [upd_blk_ne hbk]; exact s7⟩
    · simp (maxSteps := 2000000) (disch := first | omega | assumption | exact idP rfl | exact idP (bL rfl) | (simp only [alloc_size, upd_size]; done) | (simp only [alloc_size, upd_size]; omega) | fail) only [go_sem, reduceIte, Nat.reduceEqDiff, e1]
      exact hR _ _ ⟨k, rfl, k0, hsz, hgap⟩
theorem s_markClauses {w : AV} {n : Int} {lo hi : Nat} {xss : List (List Int)} (ht : Tree H lo hi w xss) (hhi : hi ≤ H.size) (hl : xss.length ≤ 1048576) (hxl : ∀ xs ∈ xss, xs.length ≤ 1048576) :
    ACall Try.prog n_laws_markClauses [.agg [.int .i64 n, w], .int .i64 1] H (fun r' H' => ∃ k : Int, r' = .int .i64 k ∧ 0 ≤ k ∧ Le (H.gap lo hi) (H'.gap lo hi)) := by
  refine ACall.of fun R hR => a_laws_markClauses rfl ?_
  simp (maxSteps := 2000000) (disch := first | omega | assumption | exact idP rfl | exact idP (bL rfl) | (simp only [alloc_size, upd_size]; done) | (simp only [alloc_size, upd_size]; omega) | fail) only [go_sem, reduceIte, Nat.reduceEqDiff]
  refine (s_markIntSS (ht.le (Le.alloc H [.int .i64 n, w]) (Nat.le_refl _) (Nat.le_refl _)) hl hxl).mono ?_
  rintro r H1 ⟨k, rfl, k0, hsz, hgap⟩
  simp (maxSteps := 2000000) (disch := first | omega | assumption | exact idP rfl | exact idP (bL rfl) | (simp only [alloc_size, upd_size]; done) | (simp only [alloc_size, upd_size]; omega) | fail) only [go_sem, reduceIte, Nat.reduceEqDiff]
  refine hR _ _ ⟨k, rfl, k0, ?_⟩
  rw [hgap]
  exact ⟨Nat.le_succ _, fun b hb => by
    have hb : b < H.size := hb
    simp only [Heap.gap]
    split
    · exact .inl rfl
    · rw [alloc_old (by omega)]; exact .inr rfl⟩
end Go.M2

namespace Go.M2
open Go.Proofs
variable {H : Heap}
def SolRes (n : Int) (xss : List (List Int)) (vals : List Int) (ok : Bool) : Prop :=
  (¬ ClsOk n xss ∧ vals = [] ∧ ok = false) ∨ (ClsOk n xss ∧ ∃ (m : Nat) (res : Res) (P : List (List Int)) (d : Nat), n = m ∧ Try xss m [] [] 0 res P d ∧ ((∃ mm, res = .sat mm ∧ vals = (mm.drop 1).map valF ∧ ok = true) ∨ ((res = .no ∨ res = .cut) ∧ vals = [] ∧ ok = false)))
theorem SolRes.det {n : Int} {xss : List (List Int)} {v v' : List Int} {b b' : Bool} (h : SolRes n xss v b) (h' : SolRes n xss v' b') : v = v' ∧ b = b' := by
  rcases h with ⟨h1, rfl, rfl⟩ | ⟨h1, m, res, P, d, rfl, h2, h3⟩
  · rcases h' with ⟨_, rfl, rfl⟩ | ⟨h1', _⟩
    · exact ⟨rfl, rfl⟩
    · exact absurd h1' h1
  · rcases h' with ⟨h1', _⟩ | ⟨_, m', res', P', d', hm, h2', h3'⟩
    · exact absurd h1 h1'
    · obtain rfl : m = m' := by omega
      obtain ⟨rfl, rfl, rfl⟩ := h2.det h2'
      rcases h3 with ⟨mm, rfl, rfl, rfl⟩ | ⟨h4, rfl, rfl⟩
      · rcases h3' with ⟨mm', e, rfl, rfl⟩ | ⟨h5 | h5, _⟩
        · cases e; exact ⟨rfl, rfl⟩
        · cases h5
        · cases h5
      · rcases h3' with ⟨mm', rfl, _⟩ | ⟨_, rfl, rfl⟩
        · rcases h4 with h4 | h4 <;> cases h4
        · exact ⟨rfl, rfl⟩
theorem SolRes.len {n : Int} {xss : List (List Int)} {v : List Int} {b : Bool} (h : SolRes n xss v b) (hf : ∀ m : Nat, n = m → ∀ g P d r P' d', Try xss m g P d r P' d' → ∀ mm, r = .sat mm → mm.length = m + 1) : v.length ≤ 700 := by
  rcases h with ⟨h1, rfl, rfl⟩ | ⟨h1, m, res, P, d, rfl, h2, ⟨mm, rfl, rfl, rfl⟩ | ⟨_, rfl, rfl⟩⟩
  · simp
  · have := hf m rfl _ _ _ _ _ _ h2 mm rfl
    have := h1.hi
    simp; omega
  · simp
theorem passF_len : ∀ {t : List (List Int)} {m m' : List Int} {ag ag' : Bool}, passF t m ag = some (m', ag') → m'.length = m.length
  | [], m, m', ag, ag', h => by simp only [passF, Option.some.injEq, Prod.mk.injEq] at h; rw [h.1]
  | c :: t, m, m', ag, ag', h => by
    simp only [passF] at h
    split at h
    · cases h
    · split at h
      · have := passF_len h; simpa using this
      · exact passF_len h
theorem Force.len {cl : List (List Int)} {m : List Int} {r : Option (List Int)} (h : Force cl m r) : ∀ m', r = some m' → m'.length = m.length := by
  induction h with
  | bad _ => intro m' e; cases e
  | stop h => intro m' e; cases e; exact passF_len h
  | go h _ ih => intro m' e; rw [ih m' e, passF_len h]
theorem Try.len {cl : List (List Int)} {n : Nat} {g : List Int} {P P' : List (List Int)} {d d' : Nat} {r : Res} (h : Try cl n g P d r P' d') : ∀ mm, r = .sat mm → mm.length = n + 1 := by
  induction h with
  | sat f _ => intro mm e; cases e; rw [f.len _ rfl, given_len]
  | left _ _ _ _ _ ih => exact ih
  | right _ _ _ _ _ _ _ ih => exact ih
  | bothC => intro mm e; cases e
  | bothN => intro mm e; cases e
  | confC => intro mm e; cases e
  | confN => intro mm e; cases e
end Go.M2

namespace Go.M2
open Go.Proofs
variable {H : Heap}
theorem isII_of {B : Heap} {p : AV} {pc : List AV} {P : List (List Int)} (h0 : Le B H) (hown : Own 1 H p pc) (hlen : pc.length = P.length) (hel : ∀ i (h : i < P.length), ∃ u, pc[i]? = some u ∧ IsI B u P[i]) : IsII H p P := by
  obtain ⟨A, n, ex, k, rfl, h1, h2, h3⟩ := hown
  have hrd := Own.rd (⟨⟨A, n, ex, k, rfl, h1, h2, h3⟩⟩ : Own 1 H (.sl A n n ex k) pc)
  have hn : n = P.length := by omega
  subst hn
  refine ⟨A, P.length, ex, k, rfl, fun i hi => ?_⟩
  obtain ⟨u, h4, h5⟩ := hel i hi
  refine ⟨[u], rfl, fun j z hj => ?_, u, rfl, h5.le h0⟩
  cases j with
  | zero =>
    simp at hj; subst hj
    simpa using hrd i u h4
  | succ j => simp at hj
theorem PL.isII {B : Heap} {p : AV} {P : List (List Int)} (h : PL B H p P) : IsII H p P := by
  obtain ⟨h0, pc, h1, h2, h3⟩ := h
  exact isII_of (h0.trans (base_le _ _)) h1 h2 h3
theorem PLO.isII {lo : Nat} {B : Heap} {p : AV} {P : List (List Int)} (h : PLO lo B H p P) : IsII H p P := by
  obtain ⟨h0, _, pc, h1, h2, h3, _⟩ := h
  refine isII_of (h0.trans (base_le _ _)) h1 h2 fun i hi => ?_
  obtain ⟨u, q1, q2, _⟩ := h3 i hi
  exact ⟨u, q1, q2.isI⟩
theorem PLO.few {lo : Nat} {B : Heap} {p : AV} {P : List (List Int)} (h : PLO lo B H p P) : ∀ c ∈ P, c.length ≤ 1048576 := by
  obtain ⟨h0, _, pc, h1, h2, h3, _⟩ := h
  intro c hc
  obtain ⟨i, hi, rfl⟩ := List.getElem_of_mem hc
  obtain ⟨u, q1, q2, q3, q4⟩ := h3 i hi
  omega
theorem PLO.lower {lo lo' : Nat} {B : Heap} {p : AV} {P : List (List Int)} (h : PLO lo B H p P) (hl : lo' ≤ lo) : PLO lo' B H p P := by
  obtain ⟨h0, hs, pc, h1, h2, h3, h4⟩ := h
  refine ⟨h0, by omega, pc, h1, h2, fun i hi => ?_, h4⟩
  obtain ⟨u, q1, q2, q3, q4⟩ := h3 i hi
  exact ⟨u, q1, q2, q3.mono hl, q4⟩
theorem dis_base {B : Heap} {p u : AV} {l : List AV} {sz : Nat} (h : Le B (base H p)) (hu : Own sz B u l) : dis p u ∧ dis u p := by
  obtain ⟨A, n, ex, k, rfl, h1, h2, h3⟩ := hu
  have key : ∀ b o, A = some (b, o) → ∀ b' o', (∃ n c ex k, p = .sl (some (b', o')) n c ex k) → b ≠ b' := by
    rintro b o rfl b' o' ⟨n', c', ex', k', rfl⟩ rfl
    obtain ⟨_, _, q3, q4⟩ := h3 b o rfl
    rcases h.2 b q3 with h5 | h5
    · rw [q4] at h5; cases h5
    · rw [q4] at h5
      simp only [base] at h5
      rw [kill_dead] at h5; cases h5
  constructor
  · unfold dis
    split
    · rename_i b o _ _ _ _ e
      cases e
      unfold apart
      split
      · rename_i b' o' n' c' ex' k'
        exact fun e => key b o rfl b' o' ⟨_, _, _, _, rfl⟩ e.symm
      · trivial
    · trivial
  · unfold dis
    split
    · rename_i b' o' n' c' ex' k'
      unfold apart
      split
      · rename_i b o _ _ _ _ e
        cases e
        exact key b o rfl b' o' ⟨_, _, _, _, rfl⟩
      · trivial
    · trivial
def tot : List (List Int) → Nat
  | [] => 0
  | c :: t => c.length + tot t
theorem tot_take : ∀ {P : List (List Int)} {i : Nat} (h : i < P.length), tot (P.take (i + 1)) = tot (P.take i) + P[i].length
  | [], i, h => by simp at h
  | c :: t, 0, h => by simp [tot]
  | c :: t, i + 1, h => by
    have := tot_take (P := t) (i := i) (by simpa using h)
    simp only [List.take_succ_cons, tot, List.getElem_cons_succ] at this ⊢
    omega
theorem tot_le {P : List (List Int)} (h : ∀ i (hi : i < P.length), P[i].length ≤ 700) : ∀ i, i ≤ P.length → tot (P.take i) ≤ i * 700
  | 0, _ => by simp [tot]
  | i + 1, hi => by
    have := tot_le h i (by omega)
    rw [tot_take (by omega)]
    have := h i (by omega)
    omega
def marksL (P : List (List Int)) : List (List Int) := (List.range P.length).map fun (i : Nat) => marks (1 + (tot (P.take i) : Int)) (P.getD i []).length
theorem marksL_len {P : List (List Int)} : (marksL P).length = P.length := by simp [marksL]
theorem marksL_at {P : List (List Int)} {i : Nat} (h : i < P.length) : (marksL P)[i]'(by rw [marksL_len]; exact h) = marks (1 + (tot (P.take i) : Int)) P[i].length := by simp [marksL, List.getD, h]
set_option maxHeartbeats 4000000 in
theorem s_markForest {lo : Nat} {B : Heap} {v : AV} {P : List (List Int)} (h : PLO lo B H v P) (hP : P.length ≤ 600) :
    ACall Try.prog n_laws_markIntSS [v, .int .i64 1] H (fun r H' => r = .int .i64 (1 + (tot P : Int)) ∧ IsII H' v (marksL P) ∧ ∀ A : Heap, Le A H → A.size ≤ lo → Le A H') := by
  refine ACall.of fun R hR => a_laws_markIntSS rfl ?_
  obtain ⟨h0, hs, pc, hown, hlen, hel, hdis⟩ := h
  have h7 : ∀ i (hi : i < P.length), P[i].length ≤ 700 := fun i hi => by obtain ⟨u, _, _, _, q⟩ := hel i hi; exact q
  have hown' := hown
  obtain ⟨A, n, ex, k, rfl, h1, h2, h3⟩ := hown'
  have hn : n = P.length := by omega
  subst hn
  simp (maxSteps := 2000000) (disch := first | omega | assumption | exact idP rfl | exact idP (bL rfl) | (simp only [alloc_size, upd_size]; done) | (simp only [alloc_size, upd_size]; omega) | fail) only [go_sem, reduceIte, Nat.reduceEqDiff]
  refine wp_loop_k (fun e H' => ∃ i : Nat, i ≤ P.length ∧ e 0 = .sl A P.length P.length ex k ∧ e 1 = .int .i64 (1 + (tot (P.take i) : Int)) ∧ e 5 = .int .i64 (i : Int) ∧ Own 1 H' (.sl A P.length P.length ex k) pc ∧ (∀ A : Heap, Le A H → A.size ≤ lo → Le A H') ∧
    ∀ j (hj : j < P.length), ∃ u, pc[j]? = some u ∧ newer lo u ∧ dis (.sl A P.length P.length ex k) u ∧ ∃ L : List Int, Own 1 H' u (L.map (AV.int .i64)) ∧ L.length = P[j].length ∧ (j < i → L = marks (1 + (tot (P.take j) : Int)) P[j].length)) (fun e _ => ctr P.length (e 5)) ?_ ?_
  · refine ⟨0, Nat.zero_le _, by simp (maxSteps := 2000000) (disch := first | omega | assumption | exact idP rfl | exact idP (bL rfl) | (simp only [alloc_size, upd_size]; done) | (simp only [alloc_size, upd_size]; omega) | fail) only [go_sem, reduceIte, Nat.reduceEqDiff], by simp (maxSteps := 2000000) (disch := first | omega | assumption | exact idP rfl | exact idP (bL rfl) | (simp only [alloc_size, upd_size]; done) | (simp only [alloc_size, upd_size]; omega) | fail) only [go_sem, reduceIte, Nat.reduceEqDiff]; rfl, by simp (maxSteps := 2000000) (disch := first | omega | assumption | exact idP rfl | exact idP (bL rfl) | (simp only [alloc_size, upd_size]; done) | (simp only [alloc_size, upd_size]; omega) | fail) only [go_sem, reduceIte, Nat.reduceEqDiff]; rfl, hown, fun A hA _ => hA, fun j hj => ?_⟩
    obtain ⟨u, q1, q2, q3, q4⟩ := hel j hj
    exact ⟨u, q1, q3, (dis_base h0 q2).1, P[j], q2.le (h0.trans (base_le _ _)), rfl, fun h => by omega⟩
  · rintro e H1 ⟨i, hi, e0, e1, e5, ho1, hA1, hj⟩ K hK
    simp (maxSteps := 2000000) (disch := first | omega | assumption | exact idP rfl | exact idP (bL rfl) | (simp only [alloc_size, upd_size]; done) | (simp only [alloc_size, upd_size]; omega) | fail) only [go_sem, reduceIte, Nat.reduceEqDiff, e0, e5]
    refine condV_dec (fun h => ?_) (fun h => ?_)
    · have e5' := e5
      have hi' : i < P.length := by omega
      obtain ⟨u, q1, q2, q3, L, q4, q5, _⟩ := hj i hi'
      have hg : H1.get A.b (A.o + i) = some u := Own.rd ho1 i u q1
      have hti := tot_le h7 i (by omega)
      have h7i := h7 i hi'
      simp (maxSteps := 2000000) (disch := first | omega | assumption | exact idP rfl | exact idP (bL rfl) | (simp only [alloc_size, upd_size]; done) | (simp only [alloc_size, upd_size]; omega) | fail) only [go_sem, reduceIte, Nat.reduceEqDiff, e0, e1, e5, hg]
      refine (s_markOwn q4 (by omega) (by omega)).mono ?_
      rintro r H2 ⟨rfl, hom, hle2⟩
      simp (maxSteps := 2000000) (disch := first | omega | assumption | exact idP rfl | exact idP (bL rfl) | (simp only [alloc_size, upd_size]; done) | (simp only [alloc_size, upd_size]; omega) | fail) only [go_sem, reduceIte, Nat.reduceEqDiff, e5]
      refine hK _ _ ⟨i + 1, by omega, by simp (maxSteps := 2000000) (disch := first | omega | assumption | exact idP rfl | exact idP (bL rfl) | (simp only [alloc_size, upd_size]; done) | (simp only [alloc_size, upd_size]; omega) | fail) only [go_sem, reduceIte, Nat.reduceEqDiff, e0], by simp (maxSteps := 2000000) (disch := first | omega | assumption | exact idP rfl | exact idP (bL rfl) | (simp only [alloc_size, upd_size]; done) | (simp only [alloc_size, upd_size]; omega) | fail) only [go_sem, reduceIte, Nat.reduceEqDiff]; rw [tot_take hi', q5, show (1 : Int) + (tot (P.take i) : Int) + (P[i].length : Int) = 1 + ((tot (P.take i) + P[i].length : Nat) : Int) by omega], by simp (maxSteps := 2000000) (disch := first | omega | assumption | exact idP rfl | exact idP (bL rfl) | (simp only [alloc_size, upd_size]; done) | (simp only [alloc_size, upd_size]; omega) | fail) only [go_sem, reduceIte, Nat.reduceEqDiff]; rfl, ?_, fun A hA hs' => ?_, fun j hjj => ?_⟩ (by simp (maxSteps := 2000000) (disch := first | omega | assumption | exact idP rfl | exact idP (bL rfl) | (simp only [alloc_size, upd_size]; done) | (simp only [alloc_size, upd_size]; omega) | fail) only [go_sem, reduceIte, Nat.reduceEqDiff, ctr_int, e5']; omega)
      · exact ((ho1.base q3).le hle2).le (base_le _ _)
      · exact (((hA1 A hA hs').newBase (q2.mono hs')).trans hle2).trans (base_le _ _)
      · obtain ⟨w, r1, r2, r3, L', r4, r5, r6⟩ := hj j hjj
        by_cases hji : j = i
        · subst hji
          rw [q1] at r1; cases r1
          exact ⟨u, q1, q2, q3, _, hom, by rw [marks_len]; exact q5, fun _ => by rw [q5]⟩
        · have hd : dis w u := by
            rcases Nat.lt_or_gt_of_ne hji with hlt | hlt
            · exact (hdis j i w u hlt r1 q1).1
            · exact (hdis i j u w hlt q1 r1).2
          exact ⟨w, r1, r2, r3, L', ((r4.base hd).le hle2).le (base_le _ _), r5, fun h => r6 (by omega)⟩
    · obtain rfl : i = P.length := by omega
      rw [List.take_length] at e1
      simp (maxSteps := 2000000) (disch := first | omega | assumption | exact idP rfl | exact idP (bL rfl) | (simp only [alloc_size, upd_size]; done) | (simp only [alloc_size, upd_size]; omega) | fail) only [go_sem, reduceIte, Nat.reduceEqDiff, e1]
      refine hR _ _ ⟨rfl, ?_, hA1⟩
      refine isII_of (B := H1) (Le.refl _) ho1 (by rw [marksL_len]; exact hlen) fun i hi => ?_
      rw [marksL_len] at hi
      obtain ⟨u, q1, _, _, L, q4, q5, q6⟩ := hj i hi
      refine ⟨u, q1, ?_⟩
      rw [marksL_at hi, ← q6 hi]
      exact q4.isI
theorem s_heldIntSS {v : AV} {P : List (List Int)} (hv : IsII H v (marksL P)) (hP : P.length ≤ 600) (h7 : ∀ i (hi : i < P.length), P[i].length ≤ 700) :
    ACall Try.prog n_laws_heldIntSS [v, .int .i64 1] H (fun r H' => r = .int .i64 (1 + (tot P : Int)) ∧ H' = H) := by
  refine ACall.of fun R hR => a_laws_heldIntSS rfl ?_
  obtain ⟨A, c, ex, k, rfl, hr⟩ := hv.parts
  simp only [marksL_len] at hr ⊢
  simp (maxSteps := 2000000) (disch := first | omega | assumption | exact idP rfl | exact idP (bL rfl) | (simp only [alloc_size, upd_size]; done) | (simp only [alloc_size, upd_size]; omega) | fail) only [go_sem, reduceIte, Nat.reduceEqDiff]
  refine wp_loop_k (fun e H' => H = H' ∧ ∃ i : Nat, i ≤ P.length ∧ e 0 = .sl A P.length c ex k ∧ e 1 = .int .i64 (1 + (tot (P.take i) : Int)) ∧ e 5 = .int .i64 (i : Int)) (fun e _ => ctr P.length (e 5)) ?_ ?_
  · exact ⟨rfl, 0, Nat.zero_le _, by simp (maxSteps := 2000000) (disch := first | omega | assumption | exact idP rfl | exact idP (bL rfl) | (simp only [alloc_size, upd_size]; done) | (simp only [alloc_size, upd_size]; omega) | fail) only [go_sem, reduceIte, Nat.reduceEqDiff], by simp (maxSteps := 2000000) (disch := first | omega | assumption | exact idP rfl | exact idP (bL rfl) | (simp only [alloc_size, upd_size]; done) | (simp only [alloc_size, upd_size]; omega) | fail) only [go_sem, reduceIte, Nat.reduceEqDiff]; rfl, by simp (maxSteps := 2000000) (disch := first | omega | assumption | exact idP rfl | exact idP (bL rfl) | (simp only [alloc_size, upd_size]; done) | (simp only [alloc_size, upd_size]; omega) | fail) only [go_sem, reduceIte, Nat.reduceEqDiff]; rfl⟩
  · rintro e H1 ⟨rfl, i, hi, e0, e1, e5⟩ K hK
    simp (maxSteps := 2000000) (disch := first | omega | assumption | exact idP rfl | exact idP (bL rfl) | (simp only [alloc_size, upd_size]; done) | (simp only [alloc_size, upd_size]; omega) | fail) only [go_sem, reduceIte, Nat.reduceEqDiff, e0, e5]
    refine condV_dec (fun h => ?_) (fun h => ?_)
    · have e5' := e5
      have hi' : i < P.length := by omega
      obtain ⟨u, hg, hu⟩ := hr i (by omega)
      rw [marksL_at hi'] at hu
      rw [Nat.mul_one] at hg
      have hti := tot_le h7 i (by omega)
      have h7i := h7 i hi'
      simp (maxSteps := 2000000) (disch := first | omega | assumption | exact idP rfl | exact idP (bL rfl) | (simp only [alloc_size, upd_size]; done) | (simp only [alloc_size, upd_size]; omega) | fail) only [go_sem, reduceIte, Nat.reduceEqDiff, e0, e1, e5, hg]
      refine (s_heldIntS (n := P[i].length) hu (by omega) (by omega)).mono ?_
      rintro r H2 ⟨rfl, rfl⟩
      simp (maxSteps := 2000000) (disch := first | omega | assumption | exact idP rfl | exact idP (bL rfl) | (simp only [alloc_size, upd_size]; done) | (simp only [alloc_size, upd_size]; omega) | fail) only [go_sem, reduceIte, Nat.reduceEqDiff]
      refine condV_dec (fun h => absurd h (by omega)) (fun _ => ?_)
      simp (maxSteps := 2000000) (disch := first | omega | assumption | exact idP rfl | exact idP (bL rfl) | (simp only [alloc_size, upd_size]; done) | (simp only [alloc_size, upd_size]; omega) | fail) only [go_sem, reduceIte, Nat.reduceEqDiff, e5]
      exact hK _ _ ⟨rfl, i + 1, by omega, by simp (maxSteps := 2000000) (disch := first | omega | assumption | exact idP rfl | exact idP (bL rfl) | (simp only [alloc_size, upd_size]; done) | (simp only [alloc_size, upd_size]; omega) | fail) only [go_sem, reduceIte, Nat.reduceEqDiff, e0], by simp (maxSteps := 2000000) (disch := first | omega | assumption | exact idP rfl | exact idP (bL rfl) | (simp only [alloc_size, upd_size]; done) | (simp only [alloc_size, upd_size]; omega) | fail) only [go_sem, reduceIte, Nat.reduceEqDiff]; rw [tot_take hi', show (1 : Int) + (tot (P.take i) : Int) + (P[i].length : Int) = 1 + ((tot (P.take i) + P[i].length : Nat) : Int) by omega], by simp (maxSteps := 2000000) (disch := first | omega | assumption | exact idP rfl | exact idP (bL rfl) | (simp only [alloc_size, upd_size]; done) | (simp only [alloc_size, upd_size]; omega) | fail) only [go_sem, reduceIte, Nat.reduceEqDiff]; rfl⟩ (by simp (maxSteps := 2000000) (disch := first | omega | assumption | exact idP rfl | exact idP (bL rfl) | (simp only [alloc_size, upd_size]; done) | (simp only [alloc_size, upd_size]; omega) | fail) only [go_sem, reduceIte, Nat.reduceEqDiff, ctr_int, e5']; omega)
    · obtain rfl : i = P.length := by omega
      rw [List.take_length] at e1
      simp (maxSteps := 2000000) (disch := first | omega | assumption | exact idP rfl | exact idP (bL rfl) | (simp only [alloc_size, upd_size]; done) | (simp only [alloc_size, upd_size]; omega) | fail) only [go_sem, reduceIte, Nat.reduceEqDiff, e1]
      exact hR _ _ ⟨rfl, rfl⟩
end Go.M2

namespace Go.M2
open Go.Proofs
variable {H : Heap}
def RefRes (n : Int) (xss : List (List Int)) (Q : List (List Int)) (ok : Bool) : Prop :=
  (¬ ClsOk n xss ∧ Q = [] ∧ ok = false) ∨ (ClsOk n xss ∧ ∃ (m : Nat) (res : Res) (P : List (List Int)) (d : Nat), n = m ∧ Try xss m [] [] 0 res P d ∧ ((res = .no ∧ Q = P ∧ ok = true) ∨ (res ≠ .no ∧ Q = [] ∧ ok = false)))
theorem RefRes.det {n : Int} {xss : List (List Int)} {v v' : List (List Int)} {b b' : Bool} (h : RefRes n xss v b) (h' : RefRes n xss v' b') : v = v' ∧ b = b' := by
  rcases h with ⟨h1, rfl, rfl⟩ | ⟨h1, m, res, P, d, rfl, h2, h3⟩
  · rcases h' with ⟨_, rfl, rfl⟩ | ⟨h1', _⟩
    · exact ⟨rfl, rfl⟩
    · exact absurd h1' h1
  · rcases h' with ⟨h1', _⟩ | ⟨_, m', res', P', d', hm, h2', h3'⟩
    · exact absurd h1 h1'
    · obtain rfl : m = m' := by omega
      obtain ⟨rfl, rfl, rfl⟩ := h2.det h2'
      rcases h3 with ⟨h4, rfl, rfl⟩ | ⟨h4, rfl, rfl⟩
      · rcases h3' with ⟨_, rfl, rfl⟩ | ⟨h5, _⟩
        · exact ⟨rfl, rfl⟩
        · exact absurd h4 h5
      · rcases h3' with ⟨h5, _⟩ | ⟨_, rfl, rfl⟩
        · exact absurd h5 h4
        · exact ⟨rfl, rfl⟩
theorem s_specRefute {x : AV} {k : Int} {xss : List (List Int)} (hx : IsCl H x k xss) (hl : xss.length ≤ 1048576) (hxl : ∀ xs ∈ xss, xs.length ≤ 1048576) :
    ACall Try.prog n_spec_Refute [x] H (fun r H' => Le H H' ∧ ∃ u Q ok, r = .tup [u, .bool ok] ∧ IsII H' u Q ∧ RefRes k xss Q ok) := by
  refine ACall.of fun R hR => a_spec_Refute rfl ?_
  obtain ⟨fl, rfl, hv⟩ := hx
  have nilI : ∀ H' : Heap, IsII H' (.sl none 0 0 true 0) [] := fun H' => ⟨none, 0, true, 0, rfl, fun i h => by simp at h⟩
  simp (maxSteps := 2000000) (disch := first | omega | assumption | exact idP rfl | exact idP (bL rfl) | (simp only [alloc_size, upd_size]; done) | (simp only [alloc_size, upd_size]; omega) | fail) only [go_sem, reduceIte, Nat.reduceEqDiff]
  have hcl : IsCl (H.alloc [.int .i64 k, fl]) (.agg [.int .i64 k, fl]) k xss := ⟨fl, rfl, hv.le (Le.alloc _ _)⟩
  refine (s_specClausesValid hcl hl hxl).mono ?_
  rintro r H1 ⟨hle1, b, rfl, hb⟩
  have hH1 := (Le.alloc H [.int .i64 k, fl]).trans hle1
  cases b with
  | false =>
    have hnot : ¬ ClsOk k xss := fun h => by have := hb.2 h; cases this
    simp (maxSteps := 2000000) (disch := first | omega | assumption | exact idP rfl | exact idP (bL rfl) | (simp only [alloc_size, upd_size]; done) | (simp only [alloc_size, upd_size]; omega) | fail) only [go_sem, reduceIte, Nat.reduceEqDiff]
    exact hR _ _ ⟨hH1, _, [], false, rfl, nilI _, .inl ⟨hnot, rfl, rfl⟩⟩
  | true =>
    have hok := hb.1 rfl
    obtain ⟨n, rfl⟩ : ∃ n : Nat, k = n := ⟨k.toNat, by have := hok.lo; omega⟩
    have g0 : H1.get H.size 0 = some (.int .i64 (n : Int)) := hle1.get (by simp (maxSteps := 2000000) (disch := first | omega | assumption | exact idP rfl | exact idP (bL rfl) | (simp only [alloc_size, upd_size]; done) | (simp only [alloc_size, upd_size]; omega) | fail) only [go_sem, reduceIte, Nat.reduceEqDiff])
    have g1 : H1.get H.size 1 = some fl := hle1.get (by simp (maxSteps := 2000000) (disch := first | omega | assumption | exact idP rfl | exact idP (bL rfl) | (simp only [alloc_size, upd_size]; done) | (simp only [alloc_size, upd_size]; omega) | fail) only [go_sem, reduceIte, Nat.reduceEqDiff])
    simp (maxSteps := 2000000) (disch := first | omega | assumption | exact idP rfl | exact idP (bL rfl) | (simp only [alloc_size, upd_size]; done) | (simp only [alloc_size, upd_size]; omega) | fail) only [go_sem, reduceIte, Nat.reduceEqDiff, g0, g1]
    refine (s_l12Search (hcl.le hle1) hok hl hxl).mono ?_
    rintro r H2 ⟨res, P', d', fl', p', w, ok, ct, B', htry, rfl, hle2, hof, hop, how, hno, hcut, hsat⟩
    have hc1 : cellsOf p' = some [p'] := by cases p' <;> first | rfl | cases hop
    have hc2 : cellsOf fl' = some [fl'] := by cases fl' <;> first | rfl | cases hof
    simp (maxSteps := 2000000) (disch := first | omega | assumption | exact idP rfl | exact idP (bL rfl) | (simp only [alloc_size, upd_size]; done) | (simp only [alloc_size, upd_size]; omega) | fail) only [go_sem, reduceIte, Nat.reduceEqDiff, hc1, hc2]
    have hH2 := hH1.trans hle2
    cases res with
    | cut =>
      obtain ⟨rfl, rfl, rfl⟩ := hcut rfl
      simp (maxSteps := 2000000) (disch := first | omega | assumption | exact idP rfl | exact idP (bL rfl) | (simp only [alloc_size, upd_size]; done) | (simp only [alloc_size, upd_size]; omega) | fail) only [go_sem, reduceIte, Nat.reduceEqDiff]
      exact hR _ _ ⟨hH2.allocs.updFresh hH2.1, _, [], false, rfl, nilI _, .inr ⟨hok, n, .cut, P', d', rfl, htry, .inr ⟨by simp, rfl, rfl⟩⟩⟩
    | no =>
      obtain ⟨rfl, rfl, hpl, rfl⟩ := hno rfl
      simp (maxSteps := 2000000) (disch := first | omega | assumption | exact idP rfl | exact idP (bL rfl) | (simp only [alloc_size, upd_size]; done) | (simp only [alloc_size, upd_size]; omega) | fail) only [go_sem, reduceIte, Nat.reduceEqDiff]
      exact hR _ _ ⟨hH2.allocs.updFresh hH2.1, p', P', true, rfl, hpl.isII.le ((Le.refl H2).allocs.updFresh (Nat.le_refl _)), .inr ⟨hok, n, .no, P', d', rfl, htry, .inl ⟨rfl, rfl, rfl⟩⟩⟩
    | sat m =>
      obtain ⟨rfl, rfl, hw, hB⟩ := hsat m rfl
      simp (maxSteps := 2000000) (disch := first | omega | assumption | exact idP rfl | exact idP (bL rfl) | (simp only [alloc_size, upd_size]; done) | (simp only [alloc_size, upd_size]; omega) | fail) only [go_sem, reduceIte, Nat.reduceEqDiff]
      exact hR _ _ ⟨hH2.allocs.updFresh hH2.1, _, [], false, rfl, nilI _, .inr ⟨hok, n, .sat m, P', d', rfl, htry, .inr ⟨by simp, rfl, rfl⟩⟩⟩
theorem s_implCloneS {v : AV} {pc : List AV} (hv : Own 1 H v pc) (ho : pc.all oneA = true) (hl : pc.length ≤ 1048576) :
    ACall Try.prog n_impl_clone_Sint [v] H (fun r H' => Own 1 H' r pc ∧ Le H (base H' r) ∧ newer H.size r) := by
  refine ACall.of fun R hR => a_impl_clone_Sint rfl ?_
  have hv' := hv
  obtain ⟨A, n, ex, k, rfl, h1, h2, h3⟩ := hv'
  have hrd := Own.rd hv
  have hn : n = pc.length := by omega
  subst hn
  simp (maxSteps := 2000000) (disch := first | omega | assumption | exact idP rfl | exact idP (bL rfl) | (simp only [alloc_size, upd_size]; done) | (simp only [alloc_size, upd_size]; omega) | fail) only [go_sem, reduceIte, Nat.reduceEqDiff]
  refine condV_dec (fun h => ?_) (fun h => ?_)
  · have : pc = [] := List.eq_nil_of_length_eq_zero (by omega)
    subst this
    simp (maxSteps := 2000000) (disch := first | omega | assumption | exact idP rfl | exact idP (bL rfl) | (simp only [alloc_size, upd_size]; done) | (simp only [alloc_size, upd_size]; omega) | fail) only [go_sem, reduceIte, Nat.reduceEqDiff]
    exact hR _ _ ⟨Own.nil, Le.refl _, trivial⟩
  · simp (maxSteps := 2000000) (disch := first | omega | assumption | exact idP rfl | exact idP (bL rfl) | (simp only [alloc_size, upd_size]; done) | (simp only [alloc_size, upd_size]; omega) | fail) only [go_sem, reduceIte, Nat.reduceEqDiff]
    refine mks_own (by omega) (by simp [mostCells]; omega) (by simp [mostCells]; omega) ?_
    simp (maxSteps := 2000000) (disch := first | omega | assumption | exact idP rfl | exact idP (bL rfl) | (simp only [alloc_size, upd_size]; done) | (simp only [alloc_size, upd_size]; omega) | fail) only [go_sem, reduceIte, Nat.reduceEqDiff]
    have hld : loadN (H.alloc (zeros [.sl none 0 0 true 0] pc.length)) A.b A.o pc.length = some pc := (hrd.le (Le.alloc H (zeros [.sl none 0 0 true 0] pc.length))).loadN
    unfold copyP
    simp only [AA.b_some, AA.o_some, Nat.min_self, Nat.mul_one, hld]
    rw [if_neg (by omega), rw_alloc_new rfl]
    refine ⟨ho, by rw [zeros_len rfl]; omega, ?_⟩
    have hz := setAt_all pc (zeros [.sl none 0 0 true 0] pc.length) [] (by rw [zeros_len rfl])
    simp only [List.nil_append, List.length_nil] at hz
    rw [hz]
    simp (maxSteps := 2000000) (disch := first | omega | assumption | exact idP rfl | exact idP (bL rfl) | (simp only [alloc_size, upd_size]; done) | (simp only [alloc_size, upd_size]; omega) | fail) only [go_sem, reduceIte, Nat.reduceEqDiff]
    refine hR _ _ ⟨⟨some (H.size, 0), pc.length, true, 1, rfl, by simp, fun h => (nomatch h), fun b o e => ?_⟩, ?_, Nat.le_refl _⟩
    · cases e; exact ⟨rfl, rfl, Nat.lt_succ_self _, upd_blk_same'⟩
    · show Le H ((_ : Heap).kill H.size)
      exact (((Le.alloc H _).updFresh (Nat.le_refl _))).killFresh (Nat.le_refl _)
theorem plo_nil {lo : Nat} (h : lo ≤ H.size) : PLO lo H H (.sl none 0 0 true 0) [] := ⟨Le.refl _, h, [], Own.nil, rfl, fun i h => by simp at h, fun i j u v h1 h2 => by simp at h2⟩
theorem s_implRefute {x : AV} {k : Int} {xss : List (List Int)} (hx : IsCl H x k xss) (hl : xss.length ≤ 1048576) (hxl : ∀ xs ∈ xss, xs.length ≤ 1048576) :
    ACall Try.prog n_impl_Refute [x] H (fun r H' => ∃ u Q ok B', r = .tup [u, .bool ok] ∧ PLO H.size B' H' u Q ∧ Le H H' ∧ newer H.size u ∧ Q.length ≤ 600 ∧ RefRes k xss Q ok) := by
  refine ACall.of fun R hR => a_impl_Refute rfl ?_
  obtain ⟨fl, rfl, hv⟩ := hx
  simp (maxSteps := 2000000) (disch := first | omega | assumption | exact idP rfl | exact idP (bL rfl) | (simp only [alloc_size, upd_size]; done) | (simp only [alloc_size, upd_size]; omega) | fail) only [go_sem, reduceIte, Nat.reduceEqDiff]
  have hcl : IsCl (H.alloc [.int .i64 k, fl]) (.agg [.int .i64 k, fl]) k xss := ⟨fl, rfl, hv.le (Le.alloc _ _)⟩
  refine (s_implClausesValid hcl hl hxl).mono ?_
  rintro r H1 ⟨hle1, b, rfl, hb⟩
  have hH1 := (Le.alloc H [.int .i64 k, fl]).trans hle1
  cases b with
  | false =>
    have hnot : ¬ ClsOk k xss := fun h => by have := hb.2 h; cases this
    simp (maxSteps := 2000000) (disch := first | omega | assumption | exact idP rfl | exact idP (bL rfl) | (simp only [alloc_size, upd_size]; done) | (simp only [alloc_size, upd_size]; omega) | fail) only [go_sem, reduceIte, Nat.reduceEqDiff]
    exact hR _ _ ⟨.sl none 0 0 true 0, [], false, _, rfl, plo_nil hH1.1, hH1, trivial, by simp, .inl ⟨hnot, rfl, rfl⟩⟩
  | true =>
    have hok := hb.1 rfl
    obtain ⟨n, rfl⟩ : ∃ n : Nat, k = n := ⟨k.toNat, by have := hok.lo; omega⟩
    have g0 : H1.get H.size 0 = some (.int .i64 (n : Int)) := hle1.get (by simp (maxSteps := 2000000) (disch := first | omega | assumption | exact idP rfl | exact idP (bL rfl) | (simp only [alloc_size, upd_size]; done) | (simp only [alloc_size, upd_size]; omega) | fail) only [go_sem, reduceIte, Nat.reduceEqDiff])
    have g1 : H1.get H.size 1 = some fl := hle1.get (by simp (maxSteps := 2000000) (disch := first | omega | assumption | exact idP rfl | exact idP (bL rfl) | (simp only [alloc_size, upd_size]; done) | (simp only [alloc_size, upd_size]; omega) | fail) only [go_sem, reduceIte, Nat.reduceEqDiff])
    simp (maxSteps := 2000000) (disch := first | omega | assumption | exact idP rfl | exact idP (bL rfl) | (simp only [alloc_size, upd_size]; done) | (simp only [alloc_size, upd_size]; omega) | fail) only [go_sem, reduceIte, Nat.reduceEqDiff, g0, g1]
    refine (s_hunted (hcl.le hle1) hok hl hxl).mono ?_
    rintro r H2 ⟨res, P', d', hb, fl', p', w, ct, B', htry, rfl, hle2, hw, hof, hop, how, hno, hcut, hsat⟩
    obtain ⟨q1, q2⟩ := Heap.rwCells_blk hw
    have u2 : H2.get hb 2 = some p' := Rd.blk q1 q2 2 _ rfl
    have u4 : H2.get hb 4 = some w := Rd.blk q1 q2 4 _ rfl
    have u5 : H2.get hb 5 = some (.bool ct) := Rd.blk q1 q2 5 _ rfl
    have hH2 := hH1.trans hle2
    simp (maxSteps := 2000000) (disch := first | omega | assumption | exact idP rfl | exact idP (bL rfl) | (simp only [alloc_size, upd_size]; done) | (simp only [alloc_size, upd_size]; omega) | fail) only [go_sem, reduceIte, Nat.reduceEqDiff, u5]
    cases res with
    | cut =>
      obtain rfl := hcut rfl
      simp (maxSteps := 2000000) (disch := first | omega | assumption | exact idP rfl | exact idP (bL rfl) | (simp only [alloc_size, upd_size]; done) | (simp only [alloc_size, upd_size]; omega) | fail) only [go_sem, reduceIte, Nat.reduceEqDiff]
      exact hR _ _ ⟨.sl none 0 0 true 0, [], false, _, rfl, plo_nil hH2.1, hH2, trivial, by simp, .inr ⟨hok, n, .cut, P', d', rfl, htry, .inr ⟨by simp, rfl, rfl⟩⟩⟩
    | sat m =>
      obtain ⟨rfl, hwi, hB, bb, nn, rfl⟩ := hsat m rfl
      simp (maxSteps := 2000000) (disch := first | omega | assumption | exact idP rfl | exact idP (bL rfl) | (simp only [alloc_size, upd_size]; done) | (simp only [alloc_size, upd_size]; omega) | fail) only [go_sem, reduceIte, Nat.reduceEqDiff, u4]
      exact hR _ _ ⟨.sl none 0 0 true 0, [], false, _, rfl, plo_nil hH2.1, hH2, trivial, by simp, .inr ⟨hok, n, .sat m, P', d', rfl, htry, .inr ⟨by simp, rfl, rfl⟩⟩⟩
    | no =>
      obtain ⟨rfl, hpl, hfew, rfl⟩ := hno rfl
      obtain ⟨p0, ps, pc, po, pl, pe, pd⟩ := hpl.lower hH1.1
      simp (maxSteps := 2000000) (disch := first | omega | assumption | exact idP rfl | exact idP (bL rfl) | (simp only [alloc_size, upd_size]; done) | (simp only [alloc_size, upd_size]; omega) | fail) only [go_sem, reduceIte, Nat.reduceEqDiff, u4, u2]
      refine (s_implCloneS po ?_ (by omega)).mono ?_
      · rw [List.all_eq_true]
        intro u hu
        obtain ⟨i, hi, rfl⟩ := List.getElem_of_mem hu
        obtain ⟨u', e1, e2, _⟩ := pe i (by omega)
        rw [List.getElem?_eq_getElem hi] at e1
        cases e1
        obtain ⟨_, _, _, _, e, _⟩ := e2
        rw [e]; rfl
      rintro u H3 ⟨ho, hle3, hnew⟩
      simp (maxSteps := 2000000) (disch := first | omega | assumption | exact idP rfl | exact idP (bL rfl) | (simp only [alloc_size, upd_size]; done) | (simp only [alloc_size, upd_size]; omega) | fail) only [go_sem, reduceIte, Nat.reduceEqDiff]
      exact hR _ _ ⟨u, P', true, B', rfl, ⟨(p0.trans (base_le _ _)).trans hle3, ps, pc, ho, pl, pe, pd⟩, hH2.trans (hle3.trans (base_le _ _)), hnew.mono hH2.1, hfew, .inr ⟨hok, n, .no, P', d', rfl, htry, .inl ⟨rfl, rfl, rfl⟩⟩⟩
end Go.M2

namespace Go.M2
open Go.Proofs
variable {H : Heap}
theorem base_later {u : AV} {n : Nat} : base (H.later n) u = (base H u).later n := by
  unfold base
  split
  · unfold Heap.kill Heap.upd Heap.later
    simp only [Heap.mk.injEq, true_and]
    funext i
    split <;> split <;> simp_all
  · rfl
theorem PLO.later {lo : Nat} {B : Heap} {u : AV} {P : List (List Int)} (h : PLO lo B H u P) (hn : newer lo u) : PLO lo (B.later lo) (H.later lo) u P := by
  obtain ⟨h0, hs, pc, h1, h2, h3, h4⟩ := h
  refine ⟨by rw [base_later]; exact later_mono h0 (Nat.le_refl _), hs, pc, h1.later hn, h2, fun i hi => ?_, h4⟩
  obtain ⟨w, q1, q2, q3, q4⟩ := h3 i hi
  exact ⟨w, q1, q2.later q3, q3, q4⟩
theorem PLO.short {lo : Nat} {B : Heap} {u : AV} {P : List (List Int)} (h : PLO lo B H u P) : ∀ i (hi : i < P.length), P[i].length ≤ 700 := by
  obtain ⟨h0, hs, pc, h1, h2, h3, h4⟩ := h
  intro i hi
  obtain ⟨w, q1, q2, q3, q4⟩ := h3 i hi
  exact q4
set_option maxHeartbeats 4000000 in
theorem law_Refute {v : AV} {n : Int} {xss : List (List Int)} (hv : InS 1 (EN 1 EI) H v xss) (h0 : xss.length ≤ 9223372036854775807) (hx : ∀ xs ∈ xss, xs.length ≤ 9223372036854775807) :
    ACall Try.prog n_laws_FnExactRefute [.agg [.int .i64 n, v]] H (fun r _ => r = .bool true) := by
  refine ACall.of fun R hR => a_laws_FnExactRefute rfl ?_
  simp (maxSteps := 2000000) (disch := first | omega | assumption | exact idP rfl | exact idP (bL rfl) | (simp only [alloc_size, upd_size]; done) | (simp only [alloc_size, upd_size]; omega) | fail) only [go_sem, reduceIte, Nat.reduceEqDiff]
  have hv1 := hv.le (mono_N mono_I) (Le.alloc H [.int .i64 n, v])
  refine (s_szClauses hv1 h0 hx (by omega) (by omega)).mono ?_
  rintro r H2 ⟨hle2, k, rfl, hk1, hk2⟩
  simp (maxSteps := 2000000) (disch := first | omega | assumption | exact idP rfl | exact idP (bL rfl) | (simp only [alloc_size, upd_size]; done) | (simp only [alloc_size, upd_size]; omega) | fail) only [go_sem, reduceIte, Nat.reduceEqDiff]
  refine condV_dec (fun h => ?_) (fun h => ?_)
  · simp (maxSteps := 2000000) (disch := first | omega | assumption | exact idP rfl | exact idP (bL rfl) | (simp only [alloc_size, upd_size]; done) | (simp only [alloc_size, upd_size]; omega) | fail) only [go_sem, reduceIte, Nat.reduceEqDiff]
    exact hR _ _ rfl
  obtain ⟨hl, hxl⟩ := hk2 (by omega)
  have g0 : H2.get H.size 0 = some (.int .i64 n) := hle2.get (by simp (maxSteps := 2000000) (disch := first | omega | assumption | exact idP rfl | exact idP (bL rfl) | (simp only [alloc_size, upd_size]; done) | (simp only [alloc_size, upd_size]; omega) | fail) only [go_sem, reduceIte, Nat.reduceEqDiff])
  have g1 : H2.get H.size 1 = some v := hle2.get (by simp (maxSteps := 2000000) (disch := first | omega | assumption | exact idP rfl | exact idP (bL rfl) | (simp only [alloc_size, upd_size]; done) | (simp only [alloc_size, upd_size]; omega) | fail) only [go_sem, reduceIte, Nat.reduceEqDiff])
  simp (maxSteps := 2000000) (disch := first | omega | assumption | exact idP rfl | exact idP (bL rfl) | (simp only [alloc_size, upd_size]; done) | (simp only [alloc_size, upd_size]; omega) | fail) only [go_sem, reduceIte, Nat.reduceEqDiff, g0, g1]
  refine (s_toClauses (hv1.le (mono_N mono_I) hle2) hl hxl).mono ?_
  rintro x H3 ⟨hx3, hle3, _⟩
  simp (maxSteps := 2000000) (disch := first | omega | assumption | exact idP rfl | exact idP (bL rfl) | (simp only [alloc_size, upd_size]; done) | (simp only [alloc_size, upd_size]; omega) | fail) only [go_sem, reduceIte, Nat.reduceEqDiff]
  refine (s_specRefute (hx3.le (later_le _ _)) hl hxl).mono ?_
  rintro r H4 ⟨hle4, a0, Q, ok, rfl, ha0, hres⟩
  have hH4 := hle3.trans hle4
  have g0' := hH4.get g0
  have g1' := hH4.get g1
  have hv4 := hv1.le (mono_N mono_I) (hle2.trans hH4)
  simp (maxSteps := 2000000) (disch := first | omega | assumption | exact idP rfl | exact idP (bL rfl) | (simp only [alloc_size, upd_size]; done) | (simp only [alloc_size, upd_size]; omega) | fail) only [go_sem, reduceIte, Nat.reduceEqDiff, g0', g1']
  refine (s_toClauses hv4 hl hxl).mono ?_
  rintro y H5 ⟨hy5, hle5, w, rfl, htr⟩
  obtain ⟨w2, ew, hw⟩ := hy5.le (later_le _ _)
  simp only [AV.agg.injEq, List.cons.injEq, and_true, true_and] at ew
  subst ew
  have how := oneA_isS hw
  have how1 := how.1
  simp (maxSteps := 2000000) (disch := first | omega | assumption | exact idP rfl | exact idP (bL rfl) | (simp only [alloc_size, upd_size]; done) | (simp only [alloc_size, upd_size]; omega) | fail) only [go_sem, reduceIte, Nat.reduceEqDiff, how.2]
  have hL5 : Le H5 ((H5.alloc [.int .i64 0, .sl none 0 0 true 0]).upd H5.size (.cells [.int .i64 n, w] true)) := ((Le.refl _).allocs).updFresh (Nat.le_refl _)
  have hwA := hw.le hL5
  refine (s_implRefute ⟨w, rfl, hwA⟩ hl hxl).mono ?_
  rintro r H6 ⟨b0, Q', ok', B6, rfl, hob, hLA, hnew6, hQ6, hres'⟩
  obtain ⟨rfl, rfl⟩ := hres.det hres'
  simp only [upd_size, alloc_size] at hob hnew6
  simp (maxSteps := 2000000) (disch := first | omega | assumption | exact idP rfl | exact idP (bL rfl) | (simp only [alloc_size, upd_size]; done) | (simp only [alloc_size, upd_size]; omega) | fail) only [go_sem, reduceIte, Nat.reduceEqDiff]
  have hH6 : Le H5 H6 := hL5.trans hLA
  have k0 := (hle5.trans hH6).get g0'
  have k1 := (hle5.trans hH6).get g1'
  have m0 : H6.get H5.size 0 = some (.int .i64 n) := hLA.get (by simp (maxSteps := 2000000) (disch := first | omega | assumption | exact idP rfl | exact idP (bL rfl) | (simp only [alloc_size, upd_size]; done) | (simp only [alloc_size, upd_size]; omega) | fail) only [go_sem, reduceIte, Nat.reduceEqDiff])
  have m1 : H6.get H5.size 1 = some w := hLA.get (by simp (maxSteps := 2000000) (disch := first | omega | assumption | exact idP rfl | exact idP (bL rfl) | (simp only [alloc_size, upd_size]; done) | (simp only [alloc_size, upd_size]; omega) | fail) only [go_sem, reduceIte, Nat.reduceEqDiff])
  have bb : (ok == ok) = true := by simp
  refine (s_eqIntSS hob.isII (ha0.le (hle5.trans hH6)) (by omega) hob.few).mono ?_
  rintro r H6' ⟨rfl, rfl⟩
  simp (maxSteps := 2000000) (disch := first | omega | assumption | exact idP rfl | exact idP (bL rfl) | (simp only [alloc_size, upd_size]; done) | (simp only [alloc_size, upd_size]; omega) | fail) only [go_sem, reduceIte, Nat.reduceEqDiff, k0, k1, m0, m1, bb]
  refine (s_toClauses (hv4.le (mono_N mono_I) (hle5.trans hH6)) hl hxl).mono ?_
  rintro z H7 ⟨hz7, hle7, _⟩
  have p0 := hle7.get m0
  have p1 := hle7.get m1
  simp (maxSteps := 2000000) (disch := first | omega | assumption | exact idP rfl | exact idP (bL rfl) | (simp only [alloc_size, upd_size]; done) | (simp only [alloc_size, upd_size]; omega) | fail) only [go_sem, reduceIte, Nat.reduceEqDiff, p0, p1]
  refine (s_eqClauses ⟨w, rfl, hwA.le (hLA.trans hle7)⟩ (hz7.le (later_le _ _)) hl hxl).mono ?_
  rintro r H8 ⟨rfl, hle8⟩
  have p0' := hle8.get p0
  have p1' := hle8.get p1
  simp (maxSteps := 2000000) (disch := first | omega | assumption | exact idP rfl | exact idP (bL rfl) | (simp only [alloc_size, upd_size]; done) | (simp only [alloc_size, upd_size]; omega) | fail) only [go_sem, reduceIte, Nat.reduceEqDiff, p0', p1']
  have hH68 := hle7.trans hle8
  have hH58 := hH6.trans hH68
  refine (s_markClauses (htr.le hH58 (Nat.le_refl _) (Nat.le_refl _)) hH58.1 hl hxl).mono ?_
  rintro r H9 ⟨k9, rfl, hk9, hgap⟩
  have hk9' : ¬ k9 < 0 := by omega
  have hL49 : Le H4 H9 := (((hle5.trans hH58).gapLow (Nat.le_refl _)).trans hgap).trans (gap_le _ _ _)
  have hob9 := ((hob.le hH68).later hnew6).le ((later_gap _ (Nat.le_succ _)).trans (hgap.trans (gap_le _ _ _)))
  simp (maxSteps := 2000000) (disch := first | omega | assumption | exact idP rfl | exact idP (bL rfl) | (simp only [alloc_size, upd_size]; done) | (simp only [alloc_size, upd_size]; omega) | fail) only [go_sem, reduceIte, Nat.reduceEqDiff, hk9', decide_false]
  refine (s_eqIntSS hob9.isII (ha0.le hL49) (by omega) hob.few).mono ?_
  rintro r H9' ⟨rfl, rfl⟩
  simp (maxSteps := 2000000) (disch := first | omega | assumption | exact idP rfl | exact idP (bL rfl) | (simp only [alloc_size, upd_size]; done) | (simp only [alloc_size, upd_size]; omega) | fail) only [go_sem, reduceIte, Nat.reduceEqDiff, bb]
  refine (s_markForest hob9 hQ6).mono ?_
  rintro r H10 ⟨rfl, hom, hle10⟩
  simp (maxSteps := 2000000) (disch := first | omega | assumption | exact idP rfl | exact idP (bL rfl) | (simp only [alloc_size, upd_size]; done) | (simp only [alloc_size, upd_size]; omega) | fail) only [go_sem, reduceIte, Nat.reduceEqDiff]
  refine (s_heldIntSS hom hQ6 hob.short).mono ?_
  rintro r H10' ⟨rfl, rfl⟩
  simp (maxSteps := 2000000) (disch := first | omega | assumption | exact idP rfl | exact idP (bL rfl) | (simp only [alloc_size, upd_size]; done) | (simp only [alloc_size, upd_size]; omega) | fail) only [go_sem, reduceIte, Nat.reduceEqDiff]
  refine condV_dec (fun h => absurd h (by omega)) (fun _ => ?_)
  simp (maxSteps := 2000000) (disch := first | omega | assumption | exact idP rfl | exact idP (bL rfl) | (simp only [alloc_size, upd_size]; done) | (simp only [alloc_size, upd_size]; omega) | fail) only [go_sem, reduceIte, Nat.reduceEqDiff]
  have hL410 : Le H4 H10' := hle10 H4 hL49 (by have := hle5.1; omega)
  have j0 := hL410.get g0'
  have j1 := hL410.get g1'
  simp (maxSteps := 2000000) (disch := first | omega | assumption | exact idP rfl | exact idP (bL rfl) | (simp only [alloc_size, upd_size]; done) | (simp only [alloc_size, upd_size]; omega) | fail) only [go_sem, reduceIte, Nat.reduceEqDiff, j0, j1]
  refine (s_toClauses (hv4.le (mono_N mono_I) hL410) hl hxl).mono ?_
  rintro z2 H11 ⟨hz11, hle11, _⟩
  simp (maxSteps := 2000000) (disch := first | omega | assumption | exact idP rfl | exact idP (bL rfl) | (simp only [alloc_size, upd_size]; done) | (simp only [alloc_size, upd_size]; omega) | fail) only [go_sem, reduceIte, Nat.reduceEqDiff]
  refine (s_implRefute (hz11.le (later_le _ _)) hl hxl).mono ?_
  rintro r H12 ⟨c0, Q3, ok3, B12, rfl, hoc, hle12, _, _, hres3⟩
  obtain ⟨rfl, rfl⟩ := hres.det hres3
  have hL12 := hle11.trans hle12
  simp (maxSteps := 2000000) (disch := first | omega | assumption | exact idP rfl | exact idP (bL rfl) | (simp only [alloc_size, upd_size]; done) | (simp only [alloc_size, upd_size]; omega) | fail) only [go_sem, reduceIte, Nat.reduceEqDiff]
  refine (s_eqIntSS hoc.isII (ha0.le (hL410.trans hL12)) (by omega) hob.few).mono ?_
  rintro r H12' ⟨rfl, rfl⟩
  simp (maxSteps := 2000000) (disch := first | omega | assumption | exact idP rfl | exact idP (bL rfl) | (simp only [alloc_size, upd_size]; done) | (simp only [alloc_size, upd_size]; omega) | fail) only [go_sem, reduceIte, Nat.reduceEqDiff, bb]
  refine (s_heldIntSS (hom.le hL12) hQ6 hob.short).mono ?_
  rintro r H13 ⟨rfl, rfl⟩
  simp (maxSteps := 2000000) (disch := first | omega | assumption | exact idP rfl | exact idP (bL rfl) | (simp only [alloc_size, upd_size]; done) | (simp only [alloc_size, upd_size]; omega) | fail) only [go_sem, reduceIte, Nat.reduceEqDiff]
  refine condV_dec (fun h => absurd h (by omega)) (fun _ => ?_)
  simp (maxSteps := 2000000) (disch := first | omega | assumption | exact idP rfl | exact idP (bL rfl) | (simp only [alloc_size, upd_size]; done) | (simp only [alloc_size, upd_size]; omega) | fail) only [go_sem, reduceIte, Nat.reduceEqDiff]
  exact hR _ _ rfl
end Go.M2
