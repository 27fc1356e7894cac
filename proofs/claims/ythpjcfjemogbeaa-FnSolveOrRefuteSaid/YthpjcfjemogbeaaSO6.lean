/- The program's search: where it finds no values. -/
import Derived.Test.YthpjcfjemogbeaaSO5
set_option linter.unusedVariables false
set_option linter.unusedSimpArgs false
set_option maxRecDepth 10000
set_option maxHeartbeats 4000000
namespace Go.M2
open Go.Proofs
variable {H : Heap}
@[go_sem] theorem st_bslo {P : Program} {e : Env} {K : AV → Heap → Prop} {a b : Nat} {z : List AV} {p : List (Nat × X)} : stepL P (.bslo a b z p) e H K = bslcP a b (bslF e a (zeros z b) p) H K := idE rfl
theorem mk_givenF : ∀ {xs m : List Int}, Mk m → Mk (givenF xs m)
  | [], m, h => h
  | x :: t, m, h => mk_givenF (xs := t) h.set
theorem mk_given {n : Nat} {xs : List Int} : Mk (given n xs) := mk_givenF fun a h => .inl (by simp)
def dis (u v : AV) : Prop := match v with
  | .sl (some (b, _)) _ _ _ _ => apart b u
  | _ => True
theorem Own.base {sz : Nat} {H : Heap} {u v : AV} {l : List AV} (h : Own sz H u l) (hd : dis u v) : Own sz (base H v) u l := by
  obtain ⟨A, n, ex, k, rfl, h1, h2, h3⟩ := h
  refine ⟨A, n, ex, k, rfl, h1, h2, fun b o e => ?_⟩
  subst e
  obtain ⟨q1, q2, q3, q4⟩ := h3 b o rfl
  refine ⟨q1, q2, by rw [base_size]; exact q3, ?_⟩
  unfold M2.base
  split
  · rename_i b' _ _ _ _ _
    have hne : b ≠ b' := by simpa [dis, apart] using hd
    rw [kill_ne hne]; exact q4
  · exact q4
theorem dis_new {H : Heap} {sz n : Nat} {u v : AV} {l : List AV} (h : Own sz H u l) (hs : H.size ≤ n) (hn : newer n v) : dis u v ∧ dis v u := by
  obtain ⟨A, m, ex, k, rfl, h1, h2, h3⟩ := h
  constructor
  · unfold dis
    split
    · rename_i b _ _ _ _ _
      unfold apart
      split
      · rename_i b' o _ _ _ _ e
        cases e
        have := (h3 b' o rfl).2.2.1
        have hn : n ≤ b := hn
        omega
      · trivial
    · trivial
  · unfold dis
    split
    · rename_i b o _ _ _ _ e
      cases e
      have := (h3 b o rfl).2.2.1
      unfold apart
      split
      · rename_i b' _ _ _ _ _
        have hn : n ≤ b' := hn
        omega
      · trivial
    · trivial
def PLO (lo : Nat) (B H : Heap) (p : AV) (P : List (List Int)) : Prop := Le B (base H p) ∧ lo ≤ B.size ∧ ∃ pc : List AV, Own 1 H p pc ∧ pc.length = P.length ∧ (∀ i (h : i < P.length), ∃ u, pc[i]? = some u ∧ Own 1 B u (P[i].map (AV.int .i64)) ∧ newer lo u ∧ P[i].length ≤ 700) ∧
  ∀ (i j : Nat) (u v : AV), i < j → pc[i]? = some u → pc[j]? = some v → dis u v ∧ dis v u
section
variable {lo : Nat} {B : Heap} {p : AV} {P : List (List Int)}
theorem PLO.own (h : PLO lo B H p P) : ∃ pc, Own 1 H p pc ∧ pc.length = P.length := by
  obtain ⟨_, _, pc, h1, h2, _⟩ := h; exact ⟨pc, h1, h2⟩
theorem PLO.len (h : PLO lo B H p P) : lenF p = some (.int .i64 (P.length : Int)) := by
  obtain ⟨_, _, pc, h1, h2, _⟩ := h
  obtain ⟨A, n, ex, k, rfl, h3, _⟩ := h1
  have : n = P.length := by omega
  subst this; rfl
theorem PLO.one (h : PLO lo B H p P) : oneA p = true ∧ cellsOf p = some [p] := by
  obtain ⟨_, _, pc, h1, _⟩ := h
  obtain ⟨A, n, ex, k, rfl, _⟩ := h1
  exact ⟨rfl, rfl⟩
theorem PLO.le {H' : Heap} (h : PLO lo B H p P) (hl : Le H H') : PLO lo B H' p P := by
  obtain ⟨h0, hs, pc, h1, h2, h3⟩ := h
  exact ⟨h0.trans (base_mono hl p), hs, pc, h1.le hl, h2, h3⟩
theorem PLO.at {B' : Heap} (h : PLO lo B H p P) (hB : Le B B') (hl : Le B' (base H p)) : PLO lo B' H p P := by
  obtain ⟨h0, hs, pc, h1, h2, h3, h4⟩ := h
  refine ⟨hl, Nat.le_trans hs hB.1, pc, h1, h2, fun i hi => ?_, h4⟩
  obtain ⟨u, h4, h5, h6, h7⟩ := h3 i hi
  exact ⟨u, h4, h5.le hB, h6, h7⟩
theorem PLO.upd {b : Nat} {x : Blk} (h : PLO lo B H p P) (ha : apart b p) (hd : B.blk b = .dead) : PLO lo B (H.upd b x) p P := by
  obtain ⟨h0, hs, pc, h1, h2, h3⟩ := h
  refine ⟨by rw [base_upd ha]; exact h0.updDead hd x, hs, pc, ?_, h2, h3⟩
  obtain ⟨A, n, ex, k, rfl, q1, q2, q3⟩ := h1
  refine ⟨A, n, ex, k, rfl, q1, q2, fun b' o e => ?_⟩
  subst e
  obtain ⟨r1, r2, r3, r4⟩ := q3 b' o rfl
  have hne : b' ≠ b := ha
  exact ⟨r1, r2, r3, by rw [upd_blk_ne hne]; exact r4⟩
theorem plo_app {B1 : Heap} {by_ : Nat} {u : AV} {c : List Int} {K : AV → Heap → Prop} (h : PLO lo B H p P) (hB : Le B B1) (hB1 : Le B1 (base H p)) (hu : Own 1 B1 u (c.map (AV.int .i64))) (hun : newer B.size u) (hc7 : c.length ≤ 700) (hb : P.length ≤ 1048576) (hby : by_ ≤ 64)
    (hk : ∀ p' H', PLO lo B1 H' p' (P ++ [c]) → Le (base H p) (base H' p') → K p' H') : appP 1 by_ p (.sl (some (H.size, 0)) 1 1 true 1) (H.alloc [u]) K := by
  obtain ⟨_, hs, pc, h1, h2, h3, h4⟩ := h
  have ho : oneA u = true := by obtain ⟨A, n, ex, k, rfl, _⟩ := hu; rfl
  refine app_own (sz := 1) (by omega) (h1.le (Le.alloc _ _)) (Rd.blk (Nat.lt_succ_self _) (alloc_new _ _)) rfl (by simp [ho]) ?_ (by simp [mostCells]; omega) ?_
  · have : (pc.length + 1) * by_ ≤ (pc.length + 1) * 64 := Nat.mul_le_mul_left _ hby
    simp only [mostCells]; omega
  · intro p' H' q1 q2 _
    have q3 := (base_mono (Le.alloc H [u]) p).trans q2
    have old : ∀ i w, i < P.length → (pc ++ [u])[i]? = some w → pc[i]? = some w := fun i w hi hw => by rwa [List.getElem?_append_left (by omega)] at hw
    have new : ∀ i w, ¬ i < P.length → (pc ++ [u])[i]? = some w → i = P.length ∧ w = u := fun i w hi hw => by
      rw [List.getElem?_append_right (by omega), h2] at hw
      by_cases e : i = P.length
      · subst e; simp at hw; exact ⟨rfl, hw.symm⟩
      · rw [List.getElem?_eq_none (by simp; omega)] at hw; cases hw
    refine hk p' H' ⟨hB1.trans q3, Nat.le_trans hs hB.1, pc ++ [u], q1, by simp [h2], fun i hi => ?_, fun i j w x hij hw hx => ?_⟩ q3
    · by_cases hi2 : i < P.length
      · obtain ⟨w, h4, h5, h6, h7⟩ := h3 i hi2
        refine ⟨w, by rw [List.getElem?_append_left (by omega)]; exact h4, ?_, h6, ?_⟩
        · rw [List.getElem_append_left hi2]; exact h5.le hB
        · rw [List.getElem_append_left hi2]; exact h7
      · have : i = P.length := by simp at hi; omega
        subst this
        refine ⟨u, by rw [List.getElem?_append_right (by omega), h2]; simp, ?_, hun.mono hs, ?_⟩
        · rw [List.getElem_append_right (by omega)]
          simpa using hu
        · rw [List.getElem_append_right (by omega)]
          simpa using hc7
    · by_cases hj2 : j < P.length
      · exact h4 i j w x hij (old i w (by omega) hw) (old j x hj2 hx)
      · obtain ⟨rfl, rfl⟩ := new j x hj2 hx
        obtain ⟨w', r1, r2, _⟩ := h3 i (by omega)
        have hw' := old i w (by omega) hw
        rw [r1] at hw'; cases hw'
        exact dis_new r2 (Nat.le_refl _) hun
end
abbrev underT : IR := .seq (.seq Z17_32 Z17_35) (.seq Z17_36 (.seq (.seq Z17_37 Z17_45) (.seq Z17_46 (.seq Z17_47 (.seq Z17_48 .ret)))))
set_option maxHeartbeats 4000000 in
theorem under_leaf {lo : Nat} {B : Heap} {e : Env} {hb n d : Nat} {g : List Int} {P : List (List Int)} {fl p gv vals : AV} {R : AV → Heap → Prop} (hn : n ≤ 700) (hasc : Asc g) (hlits : Lits n g) (hlg : g.length ≤ 700) (hP : P.length ≤ 600) (hof : oneA fl = true) (hov : oneA vals = true)
    (e0 : e 0 = .ptr (some (hb, 0))) (e1 : e 1 = gv) (hs : B.size = H.size) (hd : B.blk hb = .dead)
    (w : (base H p).rwCells hb = some [.int .i64 (n : Int), fl, p, .int .i64 (d : Int), vals, .bool false]) (hp : PLO lo B H p P) (hgv : IsI B gv g)
    (hcut : P.length = 600 → R (.bool true) (H.upd hb (.cells [.int .i64 (n : Int), fl, p, .int .i64 (d : Int), vals, .bool true] true)))
    (hno : P.length ≠ 600 → ∀ B' H' p', Nd B B' → PLO lo B' H' p' (P ++ [negs g]) → Le ((base H p).kill hb) (base H' p') → (base H' p').rwCells hb = some [.int .i64 (n : Int), fl, p', .int .i64 (d : Int), vals, .bool false] → R (.bool false) H') :
    wp Try.prog underT (postQ [RV.t 4] R) e H := by
  have w' := (base_le H p).rwCells w
  obtain ⟨hsz, hbk⟩ := Heap.rwCells_blk w'
  have g2 : H.get hb 2 = some p := Rd.blk hsz hbk 2 p rfl
  have hBH : Le B H := hp.1.trans (base_le H p)
  have hpl := hp.len
  have hapb := apart_of w
  unfold underT
  simp (maxSteps := 2000000) (disch := first | omega | assumption | exact idP rfl | exact idP (bL rfl) | (simp only [alloc_size, upd_size] <;> omega) | fail) only [go_sem, reduceIte, Nat.reduceEqDiff, e0, e1, g2, hpl]
  refine condV_dec (fun h6 => ?_) (fun h6 => ?_)
  · simp (maxSteps := 2000000) (disch := first | omega | assumption | exact idP rfl | exact idP (bL rfl) | (simp only [alloc_size, upd_size] <;> omega) | fail) only [go_sem, reduceIte, Nat.reduceEqDiff, e0, w']
    exact hcut (by omega)
  · have hgv' := hgv.le hBH
    obtain ⟨A, c, ex, k, rfl, hr⟩ := hgv'.parts
    simp (maxSteps := 2000000) (disch := first | omega | assumption | exact idP rfl | exact idP (bL rfl) | (simp only [alloc_size, upd_size] <;> omega) | fail) only [go_sem, reduceIte, Nat.reduceEqDiff, e0, e1]
    refine wp_loop_k (fun e H' => ∃ i : Nat, i ≤ g.length ∧ e 0 = .ptr (some (hb, 0)) ∧ e 107 = .sl A g.length c ex k ∧ e 108 = .int .i64 (g.length : Int) ∧ e 109 = .int .i64 (i : Int) ∧ Own 1 H' (e 9) ((negs (g.take i)).map (AV.int .i64)) ∧ Le H (base H' (e 9)) ∧ newer H.size (e 9)) (fun e _ => ctr g.length (e 109)) ?_ ?_
    · exact ⟨0, Nat.zero_le _, by simp (maxSteps := 2000000) (disch := first | omega | assumption | exact idP rfl | exact idP (bL rfl) | (simp only [alloc_size, upd_size] <;> omega) | fail) only [go_sem, reduceIte, Nat.reduceEqDiff, e0], by simp (maxSteps := 2000000) (disch := first | omega | assumption | exact idP rfl | exact idP (bL rfl) | (simp only [alloc_size, upd_size] <;> omega) | fail) only [go_sem, reduceIte, Nat.reduceEqDiff, e1], by simp (maxSteps := 2000000) (disch := first | omega | assumption | exact idP rfl | exact idP (bL rfl) | (simp only [alloc_size, upd_size] <;> omega) | fail) only [go_sem, reduceIte, Nat.reduceEqDiff], by simp (maxSteps := 2000000) (disch := first | omega | assumption | exact idP rfl | exact idP (bL rfl) | (simp only [alloc_size, upd_size] <;> omega) | fail) only [go_sem, reduceIte, Nat.reduceEqDiff]; rfl, by simp (maxSteps := 2000000) (disch := first | omega | assumption | exact idP rfl | exact idP (bL rfl) | (simp only [alloc_size, upd_size] <;> omega) | fail) only [go_sem, reduceIte, Nat.reduceEqDiff]; exact Own.nil, by simp (maxSteps := 2000000) (disch := first | omega | assumption | exact idP rfl | exact idP (bL rfl) | (simp only [alloc_size, upd_size] <;> omega) | fail) only [go_sem, reduceIte, Nat.reduceEqDiff]; exact Le.refl _, by simp (maxSteps := 2000000) (disch := first | omega | assumption | exact idP rfl | exact idP (bL rfl) | (simp only [alloc_size, upd_size] <;> omega) | fail) only [go_sem, reduceIte, Nat.reduceEqDiff]; trivial⟩
    · rintro e H1 ⟨i, hi, e0, e107, e108, e109, ho, hle, hnew⟩ K hK
      simp (maxSteps := 2000000) (disch := first | omega | assumption | exact idP rfl | exact idP (bL rfl) | (simp only [alloc_size, upd_size] <;> omega) | fail) only [go_sem, reduceIte, Nat.reduceEqDiff, e107, e108, e109]
      refine condV_dec (fun h => ?_) (fun h => ?_)
      · have hi' : i < g.length := by omega
        have hg := (hle.trans (base_le _ _)).get (hr i hi')
        rw [Nat.mul_one] at hg
        have hxi := hlits _ (List.getElem_mem hi')
        simp (maxSteps := 2000000) (disch := first | omega | assumption | exact idP rfl | exact idP (bL rfl) | (simp only [alloc_size, upd_size] <;> omega) | fail) only [go_sem, reduceIte, Nat.reduceEqDiff, e107, e109, hg]
        refine app1 ho hle hnew rfl (by simp [negs]; omega) (by omega) ?_
        intro s H2 hs2 hle2 hn2 _
        simp (maxSteps := 2000000) (disch := first | omega | assumption | exact idP rfl | exact idP (bL rfl) | (simp only [alloc_size, upd_size] <;> omega) | fail) only [go_sem, reduceIte, Nat.reduceEqDiff, e109]
        refine hK _ _ ⟨i + 1, by omega, by simp (maxSteps := 2000000) (disch := first | omega | assumption | exact idP rfl | exact idP (bL rfl) | (simp only [alloc_size, upd_size] <;> omega) | fail) only [go_sem, reduceIte, Nat.reduceEqDiff, e0], by simp (maxSteps := 2000000) (disch := first | omega | assumption | exact idP rfl | exact idP (bL rfl) | (simp only [alloc_size, upd_size] <;> omega) | fail) only [go_sem, reduceIte, Nat.reduceEqDiff, e107], by simp (maxSteps := 2000000) (disch := first | omega | assumption | exact idP rfl | exact idP (bL rfl) | (simp only [alloc_size, upd_size] <;> omega) | fail) only [go_sem, reduceIte, Nat.reduceEqDiff, e108], by simp (maxSteps := 2000000) (disch := first | omega | assumption | exact idP rfl | exact idP (bL rfl) | (simp only [alloc_size, upd_size] <;> omega) | fail) only [go_sem, reduceIte, Nat.reduceEqDiff]; rfl, ?_, by simp (maxSteps := 2000000) (disch := first | omega | assumption | exact idP rfl | exact idP (bL rfl) | (simp only [alloc_size, upd_size] <;> omega) | fail) only [go_sem, reduceIte, Nat.reduceEqDiff]; exact hle2, by simp (maxSteps := 2000000) (disch := first | omega | assumption | exact idP rfl | exact idP (bL rfl) | (simp only [alloc_size, upd_size] <;> omega) | fail) only [go_sem, reduceIte, Nat.reduceEqDiff]; exact hn2⟩ (by simp (maxSteps := 2000000) (disch := first | omega | assumption | exact idP rfl | exact idP (bL rfl) | (simp only [alloc_size, upd_size] <;> omega) | fail) only [go_sem, reduceIte, Nat.reduceEqDiff, ctr_int, e109]; omega)
        simp (maxSteps := 2000000) (disch := first | omega | assumption | exact idP rfl | exact idP (bL rfl) | (simp only [alloc_size, upd_size] <;> omega) | fail) only [go_sem, reduceIte, Nat.reduceEqDiff]
        rw [negs_take hi', List.map_append]; exact hs2
      · obtain rfl : i = g.length := by omega
        rw [List.take_length] at ho
        have hoi := ho.isI
        obtain ⟨A2, n2, ex2, k2, e9, q1, q2, q3⟩ := ho
        rw [e9] at hoi hle hnew
        simp (maxSteps := 2000000) (disch := first | omega | assumption | exact idP rfl | exact idP (bL rfl) | (simp only [alloc_size, upd_size] <;> omega) | fail) only [go_sem, reduceIte, Nat.reduceEqDiff, e9]
        refine (s_clauseOf hoi (fun h => ?_) (by simp [negs]; omega) hn (negs_lits hlits) (negs_asc hasc)).mono ?_
        · have := (q2 h).1
          simp only [List.length_map] at q1
          exact List.eq_nil_of_length_eq_zero (by omega)
        rintro r H3 ⟨u, rfl, hu, hle3, hnew3⟩
        have hH1 : Le H H1 := hle.trans (base_le _ _)
        have hH3 : Le H H3 := hH1.trans (hle3.trans (base_le _ _))
        have hnew3' : newer H.size u := hnew3.mono hH1.1
        obtain ⟨pc, hown, hpc⟩ := hp.own
        have g2' := hH3.get g2
        have huo := (hu.later hnew3').le (show Le (H3.later H.size) (B.over H3) by rw [← hs]; exact later_over B H3)
        have hui : IsI (B.over H3) u (negs g) := huo.isI
        have hB1 : Le (B.over H3) (base H3 p) := over_le (hp.1.trans (base_mono hH3 p)) base_size.symm fun b hb => base_blk (apart_fresh hown (by omega))
        have hnd : Nd B (B.over H3) := over_nd (by have := hH3.1; omega)
        have hu1 := oneA_isS hui
        simp (maxSteps := 2000000) (disch := first | omega | assumption | exact idP rfl | exact idP (bL rfl) | (simp only [alloc_size, upd_size] <;> omega) | fail) only [go_sem, reduceIte, Nat.reduceEqDiff, e0, g2', hu1.2]
        refine plo_app (hp.le hH3) hnd.1 hB1 huo (by rw [hs]; exact hnew3') (by simp [negs]; omega) (by omega) (by omega) ?_
        intro p' H4 hp4 hle4
        have b3 := hle4.rwCells ((base_mono hH3 p).rwCells w)
        have a3 := apart_of b3
        have w3' := (base_le H4 p').rwCells b3
        have hp4o := hp4.one.1
        have l3 := (Heap.rwCells_blk w3').1
        have d3 := hnd.2 hb (by rw [hs]; exact hsz) hd
        simp (maxSteps := 2000000) (disch := first | omega | assumption | exact idP rfl | exact idP (bL rfl) | (simp only [alloc_size, upd_size] <;> omega) | fail) only [go_sem, reduceIte, Nat.reduceEqDiff, w3', hp4.one.2]
        refine hno (by omega) (B.over H3) _ p' hnd (hp4.upd a3 d3) ?_ ?_
        · rw [base_upd a3]
          have hL : Le ((base H p).kill hb) (base H4 p') := (Le.kill _ _).trans ((base_mono hH3 p).trans hle4)
          exact hL.updDead (kill_dead _ _) _
        · exact base_rw a3 (by simp (maxSteps := 2000000) (disch := first | omega | assumption | exact idP rfl | exact idP (bL rfl) | (simp only [alloc_size, upd_size] <;> omega) | fail) only [go_sem, reduceIte, Nat.reduceEqDiff])
end Go.M2

namespace Go.M2
open Go.Proofs
variable {H : Heap}
def dnA : AV → Nat
  | .int _ i => i.toNat
  | _ => 0
@[go_sem] theorem dnA_int {k : IntKind} {i : Int} : dnA (.int k i) = i.toNat := idE rfl
def NextOver (m : List Int) (a nx : Nat) : Prop := (nx = 0 ∧ ∀ i (h : i < m.length), a < i → m[i] ≠ 0) ∨ (a < nx ∧ (∃ h : nx < m.length, m[nx] = 0) ∧ ∀ i (h : i < m.length), a < i → i < nx → m[i] ≠ 0)
theorem NextOver.isNext {m : List Int} {nx : Nat} (h : NextOver m 0 nx) : IsNext m nx := by
  rcases h with ⟨h1, h2⟩ | ⟨h1, h2, h3⟩
  · exact .inl ⟨h1, fun i h hi => h2 i h (by omega)⟩
  · exact .inr ⟨h1, h2, fun i h hi => h3 i h (by omega)⟩
def gvOk (gv : AV) (g : List Int) : Prop := ∃ A c ex k, gv = .sl A g.length c ex k ∧ g.length ≤ c ∧ (ex = true ∨ 0 < g.length)
theorem Own.gvOk {H : Heap} {v : AV} {g : List Int} (h : Own 1 H v (g.map (AV.int .i64))) (h0 : 0 < g.length) : gvOk v g := by
  obtain ⟨A, n, ex, k, rfl, h1, _⟩ := h
  have : g.length = n := by simpa using h1
  subst this
  exact ⟨A, g.length, ex, k, rfl, Nat.le_refl _, .inr h0⟩
def UnderPost (cl : List (List Int)) (n : Nat) (g : List Int) (P : List (List Int)) (d : Nat) (lo : Nat) (B H : Heap) (hb : Nat) (fl p vals : AV) (r : AV) (H' : Heap) : Prop :=
  ∃ (res : Res) (P' : List (List Int)) (d' : Nat) (p' w : AV) (ok ct : Bool) (B' : Heap), Try cl n g P d res P' d' ∧ r = .bool ok ∧ Nd B B' ∧ Le ((base H p).kill hb) (base H' p') ∧ (base H' p').rwCells hb = some [.int .i64 (n : Int), fl, p', .int .i64 (d' : Int), w, .bool ct] ∧ (∀ b, H'.size ≤ b → apart b p') ∧ oneA p' = true ∧ oneA w = true ∧
    (res = .no → ct = false ∧ ok = false ∧ PLO lo B' H' p' P' ∧ P'.length ≤ 600 ∧ d' ≤ P'.length + g.length ∧ w = vals) ∧ (res = .cut → ct = true ∧ ok = true) ∧
    (∀ m, res = .sat m → ct = false ∧ ok = true ∧ PLO lo B' H' p' P' ∧ IsI B' w ((m.drop 1).map valF) ∧ ∃ b nn, w = .sl (some (b, 0)) nn nn true 1)
theorem kill_kill (H : Heap) (b : Nat) : (H.kill b).kill b = H.kill b := by
  unfold Heap.kill Heap.upd
  simp only [Heap.mk.injEq, true_and]
  funext i
  split <;> simp_all
attribute [-go_sem] w_Z17_32
set_option maxHeartbeats 8000000 in
theorem s_under {xss : List (List Int)} {n lo : Nat} (hn : n ≤ 700) (hl : xss.length ≤ 1048576) (hxl : ∀ xs ∈ xss, xs.length ≤ 1048576) (hx : ∀ xs ∈ xss, Lits n xs) : ∀ (N : Nat) {B H : Heap} {g : List Int} {P : List (List Int)} {d k hb : Nat} {fl p gv vals : AV},
    n - k < N → k ≤ n → Low xss n g k → B.size = H.size → IsII B fl xss → IsI B gv g → gvOk gv g → PLO lo B H p P → P.length ≤ 600 → d ≤ P.length + g.length → B.blk hb = .dead →
    (base H p).rwCells hb = some [.int .i64 (n : Int), fl, p, .int .i64 (d : Int), vals, .bool false] → oneA vals = true →
    ACall Try.prog n_Z17 [.ptr (some (hb, 0)), gv] H (UnderPost xss n g P d lo B H hb fl p vals) := by
  intro N
  induction N with
  | zero => intro B H g P d k hb fl p gv vals hN; omega
  | succ N ih =>
    intro B H g P d k hb fl p gv vals hN hk hlow hs hfl hgv hgo hp hP hd hdead hw hov
    refine ACall.of fun R hR => a_Z17 rfl ?_
    have hlen : g.length ≤ k := asc_len hlow.asc (fun x h => (hlow.lits x h).1) hlow.le
    have hBH : Le B H := hp.1.trans (base_le H p)
    have hof : oneA fl = true ∧ cellsOf fl = some [fl] := oneA_isS hfl
    obtain ⟨pc, hown, hpc⟩ := hp.own
    have hof1 := hof.1
    have ahb := apart_of hw
    have w' := (base_le H p).rwCells hw
    obtain ⟨hsz, hbk⟩ := Heap.rwCells_blk w'
    have g0 : H.get hb 0 = some (.int .i64 (n : Int)) := Rd.blk hsz hbk 0 _ rfl
    have g1 : H.get hb 1 = some fl := Rd.blk hsz hbk 1 _ rfl
    obtain ⟨A, c, ex, kk, rfl, hgc, hgx⟩ := hgo
    simp (maxSteps := 2000000) (disch := first | omega | assumption | exact idP rfl | exact idP (bL rfl) | (simp only [alloc_size, upd_size] <;> omega) | fail) only [go_sem, reduceIte, Nat.reduceEqDiff, g0]
    refine (s_signs (hgv.le hBH) (by omega) hn hlow.lits).mono ?_
    rintro r H1 ⟨rfl, hrow⟩
    have g1' := hrow.le'.get g1
    simp (maxSteps := 2000000) (disch := first | omega | assumption | exact idP rfl | exact idP (bL rfl) | (simp only [alloc_size, upd_size] <;> omega) | fail) only [go_sem, reduceIte, Nat.reduceEqDiff, g1']
    refine (s_forced (hfl.le hBH) hl hxl hn hx hrow given_len mk_given).mono ?_
    rintro r H2 ⟨res, hforce, hle2, hb2, hnone, hsome⟩
    have hA2 : Le H (H2.kill H.size) := hrow.le.trans hle2
    have hH2 : Le H H2 := hA2.trans (Le.kill _ _)
    have u := hH2.rwCells w'
    have hsz2 : hb < H2.size := (Heap.rwCells_blk u).1
    have hp2 : PLO lo (B.pad H2.size) H2 p P := (hp.le hH2).at (pad_nd (by omega)).1 (pad_le (hp.1.trans (base_mono hH2 p)) (by rw [base_size]; exact Nat.le_refl _))
    have hnd : Nd B (B.pad H2.size) := pad_nd (by omega)
    have w2 := (base_mono hH2 p).rwCells hw
    have hd2 : (B.pad H2.size).blk hb = .dead := hnd.2 hb (by omega) hdead
    have apF : ∀ (H' : Heap) b, Le H H' → H'.size ≤ b → apart b p := fun H' b hle hb' => apart_fresh hown (Nat.le_trans hle.1 hb')
    cases res with
    | none =>
      obtain rfl := hnone rfl
      simp (maxSteps := 2000000) (disch := first | omega | assumption | exact idP rfl | exact idP (bL rfl) | (simp only [alloc_size, upd_size] <;> omega) | fail) only [go_sem, reduceIte, Nat.reduceEqDiff]
      refine wp_seq'.mp (wp_seq'.mp (under_leaf (B := B.pad H2.size) (d := d) (n := n) hn hlow.asc hlow.lits (by omega) hP hof1 hov ?_ ?_ (pad_size _ _) hd2 w2 hp2 (hgv.le hnd.1) ?_ ?_))
      · simp (maxSteps := 2000000) (disch := first | omega | assumption | exact idP rfl | exact idP (bL rfl) | (simp only [alloc_size, upd_size] <;> omega) | fail) only [go_sem, reduceIte, Nat.reduceEqDiff]
      · simp (maxSteps := 2000000) (disch := first | omega | assumption | exact idP rfl | exact idP (bL rfl) | (simp only [alloc_size, upd_size] <;> omega) | fail) only [go_sem, reduceIte, Nat.reduceEqDiff]
      · intro h6
        refine hR _ _ ⟨.cut, P, d, p, vals, true, true, B.pad H2.size, .confC hforce h6, rfl, hnd, ?_, ?_, fun b hb' => apF _ b hH2 hb', hp.one.1, hov, fun h => (by cases h), fun _ => ⟨rfl, rfl⟩, fun m h => (by cases h)⟩
        · rw [base_upd ahb]
          exact ((Le.kill _ _).trans (base_mono hH2 p)).updDead (kill_dead _ _) _
        · exact base_rw ahb (by simp (maxSteps := 2000000) (disch := first | omega | assumption | exact idP rfl | exact idP (bL rfl) | (simp only [alloc_size, upd_size] <;> omega) | fail) only [go_sem, reduceIte, Nat.reduceEqDiff])
      · intro h6 B' H' p' hn' hp' hle' hw'
        refine hR _ _ ⟨.no, _, d, p', vals, false, false, B', .confN hforce h6, rfl, hnd.trans hn', ?_, hw', fun b hb' => by obtain ⟨_, q, _⟩ := hp'.own; exact apart_fresh q hb', hp'.one.1, hov, fun _ => ⟨rfl, rfl, hp', ?_, ?_, rfl⟩, fun h => (by cases h), fun m h => (by cases h)⟩
        · exact ((base_mono hH2 p).kills hb).trans hle'
        · simp; omega
        · simp; omega
    | some m =>
      obtain ⟨rfl, hrow2, hml, hmk⟩ := hsome m rfl
      have u0 := hH2.get g0
      simp (maxSteps := 2000000) (disch := first | omega | assumption | exact idP rfl | exact idP (bL rfl) | (simp only [alloc_size, upd_size] <;> omega) | fail) only [go_sem, reduceIte, Nat.reduceEqDiff, u0]
      refine wp_loop_k (fun e H' => H2 = H' ∧ ∃ (a nx : Nat), a ≤ n ∧ e 0 = .ptr (some (hb, 0)) ∧ e 1 = .sl A g.length c ex kk ∧ e 5 = .sl (some (H.size, 0)) (n + 1) (n + 1) true 1 ∧ e 6 = .int .i64 (nx : Int) ∧ e 7 = .int .i64 (a : Int) ∧ NextOver m a nx) (fun e _ => dnA (e 7)) ?_ ?_
      · exact ⟨rfl, n, 0, Nat.le_refl _, by simp (maxSteps := 2000000) (disch := first | omega | assumption | exact idP rfl | exact idP (bL rfl) | (simp only [alloc_size, upd_size] <;> omega) | fail) only [go_sem, reduceIte, Nat.reduceEqDiff], by simp (maxSteps := 2000000) (disch := first | omega | assumption | exact idP rfl | exact idP (bL rfl) | (simp only [alloc_size, upd_size] <;> omega) | fail) only [go_sem, reduceIte, Nat.reduceEqDiff], by simp (maxSteps := 2000000) (disch := first | omega | assumption | exact idP rfl | exact idP (bL rfl) | (simp only [alloc_size, upd_size] <;> omega) | fail) only [go_sem, reduceIte, Nat.reduceEqDiff], by simp (maxSteps := 2000000) (disch := first | omega | assumption | exact idP rfl | exact idP (bL rfl) | (simp only [alloc_size, upd_size] <;> omega) | fail) only [go_sem, reduceIte, Nat.reduceEqDiff]; rfl, by simp (maxSteps := 2000000) (disch := first | omega | assumption | exact idP rfl | exact idP (bL rfl) | (simp only [alloc_size, upd_size] <;> omega) | fail) only [go_sem, reduceIte, Nat.reduceEqDiff], .inl ⟨rfl, fun i h1 h2 => by omega⟩⟩
      rintro e _ ⟨rfl, a, nx, ha, e0, e1, e5, e6, e7, hov'⟩ K hK
      simp (maxSteps := 2000000) (disch := first | omega | assumption | exact idP rfl | exact idP (bL rfl) | (simp only [alloc_size, upd_size] <;> omega) | fail) only [go_sem, reduceIte, Nat.reduceEqDiff, e7]
      refine condV_dec (fun h => ?_) (fun h => ?_)
      · have hgm := hrow2.get (i := a) (by simp; omega)
        simp only [List.getElem_map] at hgm
        have e7' := e7
        simp (maxSteps := 2000000) (disch := first | omega | assumption | exact idP rfl | exact idP (bL rfl) | (simp only [alloc_size, upd_size] <;> omega) | fail) only [go_sem, reduceIte, Nat.reduceEqDiff, e5, e7, hgm]
        refine condV_dec (fun h0 => ?_) (fun h0 => ?_)
        · simp (maxSteps := 2000000) (disch := first | omega | assumption | exact idP rfl | exact idP (bL rfl) | (simp only [alloc_size, upd_size] <;> omega) | fail) only [go_sem, reduceIte, Nat.reduceEqDiff, e7]
          refine hK _ _ ⟨rfl, a - 1, a, by omega, by simp (maxSteps := 2000000) (disch := first | omega | assumption | exact idP rfl | exact idP (bL rfl) | (simp only [alloc_size, upd_size] <;> omega) | fail) only [go_sem, reduceIte, Nat.reduceEqDiff, e0], by simp (maxSteps := 2000000) (disch := first | omega | assumption | exact idP rfl | exact idP (bL rfl) | (simp only [alloc_size, upd_size] <;> omega) | fail) only [go_sem, reduceIte, Nat.reduceEqDiff, e1], by simp (maxSteps := 2000000) (disch := first | omega | assumption | exact idP rfl | exact idP (bL rfl) | (simp only [alloc_size, upd_size] <;> omega) | fail) only [go_sem, reduceIte, Nat.reduceEqDiff, e5], by simp (maxSteps := 2000000) (disch := first | omega | assumption | exact idP rfl | exact idP (bL rfl) | (simp only [alloc_size, upd_size] <;> omega) | fail) only [go_sem, reduceIte, Nat.reduceEqDiff], by simp (maxSteps := 2000000) (disch := first | omega | assumption | exact idP rfl | exact idP (bL rfl) | (simp only [alloc_size, upd_size] <;> omega) | fail) only [go_sem, reduceIte, Nat.reduceEqDiff]; rw [show (a : Int) - 1 = ((a - 1 : Nat) : Int) by omega], .inr ⟨by omega, ⟨by omega, sgn_zero.1 h0⟩, fun i h1 h2 h3 => by omega⟩⟩ (by simp (maxSteps := 2000000) (disch := first | omega | assumption | exact idP rfl | exact idP (bL rfl) | (simp only [alloc_size, upd_size] <;> omega) | fail) only [go_sem, reduceIte, Nat.reduceEqDiff, dnA_int, e7']; omega)
        · simp (maxSteps := 2000000) (disch := first | omega | assumption | exact idP rfl | exact idP (bL rfl) | (simp only [alloc_size, upd_size] <;> omega) | fail) only [go_sem, reduceIte, Nat.reduceEqDiff, e7]
          refine hK _ _ ⟨rfl, a - 1, nx, by omega, by simp (maxSteps := 2000000) (disch := first | omega | assumption | exact idP rfl | exact idP (bL rfl) | (simp only [alloc_size, upd_size] <;> omega) | fail) only [go_sem, reduceIte, Nat.reduceEqDiff, e0], by simp (maxSteps := 2000000) (disch := first | omega | assumption | exact idP rfl | exact idP (bL rfl) | (simp only [alloc_size, upd_size] <;> omega) | fail) only [go_sem, reduceIte, Nat.reduceEqDiff, e1], by simp (maxSteps := 2000000) (disch := first | omega | assumption | exact idP rfl | exact idP (bL rfl) | (simp only [alloc_size, upd_size] <;> omega) | fail) only [go_sem, reduceIte, Nat.reduceEqDiff, e5], by simp (maxSteps := 2000000) (disch := first | omega | assumption | exact idP rfl | exact idP (bL rfl) | (simp only [alloc_size, upd_size] <;> omega) | fail) only [go_sem, reduceIte, Nat.reduceEqDiff, e6], by simp (maxSteps := 2000000) (disch := first | omega | assumption | exact idP rfl | exact idP (bL rfl) | (simp only [alloc_size, upd_size] <;> omega) | fail) only [go_sem, reduceIte, Nat.reduceEqDiff]; rw [show (a : Int) - 1 = ((a - 1 : Nat) : Int) by omega], ?_⟩ (by simp (maxSteps := 2000000) (disch := first | omega | assumption | exact idP rfl | exact idP (bL rfl) | (simp only [alloc_size, upd_size] <;> omega) | fail) only [go_sem, reduceIte, Nat.reduceEqDiff, dnA_int, e7']; omega)
          have hma : m[a]'(by omega) ≠ 0 := fun e => h0 (sgn_zero.2 e)
          rcases hov' with ⟨q1, q2⟩ | ⟨q1, q2, q3⟩
          · refine .inl ⟨q1, fun i h1 h2 => ?_⟩
            by_cases e : i = a
            · subst e; exact hma
            · exact q2 i h1 (by omega)
          · refine .inr ⟨by omega, q2, fun i h1 h2 h3 => ?_⟩
            by_cases e : i = a
            · subst e; exact hma
            · exact q3 i h1 (by omega) h3
      obtain rfl : a = 0 := by omega
      have hnext := hov'.isNext
      clear hov' hK
      simp (maxSteps := 2000000) (disch := first | omega | assumption | exact idP rfl | exact idP (bL rfl) | (simp only [alloc_size, upd_size] <;> omega) | fail) only [go_sem, reduceIte, Nat.reduceEqDiff, e6]
      refine condV_dec (fun h0 => ?_) (fun h0 => ?_)
      · -- values for all
        obtain rfl : nx = 0 := by omega
        simp (maxSteps := 2000000) (disch := first | omega | assumption | exact idP rfl | exact idP (bL rfl) | (simp only [alloc_size, upd_size] <;> omega) | fail) only [go_sem, reduceIte, Nat.reduceEqDiff, e0, u0]
        refine mks_own (by omega) (by simp [mostCells]; omega) (by simp [mostCells]; omega) ?_
        have en : (n : Int).toNat = n := Int.toNat_natCast n
        rw [en]
        have hne : H2.size ≠ hb := by omega
        simp (maxSteps := 2000000) (disch := first | omega | assumption | exact idP rfl | exact idP (bL rfl) | (simp only [alloc_size, upd_size] <;> omega) | fail) only [go_sem, reduceIte, Nat.reduceEqDiff, e0, u]
        have rowX : Row (H2.upd hb (.cells [.int .i64 (n : Int), fl, p, .int .i64 (d : Int), .sl (some (H2.size, 0)) n n true 1, .bool false] true)) ((H2.alloc (zeros [.int .i64 0] n)).upd hb (.cells [.int .i64 (n : Int), fl, p, .int .i64 (d : Int), .sl (some (H2.size, 0)) n n true 1, .bool false] true)) H2.size (List.replicate n 0) := by
          refine ⟨Nat.lt_succ_self _, by rw [upd_blk_ne hne, alloc_new, zeros_int], Nat.le_succ _, fun b hb' => .inr ?_⟩
          have hb' : b < H2.size := hb'
          rw [kill_ne (by omega)]
          by_cases hbb : b = hb
          · subst hbb; rw [upd_blk_same', upd_blk_same']
          · rw [upd_blk_ne hbb, upd_blk_ne hbb, alloc_old (by omega)]
        generalize hX : [AV.int .i64 (n : Int), fl, p, .int .i64 (d : Int), .sl (some (H2.size, 0)) n n true 1, .bool false] = X at *
        have sgG : ∀ H', Le (H2.upd hb (.cells X true)) H' → H'.get hb 4 = some (.sl (some (H2.size, 0)) n n true 1) := fun H' hle => hle.get (by rw [get_upd_same hsz2, ← hX]; rfl)
        have hsn : H.size ≠ hb := by omega
        refine wp_loop_k (fun e H' => ∃ (i : Nat) (L : List Int), i ≤ n ∧ e 0 = .ptr (some (hb, 0)) ∧ e 5 = .sl (some (H.size, 0)) (n + 1) (n + 1) true 1 ∧ e 56 = .int .i64 (n : Int) ∧ e 57 = .int .i64 (i : Int) ∧ L.length = n ∧ (∀ j, j < i → L[j]? = ((m.drop 1).map valF)[j]?) ∧ Row (H2.upd hb (.cells X true)) H' H2.size L) (fun e _ => ctr n (e 57)) ?_ ?_
        · exact ⟨0, _, Nat.zero_le _, by simp (maxSteps := 2000000) (disch := first | omega | assumption | exact idP rfl | exact idP (bL rfl) | (simp only [alloc_size, upd_size] <;> omega) | fail) only [go_sem, reduceIte, Nat.reduceEqDiff, e0], by simp (maxSteps := 2000000) (disch := first | omega | assumption | exact idP rfl | exact idP (bL rfl) | (simp only [alloc_size, upd_size] <;> omega) | fail) only [go_sem, reduceIte, Nat.reduceEqDiff, e5], by simp (maxSteps := 2000000) (disch := first | omega | assumption | exact idP rfl | exact idP (bL rfl) | (simp only [alloc_size, upd_size] <;> omega) | fail) only [go_sem, reduceIte, Nat.reduceEqDiff], by simp (maxSteps := 2000000) (disch := first | omega | assumption | exact idP rfl | exact idP (bL rfl) | (simp only [alloc_size, upd_size] <;> omega) | fail) only [go_sem, reduceIte, Nat.reduceEqDiff]; rfl, by simp, fun j h => by omega, rowX⟩
        rintro e H3 ⟨i, L, hi, e0, e5, e56, e57, hL, hLj, hrowL⟩ K hK
        simp (maxSteps := 2000000) (disch := first | omega | assumption | exact idP rfl | exact idP (bL rfl) | (simp only [alloc_size, upd_size] <;> omega) | fail) only [go_sem, reduceIte, Nat.reduceEqDiff, e56, e57]
        refine condV_dec (fun h => ?_) (fun h => ?_)
        · have hgm := hrow2.get (i := i + 1) (by simp; omega)
          simp only [List.getElem_map] at hgm
          have hgm' := hrowL.le'.get (b := H.size) (o := i + 1) (by rw [get_upd_ne hsn]; exact hgm)
          have v4' := sgG _ hrowL.le'
          have et : ((i : Int) + 1).toNat = i + 1 := by omega
          have e57' := e57
          simp (maxSteps := 2000000) (disch := first | omega | assumption | exact idP rfl | exact idP (bL rfl) | (simp only [alloc_size, upd_size] <;> omega) | fail) only [go_sem, reduceIte, Nat.reduceEqDiff, e0, e5, e57, v4', et, hgm']
          refine s_bit.mono ?_
          rintro r H4 ⟨rfl, rfl⟩
          simp (maxSteps := 2000000) (disch := first | omega | assumption | exact idP rfl | exact idP (bL rfl) | (simp only [alloc_size, upd_size] <;> omega) | fail) only [go_sem, reduceIte, Nat.reduceEqDiff, e0, e5, e57, v4', hrowL.rw]
          rw [stoK_1 rfl (by simp; omega)]
          simp (maxSteps := 2000000) (disch := first | omega | assumption | exact idP rfl | exact idP (bL rfl) | (simp only [alloc_size, upd_size] <;> omega) | fail) only [go_sem, reduceIte, Nat.reduceEqDiff, e57]
          refine hK _ _ ⟨i + 1, _, by omega, by simp (maxSteps := 2000000) (disch := first | omega | assumption | exact idP rfl | exact idP (bL rfl) | (simp only [alloc_size, upd_size] <;> omega) | fail) only [go_sem, reduceIte, Nat.reduceEqDiff, e0], by simp (maxSteps := 2000000) (disch := first | omega | assumption | exact idP rfl | exact idP (bL rfl) | (simp only [alloc_size, upd_size] <;> omega) | fail) only [go_sem, reduceIte, Nat.reduceEqDiff, e5], by simp (maxSteps := 2000000) (disch := first | omega | assumption | exact idP rfl | exact idP (bL rfl) | (simp only [alloc_size, upd_size] <;> omega) | fail) only [go_sem, reduceIte, Nat.reduceEqDiff, e56], by simp (maxSteps := 2000000) (disch := first | omega | assumption | exact idP rfl | exact idP (bL rfl) | (simp only [alloc_size, upd_size] <;> omega) | fail) only [go_sem, reduceIte, Nat.reduceEqDiff]; rfl, ?_, fun j hj => ?_, hrowL.set _ _⟩ (by simp (maxSteps := 2000000) (disch := first | omega | assumption | exact idP rfl | exact idP (bL rfl) | (simp only [alloc_size, upd_size] <;> omega) | fail) only [go_sem, reduceIte, Nat.reduceEqDiff, ctr_int, e57']; omega)
          · simpa using hL
          · by_cases hji : j = i
            · subst hji
              rw [List.getElem?_set_self (by omega)]
              rw [List.getElem?_map, List.getElem?_drop, Nat.add_comm 1 j, List.getElem?_eq_getElem (by omega)]
              by_cases hq : 0 < m[j + 1]
              · have := sgn_pos.2 hq
                simp [valF, hq, this]
              · have : ¬ 0 < sgn m[j + 1] := fun e => hq (sgn_pos.1 e)
                simp [valF, hq, this]
            · rw [List.getElem?_set_ne (by omega)]; exact hLj j (by omega)
        · obtain rfl : i = n := by omega
          have hLe : L = (m.drop 1).map valF := by
            apply List.ext_getElem?
            intro j
            by_cases hj : j < i
            · exact hLj j hj
            · rw [List.getElem?_eq_none (by omega), List.getElem?_eq_none (by simp; omega)]
          subst hLe
          simp (maxSteps := 2000000) (disch := first | omega | assumption | exact idP rfl | exact idP (bL rfl) | (simp only [alloc_size, upd_size] <;> omega) | fail) only [go_sem, reduceIte, Nat.reduceEqDiff]
          have hL3 : Le (H2.upd hb (.cells X true)) H3 := hrowL.le'
          have hsz3 : H2.size ≤ H3.size := hL3.1
          have hpA : PLO lo (B.pad H2.size) H3 p P := (hp2.upd ahb hd2).le hL3
          have hB4 : Le ((B.pad H2.size).over H3) (base H3 p) := over_le hpA.1 base_size.symm fun b hb' => base_blk (apart_fresh hown (by have := hH2.1; rw [pad_size] at hb'; omega))
          have hnd4 : Nd (B.pad H2.size) ((B.pad H2.size).over H3) := over_nd (by rw [pad_size]; exact hsz3)
          have hown3 : Own 1 H3 (.sl (some (H2.size, 0)) i i true 1) (((m.drop 1).map valF).map (AV.int .i64)) := ⟨some (H2.size, 0), i, true, 1, rfl, by simp; omega, fun h => (nomatch h), fun b o e => by cases e; exact ⟨rfl, rfl, hrowL.lt, hrowL.blk⟩⟩
          have hwi : IsI ((B.pad H2.size).over H3) (.sl (some (H2.size, 0)) i i true 1) ((m.drop 1).map valF) := (hown3.later (n := H2.size) (Nat.le_refl _)).isI.le (by have := later_over (B.pad H2.size) H3; rwa [pad_size] at this)
          refine hR _ _ ⟨.sat m, P, d, p, .sl (some (H2.size, 0)) i i true 1, true, false, (B.pad H2.size).over H3, .sat hforce hnext, rfl, hnd.trans hnd4, ?_, ?_, fun b hb' => apF _ b hH2 (Nat.le_trans hsz3 hb'), hp.one.1, rfl, fun h => (by cases h), fun h => (by cases h), fun m' h => ?_⟩
          · have h1 : Le (base (H2.upd hb (.cells X true)) p) (base H3 p) := base_mono hL3 p
            rw [base_upd ahb] at h1
            exact (((Le.kill _ _).trans (base_mono hH2 p)).updDead (kill_dead _ _) _).trans h1
          · rw [hX]
            exact base_rw ahb (hL3.rwCells (by simp (maxSteps := 2000000) (disch := first | omega | assumption | exact idP rfl | exact idP (bL rfl) | (simp only [alloc_size, upd_size] <;> omega) | fail) only [go_sem, reduceIte, Nat.reduceEqDiff]))
          · cases h
            exact ⟨rfl, rfl, hpA.at hnd4.1 hB4, hwi, _, _, rfl⟩
      · -- a choice
        have ha0 : nx ≠ 0 := by omega
        have han : nx ≤ n := by
          rcases hnext with ⟨e, _⟩ | ⟨_, ⟨h1, _⟩, _⟩
          · exact absurd e ha0
          · omega
        obtain ⟨hka, hlow1⟩ := hlow.next (x := -(nx : Int)) hforce hml hnext ha0 (by omega)
        obtain ⟨_, hlow2⟩ := hlow.next (x := (nx : Int)) hforce hml hnext ha0 (by omega)
        have u3 : H2.get hb 3 = some (.int .i64 (d : Int)) := hH2.get (Rd.blk hsz hbk 3 _ rfl)
        simp (maxSteps := 2000000) (disch := first | omega | assumption | exact idP rfl | exact idP (bL rfl) | (simp only [alloc_size, upd_size] <;> omega) | fail) only [go_sem, reduceIte, Nat.reduceEqDiff, e0, u3, u]
        have hd1 : ((d : Int) + 1) = ((d + 1 : Nat) : Int) := by omega
        generalize hX : [AV.int .i64 (n : Int), fl, p, .int .i64 ((d : Int) + 1), vals, .bool false] = X at *
        have hp3 : PLO lo (B.pad H2.size) (H2.upd hb (.cells X true)) p P := hp2.upd ahb hd2
        have hgvH := (hgv.le hnd.1).le (hp3.1.trans (base_le _ _))
        have hgl : g.length ≤ 700 := by omega
        simp (maxSteps := 2000000) (disch := first | omega | assumption | exact idP rfl | exact idP (bL rfl) | (simp only [alloc_size, upd_size] <;> omega) | fail) only [go_sem, reduceIte, Nat.reduceEqDiff, e1]
        refine (s_Clip hgvH (by omega) hgc hgx (.inr trivial)).mono ?_
        rintro r H3 ⟨rfl, A1, k1, rfl, hcl⟩
        simp (maxSteps := 2000000) (disch := first | omega | assumption | exact idP rfl | exact idP (bL rfl) | (simp only [alloc_size, upd_size] <;> omega) | fail) only [go_sem, reduceIte, Nat.reduceEqDiff, e6]
        refine app_full hcl (by omega) (by omega) ?_
        intro c1 H5 hc1 hle5 hnc1
        have hH5 := hle5.trans (base_le _ _)
        have hsz5 : H2.size ≤ H5.size := hH5.1
        have x5 : H5.rwCells hb = some X := hH5.rwCells (by simp (maxSteps := 2000000) (disch := first | omega | assumption | exact idP rfl | exact idP (bL rfl) | (simp only [alloc_size, upd_size] <;> omega) | fail) only [go_sem, reduceIte, Nat.reduceEqDiff])
        have w5 := base_rw ahb x5
        have hpA := hp3.le hH5
        have hB5 : Le ((B.pad H2.size).over H5) (base H5 p) := over_le hpA.1 base_size.symm fun b hb' => base_blk (apF _ b hH2 (by rw [pad_size] at hb'; exact hb'))
        have hnd5 : Nd (B.pad H2.size) ((B.pad H2.size).over H5) := over_nd (by rw [pad_size]; exact hsz5)
        have hp5 := hpA.at hnd5.1 hB5
        have hc1' : Own 1 H5 c1 ((g ++ [-(nx : Int)]).map (AV.int .i64)) := by
          have e : (0 : Int) - (nx : Int) = -(nx : Int) := by omega
          rw [← e]; exact hc1
        have hci : IsI ((B.pad H2.size).over H5) c1 (g ++ [-(nx : Int)]) := (hc1'.later (n := H2.size) hnc1).isI.le (by have := later_over (B.pad H2.size) H5; rwa [pad_size] at this)
        have hdd5 := hnd5.2 hb (by rw [pad_size]; exact hsz2) hd2
        simp (maxSteps := 2000000) (disch := first | omega | assumption | exact idP rfl | exact idP (bL rfl) | (simp only [alloc_size, upd_size] <;> omega) | fail) only [go_sem, reduceIte, Nat.reduceEqDiff, e0]
        rw [← hX, hd1] at w5
        refine (ih (B := (B.pad H2.size).over H5) (H := H5) (k := nx) (by omega) han hlow1 rfl (hfl.le (hnd.trans hnd5).1) hci (hc1'.gvOk (by simp)) hp5 hP (by simp; omega) hdd5 w5 hov).mono ?_
        rintro r H6 ⟨res1, P1, d1, p1, w1, ok1, ct1, B6, htry1, rfl, hnd6, hle6, hw6, hap1, ho1, how1, hno1, hcut1, hsat1⟩
        have hndB6 := (hnd.trans hnd5).trans hnd6
        have hL5 : Le ((base H p).kill hb) ((base H5 p).kill hb) := by
          have h1 := (base_mono hH5 p).kills hb
          rw [base_upd ahb, upd_kill] at h1
          exact ((base_mono hH2 p).kills hb).trans h1
        have hL6 : Le ((base H p).kill hb) (base H6 p1) := hL5.trans hle6
        cases res1 with
        | sat m1 =>
          obtain ⟨rfl, rfl, hpl, hwi, hwf⟩ := hsat1 m1 rfl
          simp (maxSteps := 2000000) (disch := first | omega | assumption | exact idP rfl | exact idP (bL rfl) | (simp only [alloc_size, upd_size] <;> omega) | fail) only [go_sem, reduceIte, Nat.reduceEqDiff]
          exact hR _ _ ⟨.sat m1, P1, d1, p1, w1, true, false, B6, .left hforce hnext ha0 htry1 (by intro h; cases h), rfl, hndB6, hL6, hw6, hap1, ho1, how1, fun h => (by cases h), fun h => (by cases h), fun m' h => by cases h; exact ⟨rfl, rfl, hpl, hwi, hwf⟩⟩
        | cut =>
          obtain ⟨rfl, rfl⟩ := hcut1 rfl
          simp (maxSteps := 2000000) (disch := first | omega | assumption | exact idP rfl | exact idP (bL rfl) | (simp only [alloc_size, upd_size] <;> omega) | fail) only [go_sem, reduceIte, Nat.reduceEqDiff]
          exact hR _ _ ⟨.cut, P1, d1, p1, w1, true, true, B6, .left hforce hnext ha0 htry1 (by intro h; cases h), rfl, hndB6, hL6, hw6, hap1, ho1, how1, fun h => (by cases h), fun _ => ⟨rfl, rfl⟩, fun m' h => by cases h⟩
        | no =>
          obtain ⟨rfl, rfl, hpl, hlen1, hd1', hwv1⟩ := hno1 rfl
          have hgl1 : (g ++ [-(nx : Int)]).length = g.length + 1 := by simp
          have hsB6 : B6.size ≤ H6.size := by have := hpl.1.1; rw [base_size] at this; exact this
          obtain ⟨pc1, hown1, _⟩ := hpl.own
          have q6 := apart_of hw6
          have hgv6 := (hgv.le hndB6.1).le (hpl.1.trans (base_le _ _))
          simp (maxSteps := 2000000) (disch := first | omega | assumption | exact idP rfl | exact idP (bL rfl) | (simp only [alloc_size, upd_size] <;> omega) | fail) only [go_sem, reduceIte, Nat.reduceEqDiff, e0, e1]
          refine (s_Clip hgv6 (by omega) hgc hgx (.inr trivial)).mono ?_
          rintro r H7 ⟨rfl, A2, k2, rfl, hcl2⟩
          simp (maxSteps := 2000000) (disch := first | omega | assumption | exact idP rfl | exact idP (bL rfl) | (simp only [alloc_size, upd_size] <;> omega) | fail) only [go_sem, reduceIte, Nat.reduceEqDiff, e6]
          refine app_full hcl2 (by omega) (by omega) ?_
          intro c3 H9 hc3 hle9 hnc3
          have hH9 := hle9.trans (base_le _ _)
          have hsz9 : H7.size ≤ H9.size := hH9.1
          have hpB := hpl.le hH9
          have w9 := (base_mono hH9 p1).rwCells hw6
          have hndp : Nd B6 (B6.pad H7.size) := pad_nd hsB6
          have hBp9 : Le (B6.pad H7.size) (base H9 p1) := pad_le hpB.1 (by rw [base_size]; exact hsz9)
          have hB9 : Le ((B6.pad H7.size).over H9) (base H9 p1) := over_le hBp9 base_size.symm fun b hb' => base_blk (apart_fresh hown1 (by rw [pad_size] at hb'; exact hb'))
          have hnd9 : Nd (B6.pad H7.size) ((B6.pad H7.size).over H9) := over_nd (by rw [pad_size]; exact hsz9)
          have hp9 := hpB.at (hndp.trans hnd9).1 hB9
          have hci3 : IsI ((B6.pad H7.size).over H9) c3 (g ++ [(nx : Int)]) := (hc3.later (n := H7.size) hnc3).isI.le (by have := later_over (B6.pad H7.size) H9; rwa [pad_size] at this)
          have hszB6 : hb < B6.size := Nat.lt_of_lt_of_le (Nat.lt_of_lt_of_le hsz2 hsz5) hnd6.1.1
          have hd6 : B6.blk hb = .dead := hnd6.2 hb (Nat.lt_of_lt_of_le hsz2 hsz5) hdd5
          have hdd9 := (hndp.trans hnd9).2 hb hszB6 hd6
          simp (maxSteps := 2000000) (disch := first | omega | assumption | exact idP rfl | exact idP (bL rfl) | (simp only [alloc_size, upd_size] <;> omega) | fail) only [go_sem, reduceIte, Nat.reduceEqDiff, e0]
          refine (ih (B := (B6.pad H7.size).over H9) (H := H9) (k := nx) (by omega) han hlow2 rfl (hfl.le ((hndB6.trans hndp).trans hnd9).1) hci3 (hc3.gvOk (by simp)) hp9 hlen1 (by simp at hd1' ⊢; omega) hdd9 w9 how1).mono ?_
          rintro r H10 ⟨res2, P2, d2, p2, w3, ok2, ct2, B10, htry2, rfl, hnd10, hle10, hw10, hap2, ho2, how2, hno2, hcut2, hsat2⟩
          have hndB10 := ((hndB6.trans hndp).trans hnd9).trans hnd10
          have hL10 : Le ((base H p).kill hb) (base H10 p2) := by
            have h2 : Le ((base H p).kill hb) ((base H7 p1).kill hb) := by
              have h3 := hL6.kills hb
              rwa [kill_kill] at h3
            exact (h2.trans ((base_mono hH9 p1).kills hb)).trans hle10
          cases res2 with
          | sat m2 =>
            obtain ⟨rfl, rfl, hpl2, hwi2, hwf2⟩ := hsat2 m2 rfl
            simp (maxSteps := 2000000) (disch := first | omega | assumption | exact idP rfl | exact idP (bL rfl) | (simp only [alloc_size, upd_size] <;> omega) | fail) only [go_sem, reduceIte, Nat.reduceEqDiff]
            exact hR _ _ ⟨.sat m2, P2, d2, p2, w3, true, false, B10, .right hforce hnext ha0 htry1 htry2 (by intro h; cases h), rfl, hndB10, hL10, hw10, hap2, ho2, how2, fun h => (by cases h), fun h => (by cases h), fun m' h => by cases h; exact ⟨rfl, rfl, hpl2, hwi2, hwf2⟩⟩
          | cut =>
            obtain ⟨rfl, rfl⟩ := hcut2 rfl
            simp (maxSteps := 2000000) (disch := first | omega | assumption | exact idP rfl | exact idP (bL rfl) | (simp only [alloc_size, upd_size] <;> omega) | fail) only [go_sem, reduceIte, Nat.reduceEqDiff]
            exact hR _ _ ⟨.cut, P2, d2, p2, w3, true, true, B10, .right hforce hnext ha0 htry1 htry2 (by intro h; cases h), rfl, hndB10, hL10, hw10, hap2, ho2, how2, fun h => (by cases h), fun _ => ⟨rfl, rfl⟩, fun m' h => by cases h⟩
          | no =>
            obtain ⟨rfl, rfl, hpl2, hlen2, hd2', hwv2⟩ := hno2 rfl
            have hb10 : B10.size ≤ H10.size := by have := hpl2.1.1; rw [base_size] at this; exact this
            have hndq : Nd B10 (B10.pad H10.size) := pad_nd hb10
            have hszB10 : hb < B10.size := Nat.lt_of_lt_of_le hszB6 ((hndp.trans hnd9).trans hnd10).1.1
            have hd10 : B10.blk hb = .dead := hnd10.2 hb (Nat.lt_of_lt_of_le hszB6 (hndp.trans hnd9).1.1) hdd9
            have hpq : PLO lo (B10.pad H10.size) H10 p2 P2 := hpl2.at hndq.1 (pad_le hpl2.1 (by rw [base_size]; exact Nat.le_refl _))
            have q10 := apart_of hw10
            simp (maxSteps := 2000000) (disch := first | omega | assumption | exact idP rfl | exact idP (bL rfl) | (simp only [alloc_size, upd_size] <;> omega) | fail) only [go_sem, reduceIte, Nat.reduceEqDiff]
            refine wp_seq'.mp (wp_seq'.mp (under_leaf (B := B10.pad H10.size) (d := d2) (n := n) (g := g) (P := P2) hn hlow.asc hlow.lits (by omega) hlen2 hof1 how2 ?_ ?_ (pad_size _ _) (hndq.2 hb hszB10 hd10) hw10 hpq (hgv.le (hndB10.trans hndq).1) ?_ ?_))
            · simp (maxSteps := 2000000) (disch := first | omega | assumption | exact idP rfl | exact idP (bL rfl) | (simp only [alloc_size, upd_size] <;> omega) | fail) only [go_sem, reduceIte, Nat.reduceEqDiff, e0]
            · simp (maxSteps := 2000000) (disch := first | omega | assumption | exact idP rfl | exact idP (bL rfl) | (simp only [alloc_size, upd_size] <;> omega) | fail) only [go_sem, reduceIte, Nat.reduceEqDiff, e1]
            · intro h6
              refine hR _ _ ⟨.cut, P2, d2, p2, w3, true, true, B10.pad H10.size, .bothC hforce hnext ha0 htry1 htry2 h6, rfl, hndB10.trans hndq, ?_, ?_, hap2, ho2, how2, fun h => (by cases h), fun _ => ⟨rfl, rfl⟩, fun m h => (by cases h)⟩
              · rw [base_upd q10]
                exact hL10.updDead (kill_dead _ _) _
              · exact base_rw q10 (by simp (maxSteps := 2000000) (disch := first | omega | assumption | exact idP rfl | exact idP (bL rfl) | (simp only [alloc_size, upd_size] <;> omega) | fail) only [go_sem, reduceIte, Nat.reduceEqDiff, (Heap.rwCells_blk ((base_le H10 p2).rwCells hw10)).1])
            · intro h6 B' H' p' hn' hp' hle' hw'
              refine hR _ _ ⟨.no, _, d2, p', w3, false, false, B', .bothN hforce hnext ha0 htry1 htry2 h6, rfl, (hndB10.trans hndq).trans hn', ?_, hw', fun b hb' => by obtain ⟨_, q, _⟩ := hp'.own; exact apart_fresh q hb', hp'.one.1, how2, fun _ => ⟨rfl, rfl, hp', ?_, ?_, hwv2.trans hwv1⟩, fun h => (by cases h), fun m h => (by cases h)⟩
              · have h3 := hL10.kills hb
                rw [kill_kill] at h3
                exact h3.trans hle'
              · simp; omega
              · simp at hd2' ⊢; omega
end Go.M2

namespace Go.M2
open Go.Proofs
variable {H : Heap}
def HuntPost (cl : List (List Int)) (n : Nat) (H : Heap) (r : AV) (H' : Heap) : Prop :=
  ∃ (res : Res) (P' : List (List Int)) (d' hb : Nat) (fl p' w : AV) (ct : Bool) (B' : Heap), Try cl n [] [] 0 res P' d' ∧ r = .ptr (some (hb, 0)) ∧ Le H H' ∧ H'.rwCells hb = some [.int .i64 (n : Int), fl, p', .int .i64 (d' : Int), w, .bool ct] ∧ oneA fl = true ∧ oneA p' = true ∧ oneA w = true ∧
    (res = .no → ct = false ∧ PLO H.size B' H' p' P' ∧ P'.length ≤ 600 ∧ w = .sl none 0 0 true 0) ∧ (res = .cut → ct = true) ∧ (∀ m, res = .sat m → ct = false ∧ IsI B' w ((m.drop 1).map valF) ∧ Le B' (base H' p') ∧ ∃ b nn, w = .sl (some (b, 0)) nn nn true 1)
theorem s_hunted {x : AV} {n : Nat} {xss : List (List Int)} (hx : IsCl H x (n : Int) xss) (hok : ClsOk (n : Int) xss) (hl : xss.length ≤ 1048576) (hxl : ∀ xs ∈ xss, xs.length ≤ 1048576) :
    ACall Try.prog n_Z18 [x] H (HuntPost xss n H) := by
  refine ACall.of fun R hR => a_Z18 rfl ?_
  obtain ⟨fl, rfl, hv⟩ := hx
  have hof := oneA_isS hv
  have hof1 := hof.1
  have hn := hok.hi
  simp (maxSteps := 2000000) (disch := first | omega | assumption | exact idP rfl | exact idP (bL rfl) | (simp only [alloc_size, upd_size] <;> omega) | fail) only [go_sem, reduceIte, Nat.reduceEqDiff, hof.2]
  have hH3 : Le H ((H.alloc [.int .i64 (n : Int), fl]).alloc [.int .i64 (n : Int), fl, .sl none 0 0 true 0, .int .i64 0, .sl none 0 0 true 0, .bool false]) := (Le.refl _).allocs.allocs
  have hnp : Nd H (H.pad (H.size + 1 + 1)) := pad_nd (by omega)
  have hpl : PLO H.size (H.pad (H.size + 1 + 1)) ((H.alloc [.int .i64 (n : Int), fl]).alloc [.int .i64 (n : Int), fl, .sl none 0 0 true 0, .int .i64 0, .sl none 0 0 true 0, .bool false]) (.sl none 0 0 true 0) [] :=
    ⟨pad_le hH3 (Nat.le_refl _), by rw [pad_size]; omega, [], Own.nil, rfl, fun i h => by simp at h, fun i j u v h1 h2 => by simp at h2⟩
  refine (s_under (n := n) (xss := xss) (by omega) hl hxl (fun xs h => clOk_lits (hok.all xs h)) (n + 1) (B := H.pad (H.size + 1 + 1)) (H := (H.alloc [.int .i64 (n : Int), fl]).alloc [.int .i64 (n : Int), fl, .sl none 0 0 true 0, .int .i64 0, .sl none 0 0 true 0, .bool false]) (g := []) (P := []) (d := 0) (k := 0) (hb := H.size + 1) (fl := fl) (p := .sl none 0 0 true 0) (vals := .sl none 0 0 true 0)
    (by omega) (by omega) (Low.nil _ _) rfl (hv.le hnp.1) ⟨_, 0, true, 0, rfl, fun i h => by simp at h⟩ ⟨_, 0, true, 0, rfl, Nat.le_refl _, .inl rfl⟩ hpl (by simp) (by simp) (pad_dead (by omega)) (show ((H.alloc [.int .i64 (n : Int), fl]).alloc [.int .i64 (n : Int), fl, .sl none 0 0 true 0, .int .i64 0, .sl none 0 0 true 0, .bool false]).rwCells (H.size + 1) = some _ from rw_alloc_new rfl) rfl).mono ?_
  rintro r H4 ⟨res, P', d', p', w, ok, ct, B', htry, rfl, hnd, hle, hw, hap, ho1, how, hno, hcut, hsat⟩
  simp (maxSteps := 2000000) (disch := first | omega | assumption | exact idP rfl | exact idP (bL rfl) | (simp only [alloc_size, upd_size] <;> omega) | fail) only [go_sem, reduceIte, Nat.reduceEqDiff]
  have hL : Le H (base H4 p') := Le.trans (hH3.killFresh (Nat.le_succ _)) hle
  refine hR _ _ ⟨res, P', d', H.size + 1, fl, p', w, ct, B', htry, rfl, hL.trans (base_le _ _), (base_le _ _).rwCells hw, hof1, ho1, how, fun h => ?_, fun h => (hcut h).1, fun m h => ?_⟩
  · obtain ⟨h1, h2, h3, h5, _, h4⟩ := hno h
    exact ⟨h1, h3, h5, h4⟩
  · obtain ⟨h1, h2, h3, h4, h5⟩ := hsat m h
    exact ⟨h1, h4, h3.1, h5⟩
def DecRes (n : Int) (xss : List (List Int)) (a : Int) (b : Bool) : Prop :=
  (¬ ClsOk n xss ∧ a = 0 ∧ b = false) ∨ (ClsOk n xss ∧ ∃ (m : Nat) (res : Res) (P : List (List Int)) (d : Nat), n = m ∧ Try xss m [] [] 0 res P d ∧ ((res = .cut ∧ a = 0 ∧ b = false) ∨ (res ≠ .cut ∧ a = d ∧ b = true)))
theorem DecRes.det {n : Int} {xss : List (List Int)} {a a' : Int} {b b' : Bool} (h : DecRes n xss a b) (h' : DecRes n xss a' b') : a = a' ∧ b = b' := by
  rcases h with ⟨h1, rfl, rfl⟩ | ⟨h1, m, res, P, d, rfl, h2, h3⟩
  · rcases h' with ⟨_, rfl, rfl⟩ | ⟨h1', _⟩
    · exact ⟨rfl, rfl⟩
    · exact absurd h1' h1
  · rcases h' with ⟨h1', _⟩ | ⟨_, m', res', P', d', hm, h2', h3'⟩
    · exact absurd h1 h1'
    · obtain rfl : m = m' := by omega
      obtain ⟨rfl, rfl, rfl⟩ := h2.det h2'
      rcases h3 with ⟨h4, rfl, rfl⟩ | ⟨h4, rfl, rfl⟩
      · rcases h3' with ⟨_, rfl, rfl⟩ | ⟨h5, _⟩
        · exact ⟨rfl, rfl⟩
        · exact absurd h4 h5
      · rcases h3' with ⟨h5, _⟩ | ⟨_, rfl, rfl⟩
        · exact absurd h5 h4
        · exact ⟨rfl, rfl⟩
end Go.M2

namespace Go.M2
open Go.Proofs
variable {H : Heap}
def SolRes (n : Int) (xss : List (List Int)) (vals : List Int) (ok : Bool) : Prop :=
  (¬ ClsOk n xss ∧ vals = [] ∧ ok = false) ∨ (ClsOk n xss ∧ ∃ (m : Nat) (res : Res) (P : List (List Int)) (d : Nat), n = m ∧ Try xss m [] [] 0 res P d ∧ ((∃ mm, res = .sat mm ∧ vals = (mm.drop 1).map valF ∧ ok = true) ∨ ((res = .no ∨ res = .cut) ∧ vals = [] ∧ ok = false)))
theorem SolRes.det {n : Int} {xss : List (List Int)} {v v' : List Int} {b b' : Bool} (h : SolRes n xss v b) (h' : SolRes n xss v' b') : v = v' ∧ b = b' := by
  rcases h with ⟨h1, rfl, rfl⟩ | ⟨h1, m, res, P, d, rfl, h2, h3⟩
  · rcases h' with ⟨_, rfl, rfl⟩ | ⟨h1', _⟩
    · exact ⟨rfl, rfl⟩
    · exact absurd h1' h1
  · rcases h' with ⟨h1', _⟩ | ⟨_, m', res', P', d', hm, h2', h3'⟩
    · exact absurd h1 h1'
    · obtain rfl : m = m' := by omega
      obtain ⟨rfl, rfl, rfl⟩ := h2.det h2'
      rcases h3 with ⟨mm, rfl, rfl, rfl⟩ | ⟨h4, rfl, rfl⟩
      · rcases h3' with ⟨mm', e, rfl, rfl⟩ | ⟨h5 | h5, _⟩
        · cases e; exact ⟨rfl, rfl⟩
        · cases h5
        · cases h5
      · rcases h3' with ⟨mm', rfl, _⟩ | ⟨_, rfl, rfl⟩
        · rcases h4 with h4 | h4 <;> cases h4
        · exact ⟨rfl, rfl⟩
theorem SolRes.len {n : Int} {xss : List (List Int)} {v : List Int} {b : Bool} (h : SolRes n xss v b) (hf : ∀ m : Nat, n = m → ∀ g P d r P' d', Try xss m g P d r P' d' → ∀ mm, r = .sat mm → mm.length = m + 1) : v.length ≤ 700 := by
  rcases h with ⟨h1, rfl, rfl⟩ | ⟨h1, m, res, P, d, rfl, h2, ⟨mm, rfl, rfl, rfl⟩ | ⟨_, rfl, rfl⟩⟩
  · simp
  · have := hf m rfl _ _ _ _ _ _ h2 mm rfl
    have := h1.hi
    simp; omega
  · simp
theorem passF_len : ∀ {t : List (List Int)} {m m' : List Int} {ag ag' : Bool}, passF t m ag = some (m', ag') → m'.length = m.length
  | [], m, m', ag, ag', h => by simp only [passF, Option.some.injEq, Prod.mk.injEq] at h; rw [h.1]
  | c :: t, m, m', ag, ag', h => by
    simp only [passF] at h
    split at h
    · cases h
    · split at h
      · have := passF_len h; simpa using this
      · exact passF_len h
theorem Force.len {cl : List (List Int)} {m : List Int} {r : Option (List Int)} (h : Force cl m r) : ∀ m', r = some m' → m'.length = m.length := by
  induction h with
  | bad _ => intro m' e; cases e
  | stop h => intro m' e; cases e; exact passF_len h
  | go h _ ih => intro m' e; rw [ih m' e, passF_len h]
theorem Try.len {cl : List (List Int)} {n : Nat} {g : List Int} {P P' : List (List Int)} {d d' : Nat} {r : Res} (h : Try cl n g P d r P' d') : ∀ mm, r = .sat mm → mm.length = n + 1 := by
  induction h with
  | sat f _ => intro mm e; cases e; rw [f.len _ rfl, given_len]
  | left _ _ _ _ _ ih => exact ih
  | right _ _ _ _ _ _ _ ih => exact ih
  | bothC => intro mm e; cases e
  | bothN => intro mm e; cases e
  | confC => intro mm e; cases e
  | confN => intro mm e; cases e
theorem s_specSolve {x : AV} {k : Int} {xss : List (List Int)} (hx : IsCl H x k xss) (hl : xss.length ≤ 1048576) (hxl : ∀ xs ∈ xss, xs.length ≤ 1048576) :
    ACall Try.prog n_Z56 [x] H (fun r H' => Le H H' ∧ ∃ u vals ok, r = .tup [u, .bool ok] ∧ IsI H' u vals ∧ SolRes k xss vals ok) := by
  refine ACall.of fun R hR => a_Z56 rfl ?_
  obtain ⟨fl, rfl, hv⟩ := hx
  have nilI : ∀ H' : Heap, IsI H' (.sl none 0 0 true 0) [] := fun H' => ⟨none, 0, true, 0, rfl, fun i h => by simp at h⟩
  simp (maxSteps := 2000000) (disch := first | omega | assumption | exact idP rfl | exact idP (bL rfl) | (simp only [alloc_size, upd_size] <;> omega) | fail) only [go_sem, reduceIte, Nat.reduceEqDiff]
  have hcl : IsCl (H.alloc [.int .i64 k, fl]) (.agg [.int .i64 k, fl]) k xss := ⟨fl, rfl, hv.le (Le.alloc _ _)⟩
  refine (s_specClausesValid hcl hl hxl).mono ?_
  rintro r H1 ⟨hle1, b, rfl, hb⟩
  have hH1 := (Le.alloc H [.int .i64 k, fl]).trans hle1
  cases b with
  | false =>
    have hnot : ¬ ClsOk k xss := fun h => by have := hb.2 h; cases this
    simp (maxSteps := 2000000) (disch := first | omega | assumption | exact idP rfl | exact idP (bL rfl) | (simp only [alloc_size, upd_size] <;> omega) | fail) only [go_sem, reduceIte, Nat.reduceEqDiff]
    exact hR _ _ ⟨hH1, _, [], false, rfl, nilI _, .inl ⟨hnot, rfl, rfl⟩⟩
  | true =>
    have hok := hb.1 rfl
    obtain ⟨n, rfl⟩ : ∃ n : Nat, k = n := ⟨k.toNat, by have := hok.lo; omega⟩
    have g0 : H1.get H.size 0 = some (.int .i64 (n : Int)) := hle1.get (by simp (maxSteps := 2000000) (disch := first | omega | assumption | exact idP rfl | exact idP (bL rfl) | (simp only [alloc_size, upd_size] <;> omega) | fail) only [go_sem, reduceIte, Nat.reduceEqDiff])
    have g1 : H1.get H.size 1 = some fl := hle1.get (by simp (maxSteps := 2000000) (disch := first | omega | assumption | exact idP rfl | exact idP (bL rfl) | (simp only [alloc_size, upd_size] <;> omega) | fail) only [go_sem, reduceIte, Nat.reduceEqDiff])
    simp (maxSteps := 2000000) (disch := first | omega | assumption | exact idP rfl | exact idP (bL rfl) | (simp only [alloc_size, upd_size] <;> omega) | fail) only [go_sem, reduceIte, Nat.reduceEqDiff, g0, g1]
    refine (s_l12Search (hcl.le hle1) hok hl hxl).mono ?_
    rintro r H2 ⟨res, P', d', fl', p', w, ok, ct, B', htry, rfl, hle2, hof, hop, how, hno, hcut, hsat⟩
    have hc1 : cellsOf p' = some [p'] := by cases p' <;> first | rfl | cases hop
    have hc2 : cellsOf fl' = some [fl'] := by cases fl' <;> first | rfl | cases hof
    simp (maxSteps := 2000000) (disch := first | omega | assumption | exact idP rfl | exact idP (bL rfl) | (simp only [alloc_size, upd_size] <;> omega) | fail) only [go_sem, reduceIte, Nat.reduceEqDiff, hc1, hc2]
    have hH2 := hH1.trans hle2
    cases res with
    | cut =>
      obtain ⟨rfl, rfl, rfl⟩ := hcut rfl
      exact hR _ _ ⟨hH2.allocs.updFresh hH2.1, _, [], false, rfl, nilI _, .inr ⟨hok, n, .cut, P', d', rfl, htry, .inr ⟨.inr rfl, rfl, rfl⟩⟩⟩
    | no =>
      obtain ⟨rfl, rfl, _, rfl⟩ := hno rfl
      exact hR _ _ ⟨hH2.allocs.updFresh hH2.1, _, [], false, rfl, nilI _, .inr ⟨hok, n, .no, P', d', rfl, htry, .inr ⟨.inl rfl, rfl, rfl⟩⟩⟩
    | sat m =>
      obtain ⟨rfl, rfl, hw, hB⟩ := hsat m rfl
      refine hR _ _ ⟨hH2.allocs.updFresh hH2.1, w, _, true, rfl, hw.le ?_, .inr ⟨hok, n, .sat m, P', d', rfl, htry, .inl ⟨m, rfl, rfl, rfl⟩⟩⟩
      have h1 := hB.trans (base_le H2 p')
      exact h1.allocs.updFresh h1.1
theorem s_implSolve {x : AV} {k : Int} {xss : List (List Int)} (hx : IsCl H x k xss) (hl : xss.length ≤ 1048576) (hxl : ∀ xs ∈ xss, xs.length ≤ 1048576) :
    ACall Try.prog n_Z7 [x] H (fun r H' => ∃ u vals ok, r = .tup [u, .bool ok] ∧ Own 1 H' u (vals.map (AV.int .i64)) ∧ Le H (base H' u) ∧ newer H.size u ∧ SolRes k xss vals ok) := by
  refine ACall.of fun R hR => a_Z7 rfl ?_
  obtain ⟨fl, rfl, hv⟩ := hx
  simp (maxSteps := 2000000) (disch := first | omega | assumption | exact idP rfl | exact idP (bL rfl) | (simp only [alloc_size, upd_size] <;> omega) | fail) only [go_sem, reduceIte, Nat.reduceEqDiff]
  have hcl : IsCl (H.alloc [.int .i64 k, fl]) (.agg [.int .i64 k, fl]) k xss := ⟨fl, rfl, hv.le (Le.alloc _ _)⟩
  refine (s_implClausesValid hcl hl hxl).mono ?_
  rintro r H1 ⟨hle1, b, rfl, hb⟩
  have hH1 := (Le.alloc H [.int .i64 k, fl]).trans hle1
  cases b with
  | false =>
    have hnot : ¬ ClsOk k xss := fun h => by have := hb.2 h; cases this
    simp (maxSteps := 2000000) (disch := first | omega | assumption | exact idP rfl | exact idP (bL rfl) | (simp only [alloc_size, upd_size] <;> omega) | fail) only [go_sem, reduceIte, Nat.reduceEqDiff]
    exact hR _ _ ⟨.sl none 0 0 true 0, [], false, rfl, Own.nil, hH1, trivial, .inl ⟨hnot, rfl, rfl⟩⟩
  | true =>
    have hok := hb.1 rfl
    obtain ⟨n, rfl⟩ : ∃ n : Nat, k = n := ⟨k.toNat, by have := hok.lo; omega⟩
    have g0 : H1.get H.size 0 = some (.int .i64 (n : Int)) := hle1.get (by simp (maxSteps := 2000000) (disch := first | omega | assumption | exact idP rfl | exact idP (bL rfl) | (simp only [alloc_size, upd_size] <;> omega) | fail) only [go_sem, reduceIte, Nat.reduceEqDiff])
    have g1 : H1.get H.size 1 = some fl := hle1.get (by simp (maxSteps := 2000000) (disch := first | omega | assumption | exact idP rfl | exact idP (bL rfl) | (simp only [alloc_size, upd_size] <;> omega) | fail) only [go_sem, reduceIte, Nat.reduceEqDiff])
    simp (maxSteps := 2000000) (disch := first | omega | assumption | exact idP rfl | exact idP (bL rfl) | (simp only [alloc_size, upd_size] <;> omega) | fail) only [go_sem, reduceIte, Nat.reduceEqDiff, g0, g1]
    refine (s_hunted (hcl.le hle1) hok hl hxl).mono ?_
    rintro r H2 ⟨res, P', d', hb, fl', p', w, ct, B', htry, rfl, hle2, hw, hof, hop, how, hno, hcut, hsat⟩
    obtain ⟨q1, q2⟩ := Heap.rwCells_blk hw
    have u4 : H2.get hb 4 = some w := Rd.blk q1 q2 4 _ rfl
    have u5 : H2.get hb 5 = some (.bool ct) := Rd.blk q1 q2 5 _ rfl
    have hH2 := hH1.trans hle2
    simp (maxSteps := 2000000) (disch := first | omega | assumption | exact idP rfl | exact idP (bL rfl) | (simp only [alloc_size, upd_size] <;> omega) | fail) only [go_sem, reduceIte, Nat.reduceEqDiff, u5]
    cases res with
    | cut =>
      obtain rfl := hcut rfl
      simp (maxSteps := 2000000) (disch := first | omega | assumption | exact idP rfl | exact idP (bL rfl) | (simp only [alloc_size, upd_size] <;> omega) | fail) only [go_sem, reduceIte, Nat.reduceEqDiff]
      exact hR _ _ ⟨.sl none 0 0 true 0, [], false, rfl, Own.nil, hH2, trivial, .inr ⟨hok, n, .cut, P', d', rfl, htry, .inr ⟨.inr rfl, rfl, rfl⟩⟩⟩
    | no =>
      obtain ⟨rfl, _, _, rfl⟩ := hno rfl
      simp (maxSteps := 2000000) (disch := first | omega | assumption | exact idP rfl | exact idP (bL rfl) | (simp only [alloc_size, upd_size] <;> omega) | fail) only [go_sem, reduceIte, Nat.reduceEqDiff, u4]
      exact hR _ _ ⟨.sl none 0 0 true 0, [], false, rfl, Own.nil, hH2, trivial, .inr ⟨hok, n, .no, P', d', rfl, htry, .inr ⟨.inl rfl, rfl, rfl⟩⟩⟩
    | sat m =>
      obtain ⟨rfl, hwi, hB, bb, nn, rfl⟩ := hsat m rfl
      have hml := htry.len m rfl
      have hhi := hok.hi
      simp (maxSteps := 2000000) (disch := first | omega | assumption | exact idP rfl | exact idP (bL rfl) | (simp only [alloc_size, upd_size] <;> omega) | fail) only [go_sem, reduceIte, Nat.reduceEqDiff, u4]
      refine (s_implClone (hwi.le (hB.trans (base_le _ _))) (by simp; omega)).mono ?_
      rintro u H3 ⟨ho, hle3, hnew⟩
      simp (maxSteps := 2000000) (disch := first | omega | assumption | exact idP rfl | exact idP (bL rfl) | (simp only [alloc_size, upd_size] <;> omega) | fail) only [go_sem, reduceIte, Nat.reduceEqDiff]
      exact hR _ _ ⟨u, _, true, rfl, ho, hH2.trans hle3, hnew.mono hH2.1, .inr ⟨hok, n, .sat m, P', d', rfl, htry, .inl ⟨m, rfl, rfl, rfl⟩⟩⟩
end Go.M2

namespace Go.M2
open Go.Proofs
end Go.M2

namespace Go.M2
open Go.Proofs
theorem Fix.left {cl Q : List (List Int)} {M : List Int} (h : Fix (cl ++ Q) M) : Fix cl M := fun c hc => h c (List.mem_append_left _ hc)
theorem passF_some {M : List Int} : ∀ {t : List (List Int)} {m : List Int} {ag : Bool}, Fix t M → Sub m M → passF t m ag ≠ none
  | [], m, ag, _, _ => by simp [passF]
  | c :: t, m, ag, hf, hs => by
    have hft : Fix t M := fun c hc => hf c (List.mem_cons_of_mem _ hc)
    have hc := hf c (by simp)
    simp only [passF]
    split
    · rename_i h0
      have h1 : leftF m c 0 0 = (0, (leftF m c 0 0).2) := Prod.ext h0 rfl
      have h2 := leftF_shut hs (Int.le_refl 0) h1 0 0
      exact fun _ => hc.1 (by rw [h2])
    · split
      · rename_i h1
        refine passF_some hft (hs.set ?_)
        have h2 : leftF m c 0 0 = ((0 : Int) + 1, (leftF m c 0 0).2) := Prod.ext (by simpa using h1) rfl
        rcases leftF_mono hs (by omega) h2 with h3 | h3 | h3
        · exact h3
        · exact absurd h3 hc.1
        · exact absurd h3 hc.2
      · exact passF_some hft hs
theorem Force.fixed {cl : List (List Int)} {m M : List Int} {r : Option (List Int)} (h : Force cl m r) (hM : Fix cl M) : Sub m M → r ≠ none := by
  induction h with
  | bad h => intro hs _; exact passF_some hM hs h
  | stop h => intro _ e; cases e
  | go h _ ih => intro hs; exact ih (passF_sub hM hs h)
theorem Try.last {cl : List (List Int)} {n : Nat} {g : List Int} {P P' : List (List Int)} {d d' : Nat} {r : Res} (h : Try cl n g P d r P' d') : r = .no → negs g ∈ P' := by
  cases h with
  | sat => intro e; cases e
  | left _ _ _ _ hr => intro e; exact absurd e hr
  | right _ _ _ _ _ hr => intro e; exact absurd e hr
  | bothC => intro e; cases e
  | bothN => intro _; simp
  | confC => intro e; cases e
  | confN => intro _; simp
theorem Try.pre {cl : List (List Int)} {n : Nat} {g : List Int} {P P' : List (List Int)} {d d' : Nat} {r : Res} (h : Try cl n g P d r P' d') : P <+: P' := by
  induction h with
  | sat => exact List.prefix_refl _
  | left _ _ _ _ _ ih => exact ih
  | right _ _ _ _ _ _ ih1 ih2 => exact ih1.trans ih2
  | bothC _ _ _ _ _ _ ih1 ih2 => exact ih1.trans ih2
  | bothN _ _ _ _ _ _ ih1 ih2 => exact (ih1.trans ih2).trans (List.prefix_append _ _)
  | confC => exact List.prefix_refl _
  | confN => exact List.prefix_append _ _
end Go.M2

namespace Go.M2
structure Tot (n : Nat) (M : List Int) : Prop where
  len : M.length = n + 1
  at_ : ∀ a, 1 ≤ a → a ≤ n → M.getD a 0 = a ∨ M.getD a 0 = -(a : Int)
def HoldsC (M c : List Int) : Prop := ∃ x ∈ c, M.getD x.natAbs 0 = x
theorem leftF_holds {M : List Int} : ∀ {c : List Int} {o l : Int}, (∀ x ∈ c, M.getD x.natAbs 0 ≠ 0) → HoldsC M c → (leftF M c o l).1 = -1
  | [], o, l, _, h => by obtain ⟨x, hx, _⟩ := h; cases hx
  | x :: t, o, l, hn, h => by
    simp only [leftF]
    by_cases h1 : M.getD x.natAbs 0 = x
    · rw [if_pos h1]
    · rw [if_neg h1, if_neg (hn x (by simp))]
      obtain ⟨y, hy, h2⟩ := h
      rcases List.mem_cons.1 hy with rfl | hy
      · exact absurd h2 h1
      · exact leftF_holds (fun z hz => hn z (List.mem_cons_of_mem _ hz)) ⟨y, hy, h2⟩
theorem Tot.lit {n : Nat} {M : List Int} (h : Tot n M) {x : Int} (h0 : x ≠ 0) (h1 : x.natAbs ≤ n) : M.getD x.natAbs 0 ≠ 0 := by
  have := h.at_ x.natAbs (by omega) h1
  omega
theorem Tot.fix {n : Nat} {M : List Int} {cl : List (List Int)} (h : Tot n M) (hl : ∀ c ∈ cl, Lits n c) (hh : ∀ c ∈ cl, HoldsC M c) : Fix cl M := fun c hc => by
  have := leftF_holds (M := M) (c := c) (o := 0) (l := 0) (fun x hx => h.lit (hl c hc x hx).1 (hl c hc x hx).2) (hh c hc)
  rw [this]; omega
theorem IsNext.nz {m : List Int} {a : Nat} (h : IsNext m a) (h0 : a ≠ 0) : 1 ≤ a ∧ a < m.length ∧ m.getD a 0 = 0 ∧ ∀ i, 1 ≤ i → i < a → m.getD i 0 ≠ 0 := by
  rcases h with ⟨rfl, _⟩ | ⟨h1, ⟨h2, h3⟩, h4⟩
  · exact absurd rfl h0
  · refine ⟨h1, h2, by simp [List.getD, h2, h3], fun i hi hi2 => ?_⟩
    have := h4 i (by omega) hi hi2
    have hl : i < m.length := by omega
    simpa [List.getD, hl] using this
theorem IsNext.all {m : List Int} (h : IsNext m 0) : ∀ i, 1 ≤ i → i < m.length → m.getD i 0 ≠ 0 := by
  rcases h with ⟨_, h⟩ | ⟨h1, _⟩
  · intro i hi hl
    have := h i hl hi
    simpa [List.getD, hl] using this
  · omega
theorem sub_snoc {n a : Nat} {g m M : List Int} {x : Int} (hx : x.natAbs = a) (hs : Sub (given n g) M) (hM : M.getD a 0 = x) : Sub (given n (g ++ [x])) M := by
  rw [given_snoc]
  exact hs.set (by rw [hx]; exact hM)
theorem fm_len {cl : List (List Int)} {n : Nat} {g m : List Int} (h : Force cl (given n g) (some m)) : m.length = n + 1 := by rw [h.len m rfl, given_len]
theorem Try.noModel {cl : List (List Int)} {n : Nat} {g : List Int} {P P' : List (List Int)} {d d' : Nat} {r : Res} (h : Try cl n g P d r P' d') : r = .no → ∀ M, Tot n M → Fix cl M → Sub (given n g) M → False := by
  induction h with
  | sat => intro e; cases e
  | left _ _ _ _ hr ih => intro e; exact absurd e hr
  | right _ _ _ _ _ hr ih1 ih2 => intro e; exact absurd e hr
  | bothC => intro e; cases e
  | confC => intro e; cases e
  | confN f _ => intro _ M hM hF hs; exact f.fixed hF hs rfl
  | @bothN g P P1 P2 d d1 d2 a m f k h0 _ _ _ ih1 ih2 =>
    intro _ M hM hF hs
    obtain ⟨k1, k2, k3, k4⟩ := k.nz h0
    rw [fm_len f] at k2
    rcases hM.at_ a k1 (by omega) with e | e
    · exact ih2 rfl M hM hF (sub_snoc (m := m) (by omega) hs e)
    · exact ih1 rfl M hM hF (sub_snoc (m := m) (by omega) hs e)
theorem sub_up {n a : Nat} {g m : List Int} {x : Int} (hx : x.natAbs = a) (hs : Sub (given n g) m) (h0 : m.getD a 0 = 0) : Sub (given n g) (given n (g ++ [x])) := by
  rw [given_snoc]
  refine Sub.up ?_
  rw [hx]
  cases hq : decide ((given n g).getD a 0 = 0) with
  | true => exact of_decide_eq_true hq
  | false =>
    have := hs a (of_decide_eq_false hq)
    exact absurd (this.symm.trans h0) (of_decide_eq_false hq)
theorem given_at_last {n a : Nat} {g : List Int} {x : Int} (hx : x.natAbs = a) (ha : a ≤ n) : (given n (g ++ [x])).getD a 0 = x := by
  rw [given_snoc, hx]
  exact getD_set_eq (by rw [given_len]; omega)
theorem Try.first {cl : List (List Int)} {n : Nat} {g : List Int} {P P' : List (List Int)} {d d' : Nat} {r : Res} (h : Try cl n g P d r P' d') : ∀ mm, r = .sat mm → (Sub (given n g) mm ∧ Fix cl mm ∧ mm.length = n + 1 ∧ ∀ a, 1 ≤ a → a ≤ n → mm.getD a 0 ≠ 0) ∧
    ∀ M, Tot n M → Fix cl M → Sub (given n g) M → ∀ a, 1 ≤ a → a ≤ n → (∀ b, 1 ≤ b → b < a → M.getD b 0 = mm.getD b 0) → ¬ 0 < mm.getD a 0 ∨ M.getD a 0 = mm.getD a 0 := by
  induction h with
  | confC => intro mm e; cases e
  | confN => intro mm e; cases e
  | bothC => intro mm e; cases e
  | bothN => intro mm e; cases e
  | @sat g P d m f k =>
    intro mm e
    cases e
    obtain ⟨u1, u2⟩ := f.up m rfl
    have hl := fm_len f
    refine ⟨⟨u1, u2, hl, fun a h1 h2 => k.all a h1 (by omega)⟩, fun M hM hF hs a h1 h2 _ => .inr ?_⟩
    have := f.mono hF hs m rfl
    exact this a (k.all a h1 (by omega))
  | @left g P P1 d d1 a m r f k h0 t hr ih =>
    intro mm e
    obtain ⟨⟨i1, i2, i3, i4⟩, i5⟩ := ih mm e
    obtain ⟨k1, k2, k3, k4⟩ := k.nz h0
    rw [fm_len f] at k2
    obtain ⟨u1, u2⟩ := f.up m rfl
    have hg : Sub (given n g) mm := (sub_up (by omega) u1 k3).trans i1
    refine ⟨⟨hg, i2, i3, i4⟩, fun M hM hF hs b h1 h2 hb => ?_⟩
    have hma : mm.getD a 0 = -(a : Int) := by
      have e1 : (given n (g ++ [-(a : Int)])).getD a 0 = -(a : Int) := given_at_last (by omega) (by omega)
      rw [i1 a (by rw [e1]; omega), e1]
    rcases hM.at_ a k1 (by omega) with e | e
    · rcases Nat.lt_trichotomy b a with hlt | heq | hgt
      · right
        have m1 := f.mono hF hs m rfl
        have m2 := f.mono i2 hg m rfl
        rw [m1 b (k4 b h1 hlt), m2 b (k4 b h1 hlt)]
      · subst heq; left; rw [hma]; omega
      · have := hb a k1 hgt
        omega
    · exact i5 M hM hF (sub_snoc (m := m) (by omega) hs e) b h1 h2 hb
  | @right g P P1 P2 d d1 d2 a m r f k h0 t1 t2 hr ih1 ih2 =>
    intro mm e
    obtain ⟨⟨i1, i2, i3, i4⟩, i5⟩ := ih2 mm e
    obtain ⟨k1, k2, k3, k4⟩ := k.nz h0
    rw [fm_len f] at k2
    obtain ⟨u1, u2⟩ := f.up m rfl
    have hg : Sub (given n g) mm := (sub_up (by omega) u1 k3).trans i1
    refine ⟨⟨hg, i2, i3, i4⟩, fun M hM hF hs b h1 h2 hb => ?_⟩
    rcases hM.at_ a k1 (by omega) with e | e
    · exact i5 M hM hF (sub_snoc (m := m) (by omega) hs e) b h1 h2 hb
    · exact (t1.noModel rfl M hM hF (sub_snoc (m := m) (by omega) hs e)).elim
def rowM (n r : Nat) : List Int := (List.range (n + 1)).map fun a => if a = 0 then 0 else if r.testBit (a - 1) then (a : Int) else -(a : Int)
theorem rowM_at {n r a : Nat} (h1 : 1 ≤ a) (h2 : a ≤ n) : (rowM n r).getD a 0 = if r.testBit (a - 1) then (a : Int) else -(a : Int) := by
  have : a < n + 1 := by omega
  simp [rowM, List.getD, this, show a ≠ 0 by omega]
theorem rowM_tot (n r : Nat) : Tot n (rowM n r) := ⟨by simp [rowM], fun a h1 h2 => by
  rw [rowM_at h1 h2]
  split
  · exact .inl rfl
  · exact .inr rfl⟩
end Go.M2

namespace Go.M2
open Go.Proofs
def stepP (m : Nat) (x : Int) : Nat := if 0 < x then m ||| 2 ^ (x - 1).toNat else m
def stepN (m : Nat) (x : Int) : Nat := if 0 < x then m else m ||| 2 ^ (-x - 1).toNat
def maskP (c : List Int) : Nat := c.foldl stepP 0
def maskN (c : List Int) : Nat := c.foldl stepN 0
theorem maskP_bit (c : List Int) (m b : Nat) : (c.foldl stepP m).testBit b = (m.testBit b || decide (((b : Int) + 1) ∈ c)) := by
  induction c generalizing m with
  | nil => simp
  | cons x t ih =>
    rw [List.foldl_cons, ih]
    unfold stepP
    by_cases h : 0 < x
    · rw [if_pos h, Nat.testBit_or, Nat.testBit_two_pow]
      have : decide ((x - 1).toNat = b) = decide ((b : Int) + 1 = x) := by rw [decide_eq_decide]; omega
      rw [this]
      simp only [List.mem_cons, Bool.decide_or, Bool.or_assoc]
    · rw [if_neg h]
      have : ¬ (b : Int) + 1 = x := by omega
      simp [List.mem_cons, this]
theorem maskN_bit (c : List Int) (h0 : ∀ x ∈ c, x ≠ 0) (m b : Nat) : (c.foldl stepN m).testBit b = (m.testBit b || decide ((-((b : Int) + 1)) ∈ c)) := by
  induction c generalizing m with
  | nil => simp
  | cons x t ih =>
    rw [List.foldl_cons, ih (fun y hy => h0 y (List.mem_cons_of_mem _ hy))]
    unfold stepN
    have hx := h0 x (by simp)
    by_cases h : 0 < x
    · rw [if_pos h]
      have : ¬ -((b : Int) + 1) = x := by omega
      simp [List.mem_cons, this]
    · rw [if_neg h, Nat.testBit_or, Nat.testBit_two_pow]
      have : decide ((-x - 1).toNat = b) = decide (-((b : Int) + 1) = x) := by rw [decide_eq_decide]; omega
      rw [this]
      simp only [List.mem_cons, Bool.decide_or, Bool.or_assoc]
theorem step_ltP {m n : Nat} {x : Int} (h : m < 2 ^ n) (hx : x.natAbs ≤ n) : stepP m x < 2 ^ n := by
  unfold stepP
  split
  · exact Nat.or_lt_two_pow h (Nat.pow_lt_pow_right (by omega) (by omega))
  · exact h
theorem step_ltN {m n : Nat} {x : Int} (h : m < 2 ^ n) (h0 : x ≠ 0) (hx : x.natAbs ≤ n) : stepN m x < 2 ^ n := by
  unfold stepN
  split
  · exact h
  · exact Nat.or_lt_two_pow h (Nat.pow_lt_pow_right (by omega) (by omega))
theorem mask_lt {n : Nat} {c : List Int} (hl : Lits n c) : ∀ (m m' : Nat), m < 2 ^ n → m' < 2 ^ n → c.foldl stepP m < 2 ^ n ∧ c.foldl stepN m' < 2 ^ n := by
  induction c with
  | nil => intro m m' h h'; exact ⟨h, h'⟩
  | cons x t ih =>
    intro m m' h h'
    have hx := hl x (by simp)
    exact ih (fun y hy => hl y (List.mem_cons_of_mem _ hy)) _ _ (step_ltP h hx.2) (step_ltN h' hx.1 hx.2)
def deadB (r : Nat) (c : List Int) : Bool := decide (r &&& maskP c = 0) && decide ((18446744073709551616 - (r + 1)) &&& maskN c = 0)
theorem and_zero {a b : Nat} : a &&& b = 0 ↔ ∀ i, ¬ (a.testBit i = true ∧ b.testBit i = true) := by
  constructor
  · intro h i hi
    have := congrArg (fun n => n.testBit i) h
    simp [Nat.testBit_and, hi.1, hi.2] at this
  · intro h
    apply Nat.eq_of_testBit_eq
    intro i
    rw [Nat.testBit_and, Nat.zero_testBit]
    cases h1 : a.testBit i <;> cases h2 : b.testBit i <;> simp
    exact h i ⟨h1, h2⟩
theorem deadB_iff {n r : Nat} {c : List Int} (hn : n ≤ 60) (hr : r < 2 ^ n) (hl : Lits n c) : deadB r c = true ↔ ¬ HoldsC (rowM n r) c := by
  have hr64 : r < 2 ^ 64 := Nat.lt_of_lt_of_le hr (Nat.pow_le_pow_right (by omega) (by omega))
  have bP : ∀ b, (maskP c).testBit b = decide (((b : Int) + 1) ∈ c) := fun b => by unfold maskP; rw [maskP_bit]; simp
  have bN : ∀ b, (maskN c).testBit b = decide ((-((b : Int) + 1)) ∈ c) := fun b => by unfold maskN; rw [maskN_bit c fun x hx => (hl x hx).1]; simp
  have bR : ∀ b, b < 64 → (18446744073709551616 - (r + 1)).testBit b = !r.testBit b := fun b hb => by
    have e : (18446744073709551616 - (r + 1)) = 2 ^ 64 - (r + 1) := by rw [show (2 : Nat) ^ 64 = 18446744073709551616 from rfl]
    rw [e, Nat.testBit_two_pow_sub_succ hr64]; simp [hb]
  unfold deadB
  rw [Bool.and_eq_true, decide_eq_true_iff, decide_eq_true_iff, and_zero, and_zero]
  constructor
  · rintro ⟨h1, h2⟩ ⟨x, hx, hM⟩
    obtain ⟨hx0, hxn⟩ := hl x hx
    have hb : x.natAbs - 1 < 64 := by omega
    rw [rowM_at (by omega) hxn] at hM
    by_cases hp : 0 < x
    · refine h1 (x.natAbs - 1) ⟨?_, ?_⟩
      · by_cases ht : r.testBit (x.natAbs - 1) = true
        · exact ht
        · rw [if_neg ht] at hM; omega
      · rw [bP, decide_eq_true_iff]
        have : ((x.natAbs - 1 : Nat) : Int) + 1 = x := by omega
        rw [this]; exact hx
    · refine h2 (x.natAbs - 1) ⟨?_, ?_⟩
      · rw [bR _ hb]
        by_cases ht : r.testBit (x.natAbs - 1) = true
        · rw [if_pos ht] at hM; omega
        · simpa using ht
      · rw [bN, decide_eq_true_iff]
        have : -(((x.natAbs - 1 : Nat) : Int) + 1) = x := by omega
        rw [this]; exact hx
  · intro hno
    refine ⟨fun i hi => ?_, fun i hi => ?_⟩
    · rw [bP, decide_eq_true_iff] at hi
      have hin := hl _ hi.2
      refine hno ⟨_, hi.2, ?_⟩
      have e : ((i : Int) + 1).natAbs = i + 1 := by omega
      rw [e, rowM_at (by omega) (by omega), Nat.add_sub_cancel, if_pos hi.1]
      omega
    · rw [bN, decide_eq_true_iff] at hi
      have hin := hl _ hi.2
      have e : (-((i : Int) + 1)).natAbs = i + 1 := by omega
      have hi64 : i < 64 := by omega
      rw [bR i hi64] at hi
      refine hno ⟨_, hi.2, ?_⟩
      have ht : ¬ r.testBit i = true := by simpa using hi.1
      rw [e, rowM_at (by omega) (by omega), Nat.add_sub_cancel, if_neg ht]
      omega
def okRow (xss : List (List Int)) (r : Nat) : Bool := xss.all fun c => !deadB r c
def cntR (xss : List (List Int)) (k : Nat) : Nat := ((List.range k).filter (okRow xss)).length
theorem cntR_succ {xss : List (List Int)} {k : Nat} : cntR xss (k + 1) = cntR xss k + if okRow xss k then 1 else 0 := by
  unfold cntR
  rw [List.range_succ, List.filter_append, List.length_append]
  simp only [List.filter_cons, List.filter_nil]
  split <;> simp
theorem cntR_le {xss : List (List Int)} {k : Nat} : cntR xss k ≤ k := by
  unfold cntR
  exact Nat.le_trans (List.length_filter_le _ _) (by simp)
theorem okRow_iff {n r : Nat} {xss : List (List Int)} (hn : n ≤ 60) (hr : r < 2 ^ n) (hl : ∀ c ∈ xss, Lits n c) : okRow xss r = true ↔ ∀ c ∈ xss, HoldsC (rowM n r) c := by
  unfold okRow
  rw [List.all_eq_true]
  constructor
  · intro h c hc
    have h1 := h c hc
    have h2 := deadB_iff hn hr (hl c hc)
    exact Classical.not_not.1 fun h3 => by rw [h2.2 h3] at h1; cases h1
  · intro h c hc
    have h2 := deadB_iff hn hr (hl c hc)
    cases hd : deadB r c with
    | false => rfl
    | true => exact absurd (h c hc) (h2.1 hd)
theorem cntR_zero {n : Nat} {xss : List (List Int)} (hn : n ≤ 60) (hl : ∀ c ∈ xss, Lits n c) (hno : ∀ r, r < 2 ^ n → ¬ ∀ c ∈ xss, HoldsC (rowM n r) c) : cntR xss (2 ^ n) = 0 := by
  unfold cntR
  rw [List.length_eq_zero_iff, List.filter_eq_nil_iff]
  intro r hr
  have hr := List.mem_range.1 hr
  exact fun h => hno r hr ((okRow_iff hn hr hl).1 h)
theorem cntR_pos {n r : Nat} {xss : List (List Int)} (hn : n ≤ 60) (hl : ∀ c ∈ xss, Lits n c) (hr : r < 2 ^ n) (hh : ∀ c ∈ xss, HoldsC (rowM n r) c) : 0 < cntR xss (2 ^ n) := by
  unfold cntR
  exact List.length_pos_of_mem (List.mem_filter.2 ⟨List.mem_range.2 hr, (okRow_iff hn hr hl).2 hh⟩)
theorem passF_mk : ∀ {t : List (List Int)} {m m' : List Int} {ag ag' : Bool}, passF t m ag = some (m', ag') → Mk m → Mk m'
  | [], m, m', ag, ag', h, hm => by simp only [passF, Option.some.injEq, Prod.mk.injEq] at h; rw [← h.1]; exact hm
  | c :: t, m, m', ag, ag', h, hm => by
    simp only [passF] at h
    split at h
    · cases h
    · split at h
      · exact passF_mk h hm.set
      · exact passF_mk h hm
theorem Force.mk {cl : List (List Int)} {m : List Int} {r : Option (List Int)} (h : Force cl m r) : Mk m → ∀ m', r = some m' → Mk m' := by
  induction h with
  | bad _ => intro _ m' e; cases e
  | stop h => intro hm m' e; cases e; exact passF_mk h hm
  | go h _ ih => intro hm m' e; exact ih (passF_mk h hm) m' e
theorem Try.satMk {cl : List (List Int)} {n : Nat} {g : List Int} {P P' : List (List Int)} {d d' : Nat} {r : Res} (h : Try cl n g P d r P' d') : ∀ mm, r = .sat mm → Mk mm := by
  induction h with
  | sat f _ => intro mm e; cases e; exact f.mk mk_given _ rfl
  | left _ _ _ _ _ ih => exact ih
  | right _ _ _ _ _ _ _ ih => exact ih
  | bothC => intro mm e; cases e
  | bothN => intro mm e; cases e
  | confC => intro mm e; cases e
  | confN => intro mm e; cases e
theorem ofInt_nat {a : Nat} (h : a < 2 ^ 64) : (BitVec.ofInt 64 (a : Int)).toNat = a := by
  rw [BitVec.toNat_ofInt]
  have : ((2 ^ 64 : Nat) : Int) = 18446744073709551616 := by decide
  rw [this]
  have h' : a < 18446744073709551616 := by simpa using h
  omega
theorem bin_andN {a b : Nat} (h1 : a < 4611686018427387904) (h3 : b < 4611686018427387904) : binF .and (.int .i64 (a : Int)) (.int .i64 (b : Int)) = some (.int .i64 ((a &&& b : Nat) : Int)) := by
  have e : (BitVec.ofInt IntKind.i64.bits (a : Int) &&& BitVec.ofInt IntKind.i64.bits (b : Int)).toNat = a &&& b := by
    show (BitVec.ofInt 64 (a : Int) &&& BitVec.ofInt 64 (b : Int)).toNat = _
    rw [BitVec.toNat_and, ofInt_nat (by omega), ofInt_nat (by omega)]
  have hle : a &&& b ≤ a := Nat.and_le_left
  simp only [binF, isSh, intBin, Bool.false_eq_true, if_false, if_true, e]
  rw [wrap_in (by omega) (by omega)]
theorem bin_orN {a b : Nat} (h1 : a < 4611686018427387904) (h3 : b < 4611686018427387904) : binF .or (.int .i64 (a : Int)) (.int .i64 (b : Int)) = some (.int .i64 ((a ||| b : Nat) : Int)) := by
  have e : (BitVec.ofInt IntKind.i64.bits (a : Int) ||| BitVec.ofInt IntKind.i64.bits (b : Int)).toNat = a ||| b := by
    show (BitVec.ofInt 64 (a : Int) ||| BitVec.ofInt 64 (b : Int)).toNat = _
    rw [BitVec.toNat_or, ofInt_nat (by omega), ofInt_nat (by omega)]
  have hle : a ||| b < 2 ^ 62 := Nat.or_lt_two_pow (by simpa using h1) (by simpa using h3)
  have hle' : a ||| b < 4611686018427387904 := by simpa using hle
  simp only [binF, isSh, intBin, Bool.false_eq_true, if_false, if_true, e]
  rw [wrap_in (by omega) (by omega)]
theorem un_notN {a : Nat} (h1 : a < 4611686018427387904) : unF .xor (.int .i64 (a : Int)) = some (.int .i64 (-(a : Int) - 1)) := by
  have e : (BitVec.ofInt 64 (-1) ^^^ BitVec.ofInt 64 (a : Int)).toNat = 18446744073709551616 - 1 - a := by
    have : BitVec.ofInt 64 (-1) = BitVec.allOnes 64 := by decide
    rw [this, BitVec.allOnes_xor, BitVec.toNat_not, ofInt_nat (by omega)]
  have e2 : IntKind.i64.wrap ((18446744073709551616 - 1 - a : Nat) : Int) = -(a : Int) - 1 := by
    unfold IntKind.wrap
    show (if _ then _ else _) = _
    simp only [IntKind.bits, IntKind.signed]
    have h64 : (2 : Int) ^ 64 = 18446744073709551616 := by decide
    have h63 : (2 : Int) ^ (64 - 1) = 9223372036854775808 := by decide
    have h63' : (2 : Int) ^ 63 = 9223372036854775808 := by decide
    simp only [Bool.true_and, decide_eq_true_eq, h64, h63, h63', Nat.reduceSub]
    generalize hx : ((18446744073709551615 - a : Nat) : Int) = x
    have hx' : x = 18446744073709551615 - (a : Int) := by omega
    have hm : x % 18446744073709551616 = x := by omega
    rw [hm]
    split
    · show x - 18446744073709551616 = -(a : Int) - 1
      omega
    · omega
  show some (AV.int IntKind.i64 (IntKind.i64.wrap (BitVec.ofInt 64 (-1) ^^^ BitVec.ofInt 64 (a : Int)).toNat)) = _
  rw [e, e2]
theorem bin_andNot {a b : Nat} (h1 : a < 4611686018427387904) (h3 : b < 4611686018427387904) : binF .and (.int .i64 (-(a : Int) - 1)) (.int .i64 (b : Int)) = some (.int .i64 (((18446744073709551616 - (a + 1)) &&& b : Nat) : Int)) := by
  have e0 : (BitVec.ofInt 64 (-(a : Int) - 1)).toNat = 18446744073709551616 - (a + 1) := by
    rw [BitVec.toNat_ofInt]
    have : ((2 ^ 64 : Nat) : Int) = 18446744073709551616 := by decide
    rw [this]
    omega
  have e : (BitVec.ofInt IntKind.i64.bits (-(a : Int) - 1) &&& BitVec.ofInt IntKind.i64.bits (b : Int)).toNat = (18446744073709551616 - (a + 1)) &&& b := by
    show (BitVec.ofInt 64 (-(a : Int) - 1) &&& BitVec.ofInt 64 (b : Int)).toNat = _
    rw [BitVec.toNat_and, e0, ofInt_nat (by omega)]
  have hle : (18446744073709551616 - (a + 1)) &&& b ≤ b := Nat.and_le_right
  simp only [binF, isSh, intBin, Bool.false_eq_true, if_false, if_true, e]
  rw [wrap_in (by omega) (by omega)]
theorem bin_shl {k : Int} (h0 : 0 ≤ k) (h1 : k ≤ 60) : binF .shl (.int .i64 1) (.int .i64 k) = some (.int .i64 ((2 ^ k.toNat : Nat) : Int)) := by
  have hb : (2 : Nat) ^ k.toNat ≤ 2 ^ 60 := Nat.pow_le_pow_right (by omega) (by omega)
  have hb' : (2 : Nat) ^ k.toNat ≤ 1152921504606846976 := by simpa using hb
  have hm : min k.toNat IntKind.i64.bits = k.toNat := by
    show min k.toNat 64 = _
    omega
  simp only [binF, isSh, if_true, shF]
  rw [if_neg (by omega), hm]
  simp only [Int.one_mul]
  have e : ((2 : Int) ^ k.toNat) = ((2 ^ k.toNat : Nat) : Int) := by push_cast; rfl
  rw [e]
  generalize 2 ^ k.toNat = m at hb'
  rw [wrap_in (by omega) (by omega)]
end Go.M2

namespace Go.M2
open Go.Proofs
theorem IsNext.le {cl : List (List Int)} {n a : Nat} {g m : List Int} (h : IsNext m a) (h0 : a ≠ 0) (hf : Force cl (given n g) (some m)) : a ≤ n := by
  have := (h.nz h0).2.1
  rw [fm_len hf] at this
  omega
theorem pow_two_le {i j : Nat} (h : i ≤ j) : 2 ^ i ≤ 2 ^ j := Nat.pow_le_pow_right (by omega) h
theorem Try.few {cl : List (List Int)} {n : Nat} {g : List Int} {P P' : List (List Int)} {d d' : Nat} {r : Res} (h : Try cl n g P d r P' d') : ∀ k, Low cl n g k → k ≤ n → P'.length + 1 ≤ P.length + 2 ^ (n - k + 1) := by
  have one : ∀ i, 2 ≤ 2 ^ (i + 1) := fun i => by have := Nat.two_pow_pos i; rw [Nat.pow_succ]; omega
  have dbl : ∀ i, 2 ^ (i + 1) = 2 * 2 ^ i := fun i => by rw [Nat.pow_succ]; omega
  induction h with
  | sat _ _ => intro k _ _; have := one (n - k); omega
  | confC _ _ => intro k _ _; have := one (n - k); omega
  | confN _ _ => intro k _ _; have := one (n - k); simp; omega
  | @left g P P1 d d1 a m r f ha h0 _ _ ih =>
    intro k hL hk
    obtain ⟨h1, h2⟩ := hL.next f (fm_len f) ha h0 (x := -(a : Int)) (by omega)
    have := ih a h2 (ha.le h0 f)
    have p := pow_two_le (show n - a + 1 ≤ n - k + 1 by omega)
    omega
  | @right g P P1 P2 d d1 d2 a m r f ha h0 _ _ _ ih1 ih2 =>
    intro k hL hk
    have han := ha.le h0 f
    obtain ⟨h1, h2⟩ := hL.next f (fm_len f) ha h0 (x := -(a : Int)) (by omega)
    obtain ⟨_, h3⟩ := hL.next f (fm_len f) ha h0 (x := (a : Int)) (by omega)
    have q1 := ih1 a h2 han
    have q2 := ih2 a h3 han
    have p := pow_two_le (show n - a + 1 + 1 ≤ n - k + 1 by omega)
    have := dbl (n - a + 1)
    omega
  | @bothC g P P1 P2 d d1 d2 a m f ha h0 _ _ _ ih1 ih2 =>
    intro k hL hk
    have han := ha.le h0 f
    obtain ⟨h1, h2⟩ := hL.next f (fm_len f) ha h0 (x := -(a : Int)) (by omega)
    obtain ⟨_, h3⟩ := hL.next f (fm_len f) ha h0 (x := (a : Int)) (by omega)
    have q1 := ih1 a h2 han
    have q2 := ih2 a h3 han
    have p := pow_two_le (show n - a + 1 + 1 ≤ n - k + 1 by omega)
    have := dbl (n - a + 1)
    omega
  | @bothN g P P1 P2 d d1 d2 a m f ha h0 _ _ _ ih1 ih2 =>
    intro k hL hk
    have han := ha.le h0 f
    obtain ⟨h1, h2⟩ := hL.next f (fm_len f) ha h0 (x := -(a : Int)) (by omega)
    obtain ⟨_, h3⟩ := hL.next f (fm_len f) ha h0 (x := (a : Int)) (by omega)
    have q1 := ih1 a h2 han
    have q2 := ih2 a h3 han
    have p := pow_two_le (show n - a + 1 + 1 ≤ n - k + 1 by omega)
    have := dbl (n - a + 1)
    rw [List.length_append, List.length_singleton]
    omega
theorem Try.cut600 {cl : List (List Int)} {n : Nat} {g : List Int} {P P' : List (List Int)} {d d' : Nat} {r : Res} (h : Try cl n g P d r P' d') : r = .cut → P'.length = 600 := by
  induction h with
  | sat => intro e; cases e
  | left _ _ _ _ _ ih => exact ih
  | right _ _ _ _ _ _ _ ih => exact ih
  | bothC _ _ _ _ _ h => intro _; exact h
  | bothN => intro e; cases e
  | confC _ h => intro _; exact h
  | confN => intro e; cases e
theorem Try.nocut {cl : List (List Int)} {n : Nat} {P' : List (List Int)} {d' : Nat} {r : Res} (h : Try cl n [] [] 0 r P' d') (hn : n ≤ 6) : r ≠ .cut := fun e => by
  have h1 := h.cut600 e
  have h2 := h.few 0 (Low.nil _ _) (Nat.zero_le _)
  have h3 := pow_two_le (show n - 0 + 1 ≤ 7 by omega)
  have : (2 : Nat) ^ 7 = 128 := rfl
  rw [List.length_nil] at h2
  generalize 2 ^ (n - 0 + 1) = w at h2 h3
  omega
theorem Try.lastRow {cl : List (List Int)} {n : Nat} {g : List Int} {P P' : List (List Int)} {d d' : Nat} {r : Res} (h : Try cl n g P d r P' d') : r = .no → ∃ Q, P' = Q ++ [negs g] := by
  induction h with
  | sat => intro e; cases e
  | left _ _ _ _ hr => intro e; exact absurd e hr
  | right _ _ _ _ _ hr => intro e; exact absurd e hr
  | bothC => intro e; cases e
  | @bothN g P P1 P2 => intro _; exact ⟨P2, rfl⟩
  | confC => intro e; cases e
  | @confN g P => intro _; exact ⟨P, rfl⟩
theorem leftF_total {M : List Int} : ∀ {c : List Int} {o l : Int}, (∀ x ∈ c, M.getD x.natAbs 0 ≠ 0) → (leftF M c o l).1 ≠ o → HoldsC M c
  | [], o, l, _, h => absurd rfl h
  | x :: t, o, l, hn, h => by
    simp only [leftF] at h
    by_cases h1 : M.getD x.natAbs 0 = x
    · exact ⟨x, by simp, h1⟩
    · rw [if_neg h1, if_neg (hn x (by simp))] at h
      obtain ⟨y, hy, h2⟩ := leftF_total (fun z hz => hn z (List.mem_cons_of_mem _ hz)) h
      exact ⟨y, List.mem_cons_of_mem _ hy, h2⟩
theorem Try.sat_holds {cl : List (List Int)} {n : Nat} {P' : List (List Int)} {d' : Nat} {mm : List Int} (h : Try cl n [] [] 0 (.sat mm) P' d') (hl : ∀ c ∈ cl, Lits n c) : ∀ c ∈ cl, HoldsC mm c := fun c hc => by
  obtain ⟨⟨_, hF, hlen, hnz⟩, _⟩ := h.first mm rfl
  exact leftF_total (fun x hx => hnz _ (by have := (hl c hc x hx).1; omega) (hl c hc x hx).2) (hF c hc).1
theorem row_ex (f : Nat → Bool) : ∀ n, ∃ r, r < 2 ^ n ∧ ∀ b, b < n → r.testBit b = f b
  | 0 => ⟨0, by simp, fun b h => by omega⟩
  | n + 1 => by
    obtain ⟨r, h1, h2⟩ := row_ex f n
    have hp : 2 ^ (n + 1) = 2 * 2 ^ n := by rw [Nat.pow_succ]; omega
    cases hf : f n with
    | false =>
      refine ⟨r, by omega, fun b hb => ?_⟩
      by_cases e : b = n
      · subst e; rw [hf]; exact Nat.testBit_lt_two_pow h1
      · exact h2 b (by omega)
    | true =>
      refine ⟨2 ^ n + r, by omega, fun b hb => ?_⟩
      by_cases e : b = n
      · subst e; rw [hf, Nat.testBit_two_pow_add_eq, Nat.testBit_lt_two_pow h1]; rfl
      · rw [Nat.testBit_two_pow_add_gt (by omega)]; exact h2 b (by omega)
theorem sat_cnt {m : Nat} {xss P : List (List Int)} {mm : List Int} {d : Nat} (h : Try xss m [] [] 0 (.sat mm) P d) (hl : ∀ c ∈ xss, Lits m c) (hm : m ≤ 60) : 0 < cntR xss (2 ^ m) := by
  obtain ⟨⟨_, _, hlen, hnz⟩, _⟩ := h.first mm rfl
  have hmk := h.satMk mm rfl
  obtain ⟨r, h1, h2⟩ := row_ex (fun b => decide (0 < mm.getD (b + 1) 0)) m
  refine cntR_pos hm hl h1 fun c hc => ?_
  obtain ⟨x, hx, he⟩ := h.sat_holds hl c hc
  obtain ⟨x0, xn⟩ := hl c hc x hx
  refine ⟨x, hx, ?_⟩
  rw [rowM_at (by omega) xn, h2 _ (by omega)]
  have e1 : x.natAbs - 1 + 1 = x.natAbs := by omega
  rw [e1, he]
  by_cases hp : 0 < x
  · rw [if_pos (by simpa using hp)]; omega
  · rw [if_neg (by simpa using hp)]; omega
theorem no_cnt {m : Nat} {xss P : List (List Int)} {d : Nat} (h : Try xss m [] [] 0 .no P d) (hl : ∀ c ∈ xss, Lits m c) (hm : m ≤ 60) : cntR xss (2 ^ m) = 0 :=
  cntR_zero hm hl fun r hr hh => h.noModel rfl _ (rowM_tot m r) ((rowM_tot m r).fix hl hh) fun a ha => by
    exfalso; apply ha
    unfold given givenF
    simp only [List.foldl_nil, List.getD]
    rw [List.getElem?_replicate]
    split <;> rfl
theorem sat_lit {m : Nat} {xss P : List (List Int)} {mm vals : List Int} {d : Nat} (h : Try xss m [] [] 0 (.sat mm) P d) (hl : ∀ c ∈ xss, Lits m c) (hv : vals = (mm.drop 1).map valF) :
    ∀ c ∈ xss, ∃ x ∈ c, vals.getD (x.natAbs - 1) 0 = if 0 < x then 1 else 0 := fun c hc => by
  obtain ⟨⟨_, _, hlen, hnz⟩, _⟩ := h.first mm rfl
  obtain ⟨x, hx, he⟩ := h.sat_holds hl c hc
  obtain ⟨x0, xn⟩ := hl c hc x hx
  refine ⟨x, hx, ?_⟩
  subst hv
  have h1 : x.natAbs < mm.length := by omega
  have e1 : 1 + (x.natAbs - 1) = x.natAbs := by omega
  have e2 : mm.getD x.natAbs 0 = mm[x.natAbs] := by simp [List.getD, h1]
  rw [e2] at he
  have e3 : (mm.drop 1)[x.natAbs - 1]? = some x := by rw [List.getElem?_drop, e1, List.getElem?_eq_getElem h1, he]
  rw [List.getD, List.getElem?_map, e3]
  rfl
end Go.M2

namespace Go.M2
open Go.Proofs
variable {H : Heap}
def rowN (l : List Nat) : List AV := l.map fun (a : Nat) => .int .i64 (a : Int)
theorem rowN_len {l : List Nat} : (rowN l).length = l.length := by simp [rowN]
def preF (f : List Int → Nat) (xss : List (List Int)) (i : Nat) : List Nat := (xss.take i).map f ++ List.replicate (xss.length - i) 0
def midF (f : List Int → Nat) (xss : List (List Int)) (i a : Nat) : List Nat := (xss.take i).map f ++ a :: List.replicate (xss.length - i - 1) 0
theorem pre_mid {f : List Int → Nat} {xss : List (List Int)} {i : Nat} (h : i < xss.length) : preF f xss i = midF f xss i 0 := by
  unfold preF midF
  rw [show xss.length - i = (xss.length - i - 1) + 1 by omega, List.replicate_succ, show xss.length - i - 1 + 1 - 1 = xss.length - i - 1 by omega]
theorem mid_pre {f : List Int → Nat} {xss : List (List Int)} {i : Nat} (h : i < xss.length) : midF f xss i (f xss[i]) = preF f xss (i + 1) := by
  unfold preF midF
  rw [List.take_succ_eq_append_getElem h, List.map_append, List.append_assoc, show xss.length - i - 1 = xss.length - (i + 1) by omega]
  rfl
theorem pre_all {f : List Int → Nat} {xss : List (List Int)} : preF f xss xss.length = xss.map f := by simp [preF]
theorem mid_len {f : List Int → Nat} {xss : List (List Int)} {i a : Nat} (h : i < xss.length) : (midF f xss i a).length = xss.length := by
  simp [midF]; omega
theorem mid_at {f : List Int → Nat} {xss : List (List Int)} {i a : Nat} (h : i < xss.length) : (rowN (midF f xss i a))[i]? = some (.int .i64 (a : Int)) := by
  have e : ((xss.take i).map f).length = i := by simp; omega
  simp only [rowN, midF, List.map_append, List.map_cons]
  rw [List.getElem?_append_right (by simp; omega)]
  simp [Nat.min_eq_left (Nat.le_of_lt h)]
theorem mid_set {f : List Int → Nat} {xss : List (List Int)} {i a a' : Nat} (h : i < xss.length) : (rowN (midF f xss i a)).set i (.int .i64 (a' : Int)) = rowN (midF f xss i a') := by
  have e : ((xss.take i).map f).length = i := by simp; omega
  simp only [rowN, midF, List.map_append, List.map_cons]
  rw [List.set_append_right _ _ (by simp; omega)]
  simp [Nat.min_eq_left (Nat.le_of_lt h)]
structure Two (H0 H : Heap) (p q : Nat) (l l' : List Nat) : Prop where
  ne : p < q
  lt : q < H.size
  b1 : H.blk p = .cells (rowN l) true
  b2 : H.blk q = .cells (rowN l') true
  le : Le H0 ((H.kill p).kill q)
theorem Two.le' {H0 : Heap} {p q : Nat} {l l' : List Nat} (h : Two H0 H p q l l') : Le H0 H := h.le.trans ((Le.kill _ _).trans (Le.kill _ _))
theorem Two.rw1 {H0 : Heap} {p q : Nat} {l l' : List Nat} (h : Two H0 H p q l l') : H.rwCells p = some (rowN l) := rwCells_of (by have := h.ne; have := h.lt; omega) h.b1
theorem Two.rw2 {H0 : Heap} {p q : Nat} {l l' : List Nat} (h : Two H0 H p q l l') : H.rwCells q = some (rowN l') := rwCells_of h.lt h.b2
theorem Two.g1 {H0 : Heap} {p q : Nat} {l l' : List Nat} (h : Two H0 H p q l l') {i : Nat} {v : AV} (hv : (rowN l)[i]? = some v) : H.get p i = some v := by
  have := Rd.blk (show p < H.size by have := h.ne; have := h.lt; omega) h.b1 i v hv
  simpa using this
theorem Two.g2 {H0 : Heap} {p q : Nat} {l l' : List Nat} (h : Two H0 H p q l l') {i : Nat} {v : AV} (hv : (rowN l')[i]? = some v) : H.get q i = some v := by
  have := Rd.blk h.lt h.b2 i v hv
  simpa using this
theorem Two.new {n : Nat} : Two H ((H.alloc (zeros [.int .i64 0] n)).alloc (zeros [.int .i64 0] n)) H.size (H.size + 1) (List.replicate n 0) (List.replicate n 0) := by
  have e : zeros [.int .i64 0] n = rowN (List.replicate n 0) := by
    rw [zeros_int]; simp [rowN]
  refine ⟨by omega, by simp only [alloc_size]; omega, ?_, ?_, ?_⟩
  · rw [alloc_old (by simp only [alloc_size]; omega), alloc_new, e]
  · have := alloc_new (H.alloc (zeros [.int .i64 0] n)) (zeros [.int .i64 0] n)
    simp only [alloc_size] at this
    rw [this, e]
  · exact (((Le.alloc H _).trans (Le.alloc _ _)).killFresh (Nat.le_refl _)).killFresh (Nat.le_succ _)
theorem Two.set1 {H0 : Heap} {p q : Nat} {l l' l2 : List Nat} (h : Two H0 H p q l l') : Two H0 (H.upd p (.cells (rowN l2) true)) p q l2 l' := by
  have h1 := h.ne
  have h2 := h.lt
  refine ⟨h1, by simp only [upd_size]; omega, by rw [upd_blk_same'], by rw [upd_blk_ne (by omega)]; exact h.b2, ?_⟩
  rw [upd_kill]; exact h.le
theorem Two.set2 {H0 : Heap} {p q : Nat} {l l' l2 : List Nat} (h : Two H0 H p q l l') : Two H0 (H.upd q (.cells (rowN l2) true)) p q l l2 := by
  have h1 := h.ne
  have h2 := h.lt
  refine ⟨h1, by simp only [upd_size]; omega, by rw [upd_blk_ne (by omega)]; exact h.b1, by rw [upd_blk_same'], ?_⟩
  have e : ((H.upd q (.cells (rowN l2) true)).kill p).kill q = (H.kill p).kill q := by
    unfold Heap.kill Heap.upd
    simp only [Heap.mk.injEq, true_and]
    funext i
    by_cases hi : i = q
    · simp [hi]
    · simp [hi]
  rw [e]; exact h.le
theorem s_visit {r : AV} {b : Nat} {n : Int} (hb : H.rwCells b = some [.int .i64 n]) (h0 : 0 ≤ n) (h1 : n ≤ 2000000) :
    ACall Try.prog n_Z5_1 [r, .ptr (some (b, 0))] H (fun r H' => r = .bool true ∧ H' = H.upd b (.cells [.int .i64 (n + 1)] true)) := by
  refine ACall.of fun R hR => a_Z5_1 rfl ?_
  have hb2 := Heap.rwCells_blk hb
  have g0 : H.get b 0 = some (.int .i64 n) := Rd.blk hb2.1 hb2.2 0 _ rfl
  simp (maxSteps := 2000000) (disch := first | omega | assumption | exact idP rfl | exact idP (bL rfl) | (simp only [alloc_size, upd_size] <;> omega) | fail) only [go_sem, reduceIte, Nat.reduceEqDiff, g0, hb]
  exact hR _ _ ⟨rfl, rfl⟩
set_option maxHeartbeats 4000000 in
theorem s_models {fl : AV} {n b : Nat} {xss : List (List Int)} (hv : IsII H fl xss) (hb : H.rwCells b = some [.int .i64 0]) (hn : n ≤ 20) (hl : xss.length ≤ 2000) (hx : ∀ c ∈ xss, Lits n c) (hxl : ∀ c ∈ xss, c.length ≤ 1048576) :
    ACall Try.prog n_Z21 [.int .i64 (n : Int), fl, .fn n_Z5_1 [.ptr (some (b, 0))]] H (fun _ H' => H'.rwCells b = some [.int .i64 (cntR xss (2 ^ n) : Nat)] ∧ Le (H.kill b) (H'.kill b)) := by
  refine ACall.of fun R hR => a_Z21 rfl ?_
  obtain ⟨A, c, ex, k, rfl, hr⟩ := hv.parts
  have hb2 := Heap.rwCells_blk hb
  simp (maxSteps := 2000000) (disch := first | omega | assumption | exact idP rfl | exact idP (bL rfl) | (simp only [alloc_size, upd_size] <;> omega) | fail) only [go_sem, reduceIte, Nat.reduceEqDiff]
  refine mks_own (by omega) (by simp [mostCells]; omega) (by simp [mostCells]; omega) ?_
  rw [Int.toNat_natCast]
  simp (maxSteps := 2000000) (disch := first | omega | assumption | exact idP rfl | exact idP (bL rfl) | (simp only [alloc_size, upd_size] <;> omega) | fail) only [go_sem, reduceIte, Nat.reduceEqDiff]
  refine mks_own (by omega) (by simp [mostCells]; omega) (by simp [mostCells]; omega) ?_
  rw [Int.toNat_natCast]
  have t0 := Two.new (H := H) (n := xss.length)
  generalize (H.alloc (zeros [.int .i64 0] xss.length)).alloc (zeros [.int .i64 0] xss.length) = H1 at t0 ⊢
  simp (maxSteps := 2000000) (disch := first | omega | assumption | exact idP rfl | exact idP (bL rfl) | (simp only [alloc_size, upd_size] <;> omega) | fail) only [go_sem, reduceIte, Nat.reduceEqDiff]
  obtain ⟨FN, hFN⟩ : ∃ f, f = AV.fn n_Z5_1 [.ptr (some (b, 0))] := ⟨_, rfl⟩
  rw [← hFN]
  refine wp_loop_k (fun e H' => ∃ i : Nat, i ≤ xss.length ∧ e 0 = .int .i64 (n : Int) ∧ e 1 = .sl A xss.length c ex k ∧ e 2 = FN ∧ e 6 = .sl (some (H.size, 0)) xss.length xss.length true 1 ∧ e 7 = .sl (some (H.size + 1, 0)) xss.length xss.length true 1 ∧ e 20 = .sl A xss.length c ex k ∧ e 21 = .int .i64 (xss.length : Int) ∧ e 22 = .int .i64 (i : Int) ∧
    Two H H' H.size (H.size + 1) (preF maskP xss i) (preF maskN xss i)) (fun e _ => ctr xss.length (e 22)) ?_ ?_
  · exact ⟨0, Nat.zero_le _, by simp (maxSteps := 2000000) (disch := first | omega | assumption | exact idP rfl | exact idP (bL rfl) | (simp only [alloc_size, upd_size] <;> omega) | fail) only [go_sem, reduceIte, Nat.reduceEqDiff], by simp (maxSteps := 2000000) (disch := first | omega | assumption | exact idP rfl | exact idP (bL rfl) | (simp only [alloc_size, upd_size] <;> omega) | fail) only [go_sem, reduceIte, Nat.reduceEqDiff], by simp (maxSteps := 2000000) (disch := first | omega | assumption | exact idP rfl | exact idP (bL rfl) | (simp only [alloc_size, upd_size] <;> omega) | fail) only [go_sem, reduceIte, Nat.reduceEqDiff], by simp (maxSteps := 2000000) (disch := first | omega | assumption | exact idP rfl | exact idP (bL rfl) | (simp only [alloc_size, upd_size] <;> omega) | fail) only [go_sem, reduceIte, Nat.reduceEqDiff]; rfl, by simp (maxSteps := 2000000) (disch := first | omega | assumption | exact idP rfl | exact idP (bL rfl) | (simp only [alloc_size, upd_size] <;> omega) | fail) only [go_sem, reduceIte, Nat.reduceEqDiff]; rfl, by simp (maxSteps := 2000000) (disch := first | omega | assumption | exact idP rfl | exact idP (bL rfl) | (simp only [alloc_size, upd_size] <;> omega) | fail) only [go_sem, reduceIte, Nat.reduceEqDiff], by simp (maxSteps := 2000000) (disch := first | omega | assumption | exact idP rfl | exact idP (bL rfl) | (simp only [alloc_size, upd_size] <;> omega) | fail) only [go_sem, reduceIte, Nat.reduceEqDiff], by simp (maxSteps := 2000000) (disch := first | omega | assumption | exact idP rfl | exact idP (bL rfl) | (simp only [alloc_size, upd_size] <;> omega) | fail) only [go_sem, reduceIte, Nat.reduceEqDiff]; rfl, by simpa [preF] using t0⟩
  rintro e H2 ⟨i, hi, e0, e1, e2, e6, e7, e20, e21, e22, ht⟩ K hK
  simp (maxSteps := 2000000) (disch := first | omega | assumption | exact idP rfl | exact idP (bL rfl) | (simp only [alloc_size, upd_size] <;> omega) | fail) only [go_sem, reduceIte, Nat.reduceEqDiff, e21, e22]
  refine condV_dec (fun h => ?_) (fun h => ?_)
  · have hi' : i < xss.length := by omega
    obtain ⟨u, hgu, hu⟩ := hr i hi'
    rw [Nat.mul_one] at hgu
    have hgu2 := ht.le'.get hgu
    have hu2 := hu.le ht.le'
    obtain ⟨Au, cu, exu, ku, rfl, hru⟩ := hu.parts
    have hgl := hxl _ (List.getElem_mem hi')
    have hlt := hx _ (List.getElem_mem hi')
    have e22' := e22
    simp (maxSteps := 2000000) (disch := first | omega | assumption | exact idP rfl | exact idP (bL rfl) | (simp only [alloc_size, upd_size] <;> omega) | fail) only [go_sem, reduceIte, Nat.reduceEqDiff, e20, e22, hgu2]
    refine wp_loop_k (fun e H' => ∃ j : Nat, j ≤ xss[i].length ∧ e 0 = .int .i64 (n : Int) ∧ e 1 = .sl A xss.length c ex k ∧ e 2 = FN ∧ e 6 = .sl (some (H.size, 0)) xss.length xss.length true 1 ∧ e 7 = .sl (some (H.size + 1, 0)) xss.length xss.length true 1 ∧ e 20 = .sl A xss.length c ex k ∧ e 21 = .int .i64 (xss.length : Int) ∧ e 22 = .int .i64 (i : Int) ∧ e 8 = .int .i64 (i : Int) ∧
      e 27 = .sl Au xss[i].length cu exu ku ∧ e 28 = .int .i64 (xss[i].length : Int) ∧ e 29 = .int .i64 (j : Int) ∧
      Two H H' H.size (H.size + 1) (midF maskP xss i ((xss[i].take j).foldl stepP 0)) (midF maskN xss i ((xss[i].take j).foldl stepN 0))) (fun e _ => ctr xss[i].length (e 29)) ?_ ?_
    · refine ⟨0, Nat.zero_le _, by simp (maxSteps := 2000000) (disch := first | omega | assumption | exact idP rfl | exact idP (bL rfl) | (simp only [alloc_size, upd_size] <;> omega) | fail) only [go_sem, reduceIte, Nat.reduceEqDiff, e0], by simp (maxSteps := 2000000) (disch := first | omega | assumption | exact idP rfl | exact idP (bL rfl) | (simp only [alloc_size, upd_size] <;> omega) | fail) only [go_sem, reduceIte, Nat.reduceEqDiff, e1], by simp (maxSteps := 2000000) (disch := first | omega | assumption | exact idP rfl | exact idP (bL rfl) | (simp only [alloc_size, upd_size] <;> omega) | fail) only [go_sem, reduceIte, Nat.reduceEqDiff, e2], by simp (maxSteps := 2000000) (disch := first | omega | assumption | exact idP rfl | exact idP (bL rfl) | (simp only [alloc_size, upd_size] <;> omega) | fail) only [go_sem, reduceIte, Nat.reduceEqDiff, e6], by simp (maxSteps := 2000000) (disch := first | omega | assumption | exact idP rfl | exact idP (bL rfl) | (simp only [alloc_size, upd_size] <;> omega) | fail) only [go_sem, reduceIte, Nat.reduceEqDiff, e7], by simp (maxSteps := 2000000) (disch := first | omega | assumption | exact idP rfl | exact idP (bL rfl) | (simp only [alloc_size, upd_size] <;> omega) | fail) only [go_sem, reduceIte, Nat.reduceEqDiff, e20], by simp (maxSteps := 2000000) (disch := first | omega | assumption | exact idP rfl | exact idP (bL rfl) | (simp only [alloc_size, upd_size] <;> omega) | fail) only [go_sem, reduceIte, Nat.reduceEqDiff, e21], by simp (maxSteps := 2000000) (disch := first | omega | assumption | exact idP rfl | exact idP (bL rfl) | (simp only [alloc_size, upd_size] <;> omega) | fail) only [go_sem, reduceIte, Nat.reduceEqDiff, e22], by simp (maxSteps := 2000000) (disch := first | omega | assumption | exact idP rfl | exact idP (bL rfl) | (simp only [alloc_size, upd_size] <;> omega) | fail) only [go_sem, reduceIte, Nat.reduceEqDiff, e22], by simp (maxSteps := 2000000) (disch := first | omega | assumption | exact idP rfl | exact idP (bL rfl) | (simp only [alloc_size, upd_size] <;> omega) | fail) only [go_sem, reduceIte, Nat.reduceEqDiff], by simp (maxSteps := 2000000) (disch := first | omega | assumption | exact idP rfl | exact idP (bL rfl) | (simp only [alloc_size, upd_size] <;> omega) | fail) only [go_sem, reduceIte, Nat.reduceEqDiff], by simp (maxSteps := 2000000) (disch := first | omega | assumption | exact idP rfl | exact idP (bL rfl) | (simp only [alloc_size, upd_size] <;> omega) | fail) only [go_sem, reduceIte, Nat.reduceEqDiff]; rfl, ?_⟩
      rw [pre_mid hi', pre_mid hi'] at ht
      exact ht
    rintro e H3 ⟨j, hj, e0, e1, e2, e6, e7, e20, e21, e22, e8, e27, e28, e29, ht⟩ K2 hK2
    simp (maxSteps := 2000000) (disch := first | omega | assumption | exact idP rfl | exact idP (bL rfl) | (simp only [alloc_size, upd_size] <;> omega) | fail) only [go_sem, reduceIte, Nat.reduceEqDiff, e28, e29]
    refine condV_dec (fun h2 => ?_) (fun h2 => ?_)
    · have hj' : j < xss[i].length := by omega
      have e29' := e29
      have hx0 := hru j hj'
      rw [Nat.mul_one] at hx0
      have hx3 := ht.le'.get hx0
      have hxj := hlt _ (List.getElem_mem hj')
      have ht20 : Lits n (xss[i].take j) := fun x hx => hlt x (List.mem_of_mem_take hx)
      have pw : (2 : Nat) ^ n ≤ 2 ^ 20 := Nat.pow_le_pow_right (by omega) hn
      have hml := mask_lt ht20 0 0 (Nat.two_pow_pos n) (Nat.two_pow_pos n)
      have fp : (xss[i].take (j + 1)).foldl stepP 0 = stepP ((xss[i].take j).foldl stepP 0) xss[i][j] := by rw [List.take_succ_eq_append_getElem hj', List.foldl_append]; rfl
      have fn : (xss[i].take (j + 1)).foldl stepN 0 = stepN ((xss[i].take j).foldl stepN 0) xss[i][j] := by rw [List.take_succ_eq_append_getElem hj', List.foldl_append]; rfl
      generalize (xss[i].take j).foldl stepP 0 = a at *
      generalize (xss[i].take j).foldl stepN 0 = a' at *
      have g1 := ht.g1 (mid_at (f := maskP) (a := a) hi')
      have g2 := ht.g2 (mid_at (f := maskN) (a := a') hi')
      have r1 := ht.rw1
      have r2 := ht.rw2
      simp (maxSteps := 2000000) (disch := first | omega | assumption | exact idP rfl | exact idP (bL rfl) | (simp only [alloc_size, upd_size] <;> omega) | fail) only [go_sem, reduceIte, Nat.reduceEqDiff, e27, e29, hx3]
      refine condV_dec (fun hp => ?_) (fun hp => ?_)
      · have sh := bin_shl (k := xss[i][j] - 1) (by omega) (by omega)
        have pk : (2 : Nat) ^ (xss[i][j] - 1).toNat ≤ 2 ^ 20 := Nat.pow_le_pow_right (by omega) (by omega)
        have bo := bin_orN (a := a) (b := 2 ^ (xss[i][j] - 1).toNat) (by omega) (by omega)
        simp (maxSteps := 2000000) (disch := first | omega | assumption | exact idP rfl | exact idP (bL rfl) | (simp only [alloc_size, upd_size] <;> omega) | fail) only [go_sem, reduceIte, Nat.reduceEqDiff, e6, e8, e29, g1, sh, bo, r1]
        rw [stoK_1 rfl (by rw [rowN_len, mid_len hi']; exact hi'), mid_set hi']
        simp (maxSteps := 2000000) (disch := first | omega | assumption | exact idP rfl | exact idP (bL rfl) | (simp only [alloc_size, upd_size] <;> omega) | fail) only [go_sem, reduceIte, Nat.reduceEqDiff, e29]
        refine hK2 _ _ ⟨j + 1, by omega, by simp (maxSteps := 2000000) (disch := first | omega | assumption | exact idP rfl | exact idP (bL rfl) | (simp only [alloc_size, upd_size] <;> omega) | fail) only [go_sem, reduceIte, Nat.reduceEqDiff, e0], by simp (maxSteps := 2000000) (disch := first | omega | assumption | exact idP rfl | exact idP (bL rfl) | (simp only [alloc_size, upd_size] <;> omega) | fail) only [go_sem, reduceIte, Nat.reduceEqDiff, e1], by simp (maxSteps := 2000000) (disch := first | omega | assumption | exact idP rfl | exact idP (bL rfl) | (simp only [alloc_size, upd_size] <;> omega) | fail) only [go_sem, reduceIte, Nat.reduceEqDiff, e2], by simp (maxSteps := 2000000) (disch := first | omega | assumption | exact idP rfl | exact idP (bL rfl) | (simp only [alloc_size, upd_size] <;> omega) | fail) only [go_sem, reduceIte, Nat.reduceEqDiff, e6], by simp (maxSteps := 2000000) (disch := first | omega | assumption | exact idP rfl | exact idP (bL rfl) | (simp only [alloc_size, upd_size] <;> omega) | fail) only [go_sem, reduceIte, Nat.reduceEqDiff, e7], by simp (maxSteps := 2000000) (disch := first | omega | assumption | exact idP rfl | exact idP (bL rfl) | (simp only [alloc_size, upd_size] <;> omega) | fail) only [go_sem, reduceIte, Nat.reduceEqDiff, e20], by simp (maxSteps := 2000000) (disch := first | omega | assumption | exact idP rfl | exact idP (bL rfl) | (simp only [alloc_size, upd_size] <;> omega) | fail) only [go_sem, reduceIte, Nat.reduceEqDiff, e21], by simp (maxSteps := 2000000) (disch := first | omega | assumption | exact idP rfl | exact idP (bL rfl) | (simp only [alloc_size, upd_size] <;> omega) | fail) only [go_sem, reduceIte, Nat.reduceEqDiff, e22], by simp (maxSteps := 2000000) (disch := first | omega | assumption | exact idP rfl | exact idP (bL rfl) | (simp only [alloc_size, upd_size] <;> omega) | fail) only [go_sem, reduceIte, Nat.reduceEqDiff, e8], by simp (maxSteps := 2000000) (disch := first | omega | assumption | exact idP rfl | exact idP (bL rfl) | (simp only [alloc_size, upd_size] <;> omega) | fail) only [go_sem, reduceIte, Nat.reduceEqDiff, e27], by simp (maxSteps := 2000000) (disch := first | omega | assumption | exact idP rfl | exact idP (bL rfl) | (simp only [alloc_size, upd_size] <;> omega) | fail) only [go_sem, reduceIte, Nat.reduceEqDiff, e28], by simp (maxSteps := 2000000) (disch := first | omega | assumption | exact idP rfl | exact idP (bL rfl) | (simp only [alloc_size, upd_size] <;> omega) | fail) only [go_sem, reduceIte, Nat.reduceEqDiff]; rfl, ?_⟩ (by simp (maxSteps := 2000000) (disch := first | omega | assumption | exact idP rfl | exact idP (bL rfl) | (simp only [alloc_size, upd_size] <;> omega) | fail) only [go_sem, reduceIte, Nat.reduceEqDiff, ctr_int, e29']; omega)
        rw [fp, fn]
        have q1 : stepP a xss[i][j] = a ||| 2 ^ (xss[i][j] - 1).toNat := if_pos hp
        have q2 : stepN a' xss[i][j] = a' := if_pos hp
        rw [q1, q2]; exact ht.set1
      · have sh := bin_shl (k := 0 - xss[i][j] - 1) (by omega) (by omega)
        have pk : (2 : Nat) ^ (0 - xss[i][j] - 1).toNat ≤ 2 ^ 20 := Nat.pow_le_pow_right (by omega) (by omega)
        have bo := bin_orN (a := a') (b := 2 ^ (0 - xss[i][j] - 1).toNat) (by omega) (by omega)
        simp (maxSteps := 2000000) (disch := first | omega | assumption | exact idP rfl | exact idP (bL rfl) | (simp only [alloc_size, upd_size] <;> omega) | fail) only [go_sem, reduceIte, Nat.reduceEqDiff, e7, e8, e29, g2, sh, bo, r2]
        rw [stoK_1 rfl (by rw [rowN_len, mid_len hi']; exact hi'), mid_set hi']
        simp (maxSteps := 2000000) (disch := first | omega | assumption | exact idP rfl | exact idP (bL rfl) | (simp only [alloc_size, upd_size] <;> omega) | fail) only [go_sem, reduceIte, Nat.reduceEqDiff, e29]
        refine hK2 _ _ ⟨j + 1, by omega, by simp (maxSteps := 2000000) (disch := first | omega | assumption | exact idP rfl | exact idP (bL rfl) | (simp only [alloc_size, upd_size] <;> omega) | fail) only [go_sem, reduceIte, Nat.reduceEqDiff, e0], by simp (maxSteps := 2000000) (disch := first | omega | assumption | exact idP rfl | exact idP (bL rfl) | (simp only [alloc_size, upd_size] <;> omega) | fail) only [go_sem, reduceIte, Nat.reduceEqDiff, e1], by simp (maxSteps := 2000000) (disch := first | omega | assumption | exact idP rfl | exact idP (bL rfl) | (simp only [alloc_size, upd_size] <;> omega) | fail) only [go_sem, reduceIte, Nat.reduceEqDiff, e2], by simp (maxSteps := 2000000) (disch := first | omega | assumption | exact idP rfl | exact idP (bL rfl) | (simp only [alloc_size, upd_size] <;> omega) | fail) only [go_sem, reduceIte, Nat.reduceEqDiff, e6], by simp (maxSteps := 2000000) (disch := first | omega | assumption | exact idP rfl | exact idP (bL rfl) | (simp only [alloc_size, upd_size] <;> omega) | fail) only [go_sem, reduceIte, Nat.reduceEqDiff, e7], by simp (maxSteps := 2000000) (disch := first | omega | assumption | exact idP rfl | exact idP (bL rfl) | (simp only [alloc_size, upd_size] <;> omega) | fail) only [go_sem, reduceIte, Nat.reduceEqDiff, e20], by simp (maxSteps := 2000000) (disch := first | omega | assumption | exact idP rfl | exact idP (bL rfl) | (simp only [alloc_size, upd_size] <;> omega) | fail) only [go_sem, reduceIte, Nat.reduceEqDiff, e21], by simp (maxSteps := 2000000) (disch := first | omega | assumption | exact idP rfl | exact idP (bL rfl) | (simp only [alloc_size, upd_size] <;> omega) | fail) only [go_sem, reduceIte, Nat.reduceEqDiff, e22], by simp (maxSteps := 2000000) (disch := first | omega | assumption | exact idP rfl | exact idP (bL rfl) | (simp only [alloc_size, upd_size] <;> omega) | fail) only [go_sem, reduceIte, Nat.reduceEqDiff, e8], by simp (maxSteps := 2000000) (disch := first | omega | assumption | exact idP rfl | exact idP (bL rfl) | (simp only [alloc_size, upd_size] <;> omega) | fail) only [go_sem, reduceIte, Nat.reduceEqDiff, e27], by simp (maxSteps := 2000000) (disch := first | omega | assumption | exact idP rfl | exact idP (bL rfl) | (simp only [alloc_size, upd_size] <;> omega) | fail) only [go_sem, reduceIte, Nat.reduceEqDiff, e28], by simp (maxSteps := 2000000) (disch := first | omega | assumption | exact idP rfl | exact idP (bL rfl) | (simp only [alloc_size, upd_size] <;> omega) | fail) only [go_sem, reduceIte, Nat.reduceEqDiff]; rfl, ?_⟩ (by simp (maxSteps := 2000000) (disch := first | omega | assumption | exact idP rfl | exact idP (bL rfl) | (simp only [alloc_size, upd_size] <;> omega) | fail) only [go_sem, reduceIte, Nat.reduceEqDiff, ctr_int, e29']; omega)
        rw [fp, fn]
        have q1 : stepP a xss[i][j] = a := if_neg hp
        have q2 : stepN a' xss[i][j] = a' ||| 2 ^ (0 - xss[i][j] - 1).toNat := by
          unfold stepN
          rw [Int.zero_sub, if_neg hp]
        rw [q1, q2]; exact ht.set2
    · obtain rfl : j = xss[i].length := by omega
      rw [List.take_length] at ht
      have ht2 : Two H H3 H.size (H.size + 1) (midF maskP xss i (maskP xss[i])) (midF maskN xss i (maskN xss[i])) := ht
      rw [mid_pre hi', mid_pre hi'] at ht2
      simp (maxSteps := 2000000) (disch := first | omega | assumption | exact idP rfl | exact idP (bL rfl) | (simp only [alloc_size, upd_size] <;> omega) | fail) only [go_sem, reduceIte, Nat.reduceEqDiff, e22]
      exact hK _ _ ⟨i + 1, by omega, by simp (maxSteps := 2000000) (disch := first | omega | assumption | exact idP rfl | exact idP (bL rfl) | (simp only [alloc_size, upd_size] <;> omega) | fail) only [go_sem, reduceIte, Nat.reduceEqDiff, e0], by simp (maxSteps := 2000000) (disch := first | omega | assumption | exact idP rfl | exact idP (bL rfl) | (simp only [alloc_size, upd_size] <;> omega) | fail) only [go_sem, reduceIte, Nat.reduceEqDiff, e1], by simp (maxSteps := 2000000) (disch := first | omega | assumption | exact idP rfl | exact idP (bL rfl) | (simp only [alloc_size, upd_size] <;> omega) | fail) only [go_sem, reduceIte, Nat.reduceEqDiff, e2], by simp (maxSteps := 2000000) (disch := first | omega | assumption | exact idP rfl | exact idP (bL rfl) | (simp only [alloc_size, upd_size] <;> omega) | fail) only [go_sem, reduceIte, Nat.reduceEqDiff, e6], by simp (maxSteps := 2000000) (disch := first | omega | assumption | exact idP rfl | exact idP (bL rfl) | (simp only [alloc_size, upd_size] <;> omega) | fail) only [go_sem, reduceIte, Nat.reduceEqDiff, e7], by simp (maxSteps := 2000000) (disch := first | omega | assumption | exact idP rfl | exact idP (bL rfl) | (simp only [alloc_size, upd_size] <;> omega) | fail) only [go_sem, reduceIte, Nat.reduceEqDiff, e20], by simp (maxSteps := 2000000) (disch := first | omega | assumption | exact idP rfl | exact idP (bL rfl) | (simp only [alloc_size, upd_size] <;> omega) | fail) only [go_sem, reduceIte, Nat.reduceEqDiff, e21], by simp (maxSteps := 2000000) (disch := first | omega | assumption | exact idP rfl | exact idP (bL rfl) | (simp only [alloc_size, upd_size] <;> omega) | fail) only [go_sem, reduceIte, Nat.reduceEqDiff]; rfl, ht2⟩ (by simp (maxSteps := 2000000) (disch := first | omega | assumption | exact idP rfl | exact idP (bL rfl) | (simp only [alloc_size, upd_size] <;> omega) | fail) only [go_sem, reduceIte, Nat.reduceEqDiff, ctr_int, e22']; omega)
  · obtain rfl : i = xss.length := by omega
    rw [pre_all, pre_all] at ht
    have pw : (2 : Nat) ^ n ≤ 2 ^ 20 := Nat.pow_le_pow_right (by omega) hn
    have sh := bin_shl (k := (n : Int)) (by omega) (by omega)
    rw [Int.toNat_natCast] at sh
    have hne1 : b ≠ H.size := by omega
    have hne2 : b ≠ H.size + 1 := by omega
    have hbl := ht.le'.rwCells hb
    have m1 : ∀ i (h : i < xss.length), maskP xss[i] < 2 ^ 20 ∧ maskN xss[i] < 2 ^ 20 := fun i h => by
      have := mask_lt (hx _ (List.getElem_mem h)) 0 0 (Nat.two_pow_pos n) (Nat.two_pow_pos n)
      unfold maskP maskN
      omega
    have hL2 : Le (H.kill b) (H2.kill b) := ht.le'.kills b
    simp (maxSteps := 2000000) (disch := first | omega | assumption | exact idP rfl | exact idP (bL rfl) | (simp only [alloc_size, upd_size] <;> omega) | fail) only [go_sem, reduceIte, Nat.reduceEqDiff, e0, sh]
    generalize hpw : 2 ^ n = pn at *
    refine wp_loop_k (fun e H' => ∃ i : Nat, i ≤ pn ∧ e 1 = .sl A xss.length c ex k ∧ e 2 = FN ∧ e 6 = .sl (some (H.size, 0)) xss.length xss.length true 1 ∧ e 7 = .sl (some (H.size + 1, 0)) xss.length xss.length true 1 ∧ e 57 = .int .i64 (pn : Int) ∧ e 58 = .int .i64 (i : Int) ∧
      H'.rwCells b = some [.int .i64 (cntR xss i : Nat)] ∧ Le (H2.kill b) (H'.kill b)) (fun e _ => ctr pn (e 58)) ?_ ?_
    · exact ⟨0, Nat.zero_le _, by simp (maxSteps := 2000000) (disch := first | omega | assumption | exact idP rfl | exact idP (bL rfl) | (simp only [alloc_size, upd_size] <;> omega) | fail) only [go_sem, reduceIte, Nat.reduceEqDiff, e1], by simp (maxSteps := 2000000) (disch := first | omega | assumption | exact idP rfl | exact idP (bL rfl) | (simp only [alloc_size, upd_size] <;> omega) | fail) only [go_sem, reduceIte, Nat.reduceEqDiff, e2], by simp (maxSteps := 2000000) (disch := first | omega | assumption | exact idP rfl | exact idP (bL rfl) | (simp only [alloc_size, upd_size] <;> omega) | fail) only [go_sem, reduceIte, Nat.reduceEqDiff, e6], by simp (maxSteps := 2000000) (disch := first | omega | assumption | exact idP rfl | exact idP (bL rfl) | (simp only [alloc_size, upd_size] <;> omega) | fail) only [go_sem, reduceIte, Nat.reduceEqDiff, e7], by simp (maxSteps := 2000000) (disch := first | omega | assumption | exact idP rfl | exact idP (bL rfl) | (simp only [alloc_size, upd_size] <;> omega) | fail) only [go_sem, reduceIte, Nat.reduceEqDiff], by simp (maxSteps := 2000000) (disch := first | omega | assumption | exact idP rfl | exact idP (bL rfl) | (simp only [alloc_size, upd_size] <;> omega) | fail) only [go_sem, reduceIte, Nat.reduceEqDiff]; rfl, hbl, Le.refl _⟩
    rintro e H3 ⟨r, hr0, e1, e2, e6, e7, e57, e58, hcell, hle3⟩ K hK
    simp (maxSteps := 2000000) (disch := first | omega | assumption | exact idP rfl | exact idP (bL rfl) | (simp only [alloc_size, upd_size] <;> omega) | fail) only [go_sem, reduceIte, Nat.reduceEqDiff, e57, e58]
    refine condV_dec (fun h => ?_) (fun h => ?_)
    · have hr' : r < pn := by omega
      have e58' := e58
      have cell1 : H3.rwCells H.size = some (rowN (xss.map maskP)) := by
        refine (Le.kill _ b).rwCells (hle3.rwCells (rwCells_of ?_ ?_))
        · exact (Heap.rwCells_blk ht.rw1).1
        · rw [kill_ne (fun h => hne1 h.symm)]; exact ht.b1
      have cell2 : H3.rwCells (H.size + 1) = some (rowN (xss.map maskN)) := by
        refine (Le.kill _ b).rwCells (hle3.rwCells (rwCells_of ?_ ?_))
        · exact (Heap.rwCells_blk ht.rw2).1
        · rw [kill_ne (fun h => hne2 h.symm)]; exact ht.b2
      have g1 : ∀ i (h : i < xss.length), H3.get H.size i = some (.int .i64 (maskP xss[i] : Nat)) := fun i h => by
        obtain ⟨z1, z2⟩ := Heap.rwCells_blk cell1
        have := Rd.blk z1 z2 i (.int .i64 (maskP xss[i] : Nat)) (by simp [rowN, h])
        simpa using this
      have g2 : ∀ i (h : i < xss.length), H3.get (H.size + 1) i = some (.int .i64 (maskN xss[i] : Nat)) := fun i h => by
        obtain ⟨z1, z2⟩ := Heap.rwCells_blk cell2
        have := Rd.blk z1 z2 i (.int .i64 (maskN xss[i] : Nat)) (by simp [rowN, h])
        simpa using this
      simp (maxSteps := 2000000) (disch := first | omega | assumption | exact idP rfl | exact idP (bL rfl) | (simp only [alloc_size, upd_size] <;> omega) | fail) only [go_sem, reduceIte, Nat.reduceEqDiff, e1, e58]
      refine wp_loop_k (fun e H' => ∃ i : Nat, i ≤ xss.length ∧ H' = H3 ∧ e 1 = .sl A xss.length c ex k ∧ e 2 = FN ∧ e 6 = .sl (some (H.size, 0)) xss.length xss.length true 1 ∧ e 7 = .sl (some (H.size + 1, 0)) xss.length xss.length true 1 ∧ e 57 = .int .i64 (pn : Int) ∧ e 58 = .int .i64 (r : Int) ∧ e 12 = .int .i64 (r : Int) ∧ e 62 = .int .i64 (xss.length : Int) ∧ e 63 = .int .i64 (i : Int) ∧
        ∀ j (h : j < xss.length), j < i → deadB r xss[j] = false) (fun e _ => ctr xss.length (e 63)) ?_ ?_
      · exact ⟨0, Nat.zero_le _, rfl, by simp (maxSteps := 2000000) (disch := first | omega | assumption | exact idP rfl | exact idP (bL rfl) | (simp only [alloc_size, upd_size] <;> omega) | fail) only [go_sem, reduceIte, Nat.reduceEqDiff, e1], by simp (maxSteps := 2000000) (disch := first | omega | assumption | exact idP rfl | exact idP (bL rfl) | (simp only [alloc_size, upd_size] <;> omega) | fail) only [go_sem, reduceIte, Nat.reduceEqDiff, e2], by simp (maxSteps := 2000000) (disch := first | omega | assumption | exact idP rfl | exact idP (bL rfl) | (simp only [alloc_size, upd_size] <;> omega) | fail) only [go_sem, reduceIte, Nat.reduceEqDiff, e6], by simp (maxSteps := 2000000) (disch := first | omega | assumption | exact idP rfl | exact idP (bL rfl) | (simp only [alloc_size, upd_size] <;> omega) | fail) only [go_sem, reduceIte, Nat.reduceEqDiff, e7], by simp (maxSteps := 2000000) (disch := first | omega | assumption | exact idP rfl | exact idP (bL rfl) | (simp only [alloc_size, upd_size] <;> omega) | fail) only [go_sem, reduceIte, Nat.reduceEqDiff, e57], by simp (maxSteps := 2000000) (disch := first | omega | assumption | exact idP rfl | exact idP (bL rfl) | (simp only [alloc_size, upd_size] <;> omega) | fail) only [go_sem, reduceIte, Nat.reduceEqDiff, e58], by simp (maxSteps := 2000000) (disch := first | omega | assumption | exact idP rfl | exact idP (bL rfl) | (simp only [alloc_size, upd_size] <;> omega) | fail) only [go_sem, reduceIte, Nat.reduceEqDiff], by simp (maxSteps := 2000000) (disch := first | omega | assumption | exact idP rfl | exact idP (bL rfl) | (simp only [alloc_size, upd_size] <;> omega) | fail) only [go_sem, reduceIte, Nat.reduceEqDiff], by simp (maxSteps := 2000000) (disch := first | omega | assumption | exact idP rfl | exact idP (bL rfl) | (simp only [alloc_size, upd_size] <;> omega) | fail) only [go_sem, reduceIte, Nat.reduceEqDiff]; rfl, fun j _ h => by omega⟩
      rintro e H4 ⟨i, hi, rfl, e1, e2, e6, e7, e57, e58, e12, e62, e63, hdd⟩ K2 hK2
      simp (maxSteps := 2000000) (disch := first | omega | assumption | exact idP rfl | exact idP (bL rfl) | (simp only [alloc_size, upd_size] <;> omega) | fail) only [go_sem, reduceIte, Nat.reduceEqDiff, e62, e63]
      have e63' := e63
      refine condV_dec (fun h2 => ?_) (fun h2 => ?_)
      · have hi' : i < xss.length := by omega
        have k1 := g1 i hi'
        have k2 := g2 i hi'
        have hm := m1 i hi'
        have b1 := bin_andN (a := r) (b := maskP xss[i]) (by omega) (by omega)
        have b2 := un_notN (a := r) (by omega)
        have b3 := bin_andNot (a := r) (b := maskN xss[i]) (by omega) (by omega)
        have nxt : ∀ e2 : Env, deadB r xss[i] = false → e2 1 = .sl A xss.length c ex k → e2 2 = FN → e2 6 = .sl (some (H.size, 0)) xss.length xss.length true 1 → e2 7 = .sl (some (H.size + 1, 0)) xss.length xss.length true 1 → e2 57 = .int .i64 (pn : Int) → e2 58 = .int .i64 (r : Int) → e2 12 = .int .i64 (r : Int) → e2 62 = .int .i64 (xss.length : Int) → e2 63 = .int .i64 ((i : Int) + 1) → K2 e2 H4 := fun e2 q q1 q2 q3 q4 q5 q6 q7 q8 q9 =>
          hK2 _ _ ⟨i + 1, by omega, rfl, q1, q2, q3, q4, q5, q6, q7, q8, by rw [q9]; rfl, fun j h hj => by
            by_cases hji : j = i
            · subst hji; exact q
            · exact hdd j h (by omega)⟩ (by rw [q9, e63']; simp only [ctr_int]; omega)
        have d0 : deadB r xss[i] = (decide (r &&& maskP xss[i] = 0) && decide ((18446744073709551616 - (r + 1)) &&& maskN xss[i] = 0)) := rfl
        generalize maskP xss[i] = mp at *
        generalize maskN xss[i] = mn at *
        generalize r &&& mp = v1 at *
        generalize (18446744073709551616 - (r + 1)) &&& mn = v2 at *
        simp (maxSteps := 2000000) (disch := first | omega | assumption | exact idP rfl | exact idP (bL rfl) | (simp only [alloc_size, upd_size] <;> omega) | fail) only [go_sem, reduceIte, Nat.reduceEqDiff, e6, e7, e12, e63, k1, b1]
        by_cases q1 : v1 = 0
        · have q1' : ((v1 : Nat) : Int) = 0 := by omega
          simp (maxSteps := 2000000) (disch := first | omega | assumption | exact idP rfl | exact idP (bL rfl) | (simp only [alloc_size, upd_size] <;> omega) | fail) only [go_sem, reduceIte, Nat.reduceEqDiff, e6, e7, e12, e63, k1, k2, b1, b2, b3, q1']
          refine condV_dec (fun h3 => ?_) (fun h3 => ?_)
          · have hdead : okRow xss r = false := by
              unfold okRow
              rw [List.all_eq_false]
              exact ⟨xss[i], List.getElem_mem hi', by rw [d0, q1]; simp; omega⟩
            simp (maxSteps := 2000000) (disch := first | omega | assumption | exact idP rfl | exact idP (bL rfl) | (simp only [alloc_size, upd_size] <;> omega) | fail) only [go_sem, reduceIte, Nat.reduceEqDiff, e58]
            refine hK _ _ ⟨r + 1, by omega, by simp (maxSteps := 2000000) (disch := first | omega | assumption | exact idP rfl | exact idP (bL rfl) | (simp only [alloc_size, upd_size] <;> omega) | fail) only [go_sem, reduceIte, Nat.reduceEqDiff, e1], by simp (maxSteps := 2000000) (disch := first | omega | assumption | exact idP rfl | exact idP (bL rfl) | (simp only [alloc_size, upd_size] <;> omega) | fail) only [go_sem, reduceIte, Nat.reduceEqDiff, e2], by simp (maxSteps := 2000000) (disch := first | omega | assumption | exact idP rfl | exact idP (bL rfl) | (simp only [alloc_size, upd_size] <;> omega) | fail) only [go_sem, reduceIte, Nat.reduceEqDiff, e6], by simp (maxSteps := 2000000) (disch := first | omega | assumption | exact idP rfl | exact idP (bL rfl) | (simp only [alloc_size, upd_size] <;> omega) | fail) only [go_sem, reduceIte, Nat.reduceEqDiff, e7], by simp (maxSteps := 2000000) (disch := first | omega | assumption | exact idP rfl | exact idP (bL rfl) | (simp only [alloc_size, upd_size] <;> omega) | fail) only [go_sem, reduceIte, Nat.reduceEqDiff, e57], by simp (maxSteps := 2000000) (disch := first | omega | assumption | exact idP rfl | exact idP (bL rfl) | (simp only [alloc_size, upd_size] <;> omega) | fail) only [go_sem, reduceIte, Nat.reduceEqDiff]; rfl, ?_, hle3⟩ (by simp (maxSteps := 2000000) (disch := first | omega | assumption | exact idP rfl | exact idP (bL rfl) | (simp only [alloc_size, upd_size] <;> omega) | fail) only [go_sem, reduceIte, Nat.reduceEqDiff, ctr_int, e58']; omega)
            rw [cntR_succ, hdead]; exact hcell
          · simp (maxSteps := 2000000) (disch := first | omega | assumption | exact idP rfl | exact idP (bL rfl) | (simp only [alloc_size, upd_size] <;> omega) | fail) only [go_sem, reduceIte, Nat.reduceEqDiff, e63]
            exact nxt _ (by rw [d0]; simp; omega) (by simp (maxSteps := 2000000) (disch := first | omega | assumption | exact idP rfl | exact idP (bL rfl) | (simp only [alloc_size, upd_size] <;> omega) | fail) only [go_sem, reduceIte, Nat.reduceEqDiff, e1]) (by simp (maxSteps := 2000000) (disch := first | omega | assumption | exact idP rfl | exact idP (bL rfl) | (simp only [alloc_size, upd_size] <;> omega) | fail) only [go_sem, reduceIte, Nat.reduceEqDiff, e2]) (by simp (maxSteps := 2000000) (disch := first | omega | assumption | exact idP rfl | exact idP (bL rfl) | (simp only [alloc_size, upd_size] <;> omega) | fail) only [go_sem, reduceIte, Nat.reduceEqDiff, e6]) (by simp (maxSteps := 2000000) (disch := first | omega | assumption | exact idP rfl | exact idP (bL rfl) | (simp only [alloc_size, upd_size] <;> omega) | fail) only [go_sem, reduceIte, Nat.reduceEqDiff, e7]) (by simp (maxSteps := 2000000) (disch := first | omega | assumption | exact idP rfl | exact idP (bL rfl) | (simp only [alloc_size, upd_size] <;> omega) | fail) only [go_sem, reduceIte, Nat.reduceEqDiff, e57]) (by simp (maxSteps := 2000000) (disch := first | omega | assumption | exact idP rfl | exact idP (bL rfl) | (simp only [alloc_size, upd_size] <;> omega) | fail) only [go_sem, reduceIte, Nat.reduceEqDiff, e58]) (by simp (maxSteps := 2000000) (disch := first | omega | assumption | exact idP rfl | exact idP (bL rfl) | (simp only [alloc_size, upd_size] <;> omega) | fail) only [go_sem, reduceIte, Nat.reduceEqDiff, e12]) (by simp (maxSteps := 2000000) (disch := first | omega | assumption | exact idP rfl | exact idP (bL rfl) | (simp only [alloc_size, upd_size] <;> omega) | fail) only [go_sem, reduceIte, Nat.reduceEqDiff, e62]) (by simp (maxSteps := 2000000) (disch := first | omega | assumption | exact idP rfl | exact idP (bL rfl) | (simp only [alloc_size, upd_size] <;> omega) | fail) only [go_sem, reduceIte, Nat.reduceEqDiff])
        · have q1' : ¬ ((v1 : Nat) : Int) = 0 := by omega
          simp (maxSteps := 2000000) (disch := first | omega | assumption | exact idP rfl | exact idP (bL rfl) | (simp only [alloc_size, upd_size] <;> omega) | fail) only [go_sem, reduceIte, Nat.reduceEqDiff, e6, e7, e12, e63, k1, k2, b1, b2, b3, q1']
          exact nxt _ (by rw [d0]; simp; omega) (by simp (maxSteps := 2000000) (disch := first | omega | assumption | exact idP rfl | exact idP (bL rfl) | (simp only [alloc_size, upd_size] <;> omega) | fail) only [go_sem, reduceIte, Nat.reduceEqDiff, e1]) (by simp (maxSteps := 2000000) (disch := first | omega | assumption | exact idP rfl | exact idP (bL rfl) | (simp only [alloc_size, upd_size] <;> omega) | fail) only [go_sem, reduceIte, Nat.reduceEqDiff, e2]) (by simp (maxSteps := 2000000) (disch := first | omega | assumption | exact idP rfl | exact idP (bL rfl) | (simp only [alloc_size, upd_size] <;> omega) | fail) only [go_sem, reduceIte, Nat.reduceEqDiff, e6]) (by simp (maxSteps := 2000000) (disch := first | omega | assumption | exact idP rfl | exact idP (bL rfl) | (simp only [alloc_size, upd_size] <;> omega) | fail) only [go_sem, reduceIte, Nat.reduceEqDiff, e7]) (by simp (maxSteps := 2000000) (disch := first | omega | assumption | exact idP rfl | exact idP (bL rfl) | (simp only [alloc_size, upd_size] <;> omega) | fail) only [go_sem, reduceIte, Nat.reduceEqDiff, e57]) (by simp (maxSteps := 2000000) (disch := first | omega | assumption | exact idP rfl | exact idP (bL rfl) | (simp only [alloc_size, upd_size] <;> omega) | fail) only [go_sem, reduceIte, Nat.reduceEqDiff, e58]) (by simp (maxSteps := 2000000) (disch := first | omega | assumption | exact idP rfl | exact idP (bL rfl) | (simp only [alloc_size, upd_size] <;> omega) | fail) only [go_sem, reduceIte, Nat.reduceEqDiff, e12]) (by simp (maxSteps := 2000000) (disch := first | omega | assumption | exact idP rfl | exact idP (bL rfl) | (simp only [alloc_size, upd_size] <;> omega) | fail) only [go_sem, reduceIte, Nat.reduceEqDiff, e62]) (by simp (maxSteps := 2000000) (disch := first | omega | assumption | exact idP rfl | exact idP (bL rfl) | (simp only [alloc_size, upd_size] <;> omega) | fail) only [go_sem, reduceIte, Nat.reduceEqDiff])
      · obtain rfl : i = xss.length := by omega
        have hok : okRow xss r = true := by
          unfold okRow
          rw [List.all_eq_true]
          intro c hc
          obtain ⟨j, hj, rfl⟩ := List.getElem_of_mem hc
          rw [hdd j hj hj]; rfl
        have hcl := cntR_le (xss := xss) (k := r)
        simp (maxSteps := 2000000) (disch := first | omega | assumption | exact idP rfl | exact idP (bL rfl) | (simp only [alloc_size, upd_size] <;> omega) | fail) only [go_sem, reduceIte, Nat.reduceEqDiff, e2, e12, hFN]
        refine (s_visit hcell (by omega) (by omega)).mono ?_
        rintro w H5 ⟨rfl, rfl⟩
        simp (maxSteps := 2000000) (disch := first | omega | assumption | exact idP rfl | exact idP (bL rfl) | (simp only [alloc_size, upd_size] <;> omega) | fail) only [go_sem, reduceIte, Nat.reduceEqDiff, e58]
        refine hK _ _ ⟨r + 1, by omega, by simp (maxSteps := 2000000) (disch := first | omega | assumption | exact idP rfl | exact idP (bL rfl) | (simp only [alloc_size, upd_size] <;> omega) | fail) only [go_sem, reduceIte, Nat.reduceEqDiff, e1], by simp (maxSteps := 2000000) (disch := first | omega | assumption | exact idP rfl | exact idP (bL rfl) | (simp only [alloc_size, upd_size] <;> omega) | fail) only [go_sem, reduceIte, Nat.reduceEqDiff, e2], by simp (maxSteps := 2000000) (disch := first | omega | assumption | exact idP rfl | exact idP (bL rfl) | (simp only [alloc_size, upd_size] <;> omega) | fail) only [go_sem, reduceIte, Nat.reduceEqDiff, e6], by simp (maxSteps := 2000000) (disch := first | omega | assumption | exact idP rfl | exact idP (bL rfl) | (simp only [alloc_size, upd_size] <;> omega) | fail) only [go_sem, reduceIte, Nat.reduceEqDiff, e7], by simp (maxSteps := 2000000) (disch := first | omega | assumption | exact idP rfl | exact idP (bL rfl) | (simp only [alloc_size, upd_size] <;> omega) | fail) only [go_sem, reduceIte, Nat.reduceEqDiff, e57], by simp (maxSteps := 2000000) (disch := first | omega | assumption | exact idP rfl | exact idP (bL rfl) | (simp only [alloc_size, upd_size] <;> omega) | fail) only [go_sem, reduceIte, Nat.reduceEqDiff]; rfl, ?_, ?_⟩ (by simp (maxSteps := 2000000) (disch := first | omega | assumption | exact idP rfl | exact idP (bL rfl) | (simp only [alloc_size, upd_size] <;> omega) | fail) only [go_sem, reduceIte, Nat.reduceEqDiff, ctr_int, e58']; omega)
        · rw [cntR_succ, hok, if_pos rfl, show ((cntR xss r + 1 : Nat) : Int) = (cntR xss r : Int) + 1 from rfl]
          exact rwCells_of (Heap.rwCells_blk hcell).1 upd_blk_same'
        · rw [upd_kill]; exact hle3
    · obtain rfl : r = pn := by omega
      simp (maxSteps := 2000000) (disch := first | omega | assumption | exact idP rfl | exact idP (bL rfl) | (simp only [alloc_size, upd_size] <;> omega) | fail) only [go_sem, reduceIte, Nat.reduceEqDiff]
      exact hR _ _ ⟨hcell, hL2.trans hle3⟩
theorem s_freeOk {x : AV} {k : Int} {xss : List (List Int)} (hx : IsCl H x k xss) (hl : xss.length ≤ 2000) (hxl : ∀ c ∈ xss, c.length ≤ 1048576) :
    ACall Try.prog n_Z16 [x] H (fun r H' => Le H H' ∧ ∃ b, r = .bool b ∧ (b = true ↔ ClsOk k xss ∧ k ≤ 20)) := by
  refine ACall.of fun R hR => a_Z16 rfl ?_
  obtain ⟨fl, rfl, hv⟩ := hx
  have hof := oneA_isS hv
  have hof1 := hof.1
  simp (maxSteps := 2000000) (disch := first | omega | assumption | exact idP rfl | exact idP (bL rfl) | (simp only [alloc_size, upd_size] <;> omega) | fail) only [go_sem, reduceIte, Nat.reduceEqDiff, hof.2]
  have hle1 := Le.alloc H [.int .i64 k, fl]
  refine (s_implClausesValid (n := k) (xss := xss) ⟨fl, rfl, hv.le hle1⟩ (by omega) hxl).mono ?_
  rintro r H1 ⟨hle2, b, rfl, hb⟩
  have g0 : H1.get H.size 0 = some (.int .i64 k) := hle2.get (by simp (maxSteps := 2000000) (disch := first | omega | assumption | exact idP rfl | exact idP (bL rfl) | (simp only [alloc_size, upd_size] <;> omega) | fail) only [go_sem, reduceIte, Nat.reduceEqDiff])
  cases b with
  | false =>
    simp (maxSteps := 2000000) (disch := first | omega | assumption | exact idP rfl | exact idP (bL rfl) | (simp only [alloc_size, upd_size] <;> omega) | fail) only [go_sem, reduceIte, Nat.reduceEqDiff]
    exact hR _ _ ⟨hle1.trans hle2, _, rfl, by simp; intro h; have := hb.2 h; cases this⟩
  | true =>
    simp (maxSteps := 2000000) (disch := first | omega | assumption | exact idP rfl | exact idP (bL rfl) | (simp only [alloc_size, upd_size] <;> omega) | fail) only [go_sem, reduceIte, Nat.reduceEqDiff, g0]
    exact hR _ _ ⟨hle1.trans hle2, _, rfl, by simp [hb.1 rfl]⟩
theorem s_implCountModels {x : AV} {k : Int} {xss : List (List Int)} (hx : IsCl H x k xss) (hl : xss.length ≤ 2000) (hxl : ∀ c ∈ xss, c.length ≤ 1048576) :
    ACall Try.prog n_Z5 [x] H (fun r H' => Le H H' ∧ ((¬ (ClsOk k xss ∧ k ≤ 20) ∧ r = .int .i64 (-1)) ∨ ∃ n : Nat, k = n ∧ n ≤ 20 ∧ ClsOk k xss ∧ r = .int .i64 (cntR xss (2 ^ n) : Nat))) := by
  refine ACall.of fun R hR => a_Z5 rfl ?_
  obtain ⟨fl, rfl, hv⟩ := hx
  have hof := oneA_isS hv
  have hof1 := hof.1
  simp (maxSteps := 2000000) (disch := first | omega | assumption | exact idP rfl | exact idP (bL rfl) | (simp only [alloc_size, upd_size] <;> omega) | fail) only [go_sem, reduceIte, Nat.reduceEqDiff, hof.2]
  have hle1 := Le.alloc H [.int .i64 k, fl]
  have hcl1 : IsCl (H.alloc [.int .i64 k, fl]) (.agg [.int .i64 k, fl]) k xss := ⟨fl, rfl, hv.le hle1⟩
  refine (s_freeOk hcl1 hl hxl).mono ?_
  rintro r H1 ⟨hle2, b, rfl, hb⟩
  have hle12 := hle1.trans hle2
  cases b with
  | false =>
    simp (maxSteps := 2000000) (disch := first | omega | assumption | exact idP rfl | exact idP (bL rfl) | (simp only [alloc_size, upd_size] <;> omega) | fail) only [go_sem, reduceIte, Nat.reduceEqDiff]
    exact hR _ _ ⟨hle12, .inl ⟨fun h => (by have := hb.2 h; cases this), rfl⟩⟩
  | true =>
    obtain ⟨hok, h20⟩ := hb.1 rfl
    have hlo := hok.lo
    obtain ⟨n, rfl⟩ : ∃ n : Nat, k = n := ⟨k.toNat, by omega⟩
    have x1 : H1.rwCells H.size = some [.int .i64 (n : Int), fl] := hle2.rwCells (rwCells_of (by simp only [alloc_size]; omega) (alloc_new _ _))
    have g0 : H1.get H.size 0 = some (.int .i64 (n : Int)) := hle2.get (by simp (maxSteps := 2000000) (disch := first | omega | assumption | exact idP rfl | exact idP (bL rfl) | (simp only [alloc_size, upd_size] <;> omega) | fail) only [go_sem, reduceIte, Nat.reduceEqDiff])
    have g1 : H1.get H.size 1 = some fl := hle2.get (by simp (maxSteps := 2000000) (disch := first | omega | assumption | exact idP rfl | exact idP (bL rfl) | (simp only [alloc_size, upd_size] <;> omega) | fail) only [go_sem, reduceIte, Nat.reduceEqDiff])
    have hle3 : Le H1 ((H1.alloc [.int .i64 0]).upd H1.size (.cells [.int .i64 0] true)) := ((Le.refl _).allocs).updFresh (Nat.le_refl _)
    have hlk := hle3.killFresh (Nat.le_refl H1.size)
    have k0 := hle3.get g0
    have k1 := hle3.get g1
    have hv3 := hv.le (hle12.trans hle3)
    have hcell : ((H1.alloc [.int .i64 0]).upd H1.size (.cells [.int .i64 0] true)).rwCells H1.size = some [.int .i64 0] := rwCells_of (by simp only [upd_size, alloc_size]; omega) upd_blk_same'
    simp (maxSteps := 2000000) (disch := first | omega | assumption | exact idP rfl | exact idP (bL rfl) | (simp only [alloc_size, upd_size] <;> omega) | fail) only [go_sem, reduceIte, Nat.reduceEqDiff, k0, k1]
    generalize ((H1.alloc [.int .i64 0]).upd H1.size (.cells [.int .i64 0] true)) = H2 at *
    refine (s_models (n := n) hv3 hcell (by omega) hl (fun c hc => clOk_lits (hok.all c hc)) hxl).mono ?_
    rintro r H3 ⟨hc3, hle4⟩
    obtain ⟨z1, z2⟩ := Heap.rwCells_blk hc3
    have c0 : H3.get H1.size 0 = some (.int .i64 (cntR xss (2 ^ n) : Nat)) := Rd.blk z1 z2 0 _ rfl
    simp (maxSteps := 2000000) (disch := first | omega | assumption | exact idP rfl | exact idP (bL rfl) | (simp only [alloc_size, upd_size] <;> omega) | fail) only [go_sem, reduceIte, Nat.reduceEqDiff, c0]
    exact hR _ _ ⟨(hle12.trans (hlk.trans hle4)).trans (Le.kill _ _), .inr ⟨n, rfl, by omega, hok, rfl⟩⟩
end Go.M2

namespace Go.M2
open Go.Proofs
variable {H : Heap}
end Go.M2

namespace Go.M2
open Go.Proofs
variable {H : Heap}
theorem bin_xorN {a b : Int} (h0 : 0 ≤ a) (h1 : a < 4611686018427387904) (h2 : 0 ≤ b) (h3 : b < 4611686018427387904) :
    ∃ c : Int, binF .xor (.int .i64 a) (.int .i64 b) = some (.int .i64 c) ∧ 0 ≤ c ∧ c < 4611686018427387904 := by
  have ea : (BitVec.ofInt 64 a).toNat = a.toNat := by rw [BitVec.toNat_ofInt]; omega
  have eb : (BitVec.ofInt 64 b).toNat = b.toNat := by rw [BitVec.toNat_ofInt]; omega
  have hlt : a.toNat ^^^ b.toNat < 2 ^ 62 := Nat.xor_lt_two_pow (by omega) (by omega)
  have hlt' : a.toNat ^^^ b.toNat < 4611686018427387904 := hlt
  refine ⟨((a.toNat ^^^ b.toNat : Nat) : Int), ?_, by omega, by omega⟩
  have e : (BitVec.ofInt IntKind.i64.bits a ^^^ BitVec.ofInt IntKind.i64.bits b).toNat = a.toNat ^^^ b.toNat := by
    show (BitVec.ofInt 64 a ^^^ BitVec.ofInt 64 b).toNat = _
    rw [BitVec.toNat_xor, ea, eb]
  simp only [binF, isSh, intBin, Bool.false_eq_true, if_false, if_true, e]
  rw [wrap_in (by omega) (by omega)]
@[go_sem] theorem bin_quoN {a b : Int} (h0 : 0 ≤ a) (h1 : 0 < b) (h2 : a ≤ 9223372036854775807) : binF .quo (.int .i64 a) (.int .i64 b) = some (.int .i64 (a / b)) := by
  have hb : b ≠ 0 := by omega
  have hq : a.tdiv b = a / b := Int.tdiv_eq_ediv_of_nonneg h0
  have q1 : 0 ≤ a / b := Int.ediv_nonneg h0 (by omega)
  have q2 : a / b ≤ a := Int.ediv_le_self _ h0
  simp only [binF, isSh, intBin, hb, if_false, if_true, Bool.false_eq_true, hq]
  rw [IntWalk.i64_in _ ⟨by omega, by omega⟩]
@[go_sem] theorem bin_remN {k : IntKind} {a b : Int} (h0 : 0 ≤ a) (h1 : 0 < b) : binF .rem (.int k a) (.int k b) = some (.int k (a % b)) := by
  have hb : b ≠ 0 := by omega
  have hq : a.tmod b = a % b := Int.tmod_eq_emod_of_nonneg h0
  simp [binF, isSh, intBin, hb, hq]
def EB (H : Heap) (n : Int) (l : List AV) : Prop := l = [.int .u8 n] ∧ 0 ≤ n ∧ n ≤ 255
theorem mono_B : Mono EB := fun _ _ _ _ _ h => h
abbrev IsB : Heap → AV → List Int → Prop := InS 1 EB
theorem IsB.at {w : AV} {code : List Int} (h : IsB H w code) {i : Nat} (hi : i < code.length) : ∃ A c ex k n, w = .sl A code.length c ex k ∧ H.get A.b (A.o + i) = some (.int .u8 n) ∧ 0 ≤ n ∧ n ≤ 255 := by
  obtain ⟨A, c, ex, k, u, rfl, h1, h2, h3⟩ := InS.get h hi
  simp only [List.cons.injEq, and_true] at h2
  subst h2
  exact ⟨A, c, ex, k, _, rfl, h1, h3⟩
set_option maxHeartbeats 4000000 in
theorem s_pick {rb : Nat} {w : AV} {code : List Int} {p n : Int} (hw : IsB (H.kill rb) w code) (hl : code.length ≤ 2000) (hm : H.rwCells rb = some [w, .int .i64 p]) (h0 : 0 ≤ p) (h1 : p ≤ 1099511627776) :
    ACall Try.prog n_Z77 [.ptr (some (rb, 0)), .int .i64 n] H (fun r H' => H' = H.upd rb (.cells [w, .int .i64 (p + 1)] true) ∧ ∃ k : Int, r = .int .i64 k ∧ 0 ≤ k ∧ (1 ≤ n → k < n) ∧ (n < 1 → k = 0)) := by
  refine ACall.of fun R hR => a_Z77 rfl ?_
  have hlen := hw.len
  obtain ⟨hsz, hbk⟩ := Heap.rwCells_blk hm
  have m1 : H.get rb 1 = some (.int .i64 p) := Rd.blk hsz hbk 1 _ rfl
  by_cases hn : n < 1
  · have hd : decide (n < 1) = true := by simp [hn]
    simp (maxSteps := 2000000) (disch := first | omega | assumption | exact idP rfl | exact idP (bL rfl) | (simp only [alloc_size, upd_size] <;> omega) | fail) only [go_sem, reduceIte, Nat.reduceEqDiff, m1, hm, hd]
    exact hR _ _ ⟨rfl, _, rfl, by omega, by omega, fun _ => by omega⟩
  have hd : decide (n < 1) = false := by simp [hn]
  by_cases hz : code.length = 0
  · have hz2 : decide ((code.length : Int) = 0) = true := by simp [hz]
    simp (maxSteps := 2000000) (disch := first | omega | assumption | exact idP rfl | exact idP (bL rfl) | (simp only [alloc_size, upd_size] <;> omega) | fail) only [go_sem, reduceIte, Nat.reduceEqDiff, m1, hm, hd, hlen, hz2]
    exact hR _ _ ⟨rfl, _, rfl, by omega, by omega, fun _ => by omega⟩
  have hz2 : decide ((code.length : Int) = 0) = false := decide_eq_false (by omega)
  have e1 : p + 1 - 1 = p := by omega
  have hup : ∀ b o v, (H.kill rb).get b o = some v → (H.upd rb (.cells [w, .int .i64 (p + 1)] true)).get b o = some v := fun b o v h => by
    have hL : Le (H.kill rb) (H.upd rb (.cells [w, .int .i64 (p + 1)] true)) := by rw [← upd_kill H rb (.cells [w, .int .i64 (p + 1)] true)]; exact Le.kill _ _
    exact hL.get h
  simp (maxSteps := 2000000) (disch := first | omega | assumption | exact idP rfl | exact idP (bL rfl) | (simp only [alloc_size, upd_size] <;> omega) | fail) only [go_sem, reduceIte, Nat.reduceEqDiff, m1, hm, hd, hlen, hz2, e1]
  refine condV_dec (fun hk => ?_) (fun hk => ?_)
  · obtain ⟨A, c, ex, kk, v, rfl, hc, c0, c1⟩ := hw.at (i := p.toNat) (by omega)
    have hc := hup _ _ _ hc
    simp (maxSteps := 2000000) (disch := first | omega | assumption | exact idP rfl | exact idP (bL rfl) | (simp only [alloc_size, upd_size] <;> omega) | fail) only [go_sem, reduceIte, Nat.reduceEqDiff, hc]
    have := Int.emod_nonneg v (b := n) (by omega)
    have := Int.emod_lt_of_pos v (b := n) (by omega)
    exact hR _ _ ⟨rfl, _, rfl, by omega, fun _ => by omega, fun _ => by omega⟩
  have hN : (0 : Int) < (code.length : Int) := by omega
  have m1 := Int.emod_nonneg p (b := (code.length : Int)) (by omega)
  have m2 := Int.emod_lt_of_pos p hN
  have m3 := Int.emod_nonneg (p * 7 + 3) (b := (code.length : Int)) (by omega)
  have m4 := Int.emod_lt_of_pos (p * 7 + 3) hN
  have m5 : 0 ≤ p / (code.length : Int) := Int.ediv_nonneg h0 (by omega)
  have m6 : p / (code.length : Int) ≤ p := Int.ediv_le_self _ h0
  generalize hq1 : p % (code.length : Int) = q1 at *
  generalize hq2 : (p * 7 + 3) % (code.length : Int) = q2 at *
  generalize hq3 : p / (code.length : Int) = q3 at *
  obtain ⟨A, c, ex, kk, v, rfl, hc, c0, c1⟩ := hw.at (i := q1.toNat) (by omega)
  obtain ⟨A2, c2, ex2, kk2, v2, e2, hc2, c02, c12⟩ := hw.at (i := q2.toNat) (by omega)
  cases e2
  have hc := hup _ _ _ hc
  have hc2 := hup _ _ _ hc2
  simp (maxSteps := 2000000) (disch := first | omega | assumption | exact idP rfl | exact idP (bL rfl) | (simp only [alloc_size, upd_size] <;> omega) | fail) only [go_sem, reduceIte, Nat.reduceEqDiff, hc, hc2, hq1, hq2, hq3]
  obtain ⟨z, hz, z0, z1⟩ := bin_xorN (a := v * 131 + v2 * 1117 + p * 29 + q3 * 53) (b := (v * 131 + v2 * 1117 + p * 29 + q3 * 53) / 64) (by omega) (by omega) (by omega) (by omega)
  simp (maxSteps := 2000000) (disch := first | omega | assumption | exact idP rfl | exact idP (bL rfl) | (simp only [alloc_size, upd_size] <;> omega) | fail) only [go_sem, reduceIte, Nat.reduceEqDiff, hq3, hz]
  have := Int.emod_nonneg z (b := n) (by omega)
  have := Int.emod_lt_of_pos z (b := n) (by omega)
  exact hR _ _ ⟨rfl, _, rfl, by omega, fun _ => by omega, fun _ => by omega⟩
structure Rdr (H : Heap) (rb : Nat) (w : AV) (code : List Int) (p : Int) : Prop where
  hw : IsB (H.kill rb) w code
  l : code.length ≤ 2000
  m : H.rwCells rb = some [w, .int .i64 p]
  lo : 0 ≤ p
theorem Rdr.upd {rb : Nat} {w : AV} {code : List Int} {p q : Int} (h : Rdr H rb w code p) (hq : 0 ≤ q) : Rdr (H.upd rb (.cells [w, .int .i64 q] true)) rb w code q :=
  ⟨by rw [upd_kill]; exact h.hw, h.l, rw_upd_same (Heap.rwCells_blk h.m).1, hq⟩
theorem Rdr.le {H' : Heap} {rb : Nat} {w : AV} {code : List Int} {p : Int} (h : Rdr H rb w code p) (hl : Le H H') : Rdr H' rb w code p :=
  ⟨h.hw.le mono_B (hl.kills rb), h.l, hl.rwCells h.m, h.lo⟩
theorem s_num {rb : Nat} {w v : AV} {code ks : List Int} {p : Int} (hr : Rdr H rb w code p) (h1 : p ≤ 1099511627776) (hv : IsI (H.kill rb) v ks) (hk : 0 < ks.length) :
    ACall Try.prog n_Z76 [.ptr (some (rb, 0)), v] H (fun r H' => H' = H.upd rb (.cells [w, .int .i64 (p + 1)] true) ∧ ∃ x ∈ ks, r = .int .i64 x) := by
  refine ACall.of fun R hR => a_Z76 rfl ?_
  obtain ⟨A, c, ex, k, rfl, hrd⟩ := hv.parts
  simp (maxSteps := 2000000) (disch := first | omega | assumption | exact idP rfl | exact idP (bL rfl) | (simp only [alloc_size, upd_size] <;> omega) | fail) only [go_sem, reduceIte, Nat.reduceEqDiff]
  refine (s_pick hr.hw hr.l hr.m hr.lo h1).mono ?_
  rintro r H1 ⟨rfl, j, rfl, j0, j1, _⟩
  have hj := j1 (by omega)
  have hL : Le (H.kill rb) (H.upd rb (.cells [w, .int .i64 (p + 1)] true)) := by rw [← upd_kill H rb (.cells [w, .int .i64 (p + 1)] true)]; exact Le.kill _ _
  have hg := hL.get (hrd j.toNat (by omega))
  rw [Nat.mul_one] at hg
  simp (maxSteps := 2000000) (disch := first | omega | assumption | exact idP rfl | exact idP (bL rfl) | (simp only [alloc_size, upd_size] <;> omega) | fail) only [go_sem, reduceIte, Nat.reduceEqDiff, hg]
  exact hR _ _ ⟨rfl, _, List.getElem_mem _, rfl⟩
theorem s_l40Open {v : AV} {xs : List Int} (hv : IsB H v xs) (hc : ∀ A n c ex k, v = .sl A n c ex k → n ≤ c) (hl : xs.length ≤ 1048576) :
    ACall Try.prog n_Z75 [v] H (fun r H' => ∃ w code, r = .ptr (some (H.size, 0)) ∧ Rdr H' H.size w code 0 ∧ H' = H.alloc [w, .int .i64 0]) := by
  refine ACall.of fun R hR => a_Z75 rfl ?_
  have hlen := hv.len
  have kl : ∀ c : List AV, Le H ((H.alloc c).kill H.size) := fun c => (Le.alloc _ _).killFresh (Nat.le_refl _)
  simp (maxSteps := 2000000) (disch := first | omega | assumption | exact idP rfl | exact idP (bL rfl) | (simp only [alloc_size, upd_size] <;> omega) | fail) only [go_sem, reduceIte, Nat.reduceEqDiff, hlen]
  refine condV_dec (fun h => ?_) (fun h => ?_)
  · rcases hv with ⟨A, c, ex, k, rfl, hr⟩ | ⟨rfl, rfl⟩
    · have hcc := hc _ _ _ _ _ rfl
      have e : slcF 1 none (some (.int .i64 2000)) none (.sl A xs.length c ex k) = some (.sl (some (A.b, A.o + 0 * 1)) (2000 - 0) (c - 0) (ex || false) k) := by
        have e1 : (0 : Int) ≤ 2000 ∧ (2000 : Int) ≤ (c : Int) := by omega
        simp only [slcF, bnds, natIn, Option.isSome_none, Bool.false_eq_true, if_false, e1, and_self, if_true]
        simp only [Int.reduceToNat]
        rw [if_neg (by omega), if_neg (by omega)]
      simp (maxSteps := 2000000) (disch := first | omega | assumption | exact idP rfl | exact idP (bL rfl) | (simp only [alloc_size, upd_size] <;> omega) | fail) only [go_sem, reduceIte, Nat.reduceEqDiff, e]
      refine hR _ _ ⟨_, xs.take 2000, rfl, ⟨.inl ⟨some (A.b, A.o), c, ex || false, k, ?_, fun i hi => ?_⟩, by simp; omega, rw_alloc_new rfl, by omega⟩, rfl⟩
      · simp [List.length_take]; omega
      · have hi2 : i < xs.length := by simp at hi; omega
        obtain ⟨cs, q1, q2, q3⟩ := hr i hi2
        exact ⟨cs, q1, q2.le (kl _), by rw [List.getElem_take]; exact q3⟩
    · simp at h
  · have ho : oneA v = true ∧ cellsOf v = some [v] := by
      rcases hv with hv | ⟨rfl, _⟩
      · exact oneA_isS hv
      · exact ⟨rfl, rfl⟩
    simp (maxSteps := 2000000) (disch := first | omega | assumption | exact idP rfl | exact idP (bL rfl) | (simp only [alloc_size, upd_size] <;> omega) | fail) only [go_sem, reduceIte, Nat.reduceEqDiff, ho.2]
    exact hR _ _ ⟨v, xs, rfl, ⟨hv.le mono_B (kl _), by omega, rw_alloc_new rfl, by omega⟩, rfl⟩
end Go.M2

namespace Go.M2
open Go.Proofs
variable {H : Heap}
end Go.M2

namespace Go.M2
open Go.Proofs
variable {H : Heap}
theorem marked_short {n : Nat} {xs : List Int} : (marked (given n xs)).length ≤ n := by
  unfold marked
  refine Nat.le_trans (List.length_filter_le _ _) ?_
  rw [List.length_drop, given_len]; omega
theorem s_l2Has {v : AV} {xs : List Int} {p : Int} (hv : IsI H v xs) (hl : xs.length ≤ 1048576) : ACall Try.prog n_Z73 [v, .int .i64 p] H (fun r H' => H' = H ∧ ∃ b, r = .bool b ∧ (b = true ↔ p ∈ xs)) := by
  refine ACall.of fun R hR => a_Z73 rfl ?_
  obtain ⟨A, c, ex, k, rfl, hr⟩ := hv.parts
  simp (maxSteps := 2000000) (disch := first | omega | assumption | exact idP rfl | exact idP (bL rfl) | (simp only [alloc_size, upd_size] <;> omega) | fail) only [go_sem, reduceIte, Nat.reduceEqDiff]
  refine wp_loop_k (fun e H' => H = H' ∧ ∃ i : Nat, i ≤ xs.length ∧ e 0 = .sl A xs.length c ex k ∧ e 1 = .int .i64 p ∧ e 5 = .int .i64 (i : Int) ∧ ∀ j (h : j < xs.length), j < i → xs[j] ≠ p) (fun e _ => ctr xs.length (e 5)) ?_ ?_
  · exact ⟨rfl, 0, Nat.zero_le _, by simp (maxSteps := 2000000) (disch := first | omega | assumption | exact idP rfl | exact idP (bL rfl) | (simp only [alloc_size, upd_size] <;> omega) | fail) only [go_sem, reduceIte, Nat.reduceEqDiff], by simp (maxSteps := 2000000) (disch := first | omega | assumption | exact idP rfl | exact idP (bL rfl) | (simp only [alloc_size, upd_size] <;> omega) | fail) only [go_sem, reduceIte, Nat.reduceEqDiff], by simp (maxSteps := 2000000) (disch := first | omega | assumption | exact idP rfl | exact idP (bL rfl) | (simp only [alloc_size, upd_size] <;> omega) | fail) only [go_sem, reduceIte, Nat.reduceEqDiff]; rfl, fun j _ h => by omega⟩
  · rintro e H1 ⟨rfl, i, hi, e0, e1, e5, hj⟩ K hK
    simp (maxSteps := 2000000) (disch := first | omega | assumption | exact idP rfl | exact idP (bL rfl) | (simp only [alloc_size, upd_size] <;> omega) | fail) only [go_sem, reduceIte, Nat.reduceEqDiff, e0, e1, e5]
    refine condV_dec (fun h => ?_) (fun h => ?_)
    · have hi' : i < xs.length := by omega
      have hg := hr i hi'
      rw [Nat.mul_one] at hg
      have e5' := e5
      simp (maxSteps := 2000000) (disch := first | omega | assumption | exact idP rfl | exact idP (bL rfl) | (simp only [alloc_size, upd_size] <;> omega) | fail) only [go_sem, reduceIte, Nat.reduceEqDiff, e0, e1, e5, hg]
      refine condV_dec (fun h0 => ?_) (fun h0 => ?_)
      · simp (maxSteps := 2000000) (disch := first | omega | assumption | exact idP rfl | exact idP (bL rfl) | (simp only [alloc_size, upd_size] <;> omega) | fail) only [go_sem, reduceIte, Nat.reduceEqDiff]
        exact hR _ _ ⟨rfl, true, rfl, by simp; exact h0 ▸ List.getElem_mem hi'⟩
      · simp (maxSteps := 2000000) (disch := first | omega | assumption | exact idP rfl | exact idP (bL rfl) | (simp only [alloc_size, upd_size] <;> omega) | fail) only [go_sem, reduceIte, Nat.reduceEqDiff, e5]
        refine hK _ _ ⟨rfl, i + 1, by omega, by simp (maxSteps := 2000000) (disch := first | omega | assumption | exact idP rfl | exact idP (bL rfl) | (simp only [alloc_size, upd_size] <;> omega) | fail) only [go_sem, reduceIte, Nat.reduceEqDiff, e0], by simp (maxSteps := 2000000) (disch := first | omega | assumption | exact idP rfl | exact idP (bL rfl) | (simp only [alloc_size, upd_size] <;> omega) | fail) only [go_sem, reduceIte, Nat.reduceEqDiff, e1], by simp (maxSteps := 2000000) (disch := first | omega | assumption | exact idP rfl | exact idP (bL rfl) | (simp only [alloc_size, upd_size] <;> omega) | fail) only [go_sem, reduceIte, Nat.reduceEqDiff]; rfl, fun j q1 q2 => ?_⟩ (by simp (maxSteps := 2000000) (disch := first | omega | assumption | exact idP rfl | exact idP (bL rfl) | (simp only [alloc_size, upd_size] <;> omega) | fail) only [go_sem, reduceIte, Nat.reduceEqDiff, ctr_int, e5']; omega)
        by_cases e : j = i
        · subst e; exact h0
        · exact hj j q1 (by omega)
    · simp (maxSteps := 2000000) (disch := first | omega | assumption | exact idP rfl | exact idP (bL rfl) | (simp only [alloc_size, upd_size] <;> omega) | fail) only [go_sem, reduceIte, Nat.reduceEqDiff]
      refine hR _ _ ⟨rfl, false, rfl, ?_⟩
      simp only [Bool.false_eq_true, false_iff]
      intro hm
      obtain ⟨j, q1, q2⟩ := List.getElem_of_mem hm
      exact hj j q1 (by omega) q2
end Go.M2

namespace Go.M2
open Go.Proofs
variable {H : Heap}
theorem apart_newer {rb n : Nat} {v : AV} (hn : newer n v) (h : rb < n) : apart rb v := by
  unfold newer at hn
  unfold apart
  split
  · rename_i b o m c ex k
    have hn : n ≤ b := hn
    omega
  · trivial
theorem base_kill {v : AV} {rb : Nat} (h : apart rb v) {x : Blk} : (base (H.upd rb x) v).kill rb = (base H v).kill rb := by
  rw [base_upd h, upd_kill]
set_option maxHeartbeats 8000000 in
theorem s_l11Lits {rb : Nat} {w : AV} {code : List Int} {p : Int} {n k : Nat} (hr : Rdr H rb w code p) (h1 : p ≤ 1000000000000) (hn : n ≤ 700) (hk : k ≤ 700) :
    ACall Try.prog n_Z64 [.ptr (some (rb, 0)), .int .i64 (n : Int), .int .i64 (k : Int)] H (fun r H' => ∃ (xs : List Int) (p' : Int), Own 1 H' r (xs.map (AV.int .i64)) ∧ xs.length ≤ 700 ∧ newer H.size r ∧ Rdr H' rb w code p' ∧ p' ≤ p + 2 * k ∧ Le (H.kill rb) ((base H' r).kill rb)) := by
  refine ACall.of fun R hR => a_Z64 rfl ?_
  have hrb := (Heap.rwCells_blk hr.m).1
  have hw0 := hr.hw
  have hrA : Rdr (H.alloc []) rb w code p := hr.le (Le.alloc _ _)
  have mkR : ∀ (H' : Heap) (s : AV) (q : Int), Le (H.kill rb) ((base H' s).kill rb) → H'.rwCells rb = some [w, .int .i64 q] → 0 ≤ q → Rdr H' rb w code q := fun H' s q z1 z2 z3 =>
    ⟨hw0.le mono_B (z1.trans ((base_le _ _).kills rb)), hr.l, z2, z3⟩
  simp (maxSteps := 2000000) (disch := first | omega | assumption | exact idP rfl | exact idP (bL rfl) | (simp only [alloc_size, upd_size] <;> omega) | fail) only [go_sem, reduceIte, Nat.reduceEqDiff]
  refine wp_loop_k (fun e H' => ∃ (i : Nat) (xs : List Int) (q : Int), i ≤ k ∧ e 0 = .ptr (some (rb, 0)) ∧ e 1 = .int .i64 (n : Int) ∧ e 2 = .int .i64 (k : Int) ∧ e 8 = .int .i64 (i : Int) ∧ xs.length ≤ i ∧ Lits n xs ∧ Own 1 H' (e 7) (xs.map (AV.int .i64)) ∧ newer H.size (e 7) ∧ H'.rwCells rb = some [w, .int .i64 q] ∧ 0 ≤ q ∧ q ≤ p + 2 * i ∧ Le (H.kill rb) ((base H' (e 7)).kill rb)) (fun e _ => ctr k (e 8)) ?_ ?_
  · exact ⟨0, [], p, Nat.zero_le _, by simp (maxSteps := 2000000) (disch := first | omega | assumption | exact idP rfl | exact idP (bL rfl) | (simp only [alloc_size, upd_size] <;> omega) | fail) only [go_sem, reduceIte, Nat.reduceEqDiff], by simp (maxSteps := 2000000) (disch := first | omega | assumption | exact idP rfl | exact idP (bL rfl) | (simp only [alloc_size, upd_size] <;> omega) | fail) only [go_sem, reduceIte, Nat.reduceEqDiff], by simp (maxSteps := 2000000) (disch := first | omega | assumption | exact idP rfl | exact idP (bL rfl) | (simp only [alloc_size, upd_size] <;> omega) | fail) only [go_sem, reduceIte, Nat.reduceEqDiff], by simp (maxSteps := 2000000) (disch := first | omega | assumption | exact idP rfl | exact idP (bL rfl) | (simp only [alloc_size, upd_size] <;> omega) | fail) only [go_sem, reduceIte, Nat.reduceEqDiff]; rfl, by simp, fun x h => by simp at h, by simp (maxSteps := 2000000) (disch := first | omega | assumption | exact idP rfl | exact idP (bL rfl) | (simp only [alloc_size, upd_size] <;> omega) | fail) only [go_sem, reduceIte, Nat.reduceEqDiff]; exact Own.new rfl, by simp (maxSteps := 2000000) (disch := first | omega | assumption | exact idP rfl | exact idP (bL rfl) | (simp only [alloc_size, upd_size] <;> omega) | fail) only [go_sem, reduceIte, Nat.reduceEqDiff]; exact Nat.le_refl _, hrA.m, hr.lo, by omega, by simp (maxSteps := 2000000) (disch := first | omega | assumption | exact idP rfl | exact idP (bL rfl) | (simp only [alloc_size, upd_size] <;> omega) | fail) only [go_sem, reduceIte, Nat.reduceEqDiff]; exact ((Le.alloc _ _).killFresh (Nat.le_refl _)).kills rb⟩
  rintro e H1 ⟨i, xs, q, hi, e0, e1, e2, e8, hxl, hlits, ho, hnew, hm, hq0, hq1, hle⟩ K hK
  have hap := apart_newer hnew hrb
  have fin : ∀ (q' : Int) (H2 : Heap), Le (H.kill rb) ((base H2 (e 7)).kill rb) → Own 1 H2 (e 7) (xs.map (AV.int .i64)) → H2.rwCells rb = some [w, .int .i64 q'] → 0 ≤ q' → q' ≤ p + 2 * k →
      ACall Try.prog n_Z58 [e 7, .int .i64 (n : Int)] H2 (fun r H' => ∃ u b, r = .tup [u, .bool b] ∧ ∃ (ys : List Int) (p' : Int), Own 1 H' u (ys.map (AV.int .i64)) ∧ ys.length ≤ 700 ∧ newer H.size u ∧ Rdr H' rb w code p' ∧ p' ≤ p + 2 * k ∧ Le (H.kill rb) ((base H' u).kill rb)) := fun q' H2 z1 z2 z3 z4 z5 => by
    have hs2 : H.size ≤ H2.size := by have := z1.1; simp only [Heap.kill, Heap.upd] at this; rw [base_size] at this; exact this
    refine (s_l11Clause z2.isI (by omega) hn hlits).mono ?_
    rintro r H3 ⟨c1, c2⟩
    by_cases hc : Contr n xs
    · obtain ⟨rfl, l3⟩ := c1 hc
      have hL := (z1.trans ((base_le _ _).kills rb)).trans (l3.kills rb)
      exact ⟨_, _, rfl, [], q', Own.nil, by simp, trivial, ⟨hw0.le mono_B hL, hr.l, l3.rwCells z3, z4⟩, z5, hL⟩
    · obtain ⟨u, rfl, o3, l3, n3⟩ := c2 hc
      have hL : Le (H.kill rb) ((base H3 u).kill rb) := (z1.trans ((base_le _ _).kills rb)).trans (l3.kills rb)
      exact ⟨u, _, rfl, _, q', o3, Nat.le_trans marked_short hn, n3.mono hs2, ⟨hw0.le mono_B (hL.trans ((base_le _ _).kills rb)), hr.l, (l3.trans (base_le _ _)).rwCells z3, z4⟩, z5, hL⟩
  by_cases hc : (i : Int) < (k : Int) ∧ (0 : Int) < (n : Int)
  · have e8' := e8
    simp (maxSteps := 2000000) (disch := first | omega | assumption | exact idP rfl | exact idP (bL rfl) | (simp only [alloc_size, upd_size] <;> omega) | fail) only [go_sem, reduceIte, Nat.reduceEqDiff, e1, e2, e8, hc, decide_true]
    have hr1 := mkR H1 (e 7) q hle hm hq0
    simp (maxSteps := 2000000) (disch := first | omega | assumption | exact idP rfl | exact idP (bL rfl) | (simp only [alloc_size, upd_size] <;> omega) | fail) only [go_sem, reduceIte, Nat.reduceEqDiff, e0]
    refine (s_pick hr1.hw hr1.l hr1.m hr1.lo (by omega)).mono ?_
    rintro r H2 ⟨rfl, j, rfl, j0, j1, _⟩
    have hj := j1 (by omega)
    have hle2 : Le (H.kill rb) ((base (H1.upd rb (.cells [w, .int .i64 (q + 1)] true)) (e 7)).kill rb) := by rw [base_kill hap]; exact hle
    have hm2 : (H1.upd rb (.cells [w, .int .i64 (q + 1)] true)).rwCells rb = some [w, .int .i64 (q + 1)] := rw_upd_same (Heap.rwCells_blk hm).1
    have hr2 := mkR _ (e 7) (q + 1) hle2 hm2 (by omega)
    simp (maxSteps := 2000000) (disch := first | omega | assumption | exact idP rfl | exact idP (bL rfl) | (simp only [alloc_size, upd_size] <;> omega) | fail) only [go_sem, reduceIte, Nat.reduceEqDiff, e0]
    refine (s_pick hr2.hw hr2.l hr2.m hr2.lo (by omega)).mono ?_
    rintro r H3 ⟨rfl, j', rfl, j0', j1', _⟩
    rw [Heap.upd_upd]
    have hle3 : Le (H.kill rb) ((base (H1.upd rb (.cells [w, .int .i64 (q + 1 + 1)] true)) (e 7)).kill rb) := by rw [base_kill hap]; exact hle
    have hm3 : (H1.upd rb (.cells [w, .int .i64 (q + 1 + 1)] true)).rwCells rb = some [w, .int .i64 (q + 1 + 1)] := rw_upd_same (Heap.rwCells_blk hm).1
    have ho3 : Own 1 (H1.upd rb (.cells [w, .int .i64 (q + 1 + 1)] true)) (e 7) (xs.map (AV.int .i64)) := by
      obtain ⟨A', n', ex', k', e7, y1, y2, y3⟩ := ho
      rw [e7] at hap ⊢
      refine ⟨A', n', ex', k', rfl, y1, y2, fun b' o' e' => ?_⟩
      subst e'
      obtain ⟨z1, z2, z3, z4⟩ := y3 b' o' rfl
      have hne : b' ≠ rb := hap
      exact ⟨z1, z2, z3, by rw [upd_blk_ne hne]; exact z4⟩
    generalize hG : (H1.upd rb (.cells [w, .int .i64 (q + 1 + 1)] true)) = G at *
    simp (maxSteps := 2000000) (disch := first | omega | assumption | exact idP rfl | exact idP (bL rfl) | (simp only [alloc_size, upd_size] <;> omega) | fail) only [go_sem, reduceIte, Nat.reduceEqDiff]
    refine condV_dec (fun hz => ?_) (fun hz => ?_)
    · simp (maxSteps := 2000000) (disch := first | omega | assumption | exact idP rfl | exact idP (bL rfl) | (simp only [alloc_size, upd_size] <;> omega) | fail) only [go_sem, reduceIte, Nat.reduceEqDiff]
      have hyl : (0 - (1 + j)) ≠ 0 ∧ (0 - (1 + j)).natAbs ≤ n := by omega
      refine (s_l2Has (p := 0 - (0 - (1 + j))) ho3.isI (by omega)).mono ?_
      rintro r H4 ⟨rfl, b, rfl, hb⟩
      cases b with
      | true =>
        simp (maxSteps := 2000000) (disch := first | omega | assumption | exact idP rfl | exact idP (bL rfl) | (simp only [alloc_size, upd_size] <;> omega) | fail) only [go_sem, reduceIte, Nat.reduceEqDiff, e8]
        exact hK _ _ ⟨i + 1, xs, q + 1 + 1, by omega, by simp (maxSteps := 2000000) (disch := first | omega | assumption | exact idP rfl | exact idP (bL rfl) | (simp only [alloc_size, upd_size] <;> omega) | fail) only [go_sem, reduceIte, Nat.reduceEqDiff, e0], by simp (maxSteps := 2000000) (disch := first | omega | assumption | exact idP rfl | exact idP (bL rfl) | (simp only [alloc_size, upd_size] <;> omega) | fail) only [go_sem, reduceIte, Nat.reduceEqDiff, e1], by simp (maxSteps := 2000000) (disch := first | omega | assumption | exact idP rfl | exact idP (bL rfl) | (simp only [alloc_size, upd_size] <;> omega) | fail) only [go_sem, reduceIte, Nat.reduceEqDiff, e2], by simp (maxSteps := 2000000) (disch := first | omega | assumption | exact idP rfl | exact idP (bL rfl) | (simp only [alloc_size, upd_size] <;> omega) | fail) only [go_sem, reduceIte, Nat.reduceEqDiff]; rfl, by omega, hlits, by simp (maxSteps := 2000000) (disch := first | omega | assumption | exact idP rfl | exact idP (bL rfl) | (simp only [alloc_size, upd_size] <;> omega) | fail) only [go_sem, reduceIte, Nat.reduceEqDiff]; exact ho3, by simp (maxSteps := 2000000) (disch := first | omega | assumption | exact idP rfl | exact idP (bL rfl) | (simp only [alloc_size, upd_size] <;> omega) | fail) only [go_sem, reduceIte, Nat.reduceEqDiff]; exact hnew, hm3, by omega, by omega, by simp (maxSteps := 2000000) (disch := first | omega | assumption | exact idP rfl | exact idP (bL rfl) | (simp only [alloc_size, upd_size] <;> omega) | fail) only [go_sem, reduceIte, Nat.reduceEqDiff]; exact hle3⟩ (by simp (maxSteps := 2000000) (disch := first | omega | assumption | exact idP rfl | exact idP (bL rfl) | (simp only [alloc_size, upd_size] <;> omega) | fail) only [go_sem, reduceIte, Nat.reduceEqDiff, ctr_int, e8']; omega)
      | false =>
        simp (maxSteps := 2000000) (disch := first | omega | assumption | exact idP rfl | exact idP (bL rfl) | (simp only [alloc_size, upd_size] <;> omega) | fail) only [go_sem, reduceIte, Nat.reduceEqDiff]
        refine app1 ho3 (hle3.trans (Le.kill _ _)) hnew rfl (by simp only [List.length_map]; omega) (by omega) ?_
        intro s H5 hs hle5 hn5 hst
        simp (maxSteps := 2000000) (disch := first | omega | assumption | exact idP rfl | exact idP (bL rfl) | (simp only [alloc_size, upd_size] <;> omega) | fail) only [go_sem, reduceIte, Nat.reduceEqDiff, e8]
        refine hK _ _ ⟨i + 1, xs ++ [0 - (1 + j)], q + 1 + 1, by omega, by simp (maxSteps := 2000000) (disch := first | omega | assumption | exact idP rfl | exact idP (bL rfl) | (simp only [alloc_size, upd_size] <;> omega) | fail) only [go_sem, reduceIte, Nat.reduceEqDiff, e0], by simp (maxSteps := 2000000) (disch := first | omega | assumption | exact idP rfl | exact idP (bL rfl) | (simp only [alloc_size, upd_size] <;> omega) | fail) only [go_sem, reduceIte, Nat.reduceEqDiff, e1], by simp (maxSteps := 2000000) (disch := first | omega | assumption | exact idP rfl | exact idP (bL rfl) | (simp only [alloc_size, upd_size] <;> omega) | fail) only [go_sem, reduceIte, Nat.reduceEqDiff, e2], by simp (maxSteps := 2000000) (disch := first | omega | assumption | exact idP rfl | exact idP (bL rfl) | (simp only [alloc_size, upd_size] <;> omega) | fail) only [go_sem, reduceIte, Nat.reduceEqDiff]; rfl, by simp; omega, fun z hz => ?_, by simp (maxSteps := 2000000) (disch := first | omega | assumption | exact idP rfl | exact idP (bL rfl) | (simp only [alloc_size, upd_size] <;> omega) | fail) only [go_sem, reduceIte, Nat.reduceEqDiff]; rw [List.map_append]; exact hs, by simp (maxSteps := 2000000) (disch := first | omega | assumption | exact idP rfl | exact idP (bL rfl) | (simp only [alloc_size, upd_size] <;> omega) | fail) only [go_sem, reduceIte, Nat.reduceEqDiff]; exact hn5, (base_le _ _).rwCells (hst.rwCells (base_rw hap hm3)), by omega, by omega, ?_⟩ (by simp (maxSteps := 2000000) (disch := first | omega | assumption | exact idP rfl | exact idP (bL rfl) | (simp only [alloc_size, upd_size] <;> omega) | fail) only [go_sem, reduceIte, Nat.reduceEqDiff, ctr_int, e8']; omega)
        · rcases List.mem_append.1 hz with hz | hz
          · exact hlits z hz
          · simp only [List.mem_singleton] at hz; subst hz; exact hyl
        · simp (maxSteps := 2000000) (disch := first | omega | assumption | exact idP rfl | exact idP (bL rfl) | (simp only [alloc_size, upd_size] <;> omega) | fail) only [go_sem, reduceIte, Nat.reduceEqDiff]
          have := hle5.kills rb
          rwa [kill_kill] at this
    · simp (maxSteps := 2000000) (disch := first | omega | assumption | exact idP rfl | exact idP (bL rfl) | (simp only [alloc_size, upd_size] <;> omega) | fail) only [go_sem, reduceIte, Nat.reduceEqDiff]
      have hyl : (1 + j) ≠ 0 ∧ (1 + j).natAbs ≤ n := by omega
      refine (s_l2Has (p := 0 - (1 + j)) ho3.isI (by omega)).mono ?_
      rintro r H4 ⟨rfl, b, rfl, hb⟩
      cases b with
      | true =>
        simp (maxSteps := 2000000) (disch := first | omega | assumption | exact idP rfl | exact idP (bL rfl) | (simp only [alloc_size, upd_size] <;> omega) | fail) only [go_sem, reduceIte, Nat.reduceEqDiff, e8]
        exact hK _ _ ⟨i + 1, xs, q + 1 + 1, by omega, by simp (maxSteps := 2000000) (disch := first | omega | assumption | exact idP rfl | exact idP (bL rfl) | (simp only [alloc_size, upd_size] <;> omega) | fail) only [go_sem, reduceIte, Nat.reduceEqDiff, e0], by simp (maxSteps := 2000000) (disch := first | omega | assumption | exact idP rfl | exact idP (bL rfl) | (simp only [alloc_size, upd_size] <;> omega) | fail) only [go_sem, reduceIte, Nat.reduceEqDiff, e1], by simp (maxSteps := 2000000) (disch := first | omega | assumption | exact idP rfl | exact idP (bL rfl) | (simp only [alloc_size, upd_size] <;> omega) | fail) only [go_sem, reduceIte, Nat.reduceEqDiff, e2], by simp (maxSteps := 2000000) (disch := first | omega | assumption | exact idP rfl | exact idP (bL rfl) | (simp only [alloc_size, upd_size] <;> omega) | fail) only [go_sem, reduceIte, Nat.reduceEqDiff]; rfl, by omega, hlits, by simp (maxSteps := 2000000) (disch := first | omega | assumption | exact idP rfl | exact idP (bL rfl) | (simp only [alloc_size, upd_size] <;> omega) | fail) only [go_sem, reduceIte, Nat.reduceEqDiff]; exact ho3, by simp (maxSteps := 2000000) (disch := first | omega | assumption | exact idP rfl | exact idP (bL rfl) | (simp only [alloc_size, upd_size] <;> omega) | fail) only [go_sem, reduceIte, Nat.reduceEqDiff]; exact hnew, hm3, by omega, by omega, by simp (maxSteps := 2000000) (disch := first | omega | assumption | exact idP rfl | exact idP (bL rfl) | (simp only [alloc_size, upd_size] <;> omega) | fail) only [go_sem, reduceIte, Nat.reduceEqDiff]; exact hle3⟩ (by simp (maxSteps := 2000000) (disch := first | omega | assumption | exact idP rfl | exact idP (bL rfl) | (simp only [alloc_size, upd_size] <;> omega) | fail) only [go_sem, reduceIte, Nat.reduceEqDiff, ctr_int, e8']; omega)
      | false =>
        simp (maxSteps := 2000000) (disch := first | omega | assumption | exact idP rfl | exact idP (bL rfl) | (simp only [alloc_size, upd_size] <;> omega) | fail) only [go_sem, reduceIte, Nat.reduceEqDiff]
        refine app1 ho3 (hle3.trans (Le.kill _ _)) hnew rfl (by simp only [List.length_map]; omega) (by omega) ?_
        intro s H5 hs hle5 hn5 hst
        simp (maxSteps := 2000000) (disch := first | omega | assumption | exact idP rfl | exact idP (bL rfl) | (simp only [alloc_size, upd_size] <;> omega) | fail) only [go_sem, reduceIte, Nat.reduceEqDiff, e8]
        refine hK _ _ ⟨i + 1, xs ++ [1 + j], q + 1 + 1, by omega, by simp (maxSteps := 2000000) (disch := first | omega | assumption | exact idP rfl | exact idP (bL rfl) | (simp only [alloc_size, upd_size] <;> omega) | fail) only [go_sem, reduceIte, Nat.reduceEqDiff, e0], by simp (maxSteps := 2000000) (disch := first | omega | assumption | exact idP rfl | exact idP (bL rfl) | (simp only [alloc_size, upd_size] <;> omega) | fail) only [go_sem, reduceIte, Nat.reduceEqDiff, e1], by simp (maxSteps := 2000000) (disch := first | omega | assumption | exact idP rfl | exact idP (bL rfl) | (simp only [alloc_size, upd_size] <;> omega) | fail) only [go_sem, reduceIte, Nat.reduceEqDiff, e2], by simp (maxSteps := 2000000) (disch := first | omega | assumption | exact idP rfl | exact idP (bL rfl) | (simp only [alloc_size, upd_size] <;> omega) | fail) only [go_sem, reduceIte, Nat.reduceEqDiff]; rfl, by simp; omega, fun z hz => ?_, by simp (maxSteps := 2000000) (disch := first | omega | assumption | exact idP rfl | exact idP (bL rfl) | (simp only [alloc_size, upd_size] <;> omega) | fail) only [go_sem, reduceIte, Nat.reduceEqDiff]; rw [List.map_append]; exact hs, by simp (maxSteps := 2000000) (disch := first | omega | assumption | exact idP rfl | exact idP (bL rfl) | (simp only [alloc_size, upd_size] <;> omega) | fail) only [go_sem, reduceIte, Nat.reduceEqDiff]; exact hn5, (base_le _ _).rwCells (hst.rwCells (base_rw hap hm3)), by omega, by omega, ?_⟩ (by simp (maxSteps := 2000000) (disch := first | omega | assumption | exact idP rfl | exact idP (bL rfl) | (simp only [alloc_size, upd_size] <;> omega) | fail) only [go_sem, reduceIte, Nat.reduceEqDiff, ctr_int, e8']; omega)
        · rcases List.mem_append.1 hz with hz | hz
          · exact hlits z hz
          · simp only [List.mem_singleton] at hz; subst hz; exact hyl
        · simp (maxSteps := 2000000) (disch := first | omega | assumption | exact idP rfl | exact idP (bL rfl) | (simp only [alloc_size, upd_size] <;> omega) | fail) only [go_sem, reduceIte, Nat.reduceEqDiff]
          have := hle5.kills rb
          rwa [kill_kill] at this
  · have ex : ∀ (H2 : Heap) (e2' : Env), True := fun _ _ => trivial
    by_cases hik : (i : Int) < (k : Int)
    · have hn0 : ¬ (0 : Int) < (n : Int) := fun h => hc ⟨hik, h⟩
      simp (maxSteps := 2000000) (disch := first | omega | assumption | exact idP rfl | exact idP (bL rfl) | (simp only [alloc_size, upd_size] <;> omega) | fail) only [go_sem, reduceIte, Nat.reduceEqDiff, e1, e2, e8, hik, hn0, decide_true, decide_false]
      refine (fin q H1 hle ho hm hq0 (by omega)).mono ?_
      rintro r H3 ⟨u, b, rfl, ys, p', z1, z2, z3, z4, z5, z6⟩
      simp (maxSteps := 2000000) (disch := first | omega | assumption | exact idP rfl | exact idP (bL rfl) | (simp only [alloc_size, upd_size] <;> omega) | fail) only [go_sem, reduceIte, Nat.reduceEqDiff]
      exact hR _ _ ⟨ys, p', z1, z2, z3, z4, z5, z6⟩
    · simp (maxSteps := 2000000) (disch := first | omega | assumption | exact idP rfl | exact idP (bL rfl) | (simp only [alloc_size, upd_size] <;> omega) | fail) only [go_sem, reduceIte, Nat.reduceEqDiff, e1, e2, e8, hik, decide_false]
      refine (fin q H1 hle ho hm hq0 (by omega)).mono ?_
      rintro r H3 ⟨u, b, rfl, ys, p', z1, z2, z3, z4, z5, z6⟩
      simp (maxSteps := 2000000) (disch := first | omega | assumption | exact idP rfl | exact idP (bL rfl) | (simp only [alloc_size, upd_size] <;> omega) | fail) only [go_sem, reduceIte, Nat.reduceEqDiff]
      exact hR _ _ ⟨ys, p', z1, z2, z3, z4, z5, z6⟩
end Go.M2

namespace Go.M2
open Go.Proofs
variable {H : Heap}
theorem isII_of {B : Heap} {p : AV} {pc : List AV} {P : List (List Int)} (h0 : Le B H) (hown : Own 1 H p pc) (hlen : pc.length = P.length) (hel : ∀ i (h : i < P.length), ∃ u, pc[i]? = some u ∧ IsI B u P[i]) : IsII H p P := by
  obtain ⟨A, n, ex, k, rfl, h1, h2, h3⟩ := hown
  have hrd := Own.rd (⟨⟨A, n, ex, k, rfl, h1, h2, h3⟩⟩ : Own 1 H (.sl A n n ex k) pc)
  have hn : n = P.length := by omega
  subst hn
  refine ⟨A, P.length, ex, k, rfl, fun i hi => ?_⟩
  obtain ⟨u, h4, h5⟩ := hel i hi
  refine ⟨[u], rfl, fun j z hj => ?_, u, rfl, h5.le h0⟩
  cases j with
  | zero =>
    simp at hj; subst hj
    simpa using hrd i u h4
  | succ j => simp at hj
theorem PL.isII {B : Heap} {p : AV} {P : List (List Int)} (h : PL B H p P) : IsII H p P := by
  obtain ⟨h0, pc, h1, h2, h3⟩ := h
  exact isII_of (h0.trans (base_le _ _)) h1 h2 h3
theorem PLO.isII {lo : Nat} {B : Heap} {p : AV} {P : List (List Int)} (h : PLO lo B H p P) : IsII H p P := by
  obtain ⟨h0, _, pc, h1, h2, h3, _⟩ := h
  refine isII_of (h0.trans (base_le _ _)) h1 h2 fun i hi => ?_
  obtain ⟨u, q1, q2, _⟩ := h3 i hi
  exact ⟨u, q1, q2.isI⟩
theorem PLO.few {lo : Nat} {B : Heap} {p : AV} {P : List (List Int)} (h : PLO lo B H p P) : ∀ c ∈ P, c.length ≤ 1048576 := by
  obtain ⟨h0, _, pc, h1, h2, h3, _⟩ := h
  intro c hc
  obtain ⟨i, hi, rfl⟩ := List.getElem_of_mem hc
  obtain ⟨u, q1, q2, q3, q4⟩ := h3 i hi
  omega
theorem PLO.lower {lo lo' : Nat} {B : Heap} {p : AV} {P : List (List Int)} (h : PLO lo B H p P) (hl : lo' ≤ lo) : PLO lo' B H p P := by
  obtain ⟨h0, hs, pc, h1, h2, h3, h4⟩ := h
  refine ⟨h0, by omega, pc, h1, h2, fun i hi => ?_, h4⟩
  obtain ⟨u, q1, q2, q3, q4⟩ := h3 i hi
  exact ⟨u, q1, q2, q3.mono hl, q4⟩
end Go.M2

namespace Go.M2
open Go.Proofs
variable {H : Heap}
set_option maxHeartbeats 8000000 in
theorem s_l11Draw {rb : Nat} {w : AV} {code : List Int} {p : Int} {n k : Nat} (hr : Rdr H rb w code p) (h1 : p ≤ 900000000000) (hn : n ≤ 700) (hk : k ≤ 700) :
    ACall Try.prog n_Z59 [.ptr (some (rb, 0)), .int .i64 (n : Int), .int .i64 (k : Int)] H (fun r H' => ∃ (v : AV) (P : List (List Int)) (p' : Int) (B : Heap), r = .agg [.int .i64 (n : Int), v] ∧ PLO H.size B H' v P ∧ P.length = k ∧ Le (H.kill rb) B ∧ B.blk rb = .dead ∧ (base H' v).rwCells rb = some [w, .int .i64 p'] ∧ 0 ≤ p' ∧ p' ≤ p + 20 * k) := by
  refine ACall.of fun R hR => a_Z59 rfl ?_
  have hrb := (Heap.rwCells_blk hr.m).1
  have hw0 := hr.hw
  simp (maxSteps := 2000000) (disch := first | omega | assumption | exact idP rfl | exact idP (bL rfl) | (simp only [alloc_size, upd_size] <;> omega) | fail) only [go_sem, reduceIte, Nat.reduceEqDiff]
  generalize hG0 : (((H.alloc [AV.int .i64 0, .sl none 0 0 true 0]).alloc [AV.int .i64 0, .sl none 0 0 true 0]).upd (H.size + 1) (.cells [.int .i64 (n : Int), .sl none 0 0 true 0] true)) = G0
  have hG0s : G0.size = H.size + 1 + 1 := by rw [← hG0]; rfl
  have hLG : Le H G0 := by rw [← hG0]; exact ((Le.refl _).allocs.allocs).updFresh (by omega)
  have hne1 : rb ≠ H.size := by omega
  have hne2 : rb ≠ H.size + 1 := by omega
  have c0 : G0.rwCells H.size = some [.int .i64 0, .sl none 0 0 true 0] := by rw [← hG0]; simp (maxSteps := 2000000) (disch := first | omega | assumption | exact idP rfl | exact idP (bL rfl) | (simp only [alloc_size, upd_size] <;> omega) | fail) only [go_sem, reduceIte, Nat.reduceEqDiff]
  have c1 : G0.rwCells (H.size + 1) = some [.int .i64 (n : Int), .sl none 0 0 true 0] := by rw [← hG0]; simp (maxSteps := 2000000) (disch := first | omega | assumption | exact idP rfl | exact idP (bL rfl) | (simp only [alloc_size, upd_size] <;> omega) | fail) only [go_sem, reduceIte, Nat.reduceEqDiff]
  have hB0 : Le (((G0.kill rb).kill H.size).kill (H.size + 1)) G0 := ((Le.kill _ _).trans (Le.kill _ _)).trans (Le.kill _ _)
  have hHB : Le (H.kill rb) (((G0.kill rb).kill H.size).kill (H.size + 1)) := ((hLG.kills rb).killFresh (Nat.le_refl _)).killFresh (Nat.le_succ _)
  refine wp_loop_k (fun e H' => ∃ (i : Nat) (P : List (List Int)) (q : Int) (B : Heap) (v : AV), i ≤ k ∧ e 0 = .ptr (some (rb, 0)) ∧ e 1 = .int .i64 (n : Int) ∧ e 2 = .int .i64 (k : Int) ∧ e 6 = .ptr (some (H.size, 0)) ∧ e 7 = .ptr (some (H.size + 1, 0)) ∧ e 8 = .int .i64 (i : Int) ∧ PLO H.size B H' v P ∧ P.length = i ∧ Le (H.kill rb) B ∧ H.size + 1 < B.size ∧ B.blk rb = .dead ∧ B.blk H.size = .dead ∧ B.blk (H.size + 1) = .dead ∧
    (base H' v).rwCells (H.size + 1) = some [.int .i64 (n : Int), v] ∧ (base H' v).rwCells H.size = some [.int .i64 0, .sl none 0 0 true 0] ∧ (base H' v).rwCells rb = some [w, .int .i64 q] ∧ 0 ≤ q ∧ q ≤ p + 20 * i) (fun e _ => ctr k (e 8)) ?_ ?_
  · refine ⟨0, [], p, ((G0.kill rb).kill H.size).kill (H.size + 1), .sl none 0 0 true 0, Nat.zero_le _, by simp (maxSteps := 2000000) (disch := first | omega | assumption | exact idP rfl | exact idP (bL rfl) | (simp only [alloc_size, upd_size] <;> omega) | fail) only [go_sem, reduceIte, Nat.reduceEqDiff], by simp (maxSteps := 2000000) (disch := first | omega | assumption | exact idP rfl | exact idP (bL rfl) | (simp only [alloc_size, upd_size] <;> omega) | fail) only [go_sem, reduceIte, Nat.reduceEqDiff], by simp (maxSteps := 2000000) (disch := first | omega | assumption | exact idP rfl | exact idP (bL rfl) | (simp only [alloc_size, upd_size] <;> omega) | fail) only [go_sem, reduceIte, Nat.reduceEqDiff], by simp (maxSteps := 2000000) (disch := first | omega | assumption | exact idP rfl | exact idP (bL rfl) | (simp only [alloc_size, upd_size] <;> omega) | fail) only [go_sem, reduceIte, Nat.reduceEqDiff], by simp (maxSteps := 2000000) (disch := first | omega | assumption | exact idP rfl | exact idP (bL rfl) | (simp only [alloc_size, upd_size] <;> omega) | fail) only [go_sem, reduceIte, Nat.reduceEqDiff], by simp (maxSteps := 2000000) (disch := first | omega | assumption | exact idP rfl | exact idP (bL rfl) | (simp only [alloc_size, upd_size] <;> omega) | fail) only [go_sem, reduceIte, Nat.reduceEqDiff]; rfl, ⟨hB0, by show H.size ≤ G0.size; omega, [], Own.nil, rfl, fun i h => by simp at h, fun i j u v h1 h2 => by simp at h2⟩, rfl, hHB, by show H.size + 1 < G0.size; omega, ?_, ?_, kill_dead _ _, c1, c0, hLG.rwCells hr.m, hr.lo, by omega⟩
    · rw [kill_ne hne2, kill_ne hne1, kill_dead]
    · rw [kill_ne (by omega), kill_dead]
  rintro e H1 ⟨i, P, q, B, v, hi, e0, e1, e2, e6, e7, e8, hpl, hPi, hHB', hsB, hdr, hd6, hd7, w7, w6, wr, hq0, hq1⟩ K hK
  simp (maxSteps := 2000000) (disch := first | omega | assumption | exact idP rfl | exact idP (bL rfl) | (simp only [alloc_size, upd_size] <;> omega) | fail) only [go_sem, reduceIte, Nat.reduceEqDiff, e2, e8]
  have a7 := apart_of w7
  have a6 := apart_of w6
  have ar := apart_of wr
  refine condV_dec (fun h => ?_) (fun h => ?_)
  · have e8' := e8
    have x7 := (base_le _ _).rwCells w7
    obtain ⟨y1, y2⟩ := Heap.rwCells_blk x7
    have l1 : H1.get (H.size + 1) 1 = some v := Rd.blk y1 y2 1 _ rfl
    have hBH : Le B H1 := hpl.1.trans (base_le _ _)
    simp (maxSteps := 2000000) (disch := first | omega | assumption | exact idP rfl | exact idP (bL rfl) | (simp only [alloc_size, upd_size] <;> omega) | fail) only [go_sem, reduceIte, Nat.reduceEqDiff, e0, e1, e7, l1]
    obtain ⟨pc1, own1, _⟩ := hpl.own
    have kB : ∀ X : Heap, Le B X → Le (H.kill rb) (X.kill rb) := fun X hX => hHB'.trans (hX.updDead hdr .dead)
    have hsB1 : B.size ≤ H1.size := hBH.1
    have hrb1 : rb < H1.size := by omega
    generalize hHa : (H1.alloc ((((((((zeros [AV.int .i64 0] 7).set 0 (.int .i64 2)).set 1 (.int .i64 3)).set 2 (.int .i64 3)).set 3 (.int .i64 2)).set 4 (.int .i64 1)).set 5 (.int .i64 3)).set 6 (.int .i64 4))) = Ha
    have hLa : Le H1 Ha := by rw [← hHa]; exact Le.alloc _ _
    have hsa : Ha.size = H1.size + 1 := by rw [← hHa]; rfl
    have hba : Ha.blk H1.size = .cells (([2, 3, 3, 2, 1, 3, 4] : List Int).map (AV.int .i64)) true := by rw [← hHa, alloc_new]; rfl
    have hra : Rdr Ha rb w code q := ⟨hw0.le mono_B (kB _ (hBH.trans hLa)), hr.l, hLa.rwCells ((base_le _ _).rwCells wr), hq0⟩
    have hla : IsI (Ha.kill rb) (.sl (some (H1.size, 0)) 7 7 true 1) [2, 3, 3, 2, 1, 3, 4] :=
      (⟨⟨some (H1.size, 0), 7, true, 1, rfl, rfl, fun h => (nomatch h), fun b o e => by cases e; exact ⟨rfl, rfl, by show H1.size < Ha.size; omega, by rw [kill_ne (by omega)]; exact hba⟩⟩⟩ : Own 1 (Ha.kill rb) (.sl (some (H1.size, 0)) 7 7 true 1) (([2, 3, 3, 2, 1, 3, 4] : List Int).map (AV.int .i64))).isI
    refine (s_num hra (by omega) hla (by simp)).mono ?_
    rintro r H2 ⟨rfl, x, hx, rfl⟩
    have hx14 : 1 ≤ x ∧ x ≤ 4 := by simp at hx; omega
    obtain ⟨kx, rfl⟩ : ∃ kx : Nat, x = kx := ⟨x.toNat, by omega⟩
    have hr2 := hra.upd (q := q + 1) (by omega)
    have l2 : (Ha.upd rb (.cells [w, .int .i64 (q + 1)] true)).get (H.size + 1) 1 = some v := by rw [get_upd_ne (by omega)]; exact hLa.get l1
    have hp2 : PLO H.size B ((Ha.upd rb (.cells [w, .int .i64 (q + 1)] true)).kill rb) v P := by
      rw [upd_kill]
      exact (hpl.le hLa).upd ar hdr
    have x72 : ((Ha.upd rb (.cells [w, .int .i64 (q + 1)] true)).kill rb).rwCells (H.size + 1) = some [.int .i64 (n : Int), v] := by
      rw [upd_kill]
      have := hLa.rwCells x7
      obtain ⟨z1, z2⟩ := Heap.rwCells_blk this
      exact rwCells_of z1 (by rw [kill_ne (by omega)]; exact z2)
    have x62 : ((Ha.upd rb (.cells [w, .int .i64 (q + 1)] true)).kill rb).rwCells H.size = some [.int .i64 0, .sl none 0 0 true 0] := by
      rw [upd_kill]
      have := hLa.rwCells ((base_le _ _).rwCells w6)
      obtain ⟨z1, z2⟩ := Heap.rwCells_blk this
      exact rwCells_of z1 (by rw [kill_ne (by omega)]; exact z2)
    generalize hH2 : (Ha.upd rb (.cells [w, .int .i64 (q + 1)] true)) = H2 at *
    have hs2 : H2.size = H1.size + 1 := by rw [← hH2]; exact hsa
    simp (maxSteps := 2000000) (disch := first | omega | assumption | exact idP rfl | exact idP (bL rfl) | (simp only [alloc_size, upd_size] <;> omega) | fail) only [go_sem, reduceIte, Nat.reduceEqDiff, l2]
    refine (s_l11Lits (n := n) (k := kx) hr2 (by omega) hn (by omega)).mono ?_
    rintro u H3 ⟨xs, q', ho, hxl, hnu, hr3, hq', hle3⟩
    rw [hs2] at hnu
    have hTo3 : Le ((base H3 u).kill rb) H3 := (Le.kill _ _).trans (base_le _ _)
    have hs3 : H1.size + 1 ≤ H3.size := by
      have := (hle3.trans hTo3).1
      have e : (H2.kill rb).size = H2.size := rfl
      omega
    have hp3 : PLO H.size B H3 v P := (hp2.le hle3).le hTo3
    have x73 := hTo3.rwCells (hle3.rwCells x72)
    have x63 := hTo3.rwCells (hle3.rwCells x62)
    have l3 : H3.get (H.size + 1) 1 = some v := by
      obtain ⟨z1, z2⟩ := Heap.rwCells_blk x73
      exact Rd.blk z1 z2 1 _ rfl
    have hu1 := (oneA_isS ho.isI)
    simp (maxSteps := 2000000) (disch := first | omega | assumption | exact idP rfl | exact idP (bL rfl) | (simp only [alloc_size, upd_size] <;> omega) | fail) only [go_sem, reduceIte, Nat.reduceEqDiff, l3, hu1.2]
    have ndd : Nd B ((B.pad (H1.size + 1)).over H3) := (pad_nd (by omega)).trans (over_nd (by rw [pad_size]; exact hs3))
    have hB1 : Le ((B.pad (H1.size + 1)).over H3) (base H3 v) := over_le (pad_le hp3.1 (by rw [base_size]; exact hs3)) base_size.symm fun b hb' => by
      rw [pad_size] at hb'
      exact base_blk (apart_fresh own1 (by omega))
    have huF : Own 1 ((B.pad (H1.size + 1)).over H3) u (xs.map (AV.int .i64)) := (ho.later (n := H1.size + 1) hnu).le (by have := later_over (B.pad (H1.size + 1)) H3; rwa [pad_size] at this)
    refine plo_app hp3 ndd.1 hB1 huF (hnu.mono (by omega)) hxl (by omega) (by omega) ?_
    intro p' H4 hp4 hle4
    have w74 := hle4.rwCells (base_rw a7 x73)
    have w64 := hle4.rwCells (base_rw a6 x63)
    have wr4 := hle4.rwCells (base_rw ar hr3.m)
    have b7 := apart_of w74
    have b6 := apart_of w64
    have br := apart_of wr4
    have hp4o := hp4.one.1
    have x74 := (base_le _ _).rwCells w74
    have z74 := (Heap.rwCells_blk x74).1
    simp (maxSteps := 2000000) (disch := first | omega | assumption | exact idP rfl | exact idP (bL rfl) | (simp only [alloc_size, upd_size] <;> omega) | fail) only [go_sem, reduceIte, Nat.reduceEqDiff, e7, e8, x74, hp4.one.2]
    refine hK _ _ ⟨i + 1, P ++ [xs], q', _, p', by omega, by simp (maxSteps := 2000000) (disch := first | omega | assumption | exact idP rfl | exact idP (bL rfl) | (simp only [alloc_size, upd_size] <;> omega) | fail) only [go_sem, reduceIte, Nat.reduceEqDiff, e0], by simp (maxSteps := 2000000) (disch := first | omega | assumption | exact idP rfl | exact idP (bL rfl) | (simp only [alloc_size, upd_size] <;> omega) | fail) only [go_sem, reduceIte, Nat.reduceEqDiff, e1], by simp (maxSteps := 2000000) (disch := first | omega | assumption | exact idP rfl | exact idP (bL rfl) | (simp only [alloc_size, upd_size] <;> omega) | fail) only [go_sem, reduceIte, Nat.reduceEqDiff, e2], by simp (maxSteps := 2000000) (disch := first | omega | assumption | exact idP rfl | exact idP (bL rfl) | (simp only [alloc_size, upd_size] <;> omega) | fail) only [go_sem, reduceIte, Nat.reduceEqDiff, e6], by simp (maxSteps := 2000000) (disch := first | omega | assumption | exact idP rfl | exact idP (bL rfl) | (simp only [alloc_size, upd_size] <;> omega) | fail) only [go_sem, reduceIte, Nat.reduceEqDiff, e7], by simp (maxSteps := 2000000) (disch := first | omega | assumption | exact idP rfl | exact idP (bL rfl) | (simp only [alloc_size, upd_size] <;> omega) | fail) only [go_sem, reduceIte, Nat.reduceEqDiff]; rfl, hp4.upd b7 (ndd.2 _ hsB hd7), by simp [hPi], hHB'.trans ndd.1, Nat.lt_of_lt_of_le hsB ndd.1.1, ndd.2 _ (by omega) hdr, ndd.2 _ (by omega) hd6, ndd.2 _ hsB hd7, base_rw b7 (by simp (maxSteps := 2000000) (disch := first | omega | assumption | exact idP rfl | exact idP (bL rfl) | (simp only [alloc_size, upd_size] <;> omega) | fail) only [go_sem, reduceIte, Nat.reduceEqDiff]), ?_, ?_, hr3.lo, by omega⟩ (by simp (maxSteps := 2000000) (disch := first | omega | assumption | exact idP rfl | exact idP (bL rfl) | (simp only [alloc_size, upd_size] <;> omega) | fail) only [go_sem, reduceIte, Nat.reduceEqDiff, ctr_int, e8']; omega)
    · rw [base_upd b7, rw_upd_ne (by omega)]; exact w64
    · rw [base_upd b7, rw_upd_ne (by omega)]; exact wr4
  · obtain rfl : i = k := by omega
    have x7 := (base_le _ _).rwCells w7
    obtain ⟨y1, y2⟩ := Heap.rwCells_blk x7
    have l0 : H1.get (H.size + 1) 0 = some (.int .i64 (n : Int)) := Rd.blk y1 y2 0 _ rfl
    have l1 : H1.get (H.size + 1) 1 = some v := Rd.blk y1 y2 1 _ rfl
    have x6 := (base_le _ _).rwCells w6
    have z6 := (Heap.rwCells_blk x6).1
    have hvo := hpl.one.1
    simp (maxSteps := 2000000) (disch := first | omega | assumption | exact idP rfl | exact idP (bL rfl) | (simp only [alloc_size, upd_size] <;> omega) | fail) only [go_sem, reduceIte, Nat.reduceEqDiff, e6, e7, l0, l1, x6, hpl.one.2]
    refine hR _ _ ⟨v, P, q, B, rfl, hpl.upd a6 hd6, hPi, hHB', hdr, ?_, hq0, hq1⟩
    rw [base_upd a6, rw_upd_ne (by omega)]; exact wr
end Go.M2

namespace Go.M2
open Go.Proofs
variable {H : Heap}
theorem plo_lit {lo : Nat} {B : Heap} {v : AV} {P : List (List Int)} (h : PLO lo B H v P) (cl : List Int) (hc : cl.length ≤ 700) (hP : P.length ≤ 1048576) {K : AV → Heap → Prop}
    (hk : ∀ p' H', PLO lo ((B.pad H.size).over (H.alloc (cl.map (AV.int .i64)))) H' p' (P ++ [cl]) → Le (base H v) (base H' p') → K p' H') :
    appP 1 24 v (.sl (some (H.size + 1, 0)) 1 1 true 1) ((H.alloc (cl.map (AV.int .i64))).alloc [.sl (some (H.size, 0)) cl.length cl.length true 1]) K := by
  obtain ⟨pc, own1, _⟩ := h.own
  have hBH : Le B H := h.1.trans (base_le _ _)
  have hsB := hBH.1
  have hp1 : PLO lo B (H.alloc (cl.map (AV.int .i64))) v P := h.le (Le.alloc _ _)
  have ndd : Nd B ((B.pad H.size).over (H.alloc (cl.map (AV.int .i64)))) := (pad_nd hsB).trans (over_nd (by rw [pad_size]; exact Nat.le_succ _))
  have hB1 : Le ((B.pad H.size).over (H.alloc (cl.map (AV.int .i64)))) (base (H.alloc (cl.map (AV.int .i64))) v) := over_le (pad_le hp1.1 (by rw [base_size]; exact Nat.le_succ _)) base_size.symm fun b hb' => by
    rw [pad_size] at hb'
    exact base_blk (apart_fresh own1 hb')
  have ho : Own 1 (H.alloc (cl.map (AV.int .i64))) (.sl (some (H.size, 0)) cl.length cl.length true 1) (cl.map (AV.int .i64)) := Own.new (by simp)
  have huF : Own 1 ((B.pad H.size).over (H.alloc (cl.map (AV.int .i64)))) (.sl (some (H.size, 0)) cl.length cl.length true 1) (cl.map (AV.int .i64)) :=
    (ho.later (n := H.size) (Nat.le_refl _)).le (by have := later_over (B.pad H.size) (H.alloc (cl.map (AV.int .i64))); rwa [pad_size] at this)
  exact plo_app hp1 ndd.1 hB1 huF hsB hc hP (by omega) fun p' H' z1 z2 => hk p' H' z1 ((base_mono (Le.alloc _ _) v).trans z2)
end Go.M2

namespace Go.M2
open Go.Proofs
variable {H : Heap}
def RefRes (n : Int) (xss : List (List Int)) (Q : List (List Int)) (ok : Bool) : Prop :=
  (¬ ClsOk n xss ∧ Q = [] ∧ ok = false) ∨ (ClsOk n xss ∧ ∃ (m : Nat) (res : Res) (P : List (List Int)) (d : Nat), n = m ∧ Try xss m [] [] 0 res P d ∧ ((res = .no ∧ Q = P ∧ ok = true) ∨ (res ≠ .no ∧ Q = [] ∧ ok = false)))
theorem RefRes.det {n : Int} {xss : List (List Int)} {v v' : List (List Int)} {b b' : Bool} (h : RefRes n xss v b) (h' : RefRes n xss v' b') : v = v' ∧ b = b' := by
  rcases h with ⟨h1, rfl, rfl⟩ | ⟨h1, m, res, P, d, rfl, h2, h3⟩
  · rcases h' with ⟨_, rfl, rfl⟩ | ⟨h1', _⟩
    · exact ⟨rfl, rfl⟩
    · exact absurd h1' h1
  · rcases h' with ⟨h1', _⟩ | ⟨_, m', res', P', d', hm, h2', h3'⟩
    · exact absurd h1 h1'
    · obtain rfl : m = m' := by omega
      obtain ⟨rfl, rfl, rfl⟩ := h2.det h2'
      rcases h3 with ⟨h4, rfl, rfl⟩ | ⟨h4, rfl, rfl⟩
      · rcases h3' with ⟨_, rfl, rfl⟩ | ⟨h5, _⟩
        · exact ⟨rfl, rfl⟩
        · exact absurd h4 h5
      · rcases h3' with ⟨h5, _⟩ | ⟨_, rfl, rfl⟩
        · exact absurd h5 h4
        · exact ⟨rfl, rfl⟩
theorem s_specRefute {x : AV} {k : Int} {xss : List (List Int)} (hx : IsCl H x k xss) (hl : xss.length ≤ 1048576) (hxl : ∀ xs ∈ xss, xs.length ≤ 1048576) :
    ACall Try.prog n_Z55 [x] H (fun r H' => Le H H' ∧ ∃ u Q ok, r = .tup [u, .bool ok] ∧ IsII H' u Q ∧ RefRes k xss Q ok) := by
  refine ACall.of fun R hR => a_Z55 rfl ?_
  obtain ⟨fl, rfl, hv⟩ := hx
  have nilI : ∀ H' : Heap, IsII H' (.sl none 0 0 true 0) [] := fun H' => ⟨none, 0, true, 0, rfl, fun i h => by simp at h⟩
  simp (maxSteps := 2000000) (disch := first | omega | assumption | exact idP rfl | exact idP (bL rfl) | (simp only [alloc_size, upd_size] <;> omega) | fail) only [go_sem, reduceIte, Nat.reduceEqDiff]
  have hcl : IsCl (H.alloc [.int .i64 k, fl]) (.agg [.int .i64 k, fl]) k xss := ⟨fl, rfl, hv.le (Le.alloc _ _)⟩
  refine (s_specClausesValid hcl hl hxl).mono ?_
  rintro r H1 ⟨hle1, b, rfl, hb⟩
  have hH1 := (Le.alloc H [.int .i64 k, fl]).trans hle1
  cases b with
  | false =>
    have hnot : ¬ ClsOk k xss := fun h => by have := hb.2 h; cases this
    simp (maxSteps := 2000000) (disch := first | omega | assumption | exact idP rfl | exact idP (bL rfl) | (simp only [alloc_size, upd_size] <;> omega) | fail) only [go_sem, reduceIte, Nat.reduceEqDiff]
    exact hR _ _ ⟨hH1, _, [], false, rfl, nilI _, .inl ⟨hnot, rfl, rfl⟩⟩
  | true =>
    have hok := hb.1 rfl
    obtain ⟨n, rfl⟩ : ∃ n : Nat, k = n := ⟨k.toNat, by have := hok.lo; omega⟩
    have g0 : H1.get H.size 0 = some (.int .i64 (n : Int)) := hle1.get (by simp (maxSteps := 2000000) (disch := first | omega | assumption | exact idP rfl | exact idP (bL rfl) | (simp only [alloc_size, upd_size] <;> omega) | fail) only [go_sem, reduceIte, Nat.reduceEqDiff])
    have g1 : H1.get H.size 1 = some fl := hle1.get (by simp (maxSteps := 2000000) (disch := first | omega | assumption | exact idP rfl | exact idP (bL rfl) | (simp only [alloc_size, upd_size] <;> omega) | fail) only [go_sem, reduceIte, Nat.reduceEqDiff])
    simp (maxSteps := 2000000) (disch := first | omega | assumption | exact idP rfl | exact idP (bL rfl) | (simp only [alloc_size, upd_size] <;> omega) | fail) only [go_sem, reduceIte, Nat.reduceEqDiff, g0, g1]
    refine (s_l12Search (hcl.le hle1) hok hl hxl).mono ?_
    rintro r H2 ⟨res, P', d', fl', p', w, ok, ct, B', htry, rfl, hle2, hof, hop, how, hno, hcut, hsat⟩
    have hc1 : cellsOf p' = some [p'] := by cases p' <;> first | rfl | cases hop
    have hc2 : cellsOf fl' = some [fl'] := by cases fl' <;> first | rfl | cases hof
    simp (maxSteps := 2000000) (disch := first | omega | assumption | exact idP rfl | exact idP (bL rfl) | (simp only [alloc_size, upd_size] <;> omega) | fail) only [go_sem, reduceIte, Nat.reduceEqDiff, hc1, hc2]
    have hH2 := hH1.trans hle2
    cases res with
    | cut =>
      obtain ⟨rfl, rfl, rfl⟩ := hcut rfl
      simp (maxSteps := 2000000) (disch := first | omega | assumption | exact idP rfl | exact idP (bL rfl) | (simp only [alloc_size, upd_size] <;> omega) | fail) only [go_sem, reduceIte, Nat.reduceEqDiff]
      exact hR _ _ ⟨hH2.allocs.updFresh hH2.1, _, [], false, rfl, nilI _, .inr ⟨hok, n, .cut, P', d', rfl, htry, .inr ⟨by simp, rfl, rfl⟩⟩⟩
    | no =>
      obtain ⟨rfl, rfl, hpl, rfl⟩ := hno rfl
      simp (maxSteps := 2000000) (disch := first | omega | assumption | exact idP rfl | exact idP (bL rfl) | (simp only [alloc_size, upd_size] <;> omega) | fail) only [go_sem, reduceIte, Nat.reduceEqDiff]
      exact hR _ _ ⟨hH2.allocs.updFresh hH2.1, p', P', true, rfl, hpl.isII.le ((Le.refl H2).allocs.updFresh (Nat.le_refl _)), .inr ⟨hok, n, .no, P', d', rfl, htry, .inl ⟨rfl, rfl, rfl⟩⟩⟩
    | sat m =>
      obtain ⟨rfl, rfl, hw, hB⟩ := hsat m rfl
      simp (maxSteps := 2000000) (disch := first | omega | assumption | exact idP rfl | exact idP (bL rfl) | (simp only [alloc_size, upd_size] <;> omega) | fail) only [go_sem, reduceIte, Nat.reduceEqDiff]
      exact hR _ _ ⟨hH2.allocs.updFresh hH2.1, _, [], false, rfl, nilI _, .inr ⟨hok, n, .sat m, P', d', rfl, htry, .inr ⟨by simp, rfl, rfl⟩⟩⟩
theorem s_implCloneS {v : AV} {pc : List AV} (hv : Own 1 H v pc) (ho : pc.all oneA = true) (hl : pc.length ≤ 1048576) :
    ACall Try.prog n_Z13 [v] H (fun r H' => Own 1 H' r pc ∧ Le H (base H' r) ∧ newer H.size r) := by
  refine ACall.of fun R hR => a_Z13 rfl ?_
  have hv' := hv
  obtain ⟨A, n, ex, k, rfl, h1, h2, h3⟩ := hv'
  have hrd := Own.rd hv
  have hn : n = pc.length := by omega
  subst hn
  simp (maxSteps := 2000000) (disch := first | omega | assumption | exact idP rfl | exact idP (bL rfl) | (simp only [alloc_size, upd_size] <;> omega) | fail) only [go_sem, reduceIte, Nat.reduceEqDiff]
  refine condV_dec (fun h => ?_) (fun h => ?_)
  · have : pc = [] := List.eq_nil_of_length_eq_zero (by omega)
    subst this
    simp (maxSteps := 2000000) (disch := first | omega | assumption | exact idP rfl | exact idP (bL rfl) | (simp only [alloc_size, upd_size] <;> omega) | fail) only [go_sem, reduceIte, Nat.reduceEqDiff]
    exact hR _ _ ⟨Own.nil, Le.refl _, trivial⟩
  · simp (maxSteps := 2000000) (disch := first | omega | assumption | exact idP rfl | exact idP (bL rfl) | (simp only [alloc_size, upd_size] <;> omega) | fail) only [go_sem, reduceIte, Nat.reduceEqDiff]
    refine mks_own (by omega) (by simp [mostCells]; omega) (by simp [mostCells]; omega) ?_
    simp (maxSteps := 2000000) (disch := first | omega | assumption | exact idP rfl | exact idP (bL rfl) | (simp only [alloc_size, upd_size] <;> omega) | fail) only [go_sem, reduceIte, Nat.reduceEqDiff]
    have hld : loadN (H.alloc (zeros [.sl none 0 0 true 0] pc.length)) A.b A.o pc.length = some pc := (hrd.le (Le.alloc H (zeros [.sl none 0 0 true 0] pc.length))).loadN
    unfold copyP
    simp only [AA.b_some, AA.o_some, Nat.min_self, Nat.mul_one, hld]
    rw [if_neg (by omega), rw_alloc_new rfl]
    refine ⟨ho, by rw [zeros_len rfl]; omega, ?_⟩
    have hz := setAt_all pc (zeros [.sl none 0 0 true 0] pc.length) [] (by rw [zeros_len rfl])
    simp only [List.nil_append, List.length_nil] at hz
    rw [hz]
    simp (maxSteps := 2000000) (disch := first | omega | assumption | exact idP rfl | exact idP (bL rfl) | (simp only [alloc_size, upd_size] <;> omega) | fail) only [go_sem, reduceIte, Nat.reduceEqDiff]
    refine hR _ _ ⟨⟨some (H.size, 0), pc.length, true, 1, rfl, by simp, fun h => (nomatch h), fun b o e => ?_⟩, ?_, Nat.le_refl _⟩
    · cases e; exact ⟨rfl, rfl, Nat.lt_succ_self _, upd_blk_same'⟩
    · show Le H ((_ : Heap).kill H.size)
      exact (((Le.alloc H _).updFresh (Nat.le_refl _))).killFresh (Nat.le_refl _)
theorem plo_nil {lo : Nat} (h : lo ≤ H.size) : PLO lo H H (.sl none 0 0 true 0) [] := ⟨Le.refl _, h, [], Own.nil, rfl, fun i h => by simp at h, fun i j u v h1 h2 => by simp at h2⟩
theorem s_implRefute {x : AV} {k : Int} {xss : List (List Int)} (hx : IsCl H x k xss) (hl : xss.length ≤ 1048576) (hxl : ∀ xs ∈ xss, xs.length ≤ 1048576) :
    ACall Try.prog n_Z6 [x] H (fun r H' => ∃ u Q ok B', r = .tup [u, .bool ok] ∧ PLO H.size B' H' u Q ∧ Le H H' ∧ newer H.size u ∧ Q.length ≤ 600 ∧ RefRes k xss Q ok) := by
  refine ACall.of fun R hR => a_Z6 rfl ?_
  obtain ⟨fl, rfl, hv⟩ := hx
  simp (maxSteps := 2000000) (disch := first | omega | assumption | exact idP rfl | exact idP (bL rfl) | (simp only [alloc_size, upd_size] <;> omega) | fail) only [go_sem, reduceIte, Nat.reduceEqDiff]
  have hcl : IsCl (H.alloc [.int .i64 k, fl]) (.agg [.int .i64 k, fl]) k xss := ⟨fl, rfl, hv.le (Le.alloc _ _)⟩
  refine (s_implClausesValid hcl hl hxl).mono ?_
  rintro r H1 ⟨hle1, b, rfl, hb⟩
  have hH1 := (Le.alloc H [.int .i64 k, fl]).trans hle1
  cases b with
  | false =>
    have hnot : ¬ ClsOk k xss := fun h => by have := hb.2 h; cases this
    simp (maxSteps := 2000000) (disch := first | omega | assumption | exact idP rfl | exact idP (bL rfl) | (simp only [alloc_size, upd_size] <;> omega) | fail) only [go_sem, reduceIte, Nat.reduceEqDiff]
    exact hR _ _ ⟨.sl none 0 0 true 0, [], false, _, rfl, plo_nil hH1.1, hH1, trivial, by simp, .inl ⟨hnot, rfl, rfl⟩⟩
  | true =>
    have hok := hb.1 rfl
    obtain ⟨n, rfl⟩ : ∃ n : Nat, k = n := ⟨k.toNat, by have := hok.lo; omega⟩
    have g0 : H1.get H.size 0 = some (.int .i64 (n : Int)) := hle1.get (by simp (maxSteps := 2000000) (disch := first | omega | assumption | exact idP rfl | exact idP (bL rfl) | (simp only [alloc_size, upd_size] <;> omega) | fail) only [go_sem, reduceIte, Nat.reduceEqDiff])
    have g1 : H1.get H.size 1 = some fl := hle1.get (by simp (maxSteps := 2000000) (disch := first | omega | assumption | exact idP rfl | exact idP (bL rfl) | (simp only [alloc_size, upd_size] <;> omega) | fail) only [go_sem, reduceIte, Nat.reduceEqDiff])
    simp (maxSteps := 2000000) (disch := first | omega | assumption | exact idP rfl | exact idP (bL rfl) | (simp only [alloc_size, upd_size] <;> omega) | fail) only [go_sem, reduceIte, Nat.reduceEqDiff, g0, g1]
    refine (s_hunted (hcl.le hle1) hok hl hxl).mono ?_
    rintro r H2 ⟨res, P', d', hb, fl', p', w, ct, B', htry, rfl, hle2, hw, hof, hop, how, hno, hcut, hsat⟩
    obtain ⟨q1, q2⟩ := Heap.rwCells_blk hw
    have u2 : H2.get hb 2 = some p' := Rd.blk q1 q2 2 _ rfl
    have u4 : H2.get hb 4 = some w := Rd.blk q1 q2 4 _ rfl
    have u5 : H2.get hb 5 = some (.bool ct) := Rd.blk q1 q2 5 _ rfl
    have hH2 := hH1.trans hle2
    simp (maxSteps := 2000000) (disch := first | omega | assumption | exact idP rfl | exact idP (bL rfl) | (simp only [alloc_size, upd_size] <;> omega) | fail) only [go_sem, reduceIte, Nat.reduceEqDiff, u5]
    cases res with
    | cut =>
      obtain rfl := hcut rfl
      simp (maxSteps := 2000000) (disch := first | omega | assumption | exact idP rfl | exact idP (bL rfl) | (simp only [alloc_size, upd_size] <;> omega) | fail) only [go_sem, reduceIte, Nat.reduceEqDiff]
      exact hR _ _ ⟨.sl none 0 0 true 0, [], false, _, rfl, plo_nil hH2.1, hH2, trivial, by simp, .inr ⟨hok, n, .cut, P', d', rfl, htry, .inr ⟨by simp, rfl, rfl⟩⟩⟩
    | sat m =>
      obtain ⟨rfl, hwi, hB, bb, nn, rfl⟩ := hsat m rfl
      simp (maxSteps := 2000000) (disch := first | omega | assumption | exact idP rfl | exact idP (bL rfl) | (simp only [alloc_size, upd_size] <;> omega) | fail) only [go_sem, reduceIte, Nat.reduceEqDiff, u4]
      exact hR _ _ ⟨.sl none 0 0 true 0, [], false, _, rfl, plo_nil hH2.1, hH2, trivial, by simp, .inr ⟨hok, n, .sat m, P', d', rfl, htry, .inr ⟨by simp, rfl, rfl⟩⟩⟩
    | no =>
      obtain ⟨rfl, hpl, hfew, rfl⟩ := hno rfl
      obtain ⟨p0, ps, pc, po, pl, pe, pd⟩ := hpl.lower hH1.1
      simp (maxSteps := 2000000) (disch := first | omega | assumption | exact idP rfl | exact idP (bL rfl) | (simp only [alloc_size, upd_size] <;> omega) | fail) only [go_sem, reduceIte, Nat.reduceEqDiff, u4, u2]
      refine (s_implCloneS po ?_ (by omega)).mono ?_
      · rw [List.all_eq_true]
        intro u hu
        obtain ⟨i, hi, rfl⟩ := List.getElem_of_mem hu
        obtain ⟨u', e1, e2, _⟩ := pe i (by omega)
        rw [List.getElem?_eq_getElem hi] at e1
        cases e1
        obtain ⟨_, _, _, _, e, _⟩ := e2
        rw [e]; rfl
      rintro u H3 ⟨ho, hle3, hnew⟩
      simp (maxSteps := 2000000) (disch := first | omega | assumption | exact idP rfl | exact idP (bL rfl) | (simp only [alloc_size, upd_size] <;> omega) | fail) only [go_sem, reduceIte, Nat.reduceEqDiff]
      exact hR _ _ ⟨u, P', true, B', rfl, ⟨(p0.trans (base_le _ _)).trans hle3, ps, pc, ho, pl, pe, pd⟩, hH2.trans (hle3.trans (base_le _ _)), hnew.mono hH2.1, hfew, .inr ⟨hok, n, .no, P', d', rfl, htry, .inl ⟨rfl, rfl, rfl⟩⟩⟩
end Go.M2

namespace Go.M2
open Go.Proofs
variable {H : Heap}
theorem base_later {u : AV} {n : Nat} : base (H.later n) u = (base H u).later n := by
  unfold base
  split
  · unfold Heap.kill Heap.upd Heap.later
    simp only [Heap.mk.injEq, true_and]
    funext i
    split <;> split <;> simp_all
  · rfl
theorem PLO.later {lo : Nat} {B : Heap} {u : AV} {P : List (List Int)} (h : PLO lo B H u P) (hn : newer lo u) : PLO lo (B.later lo) (H.later lo) u P := by
  obtain ⟨h0, hs, pc, h1, h2, h3, h4⟩ := h
  refine ⟨by rw [base_later]; exact later_mono h0 (Nat.le_refl _), hs, pc, h1.later hn, h2, fun i hi => ?_, h4⟩
  obtain ⟨w, q1, q2, q3, q4⟩ := h3 i hi
  exact ⟨w, q1, q2.later q3, q3, q4⟩
theorem PLO.short {lo : Nat} {B : Heap} {u : AV} {P : List (List Int)} (h : PLO lo B H u P) : ∀ i (hi : i < P.length), P[i].length ≤ 700 := by
  obtain ⟨h0, hs, pc, h1, h2, h3, h4⟩ := h
  intro i hi
  obtain ⟨w, q1, q2, q3, q4⟩ := h3 i hi
  exact q4
end Go.M2

namespace Go.M2
open Go.Proofs
variable {H : Heap}
theorem s_numL {rb : Nat} {w : AV} {code : List Int} {q : Int} (hr : Rdr H rb w code q) (h1 : q ≤ 1099511627776) (ks : List Int) (hk : 0 < ks.length) {X : List AV} (hX : X = ks.map (AV.int .i64)) {m : Nat} (hm : m = ks.length) :
    ACall Try.prog n_Z76 [.ptr (some (rb, 0)), .sl (some (H.size, 0)) m m true 1] (H.alloc X) (fun r H' => H' = (H.alloc X).upd rb (.cells [w, .int .i64 (q + 1)] true) ∧ Rdr H' rb w code (q + 1) ∧ ∃ x ∈ ks, r = .int .i64 x) := by
  subst hX hm
  have hrb := (Heap.rwCells_blk hr.m).1
  have hra := hr.le (Le.alloc H (ks.map (AV.int .i64)))
  have hla : IsI ((H.alloc (ks.map (AV.int .i64))).kill rb) (.sl (some (H.size, 0)) ks.length ks.length true 1) ks :=
    (⟨⟨some (H.size, 0), ks.length, true, 1, rfl, by simp, fun h => (nomatch h), fun b o e => by cases e; exact ⟨rfl, rfl, Nat.lt_succ_self _, by rw [kill_ne (by omega)]; exact alloc_new _ _⟩⟩⟩ : Own 1 ((H.alloc (ks.map (AV.int .i64))).kill rb) (.sl (some (H.size, 0)) ks.length ks.length true 1) (ks.map (AV.int .i64))).isI
  refine (s_num hra h1 hla hk).mono ?_
  rintro r H' ⟨rfl, x, hx, rfl⟩
  exact ⟨rfl, hra.upd (by have := hr.lo; omega), x, hx, rfl⟩
theorem Own.updNe' {sz b : Nat} {H : Heap} {u : AV} {l : List AV} {x : Blk} (h : Own sz H u l) (ha : apart b u) : Own sz (H.upd b x) u l := by
  obtain ⟨A, n, ex, k, rfl, q1, q2, q3⟩ := h
  refine ⟨A, n, ex, k, rfl, q1, q2, fun b' o e => ?_⟩
  subst e
  obtain ⟨r1, r2, r3, r4⟩ := q3 b' o rfl
  have hne : b' ≠ b := ha
  exact ⟨r1, r2, r3, by rw [upd_blk_ne hne]; exact r4⟩
theorem PLO.old {lo b : Nat} {B : Heap} {v : AV} {P : List (List Int)} {x : Blk} (h : PLO lo B H v P) (ha : apart b v) (hb : b < lo) : PLO lo (B.kill b) (H.upd b x) v P := by
  obtain ⟨h0, hs, pc, h1, h2, h3, h4⟩ := h
  refine ⟨by rw [base_upd ha]; exact ((Le.kill _ _).trans h0).updDead (kill_dead _ _) x, hs, pc, h1.updNe' ha, h2, fun i hi => ?_, h4⟩
  obtain ⟨u, q1, q2, q3, q4⟩ := h3 i hi
  exact ⟨u, q1, q2.updNe' (apart_newer q3 hb), q3, q4⟩
def DrawnCl (H : Heap) (rb : Nat) (w : AV) (p : Int) (r : AV) (H' : Heap) : Prop := ∃ (n : Int) (v : AV) (P : List (List Int)) (p' : Int) (B : Heap), r = .agg [.int .i64 n, v] ∧ PLO H.size B H' v P ∧ P.length ≤ 700 ∧ (n ≤ 6 ∨ n = 701) ∧ Le (H.kill rb) B ∧ B.blk rb = .dead ∧ (base H' v).rwCells rb = some [w, .int .i64 p'] ∧ 0 ≤ p' ∧ p' ≤ p + 20000
set_option maxHeartbeats 8000000 in
theorem s_l12Some {rb : Nat} {w : AV} {code : List Int} {p : Int} (hr : Rdr H rb w code p) (h1 : p ≤ 100000)
    (hsome : ∀ {H1 : Heap} {q : Int}, Rdr H1 rb w code q → q ≤ 200000 → ACall Try.prog n_Z65 [.ptr (some (rb, 0))] H1 (DrawnCl H1 rb w q)) :
    ACall Try.prog n_Z69 [.ptr (some (rb, 0))] H (fun r H' => ∃ (n : Int) (v : AV) (P : List (List Int)) (B : Heap), r = .agg [.int .i64 n, v] ∧ PLO H.size B H' v P ∧ P.length ≤ 701 ∧ (n ≤ 6 ∨ n = 701) ∧ Le (H.kill rb) (base H' v)) := by
  refine ACall.of fun R hR => a_Z69 rfl ?_
  have hrb := (Heap.rwCells_blk hr.m).1
  simp (maxSteps := 2000000) (disch := first | omega | assumption | exact idP rfl | exact idP (bL rfl) | (simp only [alloc_size, upd_size] <;> omega) | fail) only [go_sem, reduceIte, Nat.reduceEqDiff]
  have hr0 := hr.le (Le.alloc H [.int .i64 0, .sl none 0 0 true 0])
  refine (s_pick hr0.hw hr0.l hr0.m hr0.lo (by omega)).mono ?_
  rintro r H1 ⟨rfl, j, rfl, j0, _, _⟩
  have hr1 := hr0.upd (q := p + 1) (by have := hr.lo; omega)
  simp (maxSteps := 2000000) (disch := first | omega | assumption | exact idP rfl | exact idP (bL rfl) | (simp only [alloc_size, upd_size] <;> omega) | fail) only [go_sem, reduceIte, Nat.reduceEqDiff]
  refine condV_dec (fun hz => ?_) (fun hz => ?_)
  · simp (maxSteps := 2000000) (disch := first | omega | assumption | exact idP rfl | exact idP (bL rfl) | (simp only [alloc_size, upd_size] <;> omega) | fail) only [go_sem, reduceIte, Nat.reduceEqDiff]
    refine (hsome hr1 (by omega)).mono ?_
    rintro r H2 ⟨n, v, P, p', B, rfl, hpl, hP, hnb, hLB, hdr, hwr, hp0, hp1⟩
    have x6 : (base H2 v).rwCells H.size = some [.int .i64 0, .sl none 0 0 true 0] := (hLB.trans hpl.1).rwCells (rwCells_of (Nat.lt_succ_self _) (by rw [kill_ne (by omega), upd_blk_ne (by omega), alloc_new]))
    have a6 := apart_of x6
    have x6' := (base_le _ _).rwCells x6
    have z6 := (Heap.rwCells_blk x6').1
    have hvo := hpl.one.1
    simp (maxSteps := 2000000) (disch := first | omega | assumption | exact idP rfl | exact idP (bL rfl) | (simp only [alloc_size, upd_size] <;> omega) | fail) only [go_sem, reduceIte, Nat.reduceEqDiff, x6', hpl.one.2]
    have hp2 := hpl.old (x := .cells [.int .i64 n, v] true) a6 (by simp only [upd_size, alloc_size]; omega)
    refine hR _ _ ⟨n, v, P, _, rfl, hp2.lower (by simp only [upd_size, alloc_size]; omega), by omega, hnb, ?_⟩
    · have q1 : Le (H.kill rb) (((H.alloc [.int .i64 0, .sl none 0 0 true 0]).upd rb (.cells [w, .int .i64 (p + 1)] true)).kill rb) := by rw [upd_kill]; exact (Le.alloc _ _).kills rb
      rw [base_upd a6]
      exact ((q1.trans hLB).trans hpl.1).updFresh (Nat.le_refl _)
  · simp (maxSteps := 2000000) (disch := first | omega | assumption | exact idP rfl | exact idP (bL rfl) | (simp only [alloc_size, upd_size] <;> omega) | fail) only [go_sem, reduceIte, Nat.reduceEqDiff]
    refine (s_numL hr1 (by omega) [3, 4, 5, 6, 2] (by simp) rfl rfl).mono ?_
    rintro r H3 ⟨hH3, hr3, x, hx, rfl⟩
    have hx6 : 0 ≤ x ∧ x ≤ 6 := by simp at hx; omega
    obtain ⟨nx, rfl⟩ : ∃ nx : Nat, x = nx := ⟨x.toNat, by omega⟩
    simp (maxSteps := 2000000) (disch := first | omega | assumption | exact idP rfl | exact idP (bL rfl) | (simp only [alloc_size, upd_size] <;> omega) | fail) only [go_sem, reduceIte, Nat.reduceEqDiff]
    refine (s_numL hr3 (by omega) [8, 12, 16, 20, 4] (by simp) rfl rfl).mono ?_
    rintro r H4 ⟨hH4, hr4, y, hy, rfl⟩
    have hy6 : 0 ≤ y ∧ y ≤ 20 := by simp at hy; omega
    obtain ⟨ny, rfl⟩ : ∃ ny : Nat, y = ny := ⟨y.toNat, by omega⟩
    have hs4 : H.size < H4.size := by rw [hH4, hH3]; simp only [upd_size, alloc_size]; omega
    have x4 : H4.rwCells H.size = some [.int .i64 0, .sl none 0 0 true 0] := by
      rw [hH4, hH3]
      simp (maxSteps := 2000000) (disch := first | omega | assumption | exact idP rfl | exact idP (bL rfl) | (simp only [alloc_size, upd_size] <;> omega) | fail) only [go_sem, reduceIte, Nat.reduceEqDiff]
    simp (maxSteps := 2000000) (disch := first | omega | assumption | exact idP rfl | exact idP (bL rfl) | (simp only [alloc_size, upd_size] <;> omega) | fail) only [go_sem, reduceIte, Nat.reduceEqDiff]
    refine (s_l11Draw (n := nx) (k := ny) hr4 (by omega) (by omega) (by omega)).mono ?_
    rintro r H5 ⟨v, P, p', B, rfl, hpl, hP, hLB, hdr, hwr, hp0, hp1⟩
    have x4k : (H4.kill rb).rwCells H.size = some [.int .i64 0, .sl none 0 0 true 0] := by
      obtain ⟨z1, z2⟩ := Heap.rwCells_blk x4
      exact rwCells_of z1 (by rw [kill_ne (by omega)]; exact z2)
    have x5 : (base H5 v).rwCells H.size = some [.int .i64 0, .sl none 0 0 true 0] := (hLB.trans hpl.1).rwCells x4k
    have ar := apart_of hwr
    have a5 := apart_of x5
    have hvo := hpl.one.1
    have z5 := (Heap.rwCells_blk ((base_le _ _).rwCells x5)).1
    simp (maxSteps := 2000000) (disch := first | omega | assumption | exact idP rfl | exact idP (bL rfl) | (simp only [alloc_size, upd_size] <;> omega) | fail) only [go_sem, reduceIte, Nat.reduceEqDiff, hpl.one.2]
    obtain ⟨pc5, own5, _⟩ := hpl.own
    have hsz5 : H4.size ≤ H5.size := by
      have z1 := (hLB.trans (hpl.1.trans (base_le _ _))).1
      exact z1
    have hrb5 : rb < H5.size := by omega
    have hL56 : Le H5 ((H5.alloc [.int .i64 0, .sl none 0 0 true 0]).upd H5.size (.cells [.int .i64 (nx : Int), v] true)) := ((Le.refl _).allocs).updFresh (Nat.le_refl _)
    have t6 : ((H5.alloc [.int .i64 0, .sl none 0 0 true 0]).upd H5.size (.cells [.int .i64 (nx : Int), v] true)).rwCells H5.size = some [.int .i64 (nx : Int), v] := by simp (maxSteps := 2000000) (disch := first | omega | assumption | exact idP rfl | exact idP (bL rfl) | (simp only [alloc_size, upd_size] <;> omega) | fail) only [go_sem, reduceIte, Nat.reduceEqDiff]
    generalize hG : ((H5.alloc [AV.int .i64 0, .sl none 0 0 true 0]).upd H5.size (.cells [.int .i64 (nx : Int), v] true)) = H6 at *
    have hs6 : H6.size = H5.size + 1 := by rw [← hG]; rfl
    have hr6 : Rdr H6 rb w code p' := ⟨hr4.hw.le mono_B (hLB.trans ((hpl.1.trans ((base_le _ _).trans hL56)).updDead hdr .dead)), hr.l, hL56.rwCells ((base_le _ _).rwCells hwr), hp0⟩
    refine (s_pick hr6.hw hr6.l hr6.m hr6.lo (by omega)).mono ?_
    rintro r H7 ⟨hH7, j2, rfl, _⟩
    have hp7 : PLO H4.size B H7 v P := by rw [hH7]; exact (hpl.le hL56).upd ar hdr
    have hs7 : H7.size = H5.size + 1 := by rw [hH7]; exact hs6
    have t7 : H7.rwCells H5.size = some [.int .i64 (nx : Int), v] := by rw [hH7, rw_upd_ne (by omega)]; exact t6
    have x7 : H7.rwCells H.size = some [.int .i64 0, .sl none 0 0 true 0] := by rw [hH7, rw_upd_ne (by omega)]; exact hL56.rwCells ((base_le _ _).rwCells x5)
    have at5 : apart H5.size v := apart_fresh own5 (Nat.le_refl _)
    have tl : H7.get H5.size 0 = some (.int .i64 (nx : Int)) ∧ H7.get H5.size 1 = some v := by
      obtain ⟨z1, z2⟩ := Heap.rwCells_blk t7
      exact ⟨Rd.blk z1 z2 0 _ rfl, Rd.blk z1 z2 1 _ rfl⟩
    have z7 := (Heap.rwCells_blk x7).1
    have hL4 : Le (H.kill rb) (H4.kill rb) := by
      rw [hH4, upd_kill]
      refine Le.trans ?_ ((Le.alloc _ _).kills rb)
      rw [hH3, upd_kill]
      refine Le.trans ?_ ((Le.alloc _ _).kills rb)
      rw [upd_kill]
      exact (Le.alloc _ _).kills rb
    have hend : ∀ (v2 : AV) (H8 : Heap), Le B (base H8 v2) → Le (H.kill rb) (base H8 v2) := fun v2 H8 z => (hL4.trans hLB).trans z
    simp (maxSteps := 2000000) (disch := first | omega | assumption | exact idP rfl | exact idP (bL rfl) | (simp only [alloc_size, upd_size] <;> omega) | fail) only [go_sem, reduceIte, Nat.reduceEqDiff]
    refine condV_dec (fun hz2 => ?_) (fun hz2 => ?_)
    · simp (maxSteps := 2000000) (disch := first | omega | assumption | exact idP rfl | exact idP (bL rfl) | (simp only [alloc_size, upd_size] <;> omega) | fail) only [go_sem, reduceIte, Nat.reduceEqDiff, tl.2]
      refine plo_lit hp7 [] (by simp) (by omega) ?_
      intro p2 H8 hp8 hle8
      have t8 := hle8.rwCells (base_rw at5 t7)
      have x8 := hle8.rwCells (base_rw a5 x7)
      have b5 := apart_of t8
      have b6 := apart_of x8
      have hpo8 := hp8.one.1
      have t8' := (base_le _ _).rwCells t8
      have x8' := (base_le _ _).rwCells x8
      have zt8 := (Heap.rwCells_blk t8').1
      have zx8 := (Heap.rwCells_blk x8').1
      have hBs : B.size ≤ H5.size := by have := hpl.1.1; rw [base_size] at this; exact this
      have hdd : ((B.pad H7.size).over (H7.alloc (([] : List Int).map (AV.int .i64)))).blk H5.size = .dead := (over_nd (by rw [pad_size]; exact Nat.le_succ _)).2 _ (by rw [pad_size]; omega) (pad_dead hBs)
      have hp9 := hp8.upd (x := .cells [.int .i64 (nx : Int), p2] true) b5 hdd
      simp (maxSteps := 2000000) (disch := first | omega | assumption | exact idP rfl | exact idP (bL rfl) | (simp only [alloc_size, upd_size] <;> omega) | fail) only [go_sem, reduceIte, Nat.reduceEqDiff, t8', hp8.one.2, x8']
      have hp10 := hp9.old (x := .cells [.int .i64 (nx : Int), p2] true) b6 hs4
      refine hR _ _ ⟨nx, p2, P ++ [[]], _, rfl, hp10.lower (by omega), by simp; omega, .inl (by omega), ?_⟩
      · rw [base_upd b6, base_upd b5]
        exact ((hend p2 H8 (hp7.1.trans hle8)).updFresh (b := H5.size) (by show H.size ≤ _; omega)).updFresh (Nat.le_refl _)
    · simp (maxSteps := 2000000) (disch := first | omega | assumption | exact idP rfl | exact idP (bL rfl) | (simp only [alloc_size, upd_size] <;> omega) | fail) only [go_sem, reduceIte, Nat.reduceEqDiff, tl.1, tl.2, x7, hpl.one.2]
      have hp10 := hp7.old (x := .cells [.int .i64 (nx : Int), v] true) a5 hs4
      refine hR _ _ ⟨nx, v, P, _, rfl, hp10.lower (by omega), by omega, .inl (by omega), ?_⟩
      · rw [base_upd a5]
        exact (hend v H7 hp7.1).updFresh (Nat.le_refl _)
end Go.M2

namespace Go.M2
open Go.Proofs
variable {H : Heap}
set_option maxHeartbeats 8000000 in
theorem s_l11Some {rb : Nat} {w : AV} {code : List Int} {p : Int} (hr : Rdr H rb w code p) (h1 : p ≤ 200000) :
    ACall Try.prog n_Z65 [.ptr (some (rb, 0))] H (DrawnCl H rb w p) := by
  refine ACall.of fun R hR => a_Z65 rfl ?_
  have hrb := (Heap.rwCells_blk hr.m).1
  simp (maxSteps := 2000000) (disch := first | omega | assumption | exact idP rfl | exact idP (bL rfl) | (simp only [alloc_size, upd_size] <;> omega) | fail) only [go_sem, reduceIte, Nat.reduceEqDiff]
  have hr0 := hr.le (Le.alloc H [.int .i64 0, .sl none 0 0 true 0])
  refine (s_numL hr0 (by omega) [2, 3, 4, 5, 6, 1, 0] (by simp) rfl rfl).mono ?_
  rintro r H3 ⟨hH3, hr3, x, hx, rfl⟩
  have hx6 : 0 ≤ x ∧ x ≤ 6 := by simp at hx; omega
  obtain ⟨nx, rfl⟩ : ∃ nx : Nat, x = nx := ⟨x.toNat, by omega⟩
  simp (maxSteps := 2000000) (disch := first | omega | assumption | exact idP rfl | exact idP (bL rfl) | (simp only [alloc_size, upd_size] <;> omega) | fail) only [go_sem, reduceIte, Nat.reduceEqDiff]
  refine (s_numL hr3 (by omega) [3, 6, 9, 12, 2, 15, 0] (by simp) rfl rfl).mono ?_
  rintro r H4 ⟨hH4, hr4, y, hy, rfl⟩
  have hy6 : 0 ≤ y ∧ y ≤ 20 := by simp at hy; omega
  obtain ⟨ny, rfl⟩ : ∃ ny : Nat, y = ny := ⟨y.toNat, by omega⟩
  have hs4 : H.size < H4.size := by rw [hH4, hH3]; simp only [upd_size, alloc_size]; omega
  have x4 : H4.rwCells H.size = some [.int .i64 0, .sl none 0 0 true 0] := by
    rw [hH4, hH3]
    simp (maxSteps := 2000000) (disch := first | omega | assumption | exact idP rfl | exact idP (bL rfl) | (simp only [alloc_size, upd_size] <;> omega) | fail) only [go_sem, reduceIte, Nat.reduceEqDiff]
  have hL4 : Le (H.kill rb) (H4.kill rb) := by
    rw [hH4, upd_kill]
    refine Le.trans ?_ ((Le.alloc _ _).kills rb)
    rw [hH3, upd_kill]
    exact ((Le.alloc _ _).trans (Le.alloc _ _)).kills rb
  simp (maxSteps := 2000000) (disch := first | omega | assumption | exact idP rfl | exact idP (bL rfl) | (simp only [alloc_size, upd_size] <;> omega) | fail) only [go_sem, reduceIte, Nat.reduceEqDiff]
  refine (s_l11Draw (n := nx) (k := ny) hr4 (by omega) (by omega) (by omega)).mono ?_
  rintro r H5 ⟨v, P, p', B, rfl, hpl, hP, hLB, hdr, hwr, hp0, hp1⟩
  have x4k : (H4.kill rb).rwCells H.size = some [.int .i64 0, .sl none 0 0 true 0] := by
    obtain ⟨z1, z2⟩ := Heap.rwCells_blk x4
    exact rwCells_of z1 (by rw [kill_ne (by omega)]; exact z2)
  have x5 : (base H5 v).rwCells H.size = some [.int .i64 0, .sl none 0 0 true 0] := (hLB.trans hpl.1).rwCells x4k
  have ar := apart_of hwr
  have a5 := apart_of x5
  have hvo := hpl.one.1
  have z5 := (Heap.rwCells_blk ((base_le _ _).rwCells x5)).1
  simp (maxSteps := 2000000) (disch := first | omega | assumption | exact idP rfl | exact idP (bL rfl) | (simp only [alloc_size, upd_size] <;> omega) | fail) only [go_sem, reduceIte, Nat.reduceEqDiff, hpl.one.2]
  obtain ⟨pc5, own5, _⟩ := hpl.own
  have hsz5 : H4.size ≤ H5.size := (hLB.trans (hpl.1.trans (base_le _ _))).1
  have hrb5 : rb < H5.size := by omega
  have hL56 : Le H5 ((H5.alloc [.int .i64 0, .sl none 0 0 true 0]).upd H5.size (.cells [.int .i64 (nx : Int), v] true)) := ((Le.refl _).allocs).updFresh (Nat.le_refl _)
  have t6 : ((H5.alloc [.int .i64 0, .sl none 0 0 true 0]).upd H5.size (.cells [.int .i64 (nx : Int), v] true)).rwCells H5.size = some [.int .i64 (nx : Int), v] := by simp (maxSteps := 2000000) (disch := first | omega | assumption | exact idP rfl | exact idP (bL rfl) | (simp only [alloc_size, upd_size] <;> omega) | fail) only [go_sem, reduceIte, Nat.reduceEqDiff]
  generalize hG : ((H5.alloc [AV.int .i64 0, .sl none 0 0 true 0]).upd H5.size (.cells [.int .i64 (nx : Int), v] true)) = H6 at *
  have hs6 : H6.size = H5.size + 1 := by rw [← hG]; rfl
  have hr6 : Rdr H6 rb w code p' := ⟨hr4.hw.le mono_B (hLB.trans ((hpl.1.trans ((base_le _ _).trans hL56)).updDead hdr .dead)), hr.l, hL56.rwCells ((base_le _ _).rwCells hwr), hp0⟩
  refine (s_pick hr6.hw hr6.l hr6.m hr6.lo (by omega)).mono ?_
  rintro r H7 ⟨hH7, j2, rfl, _⟩
  have hr7 : Rdr H7 rb w code (p' + 1) := by rw [hH7]; exact hr6.upd (by omega)
  have hp7 : PLO H4.size B H7 v P := by rw [hH7]; exact (hpl.le hL56).upd ar hdr
  have hs7 : H7.size = H5.size + 1 := by rw [hH7]; exact hs6
  have t7 : H7.rwCells H5.size = some [.int .i64 (nx : Int), v] := by rw [hH7, rw_upd_ne (by omega)]; exact t6
  have x7 : H7.rwCells H.size = some [.int .i64 0, .sl none 0 0 true 0] := by rw [hH7, rw_upd_ne (by omega)]; exact hL56.rwCells ((base_le _ _).rwCells x5)
  have at5 : apart H5.size v := apart_fresh own5 (Nat.le_refl _)
  have hBs : B.size ≤ H5.size := by have := hpl.1.1; rw [base_size] at this; exact this
  -- how it ends: the box is copied into the result's
  have fin : ∀ (m : Int) (v2 : AV) (P2 : List (List Int)) (q2 : Int) (B2 H8 : Heap), (m ≤ 6 ∨ m = 701) → PLO H4.size B2 H8 v2 P2 → P2.length ≤ 21 → Le (H4.kill rb) B2 → B2.blk rb = .dead → (base H8 v2).rwCells rb = some [w, .int .i64 q2] → 0 ≤ q2 → q2 ≤ p + 1000 → (base H8 v2).rwCells H.size = some [.int .i64 0, .sl none 0 0 true 0] →
      R (.agg [.int .i64 m, v2]) (H8.upd H.size (.cells [.int .i64 m, v2] true)) := fun m v2 P2 q2 B2 H8 zb z1 z2 z3 z4 z5 z6 z7 z8 => by
    have b6 := apart_of z8
    refine hR _ _ ⟨m, v2, P2, q2, B2.kill H.size, rfl, (z1.old b6 hs4).lower (by omega), by omega, zb, ?_, ?_, ?_, z6, by omega⟩
    · exact (hL4.trans z3).killFresh (Nat.le_refl _)
    · rw [kill_ne (by omega)]; exact z4
    · rw [base_upd b6, rw_upd_ne (by omega)]; exact z5
  simp (maxSteps := 2000000) (disch := first | omega | assumption | exact idP rfl | exact idP (bL rfl) | (simp only [alloc_size, upd_size] <;> omega) | fail) only [go_sem, reduceIte, Nat.reduceEqDiff]
  refine condV_dec (fun hz2 => ?_) (fun hz2 => ?_)
  · have hk7 : ∀ (G : Heap) (q : Int), G = H7.upd rb (.cells [w, .int .i64 q] true) → 0 ≤ q → Rdr G rb w code q ∧ PLO H4.size B G v P ∧ G.size = H5.size + 1 ∧ G.rwCells H5.size = some [.int .i64 (nx : Int), v] ∧ G.rwCells H.size = some [.int .i64 0, .sl none 0 0 true 0] := fun G q e hq => by
      subst e
      exact ⟨hr7.upd hq, hp7.upd ar hdr, hs7, by rw [rw_upd_ne (by omega)]; exact t7, by rw [rw_upd_ne (by omega)]; exact x7⟩
    have hrbB : rb < B.size := by
      have := hLB.1
      have e : (H4.kill rb).size = H4.size := rfl
      omega
    -- a clause is appended
    have lit : ∀ (G : Heap) (q : Int) (cl : List Int) (p2 : AV) (H9 : Heap), Rdr G rb w code q → PLO H4.size B G v P → H5.size < G.size → G.rwCells H5.size = some [.int .i64 (nx : Int), v] → G.rwCells H.size = some [.int .i64 0, .sl none 0 0 true 0] → q ≤ p + 1000 →
        PLO H4.size ((B.pad G.size).over (G.alloc (cl.map (AV.int .i64)))) H9 p2 (P ++ [cl]) → Le (base G v) (base H9 p2) →
        H9.rwCells H5.size = some [.int .i64 (nx : Int), v] ∧ H9.rwCells H.size = some [.int .i64 0, .sl none 0 0 true 0] ∧ oneA p2 = true ∧ cellsOf p2 = some [p2] ∧ H5.size < H9.size ∧ H.size < H9.size ∧
        R (.agg [.int .i64 (nx : Int), p2]) ((H9.upd H5.size (.cells [.int .i64 (nx : Int), p2] true)).upd H.size (.cells [.int .i64 (nx : Int), p2] true)) := by
      intro G q cl p2 H9 z1 z2 z3 z4 z5 z6 z7 z8
      have t9 := z8.rwCells (base_rw at5 z4)
      have x9 := z8.rwCells (base_rw a5 z5)
      have r9 := z8.rwCells (base_rw ar z1.m)
      have b5 := apart_of t9
      have b6 := apart_of x9
      have br := apart_of r9
      have hBG : B.size ≤ G.size := by omega
      have nd := (pad_nd hBG).trans (over_nd (H := G.alloc (cl.map (AV.int .i64))) (by rw [pad_size]; exact Nat.le_succ _))
      have hdd : ((B.pad G.size).over (G.alloc (cl.map (AV.int .i64)))).blk H5.size = .dead := (over_nd (by rw [pad_size]; exact Nat.le_succ _)).2 _ (by rw [pad_size]; omega) (pad_dead hBs)
      have hp9 := z7.upd (x := .cells [.int .i64 (nx : Int), p2] true) b5 hdd
      have hne : rb ≠ H5.size := by omega
      refine ⟨(base_le _ _).rwCells t9, (base_le _ _).rwCells x9, z7.one.1, z7.one.2, (Heap.rwCells_blk ((base_le _ _).rwCells t9)).1, (Heap.rwCells_blk ((base_le _ _).rwCells x9)).1, ?_⟩
      refine fin nx p2 _ q _ _ (.inl (by omega)) hp9 (by simp; omega) (hLB.trans nd.1) (nd.2 rb hrbB hdr) ?_ z1.lo z6 ?_
      · rw [base_upd b5, rw_upd_ne hne]; exact r9
      · rw [base_upd b5, rw_upd_ne (by omega)]; exact x9
    simp (maxSteps := 2000000) (disch := first | omega | assumption | exact idP rfl | exact idP (bL rfl) | (simp only [alloc_size, upd_size] <;> omega) | fail) only [go_sem, reduceIte, Nat.reduceEqDiff]
    refine (s_pick hr7.hw hr7.l hr7.m hr7.lo (by omega)).mono ?_
    rintro r H8 ⟨hH8, k, rfl, k0, k1, _⟩
    have hk := k1 (by omega)
    obtain ⟨hr8, hp8, hs8, t8, x8⟩ := hk7 H8 _ hH8 (by omega)
    have tl8 : H8.get H5.size 0 = some (.int .i64 (nx : Int)) ∧ H8.get H5.size 1 = some v := by
      obtain ⟨z1, z2⟩ := Heap.rwCells_blk t8
      exact ⟨Rd.blk z1 z2 0 _ rfl, Rd.blk z1 z2 1 _ rfl⟩
    simp (maxSteps := 2000000) (disch := first | omega | assumption | exact idP rfl | exact idP (bL rfl) | (simp only [alloc_size, upd_size] <;> omega) | fail) only [go_sem, reduceIte, Nat.reduceEqDiff]
    refine condV_dec (fun c0 => ?_) (fun c0 => ?_)
    · simp (maxSteps := 2000000) (disch := first | omega | assumption | exact idP rfl | exact idP (bL rfl) | (simp only [alloc_size, upd_size] <;> omega) | fail) only [go_sem, reduceIte, Nat.reduceEqDiff]
      refine (s_numL hr8 (by omega) [-1, 701, 0] (by simp) rfl rfl).mono ?_
      rintro r H9 ⟨hH9, hr9, x, hx, rfl⟩
      have hp9 : PLO H4.size B H9 v P := by rw [hH9]; exact (hp8.le (Le.alloc _ _)).upd ar hdr
      have t9 : H9.rwCells H5.size = some [.int .i64 (nx : Int), v] := by rw [hH9, rw_upd_ne (by omega)]; exact (Le.alloc _ _).rwCells t8
      have x9 : H9.rwCells H.size = some [.int .i64 0, .sl none 0 0 true 0] := by rw [hH9, rw_upd_ne (by omega)]; exact (Le.alloc _ _).rwCells x8
      have z9 := (Heap.rwCells_blk t9).1
      have y9 := (Heap.rwCells_blk x9).1
      have hs9 : H9.size = H5.size + 1 + 1 := by rw [hH9]; simp only [upd_size, alloc_size]; omega
      have hpP := hp9.at (pad_nd (n := H9.size) (by omega)).1 (pad_le hp9.1 (by rw [base_size]; exact Nat.le_refl _))
      have hpQ := hpP.upd (x := .cells [.int .i64 x, v] true) at5 (pad_dead hBs)
      simp (maxSteps := 2000000) (disch := first | omega | assumption | exact idP rfl | exact idP (bL rfl) | (simp only [alloc_size, upd_size] <;> omega) | fail) only [go_sem, reduceIte, Nat.reduceEqDiff, t9, x9, hpl.one.2]
      have hxb : x ≤ 6 ∨ x = 701 := by simp at hx; omega
      refine fin x v P (p' + 1 + 1 + 1) _ _ hxb hpQ (by omega) (hLB.trans (pad_nd (by omega)).1) ((pad_nd (by omega)).2 rb hrbB hdr) ?_ (by omega) (by omega) ?_
      · rw [base_upd at5, rw_upd_ne (by omega)]; exact base_rw ar hr9.m
      · rw [base_upd at5, rw_upd_ne (by omega)]; exact base_rw a5 x9
    · simp (maxSteps := 2000000) (disch := first | omega | assumption | exact idP rfl | exact idP (bL rfl) | (simp only [alloc_size, upd_size] <;> omega) | fail) only [go_sem, reduceIte, Nat.reduceEqDiff]
      refine condV_dec (fun c1 => ?_) (fun c1 => ?_)
      · simp (maxSteps := 2000000) (disch := first | omega | assumption | exact idP rfl | exact idP (bL rfl) | (simp only [alloc_size, upd_size] <;> omega) | fail) only [go_sem, reduceIte, Nat.reduceEqDiff, tl8.2]
        refine plo_lit hp8 [2, 1] (by simp) (by omega) ?_
        intro p2 H9 z1 z2
        obtain ⟨t9, x9, o9, c9, l5, l6, hfin⟩ := lit H8 _ [2, 1] p2 H9 hr8 hp8 (by omega) t8 x8 (by omega) z1 z2
        simp (maxSteps := 2000000) (disch := first | omega | assumption | exact idP rfl | exact idP (bL rfl) | (simp only [alloc_size, upd_size] <;> omega) | fail) only [go_sem, reduceIte, Nat.reduceEqDiff, t9, c9, x9]
        exact hfin
      · simp (maxSteps := 2000000) (disch := first | omega | assumption | exact idP rfl | exact idP (bL rfl) | (simp only [alloc_size, upd_size] <;> omega) | fail) only [go_sem, reduceIte, Nat.reduceEqDiff]
        refine condV_dec (fun c2 => ?_) (fun c2 => ?_)
        · simp (maxSteps := 2000000) (disch := first | omega | assumption | exact idP rfl | exact idP (bL rfl) | (simp only [alloc_size, upd_size] <;> omega) | fail) only [go_sem, reduceIte, Nat.reduceEqDiff, tl8.2]
          refine (s_numL hr8 (by omega) [0, (nx : Int) + 1, 0 - (nx : Int) - 1] (by simp) rfl rfl).mono ?_
          rintro r H9 ⟨hH9, hr9, x, hx, rfl⟩
          have hp9 : PLO H4.size B H9 v P := by rw [hH9]; exact (hp8.le (Le.alloc _ _)).upd ar hdr
          have t9 : H9.rwCells H5.size = some [.int .i64 (nx : Int), v] := by rw [hH9, rw_upd_ne (by omega)]; exact (Le.alloc _ _).rwCells t8
          have x9 : H9.rwCells H.size = some [.int .i64 0, .sl none 0 0 true 0] := by rw [hH9, rw_upd_ne (by omega)]; exact (Le.alloc _ _).rwCells x8
          have hs9 : H9.size = H5.size + 1 + 1 := by rw [hH9]; simp only [upd_size, alloc_size]; omega
          have tl9 : H9.get H5.size 0 = some (.int .i64 (nx : Int)) ∧ H9.get H5.size 1 = some v := by
            obtain ⟨z1, z2⟩ := Heap.rwCells_blk t9
            exact ⟨Rd.blk z1 z2 0 _ rfl, Rd.blk z1 z2 1 _ rfl⟩
          simp (maxSteps := 2000000) (disch := first | omega | assumption | exact idP rfl | exact idP (bL rfl) | (simp only [alloc_size, upd_size] <;> omega) | fail) only [go_sem, reduceIte, Nat.reduceEqDiff, tl9.2]
          refine plo_lit hp9 [x] (by simp) (by omega) ?_
          intro p2 H10 z1 z2
          obtain ⟨t10, x10, o10, c10, l5, l6, hfin⟩ := lit H9 _ [x] p2 H10 hr9 hp9 (by omega) t9 x9 (by omega) z1 z2
          simp (maxSteps := 2000000) (disch := first | omega | assumption | exact idP rfl | exact idP (bL rfl) | (simp only [alloc_size, upd_size] <;> omega) | fail) only [go_sem, reduceIte, Nat.reduceEqDiff, t10, c10, x10]
          exact hfin
        · simp (maxSteps := 2000000) (disch := first | omega | assumption | exact idP rfl | exact idP (bL rfl) | (simp only [alloc_size, upd_size] <;> omega) | fail) only [go_sem, reduceIte, Nat.reduceEqDiff, tl8.2]
          refine plo_lit hp8 [1, -1] (by simp) (by omega) ?_
          intro p2 H9 z1 z2
          obtain ⟨t9, x9, o9, c9, l5, l6, hfin⟩ := lit H8 _ [1, -1] p2 H9 hr8 hp8 (by omega) t8 x8 (by omega) z1 z2
          simp (maxSteps := 2000000) (disch := first | omega | assumption | exact idP rfl | exact idP (bL rfl) | (simp only [alloc_size, upd_size] <;> omega) | fail) only [go_sem, reduceIte, Nat.reduceEqDiff, t9, c9, x9]
          exact hfin
  · have tl : H7.get H5.size 0 = some (.int .i64 (nx : Int)) ∧ H7.get H5.size 1 = some v := by
      obtain ⟨z1, z2⟩ := Heap.rwCells_blk t7
      exact ⟨Rd.blk z1 z2 0 _ rfl, Rd.blk z1 z2 1 _ rfl⟩
    have z7 := (Heap.rwCells_blk x7).1
    simp (maxSteps := 2000000) (disch := first | omega | assumption | exact idP rfl | exact idP (bL rfl) | (simp only [alloc_size, upd_size] <;> omega) | fail) only [go_sem, reduceIte, Nat.reduceEqDiff, tl.1, tl.2, x7, hpl.one.2]
    exact fin nx v P (p' + 1) B H7 (.inl (by omega)) hp7 (by omega) hLB hdr (base_rw ar hr7.m) (by omega) (by omega) (base_rw a5 x7)
end Go.M2

namespace Go.M2
open Go.Proofs
variable {H : Heap}
end Go.M2

namespace Go.M2
open Go.Proofs
variable {H : Heap}
theorem s_wcInts {u v : AV} {xs : List Int} (hu : IsI H u xs) (hv : IsI H v xs) (h0 : xs.length ≤ 1048576) : ACall Try.prog n_Z25 [u, v] H (fun r H' => r = .bool true ∧ H' = H) := by
  refine ACall.of fun R hR => a_Z25 rfl ?_
  obtain ⟨A, c, ex, k, rfl, hr⟩ := hu.parts
  obtain ⟨A', c', ex', k', rfl, hr'⟩ := hv.parts
  have n0 : ¬ ((xs.length : Int) ≠ (xs.length : Int)) := fun h => h rfl
  simp (maxSteps := 2000000) (disch := first | omega | assumption | exact idP rfl | exact idP (bL rfl) | (simp only [alloc_size, upd_size] <;> omega) | fail) only [go_sem, reduceIte, Nat.reduceEqDiff, n0, decide_false]
  refine wp_loop_k (fun e H' => H' = H ∧ ∃ (i : Nat), i ≤ xs.length ∧ e 12 = .sl A xs.length c ex k ∧ e 1 = .sl A' xs.length c' ex' k' ∧ e 13 = .int .i64 (xs.length : Int) ∧ e 14 = .int .i64 (i : Int)) (fun e _ => ctr xs.length (e 14)) ?_ ?_
  · exact ⟨rfl, 0, Nat.zero_le _, by simp (maxSteps := 2000000) (disch := first | omega | assumption | exact idP rfl | exact idP (bL rfl) | (simp only [alloc_size, upd_size] <;> omega) | fail) only [go_sem, reduceIte, Nat.reduceEqDiff], by simp (maxSteps := 2000000) (disch := first | omega | assumption | exact idP rfl | exact idP (bL rfl) | (simp only [alloc_size, upd_size] <;> omega) | fail) only [go_sem, reduceIte, Nat.reduceEqDiff], by simp (maxSteps := 2000000) (disch := first | omega | assumption | exact idP rfl | exact idP (bL rfl) | (simp only [alloc_size, upd_size] <;> omega) | fail) only [go_sem, reduceIte, Nat.reduceEqDiff], by simp (maxSteps := 2000000) (disch := first | omega | assumption | exact idP rfl | exact idP (bL rfl) | (simp only [alloc_size, upd_size] <;> omega) | fail) only [go_sem, reduceIte, Nat.reduceEqDiff]; rfl⟩
  · rintro e H1 ⟨rfl, i, hi, e12, e1, e13, e14⟩ K hK
    simp (maxSteps := 2000000) (disch := first | omega | assumption | exact idP rfl | exact idP (bL rfl) | (simp only [alloc_size, upd_size] <;> omega) | fail) only [go_sem, reduceIte, Nat.reduceEqDiff, e13, e14]
    refine condV_dec (fun h => ?_) (fun h => ?_)
    · have hg := hr i (by omega)
      have hg' := hr' i (by omega)
      rw [Nat.mul_one] at hg hg'
      have n1 : ¬ (xs[i]'(by omega) ≠ xs[i]'(by omega)) := fun h => h rfl
      have e14' := e14
      simp (maxSteps := 2000000) (disch := first | omega | assumption | exact idP rfl | exact idP (bL rfl) | (simp only [alloc_size, upd_size] <;> omega) | fail) only [go_sem, reduceIte, Nat.reduceEqDiff, e12, e1, e14, hg, hg', n1, decide_false]
      exact hK _ _ ⟨rfl, i + 1, by omega, by simp (maxSteps := 2000000) (disch := first | omega | assumption | exact idP rfl | exact idP (bL rfl) | (simp only [alloc_size, upd_size] <;> omega) | fail) only [go_sem, reduceIte, Nat.reduceEqDiff, e12], by simp (maxSteps := 2000000) (disch := first | omega | assumption | exact idP rfl | exact idP (bL rfl) | (simp only [alloc_size, upd_size] <;> omega) | fail) only [go_sem, reduceIte, Nat.reduceEqDiff, e1], by simp (maxSteps := 2000000) (disch := first | omega | assumption | exact idP rfl | exact idP (bL rfl) | (simp only [alloc_size, upd_size] <;> omega) | fail) only [go_sem, reduceIte, Nat.reduceEqDiff, e13], by simp (maxSteps := 2000000) (disch := first | omega | assumption | exact idP rfl | exact idP (bL rfl) | (simp only [alloc_size, upd_size] <;> omega) | fail) only [go_sem, reduceIte, Nat.reduceEqDiff]; rfl⟩ (by simp (maxSteps := 2000000) (disch := first | omega | assumption | exact idP rfl | exact idP (bL rfl) | (simp only [alloc_size, upd_size] <;> omega) | fail) only [go_sem, reduceIte, Nat.reduceEqDiff, ctr_int, e14']; omega)
    · simp (maxSteps := 2000000) (disch := first | omega | assumption | exact idP rfl | exact idP (bL rfl) | (simp only [alloc_size, upd_size] <;> omega) | fail) only [go_sem, reduceIte, Nat.reduceEqDiff]
      exact hR _ _ ⟨rfl, rfl⟩
theorem s_DrawSolve {v : AV} {xs : List Int} (hv : IsB H v xs) (hc : ∀ A n c ex k, v = .sl A n c ex k → n ≤ c) (hl : xs.length ≤ 1048576) :
    ACall Try.prog n_Z54 [v] H (fun r H' => ∃ (n : Int) (v : AV) (P : List (List Int)), r = .agg [.int .i64 n, v] ∧ IsII H' v P ∧ P.length ≤ 701 ∧ (n ≤ 6 ∨ n = 701) ∧ ∀ c ∈ P, c.length ≤ 700) := by
  refine ACall.of fun R hR => a_Z54 rfl ?_
  simp (maxSteps := 2000000) (disch := first | omega | assumption | exact idP rfl | exact idP (bL rfl) | (simp only [alloc_size, upd_size] <;> omega) | fail) only [go_sem, reduceIte, Nat.reduceEqDiff]
  refine (s_l40Open (hv.le mono_B (Le.alloc _ _)) hc hl).mono ?_
  rintro r H1 ⟨w, code, rfl, hr, hH1⟩
  have x1 : (H1.kill (H.alloc [.int .i64 0, .sl none 0 0 true 0]).size).rwCells H.size = some [.int .i64 0, .sl none 0 0 true 0] := by
    rw [hH1]
    exact rwCells_of (by simp only [kill_size, alloc_size]; omega) (by rw [kill_ne (by simp only [alloc_size]; omega), alloc_old (by simp only [alloc_size]; omega), alloc_new])
  simp (maxSteps := 2000000) (disch := first | omega | assumption | exact idP rfl | exact idP (bL rfl) | (simp only [alloc_size, upd_size] <;> omega) | fail) only [go_sem, reduceIte, Nat.reduceEqDiff]
  refine (s_l12Some hr (by omega) fun h1 h2 => s_l11Some h1 h2).mono ?_
  rintro r H2 ⟨n, v, P, B, rfl, h1, h2, hnb, h4⟩
  have x2 := h4.rwCells x1
  have a2 := apart_of x2
  have x2' := (base_le _ _).rwCells x2
  have z2 := (Heap.rwCells_blk x2').1
  have ho1 := h1.one.1
  simp (maxSteps := 2000000) (disch := first | omega | assumption | exact idP rfl | exact idP (bL rfl) | (simp only [alloc_size, upd_size] <;> omega) | fail) only [go_sem, reduceIte, Nat.reduceEqDiff, x2', h1.one.2]
  have hs1 : H.size < H1.size := by rw [hH1]; simp only [alloc_size]; omega
  have hp := h1.old (x := .cells [.int .i64 n, v] true) a2 hs1
  exact hR _ _ ⟨n, v, P, rfl, hp.isII, h2, hnb, fun c hc => by
    obtain ⟨i, hi, rfl⟩ := List.getElem_of_mem hc
    exact hp.short i hi⟩
end Go.M2

namespace Go.M2
open Go.Proofs
variable {H : Heap}
theorem s_IndexFuncI {A : AA} {n c k f : Nat} {ex : Bool} {caps : List AV} {p : (i : Nat) → i < n → Prop} (hn : n ≤ 1048576)
    (hr : ∀ i (h : i < n), ∃ u, H.get A.b (A.o + i) = some u ∧ ∀ H', Le H H' → ACall Try.prog f (u :: caps) H' (fun r H2 => Le H' H2 ∧ ∃ b, r = .bool b ∧ (b = true ↔ p i h))) :
    ACall Try.prog n_Z35 [.sl A n c ex k, .fn f caps] H (fun r H' => Le H H' ∧ ∃ j : Int, r = .int .i64 j ∧ (0 ≤ j ↔ ∃ i h, p i h)) := by
  refine ACall.of fun R hR => a_Z35 rfl ?_
  simp (maxSteps := 2000000) (disch := first | omega | assumption | exact idP rfl | exact idP (bL rfl) | (simp only [alloc_size, upd_size] <;> omega) | fail) only [go_sem, reduceIte, Nat.reduceEqDiff]
  refine wp_loop_k (fun e H' => Le H H' ∧ ∃ (i : Nat), i ≤ n ∧ e 0 = .sl A n c ex k ∧ e 1 = .fn f caps ∧ e 7 = .int .i64 (n : Int) ∧ e 8 = .int .i64 (i : Int) ∧ ∀ j (h : j < n), j < i → ¬ p j h) (fun e _ => ctr n (e 8)) ?_ ?_
  · exact ⟨Le.refl _, 0, Nat.zero_le _, by simp (maxSteps := 2000000) (disch := first | omega | assumption | exact idP rfl | exact idP (bL rfl) | (simp only [alloc_size, upd_size] <;> omega) | fail) only [go_sem, reduceIte, Nat.reduceEqDiff], by simp (maxSteps := 2000000) (disch := first | omega | assumption | exact idP rfl | exact idP (bL rfl) | (simp only [alloc_size, upd_size] <;> omega) | fail) only [go_sem, reduceIte, Nat.reduceEqDiff], by simp (maxSteps := 2000000) (disch := first | omega | assumption | exact idP rfl | exact idP (bL rfl) | (simp only [alloc_size, upd_size] <;> omega) | fail) only [go_sem, reduceIte, Nat.reduceEqDiff], by simp (maxSteps := 2000000) (disch := first | omega | assumption | exact idP rfl | exact idP (bL rfl) | (simp only [alloc_size, upd_size] <;> omega) | fail) only [go_sem, reduceIte, Nat.reduceEqDiff]; rfl, fun j _ h => by omega⟩
  · rintro e H1 ⟨hle, i, hi, e0, e1, e7, e8, hj⟩ K hK
    simp (maxSteps := 2000000) (disch := first | omega | assumption | exact idP rfl | exact idP (bL rfl) | (simp only [alloc_size, upd_size] <;> omega) | fail) only [go_sem, reduceIte, Nat.reduceEqDiff, e0, e1, e7, e8]
    refine condV_dec (fun h => ?_) (fun h => ?_)
    · have hi' : i < n := by omega
      obtain ⟨u, hg, hu⟩ := hr i hi'
      have hg' := hle.get hg
      simp (maxSteps := 2000000) (disch := first | omega | assumption | exact idP rfl | exact idP (bL rfl) | (simp only [alloc_size, upd_size] <;> omega) | fail) only [go_sem, reduceIte, Nat.reduceEqDiff, e0, e1, e7, e8, hg']
      refine (hu H1 hle).mono ?_
      rintro r H2 ⟨hle2, b, rfl, hb⟩
      cases b with
      | true =>
        simp (maxSteps := 2000000) (disch := first | omega | assumption | exact idP rfl | exact idP (bL rfl) | (simp only [alloc_size, upd_size] <;> omega) | fail) only [go_sem, reduceIte, Nat.reduceEqDiff, e0, e1, e7, e8]
        exact hR _ _ ⟨hle.trans hle2, i, rfl, ⟨fun _ => ⟨i, hi', hb.1 rfl⟩, fun _ => by omega⟩⟩
      | false =>
        simp (maxSteps := 2000000) (disch := first | omega | assumption | exact idP rfl | exact idP (bL rfl) | (simp only [alloc_size, upd_size] <;> omega) | fail) only [go_sem, reduceIte, Nat.reduceEqDiff, e0, e1, e7, e8]
        refine hK _ _ ⟨hle.trans hle2, i + 1, by omega, by simp (maxSteps := 2000000) (disch := first | omega | assumption | exact idP rfl | exact idP (bL rfl) | (simp only [alloc_size, upd_size] <;> omega) | fail) only [go_sem, reduceIte, Nat.reduceEqDiff, e0], by simp (maxSteps := 2000000) (disch := first | omega | assumption | exact idP rfl | exact idP (bL rfl) | (simp only [alloc_size, upd_size] <;> omega) | fail) only [go_sem, reduceIte, Nat.reduceEqDiff, e1], by simp (maxSteps := 2000000) (disch := first | omega | assumption | exact idP rfl | exact idP (bL rfl) | (simp only [alloc_size, upd_size] <;> omega) | fail) only [go_sem, reduceIte, Nat.reduceEqDiff, e7], by simp (maxSteps := 2000000) (disch := first | omega | assumption | exact idP rfl | exact idP (bL rfl) | (simp only [alloc_size, upd_size] <;> omega) | fail) only [go_sem, reduceIte, Nat.reduceEqDiff]; rfl, fun j hj1 hj2 => ?_⟩ (by simp (maxSteps := 2000000) (disch := first | omega | assumption | exact idP rfl | exact idP (bL rfl) | (simp only [alloc_size, upd_size] <;> omega) | fail) only [go_sem, reduceIte, Nat.reduceEqDiff, ctr_int, e8]; omega)
        by_cases hji : j = i
        · subst hji; intro hp; have := hb.2 hp; cases this
        · exact hj j hj1 (by omega)
    · simp (maxSteps := 2000000) (disch := first | omega | assumption | exact idP rfl | exact idP (bL rfl) | (simp only [alloc_size, upd_size] <;> omega) | fail) only [go_sem, reduceIte, Nat.reduceEqDiff]
      refine hR _ _ ⟨hle, -1, rfl, ⟨fun h => by omega, fun ⟨j, hj1, hp⟩ => absurd hp (hj j hj1 (by omega))⟩⟩
theorem s_ContainsFuncI {A : AA} {n c k f : Nat} {ex : Bool} {caps : List AV} {p : (i : Nat) → i < n → Prop} (hn : n ≤ 1048576)
    (hr : ∀ i (h : i < n), ∃ u, H.get A.b (A.o + i) = some u ∧ ∀ H', Le H H' → ACall Try.prog f (u :: caps) H' (fun r H2 => Le H' H2 ∧ ∃ b, r = .bool b ∧ (b = true ↔ p i h))) :
    ACall Try.prog n_Z33 [.sl A n c ex k, .fn f caps] H (fun r H' => Le H H' ∧ ∃ b : Bool, r = .bool b ∧ (b = true ↔ ∃ i h, p i h)) := by
  refine ACall.of fun R hR => a_Z33 rfl ?_
  simp (maxSteps := 2000000) (disch := first | omega | assumption | exact idP rfl | exact idP (bL rfl) | (simp only [alloc_size, upd_size] <;> omega) | fail) only [go_sem, reduceIte, Nat.reduceEqDiff]
  refine (s_IndexFuncI hn hr).mono ?_
  rintro r H1 ⟨hle, j, rfl, hj⟩
  simp (maxSteps := 2000000) (disch := first | omega | assumption | exact idP rfl | exact idP (bL rfl) | (simp only [alloc_size, upd_size] <;> omega) | fail) only [go_sem, reduceIte, Nat.reduceEqDiff]
  exact hR _ _ ⟨hle, _, rfl, by simpa using hj⟩
theorem s_bitsValid {v : AV} {xs : List Int} (hv : IsI H v xs) (hl : xs.length ≤ 1048576) (hx : ∀ x ∈ xs, x = 0 ∨ x = 1) :
    ACall Try.prog n_Z11 [v] H (fun r H' => r = .bool true ∧ Le H H') := by
  refine ACall.of fun R hR => a_Z11 rfl ?_
  obtain ⟨A, c, ex, k, rfl, hr⟩ := hv.parts
  simp (maxSteps := 2000000) (disch := first | omega | assumption | exact idP rfl | exact idP (bL rfl) | (simp only [alloc_size, upd_size] <;> omega) | fail) only [go_sem, reduceIte, Nat.reduceEqDiff]
  refine (s_ContainsFuncI (p := fun i h => False) hl fun i hi => ?_).mono ?_
  · have hg := hr i hi
    rw [Nat.mul_one] at hg
    refine ⟨_, hg, fun H' _ => ?_⟩
    refine ACall.of fun R hR => a_Z11_1 rfl ?_
    simp (maxSteps := 2000000) (disch := first | omega | assumption | exact idP rfl | exact idP (bL rfl) | (simp only [alloc_size, upd_size] <;> omega) | fail) only [go_sem, reduceIte, Nat.reduceEqDiff]
    refine s_in.mono ?_
    rintro r H2 ⟨rfl, rfl⟩
    have hb : 0 ≤ xs[i] ∧ xs[i] ≤ 1 := by have := hx _ (List.getElem_mem hi); omega
    simp (maxSteps := 2000000) (disch := first | omega | assumption | exact idP rfl | exact idP (bL rfl) | (simp only [alloc_size, upd_size] <;> omega) | fail) only [go_sem, reduceIte, Nat.reduceEqDiff, hb, decide_true]
    exact hR _ _ ⟨Le.refl _, false, rfl, by simp⟩
  · rintro r H1 ⟨hle, b, rfl, hb⟩
    cases b with
    | true => obtain ⟨_, _, h⟩ := hb.1 rfl; exact h.elim
    | false =>
      simp (maxSteps := 2000000) (disch := first | omega | assumption | exact idP rfl | exact idP (bL rfl) | (simp only [alloc_size, upd_size] <;> omega) | fail) only [go_sem, reduceIte, Nat.reduceEqDiff]
      exact hR _ _ ⟨rfl, hle⟩
def litT (vals : List Int) (x : Int) : Prop := vals.getD (x.natAbs - 1) 0 = if 0 < x then 1 else 0
instance (vals : List Int) (x : Int) : Decidable (litT vals x) := by unfold litT; infer_instance
theorem s_litTrue {v : AV} {vals : List Int} {x : Int} (hv : IsI H v vals) (h0 : x ≠ 0) (h1 : x.natAbs ≤ vals.length) (h2 : vals.length ≤ 1048576) :
    ACall Try.prog n_Z20 [.int .i64 x, v] H (fun r H' => r = .bool (decide (litT vals x)) ∧ H' = H) := by
  refine ACall.of fun R hR => a_Z20 rfl ?_
  obtain ⟨A, c, ex, k, rfl, hr⟩ := hv.parts
  have hg := hr (x.natAbs - 1) (by omega)
  rw [Nat.mul_one] at hg
  have e1 : ((x.natAbs : Int) - 1).toNat = x.natAbs - 1 := by omega
  simp (maxSteps := 2000000) (disch := first | omega | assumption | exact idP rfl | exact idP (bL rfl) | (simp only [alloc_size, upd_size] <;> omega) | fail) only [go_sem, reduceIte, Nat.reduceEqDiff]
  refine (s_atomOf (n := x) (by omega) (by omega)).mono ?_
  rintro r H1 ⟨rfl, rfl⟩
  simp (maxSteps := 2000000) (disch := first | omega | assumption | exact idP rfl | exact idP (bL rfl) | (simp only [alloc_size, upd_size] <;> omega) | fail) only [go_sem, reduceIte, Nat.reduceEqDiff, e1, hg]
  refine s_bit.mono ?_
  rintro r H1 ⟨rfl, rfl⟩
  simp (maxSteps := 2000000) (disch := first | omega | assumption | exact idP rfl | exact idP (bL rfl) | (simp only [alloc_size, upd_size] <;> omega) | fail) only [go_sem, reduceIte, Nat.reduceEqDiff, hg]
  refine hR _ _ ⟨?_, rfl⟩
  have hlt : x.natAbs - 1 < vals.length := by omega
  have e2 : vals.getD (x.natAbs - 1) 0 = vals[x.natAbs - 1] := by simp [List.getD, hlt]
  have e3 : vals[x.natAbs - 1] = (if decide (0 < x) = true then 1 else 0) ↔ litT vals x := by
    unfold litT
    rw [e2]; simp
  exact congrArg AV.bool (decide_eq_decide.2 e3)
theorem s_trueIn11 {v : AV} {vals : List Int} {x : Int} {b : Nat} (hg : H.get b 0 = some v) (hv : IsI H v vals) (h0 : x ≠ 0) (h1 : x.natAbs ≤ vals.length) (h2 : vals.length ≤ 1048576) :
    ACall Try.prog n_Z23_1_1 [.int .i64 x, .ptr (some (b, 0))] H (fun r H' => r = .bool (decide (litT vals x)) ∧ H' = H) := by
  refine ACall.of fun R hR => a_Z23_1_1 rfl ?_
  simp (maxSteps := 2000000) (disch := first | omega | assumption | exact idP rfl | exact idP (bL rfl) | (simp only [alloc_size, upd_size] <;> omega) | fail) only [go_sem, reduceIte, Nat.reduceEqDiff, hg]
  refine (s_litTrue hv h0 h1 h2).mono ?_
  rintro r H1 ⟨rfl, rfl⟩
  simp (maxSteps := 2000000) (disch := first | omega | assumption | exact idP rfl | exact idP (bL rfl) | (simp only [alloc_size, upd_size] <;> omega) | fail) only [go_sem, reduceIte, Nat.reduceEqDiff]
  exact hR _ _ ⟨rfl, rfl⟩
theorem s_trueIn1 {v u : AV} {vals xs : List Int} {b : Nat} (hg : H.get b 0 = some v) (hv : IsI H v vals) (hu : IsI H u xs) (hx : ∀ x ∈ xs, x ≠ 0 ∧ x.natAbs ≤ vals.length) (h2 : vals.length ≤ 1048576) (hl : xs.length ≤ 1048576) (ht : ∃ x ∈ xs, litT vals x) :
    ACall Try.prog n_Z23_1 [u, .ptr (some (b, 0))] H (fun r H' => r = .bool false ∧ Le H H') := by
  refine ACall.of fun R hR => a_Z23_1 rfl ?_
  obtain ⟨A, c, ex, k, rfl, hr⟩ := hu.parts
  simp (maxSteps := 2000000) (disch := first | omega | assumption | exact idP rfl | exact idP (bL rfl) | (simp only [alloc_size, upd_size] <;> omega) | fail) only [go_sem, reduceIte, Nat.reduceEqDiff]
  refine (s_ContainsFuncI (p := fun i h => litT vals xs[i]) hl fun i hi => ?_).mono ?_
  · have hgi := hr i hi
    rw [Nat.mul_one] at hgi
    have hxi := hx _ (List.getElem_mem hi)
    refine ⟨_, hgi, fun H' hle => (s_trueIn11 (hle.get hg) (hv.le hle) hxi.1 hxi.2 h2).mono ?_⟩
    rintro r H2 ⟨rfl, rfl⟩
    exact ⟨Le.refl _, _, rfl, by simp⟩
  · rintro r H1 ⟨hle, b, rfl, hb⟩
    obtain ⟨x, hx, hxt⟩ := ht
    obtain ⟨i, hi, rfl⟩ := List.getElem_of_mem hx
    obtain rfl := hb.2 ⟨i, hi, hxt⟩
    simp (maxSteps := 2000000) (disch := first | omega | assumption | exact idP rfl | exact idP (bL rfl) | (simp only [alloc_size, upd_size] <;> omega) | fail) only [go_sem, reduceIte, Nat.reduceEqDiff]
    exact hR _ _ ⟨rfl, hle⟩
theorem s_trueIn {v fl : AV} {vals : List Int} {xss : List (List Int)} (hv : IsI H v vals) (hf : IsII H fl xss) (hx : ∀ c ∈ xss, ∀ x ∈ c, x ≠ 0 ∧ x.natAbs ≤ vals.length) (h2 : vals.length ≤ 1048576) (hl : xss.length ≤ 1048576) (hxl : ∀ c ∈ xss, c.length ≤ 1048576) (ht : ∀ c ∈ xss, ∃ x ∈ c, litT vals x) :
    ACall Try.prog n_Z23 [fl, v] H (fun r H' => r = .bool true ∧ Le H H') := by
  refine ACall.of fun R hR => a_Z23 rfl ?_
  have hof := oneA_isS hv
  have hof1 := hof.1
  obtain ⟨A, c, ex, k, rfl, hr⟩ := hf.parts
  have hbx : ∀ K : AV → Heap → Prop, boxP v H K = K (.ptr (some (H.size, 0))) (H.alloc [v]) := fun K => by
    obtain ⟨A, c, ex, k, rfl, _⟩ := hv.parts
    rfl
  simp (maxSteps := 2000000) (disch := first | omega | assumption | exact idP rfl | exact idP (bL rfl) | (simp only [alloc_size, upd_size] <;> omega) | fail) only [go_sem, reduceIte, Nat.reduceEqDiff, hbx]
  have L1 := Le.alloc H [v]
  have hg : (H.alloc [v]).get H.size 0 = some v := by simp (maxSteps := 2000000) (disch := first | omega | assumption | exact idP rfl | exact idP (bL rfl) | (simp only [alloc_size, upd_size] <;> omega) | fail) only [go_sem, reduceIte, Nat.reduceEqDiff]
  refine (s_ContainsFuncSS (p := fun i h => False) hl fun i hi => ?_).mono ?_
  · obtain ⟨u, hgu, hu⟩ := hr i hi
    rw [Nat.mul_one] at hgu
    refine ⟨u, L1.get hgu, fun H' hle => (s_trueIn1 (hle.get hg) (hv.le (L1.trans hle)) (hu.le (L1.trans hle)) (hx _ (List.getElem_mem hi)) h2 (hxl _ (List.getElem_mem hi)) (ht _ (List.getElem_mem hi))).mono ?_⟩
    rintro r H2 ⟨rfl, hle2⟩
    exact ⟨hle2, false, rfl, by simp⟩
  · rintro r H1 ⟨hle, b, rfl, hb⟩
    cases b with
    | true => obtain ⟨_, _, h⟩ := hb.1 rfl; exact h.elim
    | false =>
      simp (maxSteps := 2000000) (disch := first | omega | assumption | exact idP rfl | exact idP (bL rfl) | (simp only [alloc_size, upd_size] <;> omega) | fail) only [go_sem, reduceIte, Nat.reduceEqDiff]
      exact hR _ _ ⟨rfl, L1.trans hle⟩
theorem s_implTrueIn {x v : AV} {n : Nat} {vals : List Int} {xss : List (List Int)} (hx : IsCl H x (n : Int) xss) (hok : ClsOk (n : Int) xss) (hv : IsI H v vals) (hn : vals.length = n) (h01 : ∀ y ∈ vals, y = 0 ∨ y = 1) (hl : xss.length ≤ 1048576) (hxl : ∀ c ∈ xss, c.length ≤ 1048576) (ht : ∀ c ∈ xss, ∃ x ∈ c, litT vals x) :
    ACall Try.prog n_Z8 [x, v] H (fun r H' => r = .bool true ∧ Le H H') := by
  refine ACall.of fun R hR => a_Z8 rfl ?_
  obtain ⟨fl, rfl, hf⟩ := hx
  have hof := oneA_isS hf
  have hof1 := hof.1
  have hhi := hok.hi
  simp (maxSteps := 2000000) (disch := first | omega | assumption | exact idP rfl | exact idP (bL rfl) | (simp only [alloc_size, upd_size] <;> omega) | fail) only [go_sem, reduceIte, Nat.reduceEqDiff, hof.2]
  have L1 := Le.alloc H [.int .i64 (n : Int), fl]
  refine (s_implClausesValid (n := (n : Int)) (xss := xss) ⟨fl, rfl, hf.le L1⟩ hl hxl).mono ?_
  rintro r H1 ⟨L2, b, rfl, hb⟩
  obtain rfl := hb.2 hok
  have g0 : H1.get H.size 0 = some (.int .i64 (n : Int)) := L2.get (by simp (maxSteps := 2000000) (disch := first | omega | assumption | exact idP rfl | exact idP (bL rfl) | (simp only [alloc_size, upd_size] <;> omega) | fail) only [go_sem, reduceIte, Nat.reduceEqDiff])
  have g1 : H1.get H.size 1 = some fl := L2.get (by simp (maxSteps := 2000000) (disch := first | omega | assumption | exact idP rfl | exact idP (bL rfl) | (simp only [alloc_size, upd_size] <;> omega) | fail) only [go_sem, reduceIte, Nat.reduceEqDiff])
  have L12 := L1.trans L2
  have hlv : lenF v = some (.int .i64 (n : Int)) := by
    obtain ⟨A, c, ex, k, rfl, _⟩ := hv.parts
    rw [← hn]; rfl
  simp (maxSteps := 2000000) (disch := first | omega | assumption | exact idP rfl | exact idP (bL rfl) | (simp only [alloc_size, upd_size] <;> omega) | fail) only [go_sem, reduceIte, Nat.reduceEqDiff, hlv, g0, decide_true]
  refine (s_bitsValid (hv.le L12) (by omega) h01).mono ?_
  rintro r H2 ⟨rfl, L3⟩
  have g1' := L3.get g1
  simp (maxSteps := 2000000) (disch := first | omega | assumption | exact idP rfl | exact idP (bL rfl) | (simp only [alloc_size, upd_size] <;> omega) | fail) only [go_sem, reduceIte, Nat.reduceEqDiff, g1']
  refine (s_trueIn (hv.le (L12.trans L3)) (hf.le (L12.trans L3)) (fun c hc x hxc => ?_) (by omega) hl hxl ht).mono ?_
  · have := clOk_lits (hok.all c hc) x hxc
    exact ⟨this.1, by omega⟩
  rintro r H3 ⟨rfl, L4⟩
  simp (maxSteps := 2000000) (disch := first | omega | assumption | exact idP rfl | exact idP (bL rfl) | (simp only [alloc_size, upd_size] <;> omega) | fail) only [go_sem, reduceIte, Nat.reduceEqDiff]
  exact hR _ _ ⟨rfl, (L12.trans L3).trans L4⟩
end Go.M2
