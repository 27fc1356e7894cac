/- Which variables an expression, a rule is made of; lists without what repeats: the plain law. -/
import Derived.Test.YtopdgbopmjcdbaaWk4
import Derived.Test.YtopdgbopmjcdbaaChecked
set_option linter.unusedVariables false
set_option linter.unusedSimpArgs false
set_option maxRecDepth 10000
set_option maxHeartbeats 4000000
namespace Go.M2
open Go.Proofs
variable {M : MH}
def tAt (l : List TermS) (i : Nat) : TermS := l.getD i ⟨0, 0, 0, 0⟩
theorem tAt_eq {l : List TermS} {i : Nat} (h : i < l.length) : tAt l i = l[i] := by simp [tAt, h]
def TOk (vars : Int) (l : List TermS) : Prop := ∀ i, i < l.length → 0 ≤ (tAt l i).op ∧ (tAt l i).op ≤ 9 ∧ ((tAt l i).op = 1 → 0 ≤ (tAt l i).n ∧ (tAt l i).n < vars) ∧ (2 ≤ (tAt l i).op → 0 ≤ (tAt l i).a ∧ (tAt l i).a < (i : Int) ∧ 0 ≤ (tAt l i).b ∧ (tAt l i).b < (i : Int))
theorem TOk.of {vars : Int} {l : List TermS} {ks : List Int} (h : kindsF vars l = some ks) : TOk vars l ∧ 1 ≤ l.length ∧ l.length ≤ 40 := by
  unfold kindsF at h
  split at h
  · rename_i hc
    obtain ⟨h1, h2⟩ := kindsGo_at h
    refine ⟨fun i hi => ?_, hc.2.2.1, hc.2.2.2⟩
    obtain ⟨h3, h4⟩ := h2 i hi (by omega)
    rw [tAt_eq hi]
    rw [← h3] at h4
    have hl : (ks.take i).length = i := by simp; omega
    unfold kind1 at h4
    rw [hl] at h4
    repeat' split at h4
    all_goals first | exact absurd rfl h4 | omega
  · cases h
def ndK (l : List TermS) : Nat → Nat → Bool
  | 0, i => decide (i + 1 = l.length)
  | j + 1, i => ndK l j i || ((ndK l j (l.length - 1 - j) && decide (2 ≤ (tAt l (l.length - 1 - j)).op)) && (decide (i = (tAt l (l.length - 1 - j)).a.toNat) || decide (i = (tAt l (l.length - 1 - j)).b.toNat)))
def ndA (l : List TermS) : Nat → Bool := ndK l l.length
theorem ndK_keep {vars : Int} {l : List TermS} (h : TOk vars l) {i j : Nat} : ∀ {k : Nat}, j + k ≤ l.length → l.length ≤ i + j + 1 → ndK l (j + k) i = ndK l j i
  | 0, _, _ => rfl
  | k + 1, h1, h2 => by
    rw [← Nat.add_assoc, ndK, ndK_keep h (by omega) h2]
    cases h3 : ndK l (j + k) (l.length - 1 - (j + k)) && decide (2 ≤ (tAt l (l.length - 1 - (j + k))).op) with
    | false => simp
    | true =>
      simp only [Bool.and_eq_true, decide_eq_true_eq] at h3
      obtain ⟨_, _, _, h4⟩ := h (l.length - 1 - (j + k)) (by omega)
      obtain ⟨a1, a2, a3, a4⟩ := h4 h3.2
      have e1 : decide (i = (tAt l (l.length - 1 - (j + k))).a.toNat) = false := by simp; omega
      have e2 : decide (i = (tAt l (l.length - 1 - (j + k))).b.toNat) = false := by simp; omega
      rw [e1, e2]; simp
theorem ndK_last {vars : Int} {l : List TermS} (h : TOk vars l) {j : Nat} (hj : j < l.length) : ndK l j (l.length - 1 - j) = ndA l (l.length - 1 - j) := by
  unfold ndA
  have := ndK_keep h (i := l.length - 1 - j) (j := j) (k := l.length - j) (by omega) (by omega)
  rw [← this]; congr 1; omega
def isV (l : List TermS) (v i : Nat) : Bool := (ndA l i && decide ((tAt l i).op = 1)) && decide ((tAt l i).n = (v : Int))
def usP (l : List TermS) (v : Nat) : Bool := (List.range l.length).any (isV l v)
def usK (l : List TermS) (j v : Nat) : Bool := (List.range j).any fun k => isV l v (l.length - 1 - k)
theorem usK_succ {l : List TermS} {j v : Nat} : usK l (j + 1) v = (usK l j v || isV l v (l.length - 1 - j)) := by
  unfold usK; rw [List.range_succ, List.any_append]; simp
theorem usK_all {l : List TermS} {v : Nat} : usK l l.length v = usP l v := by
  unfold usK usP
  rw [Bool.eq_iff_iff, List.any_eq_true, List.any_eq_true]
  constructor
  · rintro ⟨k, hk, h⟩
    rw [List.mem_range] at hk
    exact ⟨l.length - 1 - k, List.mem_range.2 (by omega), h⟩
  · rintro ⟨k, hk, h⟩
    rw [List.mem_range] at hk
    exact ⟨l.length - 1 - k, List.mem_range.2 (by omega), by rw [show l.length - 1 - (l.length - 1 - k) = k by omega]; exact h⟩
def usF (l : List TermS) (v i : Nat) : Bool := (List.range i).any (isV l v)
theorem usF_succ {l : List TermS} {i v : Nat} : usF l v (i + 1) = (usF l v i || isV l v i) := by
  unfold usF; rw [List.range_succ, List.any_append]; simp
def toP (r : RuleS) (v : Nat) : Bool := usP r.when_ v || r.terms.any fun t => usP t v
def toF (n : Nat) (r : RuleS) : List Int := selL n (toP r)
def catU (n : Nat) (w : List TermS) (ts : List (List TermS)) : List Int := selL n (usP w) ++ (ts.map fun t => selL n (usP t)).flatten
theorem catU_snoc {n : Nat} {w : List TermS} {ts : List (List TermS)} {t : List TermS} : catU n w (ts ++ [t]) = catU n w ts ++ selL n (usP t) := by simp [catU]
theorem catU_len {n : Nat} {w : List TermS} {ts : List (List TermS)} : (catU n w ts).length ≤ n * (ts.length + 1) := by
  unfold catU
  rw [List.length_append, List.length_flatten]
  have h1 : (selL n (usP w)).length ≤ n := selL_len
  have : (((ts.map fun t => selL n (usP t)).map List.length)).sum ≤ n * ts.length := by
    induction ts with
    | nil => simp
    | cons t ts ih =>
      have h2 : (selL n (usP t)).length ≤ n := selL_len
      simp only [List.map_cons, List.sum_cons, List.length_cons, Nat.mul_add, Nat.mul_one]
      omega
  rw [Nat.mul_add, Nat.mul_one]; omega
theorem mem_catU {n : Nat} {r : RuleS} {x : Int} : x ∈ catU n r.when_ r.terms ↔ x ∈ toF n r := by
  unfold catU toF
  rw [List.mem_append, mem_selL, List.mem_flatten, mem_selL]
  constructor
  · rintro (⟨i, h1, h2, h3⟩ | ⟨l, hl, hx⟩)
    · exact ⟨i, h1, by simp [toP, h2], h3⟩
    · obtain ⟨t, ht, rfl⟩ := List.mem_map.1 hl
      obtain ⟨i, h1, h2, h3⟩ := mem_selL.1 hx
      refine ⟨i, h1, ?_, h3⟩
      simp only [toP, Bool.or_eq_true, List.any_eq_true]
      exact .inr ⟨t, ht, h2⟩
  · rintro ⟨i, h1, h2, h3⟩
    simp only [toP, Bool.or_eq_true, List.any_eq_true] at h2
    rcases h2 with h2 | ⟨t, ht, h2⟩
    · exact .inl ⟨i, h1, h2, h3⟩
    · exact .inr ⟨_, List.mem_map_of_mem ht, mem_selL.2 ⟨i, h1, h2, h3⟩⟩
def compF : List Int → List Int
  | [] => []
  | x :: t => match t with
    | [] => [x]
    | y :: _ => if x = y then compF t else x :: compF t
theorem compF_snoc : ∀ {l : List Int} {y x : Int}, compF (l ++ [y] ++ [x]) = if y = x then compF (l ++ [y]) else compF (l ++ [y]) ++ [x]
  | [], y, x => by
    simp only [List.nil_append, List.singleton_append, compF]
    split
    · rename_i e; rw [e]
    · rfl
  | [a], y, x => by
    simp only [List.singleton_append, List.cons_append, List.nil_append, compF]
    repeat' split
    all_goals (try subst_vars; rfl)
  | a :: b :: t, y, x => by
    have ih := compF_snoc (l := b :: t) (y := y) (x := x)
    simp only [List.cons_append] at ih ⊢
    rw [compF, compF, ih]
    split <;> split <;> simp
theorem compF_take {l : List Int} {m : Nat} (hm : 0 < m) (h : m < l.length) : compF (l.take (m + 1)) = if l[m] = l[m - 1] then compF (l.take m) else compF (l.take m) ++ [l[m]] := by
  obtain ⟨k, rfl⟩ : ∃ k, m = k + 1 := ⟨m - 1, by omega⟩
  have e1 : l.take (k + 1) = l.take k ++ [l[k]] := take_snoc (by omega)
  have e2 : l.take (k + 1 + 1) = l.take (k + 1) ++ [l[k + 1]] := take_snoc h
  rw [e2, e1, compF_snoc]
  simp only [Nat.add_sub_cancel]
  by_cases e : l[k] = l[k + 1]
  · rw [if_pos e, if_pos e.symm]
  · rw [if_neg e, if_neg (fun h => e h.symm)]
theorem compF_id {l : List Int} : ∀ {m : Nat}, m ≤ l.length → (∀ i (h : i < l.length), 0 < i → i < m → l[i] ≠ l[i - 1]) → compF (l.take m) = l.take m
  | 0, _, _ => by simp [compF]
  | 1, h, _ => by rw [take_snoc (by omega)]; simp [compF]
  | m + 2, h, hk => by
    rw [compF_take (by omega) (by omega), if_neg (by have := hk (m + 1) (by omega) (by omega) (by omega); simpa using this), compF_id (by omega) fun i h1 h2 h3 => hk i h1 h2 (by omega), take_snoc (i := m + 1) (by omega)]
theorem mem_compF {l : List Int} {x : Int} : x ∈ compF l ↔ x ∈ l := by
  induction l with
  | nil => simp [compF]
  | cons y t ih =>
    cases t with
    | nil => simp [compF]
    | cons z t =>
      rw [compF]
      split
      · rename_i e; subst e; rw [ih]; simp
      · rw [List.mem_cons, ih]
        exact List.mem_cons.symm
theorem compF_asc {l : List Int} (h : l.Pairwise (· ≤ ·)) : (compF l).Pairwise (· < ·) := by
  induction l with
  | nil => simp [compF]
  | cons y t ih =>
    have h2 := List.pairwise_cons.1 h
    cases t with
    | nil => simp [compF]
    | cons z t =>
      rw [compF]
      split
      · exact ih h2.2
      · rename_i hne
        refine List.pairwise_cons.2 ⟨fun b hb => ?_, ih h2.2⟩
        rw [mem_compF] at hb
        have h3 := h2.1 z (List.mem_cons_self ..)
        rcases List.mem_cons.1 hb with rfl | hb
        · omega
        · have := (List.pairwise_cons.1 h2.2).1 b hb; omega
theorem asc_eq : ∀ {a b : List Int}, a.Pairwise (· < ·) → b.Pairwise (· < ·) → (∀ x, x ∈ a ↔ x ∈ b) → a = b
  | [], [], _, _, _ => rfl
  | [], y :: t, _, _, h => absurd ((h y).2 (List.mem_cons_self ..)) (by simp)
  | x :: s, [], _, _, h => absurd ((h x).1 (List.mem_cons_self ..)) (by simp)
  | x :: s, y :: t, ha, hb, h => by
    have ha2 := List.pairwise_cons.1 ha
    have hb2 := List.pairwise_cons.1 hb
    have e : x = y := by
      rcases List.mem_cons.1 ((h x).1 (List.mem_cons_self ..)) with e | h1
      · exact e
      · rcases List.mem_cons.1 ((h y).2 (List.mem_cons_self ..)) with e | h2
        · exact e.symm
        · have := ha2.1 y h2; have := hb2.1 x h1; omega
    subst e
    rw [asc_eq ha2.2 hb2.2 fun z => ?_]
    constructor
    · intro hz
      rcases List.mem_cons.1 ((h z).1 (List.mem_cons_of_mem _ hz)) with e | h1
      · subst e; have := ha2.1 z hz; omega
      · exact h1
    · intro hz
      rcases List.mem_cons.1 ((h z).2 (List.mem_cons_of_mem _ hz)) with e | h1
      · subst e; have := hb2.1 z hz; omega
      · exact h1
theorem selL_asc {n : Nat} {p : Nat → Bool} : (selL n p).Pairwise (· < ·) := by
  unfold selL
  rw [List.pairwise_map]
  exact (List.Pairwise.filter _ List.pairwise_lt_range).imp fun h => by omega
theorem sortI_sorted {l : List Int} : (sortI l).Pairwise (· ≤ ·) := by
  have := List.pairwise_mergeSort (le := fun x y : Int => decide (x ≤ y)) (fun a b c h1 h2 => by simp at h1 h2 ⊢; omega) (fun a b => by simp; omega) l
  exact this.imp fun h => by simpa using h
theorem mem_sortI {l : List Int} {x : Int} : x ∈ sortI l ↔ x ∈ l := (List.mergeSort_perm l _).mem_iff
theorem comp_catU {n : Nat} {r : RuleS} : compF (sortI (catU n r.when_ r.terms)) = toF n r :=
  asc_eq (compF_asc sortI_sorted) selL_asc fun x => by rw [mem_compF, mem_sortI, mem_catU]
end Go.M2

namespace Go.M2
open Go.Proofs
variable {M : MH}
theorem setAtG_lo {α : Type} : ∀ {c l : List α} {o i : Nat}, i < o → (setAtG l o c)[i]? = l[i]?
  | [], l, o, i, _ => rfl
  | x :: t, l, o, i, h => by rw [setAtG, setAtG_lo (by omega), List.getElem?_set_ne (by omega)]
theorem t_Compact {b n : Nat} {ex : Bool} {zs : List Int} (hm : M b = some (zs.map vi)) (hn : zs.length = n) (hl : n ≤ 1048576) :
    VCall Try.prog n_slices_Compact_Sint_int [.sc (.sl (some (b, 0)) n n ex 1)] M (fun r M' => ∃ rest, r = .sc (.sl (some (b, 0)) (compF zs).length n ex 1) ∧ M' = M.set b ((compF zs).map vi ++ rest)) := by
  refine VCall.plain fun R hR => v_slices_Compact_Sint_int rfl ?_
  have idm := set_id hm
  have same : compF zs = zs → R (.sc (.sl (some (b, 0)) n n ex 1)) M := fun h => hR _ _ ⟨[], by rw [h, hn], by rw [h, List.append_nil, idm]⟩
  refine sS0 ?_
  refine cond_dec (fun h => ?_) (fun h => ?_)
  · refine sS0 ?_
    refine same ?_
    have := compF_id (l := zs) (m := zs.length) (Nat.le_refl _) fun i h1 h2 h3 => by omega
    rwa [List.take_length] at this
  · refine sS0 ?_
    refine loop_k (fun e M' => M = M' ∧ ∃ k : Nat, 1 ≤ k ∧ k ≤ n ∧ e 0 = .sc (.sl (some (b, 0)) n n ex 1) ∧ e 3 = .sc (.int .i64 k) ∧ ∀ i (h : i < zs.length), 0 < i → i < k → zs[i] ≠ zs[i - 1]) (fun e _ => ctrV n (e 3)) ?_ ?_
    · exact ⟨rfl, 1, by omega, by omega, sT0, by refine sS0 ?_; rfl, fun i h1 h2 h3 => by omega⟩
    · rintro e _ ⟨rfl, k, hk1, hk, e0, e3, hne⟩ K hK
      refine sS2 @e0 @e3 ?_
      refine cond_dec (fun h => ?_) (fun h => ?_)
      · have h1 : k < zs.length := by omega
        have h2 : k - 1 < zs.length := by omega
        have et : (k : Int) - 1 = ((k - 1 : Nat) : Int) := by omega
        have g1 := nth_vi h1
        have g2 := nth_vi h2
        refine sS6 @e0 @e3 @hm @et @g1 @g2 ?_
        refine cond_dec (fun heq => ?_) (fun heq => ?_)
        · have hs1 : slcV 1 (some (.int .i64 (k : Int))) none none (.sc (.sl (some (b, 0)) n n ex 1)) = some (.sc (.sl (some (b, k)) (n - k) (n - k) ex 1)) := by
            rw [slc_lo (by omega) (by omega) (by omega) (by omega)]; simp
          have base : compF (zs.take (k + 1)) = zs.take k := by
            rw [compF_take hk1 h1, if_pos heq]
            exact compF_id (by omega) fun i q1 q2 q3 => hne i q1 q2 (by omega)
          refine sS3 @e0 @e3 @hs1 ?_
          refine loop_k (fun e M' => ∃ (j kc : Nat) (L : List V), 1 ≤ j ∧ k + j ≤ n ∧ e 0 = .sc (.sl (some (b, 0)) n n ex 1) ∧ e 3 = .sc (.int .i64 kc) ∧ e 4 = .sc (.sl (some (b, k)) (n - k) (n - k) ex 1) ∧ e 5 = .sc (.int .i64 j) ∧ M' = M.set b L ∧ L.length = n ∧
            kc = (compF (zs.take (k + j))).length ∧ kc < k + j ∧ L.take kc = (compF (zs.take (k + j))).map vi ∧ ∀ i, k + j ≤ i + 1 → L[i]? = (zs.map vi)[i]?) (fun e _ => ctrV (n - k) (e 5)) ?_ ?_
          · refine ⟨1, k, zs.map vi, by omega, by omega, sT0, sT0, sT0, by refine sS0 ?_; rfl, idm.symm, by simp; omega, by rw [base]; simp; omega, by omega, by rw [base, List.map_take], fun i hi => rfl⟩
          · rintro e _ ⟨j, kc, L, hj1, hj, e0, e3, e4, e5, rfl, hL, hkc, hkj, hT, hD⟩ K2 hK2
            have hmb : (M.set b L) b = some L := set_same
            refine sS4 @e0 @e3 @e4 @e5 ?_
            have hzl : (zs.map vi).length = n := by simp; omega
            refine cond_dec (fun h => ?_) (fun h => ?_)
            · have q1 : k + j < zs.length := by omega
              have q2 : k + j - 1 < zs.length := by omega
              have r1 : L[k + j]? = some (.sc (.int .i64 zs[k + j])) := by rw [hD _ (by omega)]; exact nth_vi q1
              have r2 : L[k + (j - 1)]? = some (.sc (.int .i64 zs[k + j - 1])) := by rw [show k + (j - 1) = k + j - 1 by omega, hD _ (by omega)]; exact nth_vi q2
              have et2 : (j : Int) - 1 = ((j - 1 : Nat) : Int) := by omega
              have ct := compF_take (l := zs) (m := k + j) (by omega) q1
              refine sS8 @e0 @e3 @e4 @e5 @hmb @et2 @r1 @r2 ?_
              refine cond_dec (fun hq => ?_) (fun hq => ?_)
              · rw [if_neg hq] at ct
                refine sS6 @e0 @e3 @e4 @e5 @hmb @r1 ?_
                refine hK2 _ _ ⟨j + 1, kc + 1, L.set kc (.sc (.int .i64 zs[k + j])), by omega, by omega, sT0, by refine sS0 ?_; rfl, sT0, by refine sS0 ?_; rfl, rfl, by simp [hL], ?_, by omega, ?_, fun i hi => ?_⟩ (by refine sS2 @ctrV_int @e5 ?_; omega)
                · rw [← Nat.add_assoc, ct, List.length_append, ← hkc]; rfl
                · rw [← Nat.add_assoc, ct, take_snoc (by rw [List.length_set]; omega), List.take_set_of_le (Nat.le_refl _), hT, List.getElem_set_self, app_vi]
                · rw [List.getElem?_set_ne (by omega)]; exact hD i (by omega)
              · have hq := Decidable.not_not.1 hq
                rw [if_pos hq] at ct
                refine sS4 @e0 @e3 @e4 @e5 ?_
                refine hK2 _ _ ⟨j + 1, kc, L, by omega, by omega, sT0, sT0, sT0, by refine sS0 ?_; rfl, rfl, hL, ?_, by omega, ?_, fun i hi => hD i (by omega)⟩ (by refine sS2 @ctrV_int @e5 ?_; omega)
                · rw [← Nat.add_assoc, ct]; exact hkc
                · rw [← Nat.add_assoc, ct]; exact hT
            · obtain rfl : j = n - k := by omega
              have ej : k + (n - k) = zs.length := by omega
              rw [ej, List.take_length] at hT hkc
              have hs2 : slcV 1 (some (.int .i64 (kc : Int))) none none (.sc (.sl (some (b, 0)) n n ex 1)) = some (.sc (.sl (some (b, kc)) (n - kc) (n - kc) ex 1)) := by
                rw [slc_lo (by omega) (by omega) (by omega) (by omega)]; simp
              have hs3 : slcV 1 none (some (.int .i64 (kc : Int))) none (.sc (.sl (some (b, 0)) n n ex 1)) = some (.sc (.sl (some (b, 0)) kc n ex 1)) := by
                rw [slc_hi (by omega) (by omega) (by omega)]; simp
              refine sS3 @e0 @e3 @hs2 ?_
              simp only [clearV, hmb]
              rw [if_neg (by omega)]
              refine ⟨rfl, by simp; omega, ?_⟩
              refine sS1 @hs3 ?_
              refine hR _ _ ⟨(setAtG L kc ((zeros [AV.int .i64 0] (n - kc)).map .sc)).drop kc, by rw [hkc], ?_⟩
              congr 1
              rw [← hT]
              apply List.ext_getElem?
              intro i
              by_cases hi : i < kc
              · rw [setAtG_lo hi, List.getElem?_append_left (by simp; omega), List.getElem?_take, if_pos hi]
              · rw [List.getElem?_append_right (by simp; omega), List.getElem?_drop, List.length_take, Nat.min_eq_left (by omega), show kc + (i - kc) = i by omega]
        · refine sS2 @e0 @e3 ?_
          refine hK _ _ ⟨rfl, k + 1, by omega, by omega, sT0, by refine sS0 ?_; rfl, fun i q1 q2 q3 => ?_⟩ (by refine sS2 @ctrV_int @e3 ?_; omega)
          by_cases e : i = k
          · subst e; exact heq
          · exact hne i q1 q2 (by omega)
      · obtain rfl : k = n := by omega
        refine sS1 @e0 ?_
        refine same ?_
        have := compF_id (l := zs) (m := zs.length) (Nat.le_refl _) fun i h1 h2 h3 => hne i h1 h2 (by omega)
        rwa [List.take_length] at this
def dnV (v : V) : Nat := match er v with
  | .int _ i => (i + 1).toNat
  | _ => 0
@[go_sem] theorem dnV_int {k : IntKind} {i : Int} : dnV (.sc (.int k i)) = (i + 1).toNat := by simp [dnV, er]
end Go.M2

namespace Go.M2
open Go.Proofs Go.Shelf
set_option maxRecDepth 100000
def sort_ren : Ren := ⟨fun | 125 => 142 | 128 => 162 | 129 => 163 | 189 => 113 | 215 => 175 | 216 => 159 | 257 => 141 | 294 => 153 | 295 => 154 | 296 => 155 | 297 => 156 | 298 => 157 | 299 => 158 | 300 => 160 | 301 => 161 | 328 => 170 | 329 => 171 | 330 => 172 | 331 => 173 | 332 => 174 | 343 => 178 | n => n, fun | 0 => 0 | 3 => 3 | 4 => 4 | 5 => 5 | 9 => 9 | 28 => 26 | 46 => 136 | 51 => 154 | 53 => 156 | 131 => 151 | 182 => 145 | 183 => 146 | 218 => 160 | 222 => 164 | 228 => 166 | 229 => 167 | n => n, fun n => n⟩
theorem lays189 : Lays.n189 Try.prog sort_ren where
  mixed := by kernel_rfl
  f125 := Try.func142.trans (congrArg some (by kernel_rfl))
  f128 := Try.func162.trans (congrArg some (by kernel_rfl))
  f129 := Try.func163.trans (congrArg some (by kernel_rfl))
  f189 := Try.func113.trans (congrArg some (by kernel_rfl))
  f215 := Try.func175.trans (congrArg some (by kernel_rfl))
  f216 := Try.func159.trans (congrArg some (by kernel_rfl))
  f257 := Try.func141.trans (congrArg some (by kernel_rfl))
  f294 := Try.func153.trans (congrArg some (by kernel_rfl))
  f295 := Try.func154.trans (congrArg some (by kernel_rfl))
  f296 := Try.func155.trans (congrArg some (by kernel_rfl))
  f297 := Try.func156.trans (congrArg some (by kernel_rfl))
  f298 := Try.func157.trans (congrArg some (by kernel_rfl))
  f299 := Try.func158.trans (congrArg some (by kernel_rfl))
  f300 := Try.func160.trans (congrArg some (by kernel_rfl))
  f301 := Try.func161.trans (congrArg some (by kernel_rfl))
  f328 := Try.func170.trans (congrArg some (by kernel_rfl))
  f329 := Try.func171.trans (congrArg some (by kernel_rfl))
  f330 := Try.func172.trans (congrArg some (by kernel_rfl))
  f331 := Try.func173.trans (congrArg some (by kernel_rfl))
  f332 := Try.func174.trans (congrArg some (by kernel_rfl))
  f343 := Try.func178.trans (congrArg some (by kernel_rfl))
  t0 := Try.underlying0
  a0 := Try.isAgg0
  z0 := Try.sizeOf0
  v0 := Try.zeroValue0
  t3 := Try.underlying3
  a3 := Try.isAgg3
  z3 := Try.sizeOf3
  v3 := Try.zeroValue3
  t4 := Try.underlying4
  a4 := Try.isAgg4
  z4 := Try.sizeOf4
  v4 := Try.zeroValue4
  t5 := Try.underlying5
  a5 := Try.isAgg5
  z5 := Try.sizeOf5
  v5 := Try.zeroValue5
  t9 := Try.underlying9
  a9 := Try.isAgg9
  z9 := Try.sizeOf9
  v9 := Try.zeroValue9
  t28 := Try.underlying26
  a28 := Try.isAgg26
  z28 := Try.sizeOf26
  v28 := Try.zeroValue26
  t46 := Try.underlying136
  a46 := Try.isAgg136
  z46 := Try.sizeOf136
  v46 := Try.zeroValue136
  t51 := Try.underlying154
  a51 := Try.isAgg154
  z51 := Try.sizeOf154
  v51 := Try.zeroValue154
  t53 := Try.underlying156
  a53 := Try.isAgg156
  z53 := Try.sizeOf156
  v53 := Try.zeroValue156
  t131 := Try.underlying151
  a131 := Try.isAgg151
  z131 := Try.sizeOf151
  v131 := Try.zeroValue151
  t182 := Try.underlying145
  a182 := Try.isAgg145
  z182 := Try.sizeOf145
  v182 := Try.zeroValue145
  t183 := Try.underlying146
  a183 := Try.isAgg146
  z183 := Try.sizeOf146
  v183 := Try.zeroValue146
  t218 := Try.underlying160
  a218 := Try.isAgg160
  z218 := Try.sizeOf160
  v218 := Try.zeroValue160
  t222 := Try.underlying164
  a222 := Try.isAgg164
  z222 := Try.sizeOf164
  v222 := Try.zeroValue164
  t228 := Try.underlying166
  a228 := Try.isAgg166
  z228 := Try.sizeOf166
  v228 := Try.zeroValue166
  t229 := Try.underlying167
  a229 := Try.isAgg167
  z229 := Try.sizeOf167
  v229 := Try.zeroValue167
theorem t_SortInts {M0 M : MH} {v : V} {zs : List Int} (hg : Gr 1 M0 M v (zs.map vi)) (hl : zs.length < 4611686018427387904) :
    VCall Try.prog n_slices_Sort_Sint_int [v] M (fun r M' => r = .tup [] ∧ Gr 1 M0 M' v ((sortI zs).map vi) ∧ ∀ q, blkV v ≠ some q → M' q = M q) :=
  g_Sort lays189 (by kernel_rfl) hg hl
end Go.M2

namespace Go.M2
open Go.Proofs
variable {M : MH}
theorem mkL_at {n : Nat} {p : Nat → Bool} {i : Nat} (h : i < n) : ((mkL n p).map vb)[i]? = some (.sc (.bool (p i))) := by
  have h2 : i < (mkL n p).length := by rw [mkL_len]; exact h
  rw [nth_vb h2, mkL_get]
theorem mkL_lenv {n : Nat} {p : Nat → Bool} : ((mkL n p).map vb).length = n := by rw [len_vb', mkL_len]
theorem mkL_setv {n k : Nat} {p q : Nat → Bool} (h : ∀ i, i < n → q i = (p i || decide (i = k))) : ((mkL n p).map vb).set k (.sc (.bool true)) = (mkL n q).map vb := by rw [set_vb', mkL_set h]
theorem mkE {n : Nat} {p q : Nat → Bool} (h : ∀ i, i < n → p i = q i) : some ((mkL n p).map vb) = some ((mkL n q).map vb) := by rw [mkL_ext h]
theorem ndK_succ {l : List TermS} {j i : Nat} : ndK l (j + 1) i = (ndK l j i || ((ndK l j (l.length - 1 - j) && decide (2 ≤ (tAt l (l.length - 1 - j)).op)) && (decide (i = (tAt l (l.length - 1 - j)).a.toNat) || decide (i = (tAt l (l.length - 1 - j)).b.toNat)))) := rfl
theorem t_usedBy {v : V} {ts : List TermS} {nv : Nat} {ks : List Int} (hv : LT v ts) (hk : kindsF nv ts = some ks) (h5 : nv ≤ 5) :
    VCall Try.prog n_impl_usedBy [v, .sc (.int .i64 nv)] M (fun r M' => Gr 1 M M' r ((selL nv (usP ts)).map vi)) := by
  obtain ⟨hok, h1, h40⟩ := TOk.of hk
  refine VCall.plain fun R hR => v_impl_usedBy rfl ?_
  refine sS1 @hv.len ?_
  refine mks3 (by omega) (by simp [mostCells]; omega) (by simp [mostCells]; omega) ?_
  intro b5 hb5
  refine sS0 ?_
  refine mks3 (by omega) (by simp [mostCells]; omega) (by simp [mostCells]; omega) ?_
  intro b6 hb6
  simp (maxSteps := 2000000) (disch := first | omega | assumption | exact idP rfl | exact idP (bL rfl)) only [go_sem, reduceIte, Nat.reduceEqDiff, wpV_kd, wpV_tH, hv.len, zeros_vb', mkL_none]
  obtain ⟨n65, hM6⟩ := fresh_set hb6
  have hb6' := hM6
  have s1 : Sub M ((M.set b5 ((mkL ts.length fun _ => false).map vb)).set b6 ((mkL nv fun _ => false).map vb)) := ((Sub.refl M).set hb5).set hM6
  have q5 : ((M.set b5 ((mkL ts.length fun _ => false).map vb)).set b6 ((mkL nv fun _ => false).map vb)) b5 = some ((mkL ts.length fun _ => false).map vb) := by rw [set_ne (Ne.symm n65)]; exact set_same
  have q6 : ((M.set b5 ((mkL ts.length fun _ => false).map vb)).set b6 ((mkL nv fun _ => false).map vb)) b6 = some ((mkL nv fun _ => false).map vb) := set_same
  generalize (M.set b5 ((mkL ts.length fun _ => false).map vb)).set b6 ((mkL nv fun _ => false).map vb) = M1 at *
  have e1 : ((ts.length : Int) - 1).toNat = ts.length - 1 := by omega
  have hst : ((mkL ts.length fun _ => false).map vb).set (ts.length - 1) (.sc (.bool true)) = (mkL ts.length (ndK ts 0)).map vb := mkL_setv fun i hi => by
    simp only [ndK, Bool.false_or, decide_eq_decide]; omega
  have hl5 : ts.length - 1 + 1 ≤ ((mkL ts.length fun _ => false).map vb).length := by rw [mkL_lenv]; omega
  refine sS4 @q5 @e1 @hst @hv.len ?_
  refine loop_k (fun e M' => ∃ j : Nat, j ≤ ts.length ∧ e 0 = v ∧ e 5 = .sc (.sl (some (b5, 0)) ts.length ts.length true 1) ∧ e 6 = .sc (.sl (some (b6, 0)) nv nv true 1) ∧ e 7 = .sc (.int .i64 ((ts.length : Int) - 1 - j)) ∧ Sub M M' ∧
    M' b5 = some ((mkL ts.length (ndK ts j)).map vb) ∧ M' b6 = some ((mkL nv (usK ts j)).map vb)) (fun e _ => dnV (e 7)) ?_ ?_
  · refine ⟨0, by omega, sT0, sT0, sT0, by refine sS0 ?_; exact eqI (by omega), s1.set hb5, set_same, ?_⟩
    rw [set_ne n65, q6]
    congr 1
  · rintro e M2 ⟨j, hj, e0, e5, e6, e7, hsub, m5, m6⟩ K hK
    refine sS4 @e0 @e5 @e6 @e7 ?_
    refine cond_dec (fun h => ?_) (fun h => ?_)
    · have hi' : ts.length - 1 - j < ts.length := by omega
      have hnl := ndK_last hok (j := j) (by omega)
      have hns := fun x => ndK_succ (l := ts) (j := j) (i := x)
      have hus : ∀ w, usK ts (j + 1) w = _ := fun w => usK_succ
      obtain ⟨o1, o2, o3, o4⟩ := hok _ hi'
      have hat : atN 4 v (ts.length - 1 - j) = encT ts[ts.length - 1 - j] := hv.elt hi'
      rw [← tAt_eq hi'] at hat
      have et : (ts.length : Int) - 1 - j = ((ts.length - 1 - j : Nat) : Int) := by omega
      have g5 : ((mkL ts.length (ndK ts j)).map vb)[ts.length - 1 - j]? = some (.sc (.bool (ndA ts (ts.length - 1 - j)))) := by rw [mkL_at hi', hnl]
      unfold isV at hus
      generalize hI : ts.length - 1 - j = i at *
      generalize tAt ts i = t at *
      simp (maxSteps := 2000000) (disch := first | omega | assumption | exact idP rfl | exact idP (bL rfl)) only [go_sem, reduceIte, Nat.reduceEqDiff, wpV_kd, wpV_tH, e0, e5, e6, e7, et, hv.iaddr, hat, encT]
      intro b8 hb8
      have n58 : b5 ≠ b8 := fun e => by subst e; rw [m5] at hb8; cases hb8
      have n68 : b6 ≠ b8 := fun e => by subst e; rw [m6] at hb8; cases hb8
      have p5 := set_ne (l := [V.sc (AV.int IntKind.i64 t.op), V.sc (AV.int IntKind.i64 t.n), V.sc (AV.int IntKind.i64 t.a), V.sc (AV.int IntKind.i64 t.b)]) (M := M2) n58
      have p6 := set_ne (l := [V.sc (AV.int IntKind.i64 t.op), V.sc (AV.int IntKind.i64 t.n), V.sc (AV.int IntKind.i64 t.a), V.sc (AV.int IntKind.i64 t.b)]) (M := M2) n68
      have p8 := set_same (l := [V.sc (AV.int IntKind.i64 t.op), V.sc (AV.int IntKind.i64 t.n), V.sc (AV.int IntKind.i64 t.a), V.sc (AV.int IntKind.i64 t.b)]) (M := M2) (b := b8)
      have hs8 : Sub M (M2.set b8 [V.sc (AV.int IntKind.i64 t.op), V.sc (AV.int IntKind.i64 t.n), V.sc (AV.int IntKind.i64 t.a), V.sc (AV.int IntKind.i64 t.b)]) := hsub.set' hb8
      rw [m5] at p5
      rw [m6] at p6
      generalize M2.set b8 [V.sc (AV.int IntKind.i64 t.op), V.sc (AV.int IntKind.i64 t.n), V.sc (AV.int IntKind.i64 t.a), V.sc (AV.int IntKind.i64 t.b)] = M3 at *
      have e9 : (i : Int) - 1 = (ts.length : Int) - 1 - ((j + 1 : Nat) : Int) := by omega
      -- nothing is marked
      have same : (ndA ts i && decide (2 ≤ t.op)) = false → (ndA ts i && decide (t.op = 1)) = false → M3 b5 = some ((mkL ts.length (ndK ts (j + 1))).map vb) ∧ M3 b6 = some ((mkL nv (usK ts (j + 1))).map vb) := fun z1 z2 => by
        rw [p5, p6]
        exact ⟨mkE fun x _ => by rw [hns x, hnl, z1]; simp, mkE fun x _ => by rw [hus x, z2]; simp⟩
      cases hA : ndA ts i with
      | false =>
        rw [hA] at g5 same
        obtain ⟨k5, k6⟩ := same rfl rfl
        refine sS3 @p5 @g5 @et ?_
        exact hK _ _ ⟨j + 1, by omega, sT0, sT0, sT0, by refine sS0 ?_; exact eqI e9, hs8, k5, k6⟩ (by simp (maxSteps := 2000000) (disch := first | omega | assumption | exact idP rfl | exact idP (bL rfl)) only [go_sem, reduceIte, Nat.reduceEqDiff, wpV_kd, wpV_tH, dnV_int, e7]; omega)
      | true =>
        rw [hA] at g5 same hus hnl
        rw [hnl] at hns
        refine sS4 @p5 @g5 @p8 @et ?_
        refine cond_dec (fun z0 => ?_) (fun z0 => ?_)
        · obtain ⟨k5, k6⟩ := same (by simp; omega) (by simp; omega)
          refine sS0 ?_
          exact hK _ _ ⟨j + 1, by omega, sT0, sT0, sT0, by refine sS0 ?_; exact eqI e9, hs8, k5, k6⟩ (by simp (maxSteps := 2000000) (disch := first | omega | assumption | exact idP rfl | exact idP (bL rfl)) only [go_sem, reduceIte, Nat.reduceEqDiff, wpV_kd, wpV_tH, dnV_int, e7]; omega)
        · refine sS1 @p8 ?_
          refine cond_dec (fun z1 => ?_) (fun z1 => ?_)
          · obtain ⟨v1, v2⟩ := o3 z1
            have k5 : M3 b5 = some ((mkL ts.length (ndK ts (j + 1))).map vb) := by
              rw [p5]
              have z2 : decide (2 ≤ t.op) = false := by simp; omega
              exact mkE fun x _ => by rw [hns x, z2]; simp
            have ku : ((mkL nv (usK ts j)).map vb).set t.n.toNat (.sc (.bool true)) = (mkL nv (usK ts (j + 1))).map vb := mkL_setv fun x _ => by
              rw [hus, z1]
              simp only [decide_true, Bool.true_and]
              congr 1
              rw [decide_eq_decide]; omega
            have hl6 : t.n.toNat + 1 ≤ ((mkL nv (usK ts j)).map vb).length := by rw [mkL_lenv]; omega
            refine sS3 @p8 @p6 @ku ?_
            exact hK _ _ ⟨j + 1, by omega, sT0, sT0, sT0, by refine sS0 ?_; exact eqI e9, hs8.set hb6', by rw [set_ne (Ne.symm n65)]; exact k5, set_same⟩ (by simp (maxSteps := 2000000) (disch := first | omega | assumption | exact idP rfl | exact idP (bL rfl)) only [go_sem, reduceIte, Nat.reduceEqDiff, wpV_kd, wpV_tH, dnV_int, e7]; omega)
          · obtain ⟨a1, a2, a3, a4⟩ := o4 (by omega)
            have k6 : M3 b6 = some ((mkL nv (usK ts (j + 1))).map vb) := by
              rw [p6]
              have z2 : decide (t.op = 1) = false := by simpa using z1
              exact mkE fun x _ => by rw [hus x, z2]; simp
            have hl5 : t.a.toNat + 1 ≤ ((mkL ts.length (ndK ts j)).map vb).length := by rw [mkL_lenv]; omega
            have hl5b : t.b.toNat + 1 ≤ (((mkL ts.length (ndK ts j)).map vb).set t.a.toNat (.sc (.bool true))).length := by rw [List.length_set, mkL_lenv]; omega
            have k5 : (((mkL ts.length (ndK ts j)).map vb).set t.a.toNat (.sc (.bool true))).set t.b.toNat (.sc (.bool true)) = (mkL ts.length (ndK ts (j + 1))).map vb := by
              rw [mkL_setv (q := fun x => ndK ts j x || decide (x = t.a.toNat)) fun x _ => rfl]
              have z2 : decide (2 ≤ t.op) = true := by simp; omega
              exact mkL_setv fun x _ => by rw [hns x, z2]; simp [Bool.or_assoc]
            refine sS3 @p8 @p5 @k5 ?_
            exact hK _ _ ⟨j + 1, by omega, sT0, sT0, sT0, by refine sS0 ?_; exact eqI e9, hs8.set hb5, set_same, by rw [set_ne n65]; exact k6⟩ (by simp (maxSteps := 2000000) (disch := first | omega | assumption | exact idP rfl | exact idP (bL rfl)) only [go_sem, reduceIte, Nat.reduceEqDiff, wpV_kd, wpV_tH, dnV_int, e7]; omega)
    · obtain rfl : j = ts.length := by omega
      have hu : (mkL nv (usK ts ts.length)).map vb = (mkL nv (usP ts)).map vb := congrArg (List.map vb) (mkL_ext fun x _ => usK_all)
      rw [hu] at m6
      refine sS1 @e6 ?_
      refine loop_k (fun e M' => ∃ i : Nat, i ≤ nv ∧ e 60 = .sc (.sl (some (b6, 0)) nv nv true 1) ∧ e 61 = .sc (.int .i64 nv) ∧ e 62 = .sc (.int .i64 i) ∧ Gr 1 M2 M' (e 9) ((selL i (usP ts)).map vi)) (fun e _ => ctrV nv (e 62)) ?_ ?_
      · exact ⟨0, by omega, sT0, sT0, by refine sS0 ?_; rfl, by refine sS0 ?_; exact .nil (Sub.refl _)⟩
      · rintro e M3 ⟨i, hi, e60, e61, e62, hg⟩ K3 hK3
        have hsl : (selL i (usP ts)).length ≤ i := selL_len
        have m63 := hg.sub _ _ m6
        refine sS3 @e60 @e61 @e62 ?_
        refine cond_dec (fun h => ?_) (fun h => ?_)
        · have hi2 : i < nv := by omega
          have g6 := mkL_at (p := usP ts) hi2
          refine sS5 @e60 @e61 @e62 @m63 @g6 ?_
          refine cond_split (fun h2 => ?_) (fun h2 => ?_)
          · refine sS3 @e60 @e61 @e62 ?_
            intro bt hbt
            refine app_int hg hbt (by omega) (by omega) ?_
            intro s' M' hg' _
            refine sS3 @e60 @e61 @e62 ?_
            exact hK3 _ _ ⟨i + 1, by omega, sT0, sT0, by refine sS0 ?_; rfl, by refine sS0 ?_; rw [selL_succ, if_pos h2]; exact hg'⟩ (by refine sS2 @ctrV_int @e62 ?_; omega)
          · refine sS3 @e60 @e61 @e62 ?_
            exact hK3 _ _ ⟨i + 1, by omega, sT0, sT0, by refine sS0 ?_; rfl, by refine sS0 ?_; rw [selL_succ, if_neg (by simpa using h2)]; exact hg⟩ (by refine sS2 @ctrV_int @e62 ?_; omega)
        · obtain rfl : i = nv := by omega
          refine sS0 ?_
          refine (VCall.give0 hg fun u M4 hu hs2 => (t_cloneInt hu.li (by omega)).mono fun r M' hr => hr.base hs2).mono ?_
          rintro r M4 hg2
          refine sS0 ?_
          exact hR _ _ (hg2.base hsub)
theorem Ow.cells {l : List V} {v : V} (h : Ow 1 M v l) : lenS v = some l.length ∧ cellsS (l.length * 1) v M = some l := by
  rcases h with ⟨rfl, k, rfl⟩ | ⟨b, n, ex, rfl, h2, h3⟩
  · exact ⟨rfl, by simp [cellsS]⟩
  · have : n = l.length := by omega
    subst this
    refine ⟨rfl, ?_⟩
    simp only [cellsS, h2]
    split
    · rename_i h0; have : l = [] := List.eq_nil_of_length_eq_zero (by omega)
      rw [this]
    · rw [if_pos (by omega)]; simp
theorem vi_one {l : List Int} : (l.map vi).all oneV = true := by
  rw [List.all_eq_true]
  intro x hx
  obtain ⟨n, _, rfl⟩ := List.mem_map.1 hx
  rfl
theorem app_ints {M0 : MH} {s x : V} {K : V → MH → Prop} {by_ : Nat} {xs ys : List Int} (h : Gr 1 M0 M s (xs.map vi)) (hx : Ow 1 M x (ys.map vi)) (hb : xs.length + ys.length ≤ 68719476736) (hby : by_ ≤ 16)
    (hk : ∀ s' M', Gr 1 M0 M' s' ((xs ++ ys).map vi) → Oth M M' s s' → K s' M') : appV 1 by_ s x M K := by
  obtain ⟨h1, h2⟩ := hx.cells
  refine gr_appS h (by omega) h1 h2 (by simp) vi_one ?_ (by simp [mostCells]; omega) fun s' M' q1 q2 => hk s' M' (by rw [List.map_append]; exact q1) q2
  have : ((xs.map vi).length + (ys.map vi).length) * by_ ≤ ((xs.map vi).length + (ys.map vi).length) * 16 := Nat.mul_le_mul_left _ hby
  simp [mostCells] at this ⊢; omega
theorem t_Compact2 {M0 : MH} {v : V} {zs : List Int} (hg : Gr 1 M0 M v (zs.map vi)) (hl : zs.length ≤ 1048576) :
    VCall Try.prog n_slices_Compact_Sint_int [v] M (fun r M' => ∃ M2 u, (∀ {f : FuncId} {R : V → MH → Prop}, VCall Try.prog f [u] M2 R → VCall Try.prog f [r] M' R) ∧ Sub M0 M2 ∧ LI u (compF zs)) := by
  rcases hg.own with ⟨h1, k, rfl⟩ | ⟨b, n, ex, rfl, h2, h3⟩
  · have hz : zs = [] := by simpa using h1
    subst hz
    refine VCall.plain fun R hR => v_slices_Compact_Sint_int rfl ?_
    refine sS0 ?_
    exact hR _ _ ⟨M, _, fun h => h, hg.sub, .nil⟩
  · have hn : zs.length = n := by simpa using h3
    refine (t_Compact h2 hn (by omega)).mono ?_
    rintro r M' ⟨rest, rfl, rfl⟩
    have hb := hg.new b rfl
    refine ⟨_, _, fun h => VCall.give (.sl set_same (.refl _ _) (.refl _ _)) h, ?_, Ls.mk rfl (by simp) fun i hi => ⟨.sc (.int .i64 (compF zs)[i]), ?_, rfl⟩⟩
    · intro i l hi
      have hne : i ≠ b := fun e => by subst e; rw [hb] at hi; cases hi
      rw [del_ne hne, set_ne hne]; exact hg.sub i l hi
    · rw [List.drop_zero, List.getElem?_append_left (by simpa using hi)]
      exact nth_vi hi
theorem t_touchedBy {v : V} {s : SysS} {k : Nat} (hv : isSys s v) (hs : SysOk s) (hk : k < s.rules.length) :
    VCall Try.prog n_impl_touchedBy [v, .sc (.int .i64 k)] M (fun r M' => Gr 1 M M' r ((toF s.vars.length s.rules[k]).map vi)) := by
  obtain ⟨a, b, rfl, ha, hb⟩ := hv
  obtain ⟨x, y, z, hat, hx, hy, hz⟩ := hb.elt hk
  have h5 := hs.v5
  obtain ⟨hw2, hst, hsets⟩ := hs.rules _ (List.getElem_mem hk)
  obtain ⟨kw, hkw⟩ := kind_some hw2
  have hx1 := hx.one.1
  have hy1 := hy.one.1
  have hz1 := hz.one.1
  refine VCall.plain fun R hR => v_impl_touchedBy rfl ?_
  refine sS3 @hb.len @hb.iaddr @hat ?_
  intro b2 hb2 b5 hb5
  obtain ⟨n52, hM5⟩ := fresh_set hb5
  have q2 : ((M.set b2 [a, b]).set b5 [x, y, z]) b2 = some [a, b] := by rw [set_ne (Ne.symm n52)]; exact set_same
  have q5 : ((M.set b2 [a, b]).set b5 [x, y, z]) b5 = some [x, y, z] := set_same
  have s1 : Sub M ((M.set b2 [a, b]).set b5 [x, y, z]) := sB
  generalize (M.set b2 [a, b]).set b5 [x, y, z] = M1 at *
  refine sS3 @q2 @q5 @ha.len ?_
  refine (t_usedBy hx hkw (by omega)).mono ?_
  intro r0 M2 hg0
  have m2 := hg0.sub _ _ q2
  have m5 := hg0.sub _ _ q5
  refine sS3 @m2 @m5 @hz.len ?_
  have tl : s.rules[k].terms.length ≤ 5 := by have := hst; have := sets_le hsets (by omega); omega
  refine loop_k (fun e M' => ∃ i : Nat, i ≤ s.rules[k].terms.length ∧ e 2 = .sc (.ptr (some (b2, 0))) ∧ e 21 = z ∧ e 22 = .sc (.int .i64 s.rules[k].terms.length) ∧ e 23 = .sc (.int .i64 i) ∧ Gr 1 M1 M' (e 6) ((catU s.vars.length s.rules[k].when_ (s.rules[k].terms.take i)).map vi)) (fun e _ => ctrV s.rules[k].terms.length (e 23)) ?_ ?_
  · exact ⟨0, by omega, sT0, sT0, sT0, by refine sS0 ?_; rfl, by refine sS0 ?_; simpa [catU] using hg0⟩
  · rintro e M3 ⟨i, hi, e2, e21, e22, e23, hg⟩ K hK
    have p2 := hg.sub _ _ q2
    have hcl := catU_len (n := s.vars.length) (w := s.rules[k].when_) (ts := s.rules[k].terms.take i)
    rw [List.length_take, Nat.min_eq_left hi] at hcl
    have hcl2 : s.vars.length * (i + 1) ≤ 5 * (i + 1) := Nat.mul_le_mul_right _ h5
    refine sS4 @e2 @e21 @e22 @e23 ?_
    refine cond_dec (fun h => ?_) (fun h => ?_)
    · have hi' : i < s.rules[k].terms.length := by omega
      obtain ⟨ki, hki⟩ := kind_some (hsets.kind (by omega) hi')
      refine sS7 @e2 @e21 @e22 @e23 @hz.iaddr @p2 @ha.len ?_
      refine (t_usedBy (hz.elt hi') hki (by omega)).mono ?_
      intro r1 M4 hg1
      have hsl : (selL s.vars.length (usP s.rules[k].terms[i])).length ≤ s.vars.length := selL_len
      refine sS0 ?_
      refine app_ints (hg.more hg1.sub) hg1.own (by omega) (by omega) ?_
      intro s' M5 hg5 hoth
      refine sS4 @e2 @e21 @e22 @e23 ?_
      refine hK _ _ ⟨i + 1, by omega, sT0, sT0, sT0, by refine sS0 ?_; rfl, ?_⟩ (by refine sS2 @ctrV_int @e23 ?_; omega)
      refine sS0 ?_
      rw [take_snoc hi', catU_snoc]; exact hg5
    · obtain rfl : i = s.rules[k].terms.length := by omega
      rw [List.take_length] at hg hcl
      refine sS0 ?_
      refine (t_SortInts hg (by omega)).mono ?_
      rintro _ M4 ⟨rfl, hg4, -⟩
      refine sS0 ?_
      refine (t_Compact2 hg4 (by rw [sortI_len]; omega)).mono ?_
      rintro r4 M5 ⟨M6, u, hgive, hs6, hu⟩
      refine sS0 ?_
      rw [comp_catU] at hu
      have htl : (toF s.vars.length s.rules[k]).length ≤ s.vars.length := selL_len
      refine (hgive (t_cloneInt hu (by omega))).mono ?_
      intro r6 M7 hg7
      refine sS0 ?_
      exact hR _ _ (hg7.base (s1.trans hs6))
end Go.M2

namespace Go.M2
open Go.Proofs
variable {M : MH}
def isU (n : Int) (u : V) : Prop := u = .sc (.int .u8 n) ∧ 0 ≤ n ∧ n ≤ 255
abbrev LU : V → List Int → Prop := Ls isU
abbrev XU : V → List Int → Prop := In LU
theorem LU.at {v : V} {ys : List Int} (h : LU v ys) {i : Nat} (hi : i < ys.length) : ∃ n : Int, at1 v i = .sc (.int .u8 n) ∧ 0 ≤ n ∧ n ≤ 255 := by
  obtain ⟨h1, h2, h3⟩ := h.elt hi
  exact ⟨_, h1, h2, h3⟩
def rdC (w : V) (p : Int) : List V := [w, .sc (.int .i64 p)]
structure Rdr (w : V) (code : List Int) : Prop where
  u : XU w code
  l : code.length ≤ 2000
end Go.M2

namespace Go.M2
open Go.Proofs
variable {M : MH}
section
variable {M0 M M' : MH} {rb : Nat} {X Y l : List V}
theorem Sub.rd (h : Sub (M0.set rb X) M) : Sub (M0.set rb Y) (M.set rb Y) := fun b l hb => by
  by_cases e : b = rb
  · subst e; rw [set_same] at hb ⊢; exact hb
  · rw [set_ne e] at hb ⊢; exact h b l (by rw [set_ne e]; exact hb)
theorem Gr.rd {sz : Nat} {s : V} (h : Gr sz (M0.set rb X) M s l) : Gr sz (M0.set rb Y) (M.set rb Y) s l := by
  have hne : ∀ b, blkV s = some b → b ≠ rb := fun b hb e => by
    have := h.new b hb
    rw [e, set_same] at this; cases this
  refine ⟨h.sub.rd, fun b hb => ?_, ?_⟩
  · rw [set_ne (hne b hb)]
    have := h.new b hb
    rwa [set_ne (hne b hb)] at this
  · rcases h.own with ⟨e, k, e2⟩ | ⟨b, n, ex, rfl, h1, h2⟩
    · exact .inl ⟨e, k, e2⟩
    · exact .inr ⟨b, n, ex, rfl, by rw [set_ne (hne b rfl)]; exact h1, h2⟩
theorem Mem.rd {fp : List (Nat × List V)} (h : Mem (M0.set rb X) M fp) : Mem (M0.set rb Y) (M.set rb Y) fp := by
  have hne : ∀ p ∈ fp, p.1 ≠ rb := fun p hp e => by
    have := h.new p hp
    rw [e, set_same] at this; cases this
  refine ⟨h.sub.rd, fun p hp => ?_, h.nd, fun p hp => ?_⟩
  · have := h.new p hp
    rw [set_ne (hne p hp)] at this ⊢; exact this
  · rw [set_ne (hne p hp)]; exact h.at_ p hp
end
structure RS (M0 : MH) (rb : Nat) (w : V) (M : MH) (p : Int) : Prop where
  at_ : M rb = some (rdC w p)
  sub : Sub (M0.set rb (rdC w p)) M
section
variable {M0 M M' : MH} {rb b : Nat} {w : V} {p q : Int} {l : List V}
theorem RS.start (h : M rb = some (rdC w p)) : RS M rb w M p := ⟨h, by rw [set_id h]; exact Sub.refl M⟩
theorem RS.set (h : RS M0 rb w M p) (q : Int) : RS M0 rb w (M.set rb (rdC w q)) q := ⟨set_same, h.sub.rd⟩
theorem RS.more (h : RS M0 rb w M p) (hs : Sub M M') : RS M0 rb w M' p := ⟨hs _ _ h.at_, h.sub.trans hs⟩
theorem RS.to (h : RS M0 rb w M p) (hs : Sub (M.set rb (rdC w q)) M') : RS M0 rb w M' q := (h.set q).more hs
theorem RS.ne (h : RS M0 rb w M p) (hb : M b = none) : b ≠ rb := fun e => by rw [e, h.at_] at hb; cases hb
theorem RS.gone (h : RS M0 rb w M p) (hb : M b = none) : M0 b = none := by
  have := h.sub.none hb
  rwa [set_ne (h.ne hb)] at this
end
def fpG (v : V) (l : List V) : List (Nat × List V) := match blkV v with
  | some b => [(b, l)]
  | none => []
def OwS (sz : Nat) (v : V) (l : List V) : Prop := (l = [] ∧ ∃ k, v = .sc (.sl none 0 0 true k)) ∨ ∃ b n ex, v = .sc (.sl (some (b, 0)) n n ex sz) ∧ l.length = n * sz
theorem Ow.sh {sz : Nat} {v : V} {l : List V} (h : Ow sz M v l) : OwS sz v l ∧ ∀ q ∈ fpG v l, M q.1 = some q.2 := by
  rcases h with ⟨rfl, k, rfl⟩ | ⟨b, n, ex, rfl, h1, h2⟩
  · exact ⟨.inl ⟨rfl, k, rfl⟩, fun q hq => (by cases hq)⟩
  · exact ⟨.inr ⟨b, n, ex, rfl, h2⟩, fun q hq => by simp [fpG, blkV] at hq; subst hq; exact h1⟩
theorem OwS.ow {sz : Nat} {v : V} {l : List V} (h : OwS sz v l) (hm : ∀ q ∈ fpG v l, M q.1 = some q.2) : Ow sz M v l := by
  rcases h with ⟨rfl, k, rfl⟩ | ⟨b, n, ex, rfl, h2⟩
  · exact .inl ⟨rfl, k, rfl⟩
  · exact .inr ⟨b, n, ex, rfl, hm (b, l) (by simp [fpG, blkV]), h2⟩
theorem OwS.tr {sz : Nat} {v : V} {l l' : List V} {g : List (Nat × List V)} (h : OwS sz v l) (ht : Tr l l' g) : ∃ u, Tr [v] [u] (fpG v l ++ g) ∧ Fr sz u l' := by
  rcases h with ⟨rfl, k, rfl⟩ | ⟨b, n, ex, rfl, h2⟩
  · cases ht
    exact ⟨_, .refl _, .inl ⟨rfl, k, rfl⟩⟩
  · exact ⟨_, by simpa [fpG, blkV] using Tr.sl (o := 0) (n := n) (c := n) (k := sz) (ex := ex) (b := b) ht .nil, .inr ⟨(b, 0), n, n, ex, sz, by simp, by rw [ht.len, h2]⟩⟩
theorem OwS.one {sz : Nat} {v : V} {l : List V} (h : OwS sz v l) : One v := by
  rcases h with ⟨rfl, k, rfl⟩ | ⟨b, n, ex, rfl, h2⟩ <;> exact ⟨rfl, rfl⟩
theorem Mem.app {B M M' : MH} {sz' : Nat} {s s' : V} {l l' : List V} {f : List (Nat × List V)} (h : Mem B M (fpG s l ++ f)) (hg : Gr sz' B M' s' l') (ho : Oth M M' s s') : Mem B M' (fpG s' l' ++ f) := by
  have hf := h.right
  have hsf : ∀ p ∈ f, blkV s ≠ some p.1 := fun p hp e => by
    have hnd := h.nd
    simp only [fpG, e, Nd2, List.cons_append, List.nil_append, List.map_cons, List.nodup_cons, List.mem_map] at hnd
    exact hnd.1 ⟨p, hp, rfl⟩
  have hat : ∀ p ∈ f, M' p.1 = some p.2 := fun p hp => (ho _ _ (hf.at_ p hp) (hsf p hp)).1
  have hne : ∀ p ∈ f, blkV s' ≠ some p.1 := fun p hp => (ho _ _ (hf.at_ p hp) (hsf p hp)).2
  refine ⟨hg.sub, fun p hp => ?_, ?_, fun p hp => ?_⟩
  · rcases List.mem_append.1 hp with h1 | h1
    · exact hg.new _ (by simp only [fpG] at h1; split at h1 <;> simp_all)
    · exact hf.new p h1
  · cases hb : blkV s' with
    | none => simpa [fpG, hb] using hf.nd
    | some b =>
      simp only [fpG, hb, Nd2, List.cons_append, List.nil_append, List.map_cons, List.nodup_cons, List.mem_map]
      exact ⟨fun ⟨p, hp, e⟩ => hne p hp (by rw [hb, e]), hf.nd⟩
  · rcases List.mem_append.1 hp with h1 | h1
    · exact hg.own.sh.2 p h1
    · exact hat p h1
theorem Gr.mem {B M : MH} {sz : Nat} {s : V} {l : List V} (h : Gr sz B M s l) : Mem B M (fpG s l) := by
  refine ⟨h.sub, fun p hp => h.new _ (by simp only [fpG] at hp; split at hp <;> simp_all), ?_, fun p hp => h.own.sh.2 p hp⟩
  unfold fpG
  split <;> simp [Nd2]
theorem Mem.gr {B M : MH} {sz : Nat} {s : V} {l : List V} {f : List (Nat × List V)} (h : Mem B M (fpG s l ++ f)) (ho : OwS sz s l) : Gr sz B M s l :=
  ⟨h.sub, fun b hb => h.new (b, l) (List.mem_append_left _ (by simp [fpG, hb])), ho.ow fun q hq => h.at_ q (List.mem_append_left _ hq)⟩
section
variable {P : Program} {f : FuncId} {args : List V}
theorem VCall.frB {q : MH → V → Prop} (h : VCall P f args M (fun r M' => ∃ B r' g, Tr [r] [r'] g ∧ Mem B M' g ∧ q B r')) : VCall P f args M (fun r M' => q M' r) :=
  VCall.of fun R hR => h.mono fun r M' => by
    rintro ⟨B, r', g, h1, h2, h3⟩
    let M1 : MH := fun i => if inF g i then M' i else B i
    have e : delF M1 g = B := by
      funext i
      simp only [delF, M1]
      split
      · rename_i hin
        obtain ⟨l, hl⟩ := inF_iff.1 hin
        exact (h2.new _ hl).symm
      · rfl
    have hz := h1.fz (M := M1) (fun q hq => by simp only [M1]; rw [if_pos (inF_iff.2 ⟨q.2, hq⟩)]; exact h2.at_ q hq) h2.nd
    rw [e] at hz
    refine hR r r' M' M1 B (fun i l hi => ?_) hz h3
    simp only [M1] at hi
    split at hi
    · exact hi
    · exact h2.sub _ _ hi
variable {args' : List V} {R R' : V → MH → Prop} {fp : List (Nat × List V)}
end
section
variable {P : Program} {f : FuncId} {a1 a2 : List V} {rb : Nat} {w : V} {p : Int}
end
end Go.M2

namespace Go.M2
open Go.Proofs
variable {M : MH}
def DT (p d : Int) (m n : Nat) (c : List V) (p' : Int) : Prop := p ≤ p' ∧ p' ≤ p + d ∧ ∃ ts : List TermS, c = catV encT ts ∧ m ≤ ts.length ∧ ts.length ≤ n
theorem DT.flat {p d p' : Int} {m n : Nat} {c : List V} (h : DT p d m n c p') : flatL c := by
  obtain ⟨_, _, ts, rfl, _⟩ := h
  exact catV_flat encT_flat ts
theorem t_TermsValid {v : V} {ts : List TermS} {vars : Int} (hv : LT v ts) : VCall Try.prog n_spec_TermsValid [v, .sc (.int .i64 vars)] M (fun r M' => M = M' ∧ r = .sc (.bool (kindsF vars ts).isSome)) := by
  refine VCall.pure fun R hR => v_spec_TermsValid rfl ?_
  refine sS0 ?_
  refine (t_KindsOf hv).mono ?_
  rintro r _ ⟨rfl, hr⟩
  cases hk : kindsF vars ts with
  | none =>
    rw [hk] at hr
    simp only [kRes] at hr
    subst hr
    refine sS0 ?_
    exact hR _ _ (sB) (by simp [hk])
  | some ks =>
    rw [hk] at hr
    have hr : LI r ks := hr
    obtain ⟨_, _, q1, q2, _, q3⟩ := kindsF_some hk
    refine sS1 @hr.len ?_
    exact hR _ _ (sB) (by refine eqB ?_; simp only [decide_eq_true_eq, hk, Option.isSome_some, iff_true]; omega)
end Go.M2

namespace Go.M2
open Go.Proofs
def EV {α : Type} (E : α → List V → Prop) : Heap → α → List AV → Prop := fun H x cs => ∃ vs : List V, erl vs = cs ∧ okL H vs ∧ E x vs
theorem erl_len : ∀ l : List V, (erl l).length = l.length
  | [] => rfl
  | v :: t => by simp only [erl, List.length_cons, erl_len t]
theorem erl_app : ∀ a b : List V, erl (a ++ b) = erl a ++ erl b
  | [], b => rfl
  | v :: t, b => by simp only [List.cons_append, erl, erl_app t b]
theorem okL_app {H : Heap} : ∀ {a b : List V}, okL H a → okL H b → okL H (a ++ b)
  | [], b, _, h => h
  | v :: t, b, h, k => by
    simp only [List.cons_append, okL] at h ⊢
    exact ⟨h.1, okL_app h.2 k⟩
theorem lift_cells {α : Type} {E : α → List V → Prop} {H : Heap} {b sz : Nat} : ∀ {xs : List α} {o : Nat}, (∀ i (h : i < xs.length), ∃ cs, cs.length = sz ∧ Rd H b (o + i * sz) cs ∧ EV E H xs[i] cs) →
    ∃ vs : List V, vs.length = xs.length * sz ∧ Rd H b o (erl vs) ∧ okL H vs ∧ ∀ i (h : i < xs.length), E xs[i] ((vs.drop (i * sz)).take sz)
  | [], o, _ => ⟨[], by simp, Rd.nil _ _ _, by simp [okL], fun i h => by simp at h⟩
  | x :: t, o, h => by
    obtain ⟨cs, h1, h2, us, h3, h4, h5⟩ := h 0 (by simp)
    obtain ⟨vs, k1, k2, k3, k4⟩ := lift_cells (xs := t) (o := o + sz) (E := E) (H := H) (b := b) (sz := sz) (fun i hi => by
      obtain ⟨cs, q1, q2, q3⟩ := h (i + 1) (by simp; omega)
      exact ⟨cs, q1, by rw [show o + sz + i * sz = o + (i + 1) * sz by rw [Nat.succ_mul]; omega]; exact q2, by simpa using q3⟩)
    have hu : us.length = sz := by rw [← erl_len, h3]; exact h1
    refine ⟨us ++ vs, by simp [hu, k1, Nat.succ_mul]; omega, ?_, okL_app h4 k3, fun i hi => ?_⟩
    · intro i y hy
      rw [erl_app] at hy
      by_cases hlt : i < (erl us).length
      · rw [List.getElem?_append_left hlt, h3] at hy
        have := h2 i y hy
        simpa using this
      · rw [List.getElem?_append_right (by omega)] at hy
        have e1 : (erl us).length = sz := by rw [erl_len]; exact hu
        rw [e1] at hy hlt
        have := k2 (i - sz) y hy
        rwa [show o + sz + (i - sz) = o + i by omega] at this
    · cases i with
      | zero => simpa [List.take_left' hu] using h5
      | succ i =>
        have := k4 i (by simpa using hi)
        have e2 : (us ++ vs).drop ((i + 1) * sz) = vs.drop (i * sz) := by
          rw [show (i + 1) * sz = us.length + i * sz by rw [Nat.succ_mul, hu]; omega, List.drop_append]
          simp
        rw [e2]
        simpa using this
theorem lift_slice {α : Type} {E : α → List V → Prop} {H : Heap} {sz : Nat} {v : AV} {xs : List α} (h : InS sz (EV E) H v xs) : ∃ v', er v' = v ∧ okV H v' ∧ In (Lc sz E) v' xs := by
  rcases h with ⟨A, c, ex, k, rfl, h⟩ | ⟨rfl, rfl⟩
  · obtain ⟨vs, h1, h2, h3, h4⟩ := lift_cells h
    exact ⟨.fs A xs.length c ex k vs, rfl, by simp only [okV]; exact ⟨h2, h3⟩, .inl (.inr ⟨A, c, ex, k, vs, rfl, by omega, fun i hi => h4 i hi⟩)⟩
  · exact ⟨.sc .emp, rfl, by simp [okV], .inr ⟨rfl, rfl⟩⟩
def E1 {α : Type} (E : α → V → Prop) : α → List V → Prop := fun a cs => ∃ u, cs = [u] ∧ E a u
theorem lc1_ls {α : Type} {E : α → V → Prop} {v : V} {ys : List α} (h : Lc 1 (E1 E) v ys) : Ls E v ys := by
  rcases h with h | ⟨A, c, ex, k, xs, rfl, hl, h⟩
  · exact .inl h
  · refine .inr ⟨A, c, ex, k, xs, rfl, by omega, fun i hi => ?_⟩
    obtain ⟨u, h1, h2⟩ := h i hi
    have h3 : xs[i]? = some u := by
      have := congrArg (fun l => l[0]?) h1
      simpa [atN, List.getElem?_take, List.getElem?_drop] using this
    have h4 : at1 (.fs A ys.length c ex k xs) i = u := by
      simp [at1, List.getD_eq_getElem?_getD, h3]
    rw [h4]; exact h2
section
open Go.ChangeShapes Go.WideShapes Go.ChangeAt Go.RowKit
variable {HH : Type} {enc : TypeId × Value → HH} {P : Program} {W : World} {t e : TypeId} {fuel : Nat} {cs : List Value} {x : DataW HH × List MemPlace}
def LiftE {α : Type} (W : World) (E : α → List V → Prop) (a : α) (cs : List Value) : Prop := ∃ vs, erl vs = cs.map (avC W.heap.size) ∧ okL (heap0 W) vs ∧ E a vs
theorem in_list {α : Type} {E : α → List V → Prop} {good : α → Prop} {sz : Nat} (ht : P.underlying t = some (.slice e)) (hsz : P.cellsOf e = sz) (h0 : 0 < sz)
    (he : ∀ n cs x, DataW.trod enc P W 0 (fun _ => true) true n e cs = some x → ∃ a, LiftE W E a cs ∧ good a)
    (h : DataW.trod enc P W 0 (fun _ => true) true fuel t cs = some x) : ∃ xs : List α, LiftE W (E1 (fun (ys : List α) u => In (Lc sz E) u ys)) xs cs ∧ (xs.length ≤ 9223372036854775807 ∧ ∀ a ∈ xs, good a) := by
  obtain ⟨v, xs, rfl, h1, h2, h3⟩ := in_slice (E := EV E) (good := good) ht hsz h0 (fun n cs x hx => by
    obtain ⟨a, ⟨vs, h1, h2, h3⟩, h4⟩ := he n cs x hx
    exact ⟨a, ⟨vs, h1, h2, h3⟩, h4⟩) h
  obtain ⟨u, k1, k2, k3⟩ := lift_slice h1
  exact ⟨xs, ⟨[u], by simp [erl, k1], by simp only [okL]; exact ⟨k2, trivial⟩, u, rfl, k3⟩, h3, h2⟩
theorem in_list1 {α : Type} {E : α → V → Prop} {good : α → Prop} (ht : P.underlying t = some (.slice e)) (hsz : P.cellsOf e = 1)
    (he : ∀ n cs x, DataW.trod enc P W 0 (fun _ => true) true n e cs = some x → ∃ a, LiftE W (E1 E) a cs ∧ good a)
    (h : DataW.trod enc P W 0 (fun _ => true) true fuel t cs = some x) : ∃ xs : List α, LiftE W (E1 (fun (ys : List α) u => In (Ls E) u ys)) xs cs ∧ (xs.length ≤ 9223372036854775807 ∧ ∀ a ∈ xs, good a) := by
  obtain ⟨xs, ⟨vs, h1, h2, u, rfl, h3⟩, h4⟩ := in_list ht hsz (by omega) he h
  exact ⟨xs, ⟨[u], h1, h2, u, rfl, h3.imp lc1_ls id⟩, h4⟩
theorem in_n (ht : P.underlying t = some (.int .i64)) (h : DataW.trod enc P W 0 (fun _ => true) true fuel t cs = some x) : ∃ n, LiftE W (E1 isI) n cs ∧ (-9223372036854775808 ≤ n ∧ n ≤ 9223372036854775807) := by
  obtain ⟨n, rfl, h1⟩ := in_int ht h
  exact ⟨n, ⟨[.sc (.int .i64 n)], rfl, by simp [okL, okV], _, rfl, rfl⟩, h1⟩
theorem LiftE.one {α : Type} {E : α → V → Prop} {a : α} {c : Value} (h : LiftE W (E1 E) a [c]) : ∃ u, er u = avC W.heap.size c ∧ okV (heap0 W) u ∧ E a u := by
  obtain ⟨vs, h1, h2, u, rfl, h3⟩ := h
  simp only [erl, List.map_cons, List.map_nil, List.cons.injEq, and_true] at h1
  simp only [okL] at h2
  exact ⟨u, h1, h2.1, h3⟩
end
theorem calls_of_vcall {P : Program} {f : FuncId} {vs : List Value} {vv : List V} {W : World} (h : VCall P f vv (fun _ => none) (fun r M' => (fun _ => none) = M' ∧ r = .sc (.bool true)))
    (he : vv.map er = vs.map (avT W.heap.size)) (ho : okL (heap0 W) vv) : Calls P f vs.toArray W (fun e w' => e = .returned (.bool true) ∧ Go.RowKit.Below W.heap.size W w') := by
  refine calls_of_acall ?_
  rw [← he]
  refine (h (heap0 W) (heap0 W) ⟨rfl, fun b _ => .inr rfl, fun b l hb => by cases hb⟩ ho).mono ?_
  rintro a H' ⟨r, M', F', rfl, _, _, _, _, rfl⟩
  rfl
end Go.M2

namespace Go.M2
open Go.Proofs
open Go.ChangeShapes Go.WideShapes Go.ChangeAt Go.RowKit
variable {HH : Type} {enc : TypeId × Value → HH} {W : World} {fuel : Nat} {cs : List Value} {x : DataW HH × List MemPlace}
theorem list4 {α : Type} {l : List α} (h : l.length = 4) : ∃ a b c d, l = [a, b, c, d] := by
  match l, h with
  | [a, b, c, d], _ => exact ⟨a, b, c, d, rfl⟩
theorem list3 {α : Type} {l : List α} (h : l.length = 3) : ∃ a b c, l = [a, b, c] := by
  match l, h with
  | [a, b, c], _ => exact ⟨a, b, c, rfl⟩
theorem in_i64 (h : DataW.trod enc Try.prog W 0 (fun _ => true) true fuel 3 cs = some x) : ∃ n : Int, cs = [.int .i64 n] := by
  obtain ⟨n, h1, _⟩ := in_int Try.underlying3 h
  exact ⟨n, h1⟩
theorem in_term (h : DataW.trod enc Try.prog W 0 (fun _ => true) true fuel 138 cs = some x) : ∃ t : TermS, LiftE W isT t cs ∧ True := by
  have c3 : Try.prog.cellsOf 3 = 1 := by kernel_rfl
  obtain ⟨xs, n, _, _, hl, hxl, hf⟩ := DataW.trod_struct Try.underlying138 h
  have hxl : xs.length = 4 := hxl
  have hl : cs.length = 4 := hl.trans (by kernel_rfl)
  obtain ⟨a, b, c, d, rfl⟩ := list4 hl
  have f0 := hf 0 ⟨ "Op", 3, 0, false, "", "", 0⟩ rfl
  have f1 := hf 1 ⟨ "N", 3, 1, false, "", "", 8⟩ rfl
  have f2 := hf 2 ⟨ "A", 3, 2, false, "", "", 16⟩ rfl
  have f3 := hf 3 ⟨ "B", 3, 3, false, "", "", 24⟩ rfl
  rw [List.getElem?_eq_getElem (by omega), c3] at f0 f1 f2 f3
  obtain ⟨n0, e0⟩ := in_i64 f0
  obtain ⟨n1, e1⟩ := in_i64 f1
  obtain ⟨n2, e2⟩ := in_i64 f2
  obtain ⟨n3, e3⟩ := in_i64 f3
  simp only [List.drop_zero, List.drop_succ_cons, List.take_succ_cons, List.take_zero, List.cons.injEq, and_true] at e0 e1 e2 e3
  subst e0 e1 e2 e3
  exact ⟨⟨n0, n1, n2, n3⟩, ⟨encT ⟨n0, n1, n2, n3⟩, rfl, by simp [encT, okL, okV], rfl⟩, trivial⟩
theorem in_var (h : DataW.trod enc Try.prog W 0 (fun _ => true) true fuel 93 cs = some x) : ∃ t : VarS, LiftE W isVar t cs ∧ True := by
  have c3 : Try.prog.cellsOf 3 = 1 := by kernel_rfl
  obtain ⟨xs, n, _, _, hl, hxl, hf⟩ := DataW.trod_struct Try.underlying93 h
  have hxl : xs.length = 3 := hxl
  have hl : cs.length = 3 := hl.trans (by kernel_rfl)
  obtain ⟨a, b, c, rfl⟩ := list3 hl
  have f0 := hf 0 ⟨ "Low", 3, 0, false, "", "", 0⟩ rfl
  have f1 := hf 1 ⟨ "High", 3, 1, false, "", "", 8⟩ rfl
  have f2 := hf 2 ⟨ "First", 3, 2, false, "", "", 16⟩ rfl
  rw [List.getElem?_eq_getElem (by omega), c3] at f0 f1 f2
  obtain ⟨n0, e0⟩ := in_i64 f0
  obtain ⟨n1, e1⟩ := in_i64 f1
  obtain ⟨n2, e2⟩ := in_i64 f2
  simp only [List.drop_zero, List.drop_succ_cons, List.take_succ_cons, List.take_zero, List.cons.injEq, and_true] at e0 e1 e2
  subst e0 e1 e2
  exact ⟨⟨n0, n1, n2⟩, ⟨encVar ⟨n0, n1, n2⟩, rfl, by simp [encVar, okL, okV], rfl⟩, trivial⟩
theorem in_ints (h : DataW.trod enc Try.prog W 0 (fun _ => true) true fuel 26 cs = some x) : ∃ ns : List Int, LiftE W (E1 (fun (ys : List Int) u => XI u ys)) ns cs ∧ LenOk ns := by
  obtain ⟨ns, h1, h2, _⟩ := in_list1 (E := isI) (good := fun n => -9223372036854775808 ≤ n ∧ n ≤ 9223372036854775807) Try.underlying26 (by kernel_rfl) (fun n cs x h => in_n Try.underlying3 h) h
  exact ⟨ns, h1, h2⟩
theorem in_terms (h : DataW.trod enc Try.prog W 0 (fun _ => true) true fuel 84 cs = some x) : ∃ ts : List TermS, LiftE W (E1 (fun (ys : List TermS) u => XT u ys)) ts cs ∧ LenOk ts := by
  obtain ⟨ns, h1, h2, _⟩ := in_list (E := isT) (good := fun _ => True) (sz := 4) Try.underlying84 (by kernel_rfl) (by omega) (fun n cs x h => in_term h) h
  exact ⟨ns, h1, h2⟩
theorem in_vars (h : DataW.trod enc Try.prog W 0 (fun _ => true) true fuel 22 cs = some x) : ∃ ts : List VarS, LiftE W (E1 (fun (ys : List VarS) u => XVar u ys)) ts cs ∧ LenOk ts := by
  obtain ⟨ns, h1, h2, _⟩ := in_list (E := isVar) (good := fun _ => True) (sz := 3) Try.underlying22 (by kernel_rfl) (by omega) (fun n cs x h => in_var h) h
  exact ⟨ns, h1, h2⟩
theorem in_termss (h : DataW.trod enc Try.prog W 0 (fun _ => true) true fuel 85 cs = some x) : ∃ ts : List (List TermS), LiftE W (E1 (fun (ys : List (List TermS)) u => XTT u ys)) ts cs ∧ (LenOk ts ∧ ∀ t ∈ ts, LenOk t) :=
  in_list1 (E := fun (ts : List TermS) u => XT u ts) (good := fun ts => LenOk ts) Try.underlying85 (by kernel_rfl) (fun n cs x h => in_terms h) h
theorem in_rule (h : DataW.trod enc Try.prog W 0 (fun _ => true) true fuel 87 cs = some x) : ∃ r : RuleS, LiftE W isRuleX r cs ∧ RuleLen r := by
  obtain ⟨xs, n, _, _, hl, hxl, hf⟩ := DataW.trod_struct Try.underlying87 h
  have hxl : xs.length = 3 := hxl
  have hl : cs.length = 3 := hl.trans (by kernel_rfl)
  have c1 : Try.prog.cellsOf 84 = 1 := by kernel_rfl
  have c2 : Try.prog.cellsOf 26 = 1 := by kernel_rfl
  have c3 : Try.prog.cellsOf 85 = 1 := by kernel_rfl
  obtain ⟨a, b, c, rfl⟩ := list3 hl
  have f0 := hf 0 ⟨ "When", 84, 0, false, "", "", 0⟩ rfl
  have f1 := hf 1 ⟨ "Sets", 26, 1, false, "", "", 24⟩ rfl
  have f2 := hf 2 ⟨ "Terms", 85, 2, false, "", "", 48⟩ rfl
  rw [List.getElem?_eq_getElem (by omega)] at f0 f1 f2
  simp only [c1, c2, c3, List.drop_zero, List.drop_succ_cons, List.take_succ_cons, List.take_zero] at f0 f1 f2
  obtain ⟨n0, e0, g0⟩ := in_terms f0
  obtain ⟨n1, e1, g1⟩ := in_ints f1
  obtain ⟨n2, e2, g2, g3⟩ := in_termss f2
  obtain ⟨u0, p0, q0, r0⟩ := e0.one
  obtain ⟨u1, p1, q1, r1⟩ := e1.one
  obtain ⟨u2, p2, q2, r2⟩ := e2.one
  exact ⟨⟨n0, n1, n2⟩, ⟨[u0, u1, u2], by simp [erl, p0, p1, p2], by simp only [okL]; exact ⟨q0, q1, q2, trivial⟩, u0, u1, u2, rfl, r0, r1, r2⟩, g0, g1, g2, g3⟩
theorem in_rules (h : DataW.trod enc Try.prog W 0 (fun _ => true) true fuel 23 cs = some x) : ∃ rs : List RuleS, LiftE W (E1 (fun (ys : List RuleS) u => XR u ys)) rs cs ∧ (LenOk rs ∧ ∀ r ∈ rs, RuleLen r) :=
  in_list (E := isRuleX) (good := RuleLen) (sz := 3) Try.underlying23 (by kernel_rfl) (by omega) (fun n cs x h => in_rule h) h
def UpV {α : Type} (W : World) (E : α → V → Prop) (a : α) (v : Value) : Prop := ∃ u, er u = avT W.heap.size v ∧ okV (heap0 W) u ∧ E a u
theorem up_system {v : Value} (hv : ∃ a, v = .agg a) (h : DataW.trod enc Try.prog W 0 (fun _ => true) true fuel 25 v.cells.toList = some x) : ∃ s : SysS, UpV W (fun (s : SysS) u => isSysX s u) s v ∧ SysLen s := by
  obtain ⟨cs, rfl⟩ := hv
  have c1 : Try.prog.cellsOf 22 = 1 := by kernel_rfl
  have c2 : Try.prog.cellsOf 23 = 1 := by kernel_rfl
  obtain ⟨xs, n, _, _, hl, hxl, hf⟩ := DataW.trod_struct Try.underlying25 h
  have hxl : xs.length = 2 := hxl
  have hl : cs.toList.length = 2 := hl.trans (by kernel_rfl)
  obtain ⟨a, b, hab⟩ : ∃ a b, cs.toList = [a, b] := by
    match hcs : cs.toList, hl with
    | [a, b], _ => exact ⟨a, b, rfl⟩
  have f0 := hf 0 ⟨ "Vars", 22, 0, false, "", "", 0⟩ rfl
  have f1 := hf 1 ⟨ "Rules", 23, 1, false, "", "", 24⟩ rfl
  rw [List.getElem?_eq_getElem (by omega)] at f0 f1
  simp only [Value.cells, hab, c1, c2, List.drop_zero, List.drop_succ_cons, List.take_succ_cons, List.take_zero] at f0 f1
  obtain ⟨n0, e0, g0⟩ := in_vars f0
  obtain ⟨n1, e1, g1, g2⟩ := in_rules f1
  obtain ⟨u0, p0, q0, r0⟩ := e0.one
  obtain ⟨u1, p1, q1, r1⟩ := e1.one
  refine ⟨⟨n0, n1⟩, ⟨.agg [u0, u1], ?_, by simp only [okV, okL]; exact ⟨q0, q1, trivial⟩, u0, u1, rfl, r0, r1⟩, g0, g1, g2⟩
  simp [er, erl, avT, hab, p0, p1]
end Go.M2

namespace Go.M2
open Go.Proofs
open Go.ChangeShapes Go.WideShapes Go.ChangeAt Go.RowKit
variable {M : MH}
variable {HH : Type} {enc : TypeId × Value → HH} {W : World} {fuel : Nat} {cs : List Value} {x : DataW HH × List MemPlace}
end Go.M2

namespace Go.M2
open Go.Proofs
variable {M : MH}
theorem Gr.out {M0 Mb M Mr : MH} {v : V} {us : List V} {fp g : List (Nat × List V)} (h : Gr 1 Mb M v us) (hm : Mem M0 Mb fp) (k : Mem M Mr g) : ∃ Mb', Gr 1 Mb' Mr v us ∧ Mem M0 Mb' (fp ++ g) := by
  have key : Sub Mb (fun i => if blkV v = some i then none else Mr i) := fun i l hi => by
    have hne : blkV v ≠ some i := fun e => by rw [h.new i e] at hi; cases hi
    simp only [hne, if_false]; exact k.sub _ _ (h.sub _ _ hi)
  refine ⟨fun i => if blkV v = some i then none else Mr i, ⟨fun i l hi => ?_, fun b hb => by simp [hb], h.own.sub k.sub⟩, hm.add ⟨key, fun p hp => h.sub.none (k.new p hp), k.nd, fun p hp => ?_⟩⟩
  · have hi : (if blkV v = some i then none else Mr i) = some l := hi
    split at hi
    · cases hi
    · exact hi
  · have hne : blkV v ≠ some p.1 := fun e => by
      have h1 := k.new p hp
      rcases h.own with ⟨rfl, q, rfl⟩ | ⟨b', n, ex, rfl, h2, _⟩
      · simp [blkV] at e
      · simp [blkV] at e; subst e; rw [h1] at h2; cases h2
    simp only [hne, if_false]; exact k.at_ p hp
def RT (M0 M : MH) (v : V) (rows : List (List Int)) : Prop :=
  ∃ us us' fp Mb, Gr 1 Mb M v us ∧ Mem M0 Mb fp ∧ Tr us us' fp ∧ flatL us ∧ (∀ q ∈ fp, flatL q.2) ∧ us.all oneV = true ∧ Cs isL us' rows
section
variable {M0 M1 M2 : MH} {v u : V} {rows : List (List Int)} {ys : List Int}
theorem RT.sub (h : RT M0 M1 v rows) : Sub M0 M1 := by
  obtain ⟨us, us', fp, Mb, hg, hm, _⟩ := h
  exact hm.sub.trans hg.sub
theorem RT.nil {k : Nat} (h : Sub M0 M1) : RT M0 M1 (.sc (.sl none 0 0 true k)) [] := ⟨[], [], [], M1, .nil (Sub.refl _), .nil h, .nil, by simp [flatL], fun q hq => (by cases hq), rfl, .nil⟩
theorem RT.len (h : RT M0 M1 v rows) : lenF (er v) = some (.int .i64 (rows.length : Int)) := by
  obtain ⟨us, us', fp, Mb, hg, hm, ht, _, _, _, hc⟩ := h
  rw [hg.len1, ← hc.1, ht.len]
theorem RT.one (h : RT M0 M1 v rows) : One v := by
  obtain ⟨us, us', fp, Mb, hg, _⟩ := h
  exact hg.one
theorem RT.more (h : RT M0 M1 v rows) (hs : Sub M1 M2) : RT M0 M2 v rows := by
  obtain ⟨us, us', fp, Mb, hg, hm, h⟩ := h
  obtain ⟨Mb', g1, m1⟩ := hg.out hm (Mem.nil hs)
  rw [List.append_nil] at m1
  exact ⟨us, us', fp, Mb', g1, m1, h⟩
theorem RT.base {Mz : MH} (h : RT M0 M1 v rows) (hs : Sub Mz M0) : RT Mz M1 v rows := by
  obtain ⟨us, us', fp, Mb, hg, hm, h⟩ := h
  exact ⟨us, us', fp, Mb, hg, hm.base hs, h⟩
theorem RT.tree (h : RT M0 M1 v rows) : ∃ v' fp, Tr [v] [v'] fp ∧ Mem M0 M1 fp ∧ flat v ∧ (∀ q ∈ fp, flatL q.2) ∧ LII v' rows := by
  obtain ⟨us, us', fp, Mb, hg, hm, ht, hf, hff, _, hc⟩ := h
  rcases hg.own with ⟨rfl, k, rfl⟩ | ⟨b, n, ex, rfl, hb, hl⟩
  · cases ht
    have : rows = [] := List.eq_nil_of_length_eq_zero hc.1.symm
    subst this
    exact ⟨_, [], .refl _, .nil (hm.sub.trans hg.sub), by simp [flat], fun q hq => (by cases hq), .nil⟩
  · have hnew : Mb b = none := hg.new b rfl
    refine ⟨.fs (some (b, 0)) n n ex 1 (us'.drop 0), (b, us) :: (fp ++ []), .sl ht .nil, ?_, by simp [flat], fun q hq => ?_, ?_⟩
    · have k : Mem Mb M1 [(b, us)] := ⟨hg.sub, fun p hp => by simp at hp; subst hp; exact hnew, by simp [Nd2], fun p hp => by simp at hp; subst hp; exact hb⟩
      rw [List.append_nil]
      exact (hm.add k).perm List.perm_append_comm
    · simp only [List.append_nil, List.mem_cons] at hq
      rcases hq with rfl | h1
      · exact hf
      · exact hff q h1
    · have := ht.len
      exact Fr.lsC (us := us') (.inr ⟨_, _, _, _, _, by rw [List.drop_zero], by omega⟩) hc
theorem RT.dn (h : RT M0 M1 v rows) : Dn M0 M1 v (fun u => LII u rows) := h.tree
theorem RT.row (h : RT M0 M1 v rows) {i : Nat} (hi : i < rows.length) : ∃ (us : List V) (u u' : V) (g : List (Nat × List V)), (∀ {k : IntKind} {a : Int}, 0 ≤ a → a < (rows.length : Int) → iaddrV 1 v (.int k a) = some (.sc (.ptr (some (oB v, a.toNat))))) ∧ M1 (oB v) = some us ∧ us[i]? = some u ∧ One u ∧ Tr [u] [u'] g ∧ Nd2 g ∧ (∀ p ∈ g, M1 p.1 = some p.2) ∧ (∀ p ∈ g, M0 p.1 = none) ∧ LI u' rows[i] := by
  obtain ⟨us, us', fp, Mb, hg, hm, ht, hf, hff, ho, hc⟩ := h
  have hul : us.length = rows.length := by rw [← ht.len]; exact hc.1
  have hiu : i < us.length := by omega
  have hsp : us = us.take i ++ (us[i] :: us.drop (i + 1)) := by rw [← List.drop_eq_getElem_cons hiu, List.take_append_drop]
  rw [hsp] at ht
  obtain ⟨a', b', f1, f2, rfl, rfl, t1, t2⟩ := Tr.split (a := us.take i) (b := us[i] :: us.drop (i + 1)) (b' := []) ht
  obtain ⟨x', r', g1, g2, rfl, rfl, t3, t4⟩ := t2.uncons
  have hal : a'.length = i := by rw [t1.len, List.length_take]; omega
  have hmg : Mem M0 Mb g1 := hm.right.left
  have h4 := hc.2 i hi
  rw [List.getElem?_append_right (by omega), hal, Nat.sub_self] at h4
  obtain ⟨w, h5, h6⟩ := h4
  simp only [List.getElem?_cons_zero, Option.some.injEq] at h5
  subst h5
  have o1 := List.all_eq_true.1 ho _ (List.getElem_mem hiu)
  have fl := flatL_all.1 hf _ (List.getElem_mem hiu)
  refine ⟨us, us[i], x', g1, fun h0 h1 => hg.own.iaddr h0 (by rw [hul]; exact h1), hg.at (by omega), List.getElem?_eq_getElem hiu, ⟨o1, ?_⟩, t3, hmg.nd, fun p hp => hg.sub _ _ (hmg.at_ p hp), hmg.new, h6⟩
  rcases t3.inv1 with ⟨h1, h2⟩ | ⟨b, o, n, c, ex, k, cs, cs', g, h0, _⟩ | ⟨a, a', _, h0⟩ | ⟨a, a', _, h0⟩
  · simp only [List.cons.injEq, and_true] at h1
    rw [← h1]; exact h6.one.2
  · rw [h0]; rfl
  · rw [h0] at o1; exact absurd o1 (by simp [oneV, er, oneA])
  · rw [h0] at o1; exact absurd o1 (by simp [oneV, er, oneA])
theorem RT.snoc {s' : V} {M' : MH} {us us' : List V} {fp g : List (Nat × List V)} {u' : V} {Mb' : MH} (h1 : Gr 1 Mb' M' s' (us ++ [u])) (m1 : Mem M0 Mb' (fp ++ g)) (ht : Tr us us' fp) (htu : Tr [u] [u'] g) (hf : flatL us) (hfu : flat u) (hff : ∀ q ∈ fp, flatL q.2) (hfg : ∀ q ∈ g, flatL q.2)
    (ho : us.all oneV = true) (hou : oneV u = true) (hc : Cs isL us' rows) (hu : LI u' ys) : RT M0 M' s' (rows ++ [ys]) := by
  refine ⟨us ++ [u], us' ++ [u'], fp ++ g, Mb', h1, m1, ht.append htu, ?_, ?_, by simp [ho, hou], hc.snoc (x := ys) hu⟩
  · exact flatL_all.2 fun w hw => by
      rcases List.mem_append.1 hw with h2 | h2
      · exact flatL_all.1 hf w h2
      · rw [List.mem_singleton] at h2; subst h2; exact hfu
  · intro w hw
    rcases List.mem_append.1 hw with h2 | h2
    · exact hff w h2
    · exact hfg w h2
end
end Go.M2

namespace Go.M2
open Go.Proofs
variable {M : MH}
end Go.M2

namespace Go.M2
open Go.Proofs
variable {M : MH}
end Go.M2

namespace Go.M2
open Go.Proofs
variable {M : MH}
theorem Tr.one1 {u u' : V} {g : List (Nat × List V)} (h : Tr [u] [u'] g) (h' : One u') : One u := by
  obtain ⟨h1, h2⟩ := h'
  rcases h.inv1 with ⟨h3, _⟩ | ⟨b, o, n, c, ex, k, cs, cs', g, rfl, _⟩ | ⟨a, a', h3, _⟩ | ⟨a, a', h3, _⟩
  · simp only [List.cons.injEq, and_true] at h3
    rw [← h3]; exact ⟨h1, h2⟩
  · exact ⟨rfl, rfl⟩
  · simp only [List.cons.injEq, and_true] at h3
    rw [h3] at h1; exact absurd h1 (by simp [oneV, er, oneA])
  · simp only [List.cons.injEq, and_true] at h3
    rw [h3] at h1; exact absurd h1 (by simp [oneV, er, oneA])
def RdI (M : MH) (v : V) (xs : List Int) : Prop := ∃ v' g, Tr [v] [v'] g ∧ Nd2 g ∧ (∀ p ∈ g, M p.1 = some p.2) ∧ LI v' xs
theorem RdI.of {v : V} {xs : List Int} (h : LI v xs) : RdI M v xs := ⟨v, [], .refl _, List.nodup_nil, fun p hp => (by cases hp), h⟩
theorem RdI.more {M' : MH} {v : V} {xs : List Int} (h : RdI M v xs) (hs : Sub M M') : RdI M' v xs := by
  obtain ⟨v', g, h1, h2, h3, h4⟩ := h
  exact ⟨v', g, h1, h2, fun p hp => hs _ _ (h3 p hp), h4⟩
theorem RdI.one {v : V} {xs : List Int} (h : RdI M v xs) : One v := by
  obtain ⟨v', g, h1, h2, h3, h4⟩ := h
  exact h1.one1 h4.one
theorem Dn.rdI {M0 : MH} {v : V} {xs : List Int} (h : Dn M0 M v (fun u => LI u xs)) : RdI M v xs := by
  obtain ⟨v', g, h1, h2, h3, h4, h5⟩ := h
  exact ⟨v', g, h1, h2.nd, h2.at_, h5⟩
theorem RdI.len {v : V} {xs : List Int} (h : RdI M v xs) : lenF (er v) = some (.int .i64 (xs.length : Int)) := by
  obtain ⟨v', g, h1, h2, h3, h4⟩ := h
  have hl := h4.len
  rcases h1.inv1 with ⟨h5, _⟩ | ⟨b, o, n, c, ex, k, cs, cs', g, rfl, h5, _⟩ | ⟨a, a', h5, rfl⟩ | ⟨a, a', h5, rfl⟩
  · simp only [List.cons.injEq, and_true] at h5
    rw [← h5]; exact hl
  · simp only [List.cons.injEq, and_true] at h5
    rw [h5] at hl; exact hl
  · simp only [List.cons.injEq, and_true] at h5
    rw [h5] at hl; simp [er, lenF] at hl
  · simp only [List.cons.injEq, and_true] at h5
    rw [h5] at hl; simp [er, lenF] at hl
theorem RT.rdI {M0 M1 : MH} {v u : V} {us : List V} {rows : List (List Int)} (h : RT M0 M1 v rows) {i : Nat} (hi : i < rows.length) (hm : M1 (oB v) = some us) (hu : us[i]? = some u) : RdI M1 u rows[i] := by
  obtain ⟨us2, u2, u', g, _, h1, h2, _, h3, h4, h5, _, h6⟩ := h.row hi
  rw [hm] at h1; cases h1
  rw [hu] at h2; cases h2
  exact ⟨u', g, h3, h4, h5, h6⟩
theorem RT.cell {M0 M1 : MH} {v : V} {rows : List (List Int)} (h : RT M0 M1 v rows) (hl : 0 < rows.length) : ∃ us, M1 (oB v) = some us ∧ us.length = rows.length ∧ ∀ i (h : i < rows.length), ∃ u, us[i]? = some u ∧ RdI M1 u rows[i] := by
  have h0 := h
  obtain ⟨us, us', fp, Mb, hg, hm, ht, hf, hff, ho, hc⟩ := h0
  have hul : us.length = rows.length := by rw [← ht.len]; exact hc.1
  have hat : M1 (oB v) = some us := hg.at (by omega)
  exact ⟨us, hat, hul, fun i hi => ⟨us[i]'(by omega), List.getElem?_eq_getElem (by omega), h.rdI hi hat (List.getElem?_eq_getElem (by omega))⟩⟩
theorem RT.iaddr {M0 M1 : MH} {v : V} {rows : List (List Int)} (h : RT M0 M1 v rows) {k : IntKind} {a : Int} (h0 : 0 ≤ a) (h1 : a < (rows.length : Int)) : iaddrV 1 v (.int k a) = some (.sc (.ptr (some (oB v, a.toNat)))) := by
  obtain ⟨us, us', fp, Mb, hg, hm, ht, hf, hff, ho, hc⟩ := h
  have hul : us.length = rows.length := by rw [← ht.len]; exact hc.1
  exact hg.own.iaddr h0 (by rw [hul]; exact h1)
end Go.M2

namespace Go.M2
open Go.Proofs
variable {M : MH}
end Go.M2

namespace Go.M2
open Go.Proofs
variable {M : MH}
end Go.M2

namespace Go.M2
open Go.Proofs
variable {M : MH}
end Go.M2

namespace Go.M2
open Go.Proofs
variable {M : MH}
end Go.M2

namespace Go.M2
open Go.Proofs
variable {M : MH}
def FrStep (s : SysS) (p f : List Int) : Prop := SetOk (sizeF s.vars) f ∧ (∀ x ∈ p, x ∈ f) ∧ (∀ x ∈ nextN s p, x ∈ f)
def FrOk (s : SysS) (fs : List (List Int)) : Prop := SysOk s ∧ 1 ≤ fs.length ∧ fs.length ≤ 30 ∧ fs[0]? = some [firstN s] ∧ ∀ i (h : i + 1 < fs.length), FrStep s fs[i] fs[i + 1]
noncomputable def frB (s : SysS) (fs : List (List Int)) : Bool := @decide (FrOk s fs) (Classical.propDecidable _)
end Go.M2

namespace Go.M2
open Go.Proofs
variable {M : MH}
end Go.M2

namespace Go.M2
open Go.Proofs
variable {M : MH}
structure TrS where
  states : List (List Int)
  rules : List Int
def isTr (t : TrS) (u : V) : Prop := ∃ x y, u = .agg [x, y] ∧ LII x t.states ∧ LI y t.rules
theorem Dn.more {M0 M1 M2 : MH} {v : V} {p : V → Prop} (h : Dn M0 M1 v p) (hs : Sub M1 M2) : Dn M0 M2 v p := by
  obtain ⟨r', fp, h1, h2, h3⟩ := h
  exact ⟨r', fp, h1, h2.more hs, h3⟩
theorem Dn.base {Mz M0 M1 : MH} {v : V} {p : V → Prop} (h : Dn M0 M1 v p) (hs : Sub Mz M0) : Dn Mz M1 v p := by
  obtain ⟨r', fp, h1, h2, h3⟩ := h
  exact ⟨r', fp, h1, h2.base hs, h3⟩
theorem Dn.setB {M0 Mb M1 : MH} {v : V} {p : V → Prop} {b : Nat} {l l0 : List V} (h : Dn Mb M1 v p) (hb : Mb b = some l0) (h0 : M0 b = none) (hs : Sub M0 Mb) : Dn M0 (M1.set b l) v p := by
  obtain ⟨r', fp, h1, h2, h3⟩ := h
  refine ⟨r', fp, h1, ⟨(hs.trans h2.sub).set h0, fun q hq => hs.none (h2.new q hq), h2.nd, fun q hq => ?_⟩, h3⟩
  have hne : q.1 ≠ b := fun e => by have := h2.new q hq; rw [e, hb] at this; cases this
  rw [set_ne hne]; exact h2.at_ q hq
theorem Dn.agg2 {M0 M1 M2 : MH} {x y : V} {p q : V → Prop} (h : Dn M0 M1 x p) (k : Dn M1 M2 y q) : Dn M0 M2 (.agg [x, y]) (fun u => ∃ x' y', u = .agg [x', y'] ∧ p x' ∧ q y') := by
  obtain ⟨x', f, t1, m1, f1, g1, h1⟩ := h
  obtain ⟨y', g, t2, m2, f2, g2, h2⟩ := k
  refine ⟨.agg [x', y'], f ++ g, ?_, m1.add m2, by simp [flat, flatL, f1, f2], fun r hr => ?_, x', y', rfl, h1, h2⟩
  · have := Tr.agg (t1.append t2) Tr.nil
    simpa using this
  · rcases List.mem_append.1 hr with h3 | h3
    · exact g1 r h3
    · exact g2 r h3
structure TB (Mb M : MH) (b6 : Nat) (S : List (List Int)) (Rl : List Int) (ul ur : V) : Prop where
  sub : Sub Mb M
  new6 : Mb b6 = none
  at6 : M b6 = some [ul, ur]
  rx : ∃ us us' fp, Ow 1 M ul us ∧ Tr us us' fp ∧ Nd2 fp ∧ (∀ p ∈ fp, M p.1 = some p.2) ∧ (∀ p ∈ fp, Mb p.1 = none ∧ p.1 ≠ b6 ∧ blkV ul ≠ some p.1 ∧ blkV ur ≠ some p.1) ∧ flatL us ∧ (∀ q ∈ fp, flatL q.2) ∧ us.all oneV = true ∧ Cs isL us' S
  newl : ∀ b, blkV ul = some b → Mb b = none ∧ b ≠ b6 ∧ blkV ur ≠ some b
  owr : Ow 1 M ur (Rl.map vi)
  newr : ∀ b, blkV ur = some b → Mb b = none ∧ b ≠ b6
section
variable {Mb M1 M2 : MH} {b6 : Nat} {S : List (List Int)} {Rl ys : List Int} {ul ur u : V}
theorem Ow.blk {sz : Nat} {v : V} {l : List V} (h : Ow sz M v l) {b : Nat} (hb : blkV v = some b) : M b = some l := by
  rcases h with ⟨_, k, rfl⟩ | ⟨b', n, ex, rfl, h2, _⟩
  · simp [blkV] at hb
  · simp [blkV] at hb; subst hb; exact h2
theorem Ow.to {sz : Nat} {M' : MH} {v : V} {l : List V} (h : Ow sz M v l) (hs : ∀ b, blkV v = some b → M' b = M b) : Ow sz M' v l := by
  rcases h with h | ⟨b', n, ex, rfl, h2, h3⟩
  · exact .inl h
  · exact .inr ⟨b', n, ex, rfl, by rw [hs b' rfl]; exact h2, h3⟩
theorem Ow.gr {v : V} {l : List V} (h : Ow 1 M v l) : Gr 1 (fun i => if blkV v = some i then none else M i) M v l :=
  ⟨fun i l hi => by
    have hi : (if blkV v = some i then none else M i) = some l := hi
    split at hi
    · cases hi
    · exact hi, fun b hb => by simp [hb], h⟩
theorem TB.more (h : TB Mb M1 b6 S Rl ul ur) (hs : Sub M1 M2) : TB Mb M2 b6 S Rl ul ur := by
  obtain ⟨us, us', fp, h1, h2, h3, h4, h5⟩ := h.rx
  exact ⟨h.sub.trans hs, h.new6, hs _ _ h.at6, ⟨us, us', fp, h1.sub hs, h2, h3, fun p hp => hs _ _ (h4 p hp), h5⟩, h.newl, h.owr.sub hs, h.newr⟩
theorem TB.lenS (h : TB Mb M1 b6 S Rl ul ur) : lenF (er ul) = some (.int .i64 (S.length : Int)) := by
  obtain ⟨us, us', fp, h1, h2, _, _, _, _, _, _, hc⟩ := h.rx
  rw [h1.len1, ← hc.1, h2.len]
theorem TB.iaddr (h : TB Mb M1 b6 S Rl ul ur) {k : IntKind} {a : Int} (h0 : 0 ≤ a) (h1 : a < (S.length : Int)) : iaddrV 1 ul (.int k a) = some (.sc (.ptr (some (oB ul, a.toNat)))) := by
  obtain ⟨us, us', fp, h2, h3, _, _, _, _, _, _, hc⟩ := h.rx
  have hul : us.length = S.length := by rw [← h3.len]; exact hc.1
  exact h2.iaddr h0 (by rw [hul]; exact h1)
theorem TB.cell (h : TB Mb M1 b6 S Rl ul ur) (hl : 0 < S.length) : ∃ us, M1 (oB ul) = some us ∧ us.length = S.length ∧ ∀ i (h : i < S.length), ∃ u, us[i]? = some u ∧ RdI M1 u S[i] := by
  obtain ⟨us, us', fp, h1, ht, hnd, hat, _, hf, hff, ho, hc⟩ := h.rx
  have hul : us.length = S.length := by rw [← ht.len]; exact hc.1
  refine ⟨us, h1.at (by omega), hul, fun i hi => ?_⟩
  have hiu : i < us.length := by omega
  have hsp : us = us.take i ++ (us[i] :: us.drop (i + 1)) := by rw [← List.drop_eq_getElem_cons hiu, List.take_append_drop]
  rw [hsp] at ht
  obtain ⟨a', b', f1, f2, rfl, rfl, t1, t2⟩ := Tr.split (a := us.take i) (b := us[i] :: us.drop (i + 1)) (b' := []) ht
  obtain ⟨x', r', g1, g2, rfl, rfl, t3, t4⟩ := t2.uncons
  have hal : a'.length = i := by rw [t1.len, List.length_take]; omega
  have h4 := hc.2 i hi
  rw [List.getElem?_append_right (by omega), hal, Nat.sub_self] at h4
  obtain ⟨w, h5, h6⟩ := h4
  simp only [List.getElem?_cons_zero, Option.some.injEq] at h5
  subst h5
  exact ⟨us[i], List.getElem?_eq_getElem hiu, x', g1, t3, (Nd2.append (Nd2.append hnd).2.1).1, fun p hp => hat p (List.mem_append_right _ (List.mem_append_left _ hp)), h6⟩
theorem TB.box (h : RT Mb M1 ul S) (hb : M1 b6 = none) : TB Mb (M1.set b6 [ul, .sc (.sl none 0 0 true 0)]) b6 S [] ul (.sc (.sl none 0 0 true 0)) := by
  obtain ⟨us, us', fp, Mc, hg, hm, ht, hf, hff, hos, hc⟩ := h
  have hs : Sub M1 (M1.set b6 [ul, .sc (.sl none 0 0 true 0)]) := (Sub.refl M1).set' hb
  have hs0 : Sub Mb M1 := hm.sub.trans hg.sub
  have hne : ∀ b l, M1 b = some l → b ≠ b6 := fun b l hl e => by rw [e, hb] at hl; cases hl
  refine ⟨hs0.trans hs, hs0.none hb, set_same, ⟨us, us', fp, hg.own.sub hs, ht, hm.nd, fun p hp => hs _ _ (hg.sub _ _ (hm.at_ p hp)), fun p hp => ⟨hm.new p hp, hne _ _ (hg.sub _ _ (hm.at_ p hp)), fun e => ?_, by simp [blkV]⟩, hf, hff, hos, hc⟩, fun b hb2 => ⟨hm.sub.none (hg.new b hb2), hne _ _ (hg.own.blk hb2), by simp [blkV]⟩, .inl ⟨rfl, 0, rfl⟩, fun b hb2 => by simp [blkV] at hb2⟩
  have h1 := hg.new p.1 e
  rw [hm.at_ p hp] at h1; cases h1
theorem TB.dnS (h : TB Mb M1 b6 S Rl ul ur) : Dn (Mb.set b6 [ul, ur]) M1 ul (fun u => LII u S) := by
  obtain ⟨us, us', fp, h1, ht, hnd, hat, hnew, hf, hff, hos, hc⟩ := h.rx
  have hs : Sub (Mb.set b6 [ul, ur]) M1 := fun i l hi => by
    by_cases e : i = b6
    · subst e; rw [set_same] at hi; cases hi; exact h.at6
    · rw [set_ne e] at hi; exact h.sub _ _ hi
  have hR : RT (Mb.set b6 [ul, ur]) M1 ul S := by
    refine ⟨us, us', fp, _, h1.gr, ⟨fun i l hi => ?_, fun p hp => ?_, hnd, fun p hp => ?_⟩, ht, hf, hff, hos, hc⟩
    · have hne : blkV ul ≠ some i := fun e => by
        by_cases e6 : i = b6
        · exact (h.newl i e).2.1 e6
        · rw [set_ne e6, (h.newl i e).1] at hi; cases hi
      simp only [hne, if_false]; exact hs i l hi
    · obtain ⟨n1, n2, n3, n4⟩ := hnew p hp
      rw [set_ne n2]; exact n1
    · obtain ⟨n1, n2, n3, n4⟩ := hnew p hp
      simp only [n3, if_false]; exact hat p hp
  exact hR.dn
theorem TB.dn (h : TB Mb M1 b6 S Rl ul ur) : Dn (Mb.set b6 [ul, ur]) M1 (.agg [ul, ur]) (isTr ⟨S, Rl⟩) := by
  obtain ⟨us, us', fp, h1, ht, hnd, hat, hnew, hf, hff, hos, hc⟩ := h.rx
  have d1 := h.dnS
  have g := h.owr.gr
  -- the states stand on what is not the rules' block
  have hs : Sub (Mb.set b6 [ul, ur]) M1 := fun i l hi => by
    by_cases e : i = b6
    · subst e; rw [set_same] at hi; cases hi; exact h.at6
    · rw [set_ne e] at hi; exact h.sub _ _ hi
  have hR : RT (Mb.set b6 [ul, ur]) (fun i => if blkV ur = some i then none else M1 i) ul S := by
    have h1' : Ow 1 (fun i => if blkV ur = some i then none else M1 i) ul us := h1.to fun b hb => by simp [(h.newl b hb).2.2]
    refine ⟨us, us', fp, _, h1'.gr, ⟨fun i l hi => ?_, fun p hp => ?_, hnd, fun p hp => ?_⟩, ht, hf, hff, hos, hc⟩
    · have hn1 : blkV ul ≠ some i := fun e => by
        by_cases e6 : i = b6
        · exact (h.newl i e).2.1 e6
        · rw [set_ne e6, (h.newl i e).1] at hi; cases hi
      have hn2 : blkV ur ≠ some i := fun e => by
        by_cases e6 : i = b6
        · exact (h.newr i e).2 e6
        · rw [set_ne e6, (h.newr i e).1] at hi; cases hi
      simp only [hn1, hn2, if_false]; exact hs i l hi
    · obtain ⟨n1, n2, n3, n4⟩ := hnew p hp
      rw [set_ne n2]; exact n1
    · obtain ⟨n1, n2, n3, n4⟩ := hnew p hp
      simp only [n3, n4, if_false]; exact hat p hp
  exact hR.dn.agg2 g.dnI
end
end Go.M2

namespace Go.M2
open Go.Proofs
variable {M : MH}
theorem mkL_succ {n : Nat} {p : Nat → Bool} : mkL (n + 1) p = mkL n p ++ [p n] := by simp [mkL, List.range_succ]
theorem t_l1Needed {v : V} {ts : List TermS} {vars : Int} {ks : List Int} (hv : LT v ts) (hk : kindsF vars ts = some ks) :
    VCall Try.prog n_spec_l1Needed [v] M (fun r M' => Gr 1 M M' r ((mkL ts.length (ndA ts)).map vb)) := by
  obtain ⟨hok, h1, h40⟩ := TOk.of hk
  refine VCall.plain fun R hR => v_spec_l1Needed rfl ?_
  refine sS0 ?_
  intro b3 hb3
  refine loop_k (fun e M' => ∃ i : Nat, i ≤ ts.length ∧ e 0 = v ∧ e 4 = .sc (.int .i64 i) ∧ Gr 1 M M' (e 3) ((mkL i (ndK ts 0)).map vb)) (fun e _ => ctrV ts.length (e 4)) ?_ ?_
  · exact ⟨0, by omega, sT0, by refine sS0 ?_; rfl, by refine sS0 ?_; exact Gr.new' (Sub.refl _) hb3 rfl⟩
  · rintro e M1 ⟨i, hi, e0, e4, hg⟩ K hK
    refine sS3 @e0 @e4 @hv.len ?_
    refine cond_dec (fun h => ?_) (fun h => ?_)
    · have hz : decide ((i : Int) = (ts.length : Int) - 1) = ndK ts 0 i := by simp only [ndK, decide_eq_decide]; omega
      refine sS4 @e0 @e4 @hv.len @hz ?_
      intro bt hbt
      refine app_bool hg hbt (by rw [mkL_len]; omega) (by omega) ?_
      intro s' M' hg' _
      refine sS2 @e0 @e4 ?_
      refine hK _ _ ⟨i + 1, by omega, sT0, by refine sS0 ?_; rfl, by refine sS0 ?_; rw [mkL_succ]; exact hg'⟩ (by refine sS2 @ctrV_int @e4 ?_; omega)
    · obtain rfl : i = ts.length := by omega
      refine sS2 @e0 @hv.len ?_
      refine loop_k (fun e M' => ∃ j : Nat, j ≤ ts.length ∧ e 0 = v ∧ e 5 = .sc (.int .i64 ((ts.length : Int) - 1 - j)) ∧ Gr 1 M M' (e 3) ((mkL ts.length (ndK ts j)).map vb)) (fun e _ => dnV (e 5)) ?_ ?_
      · exact ⟨0, by omega, sT0, by refine sS0 ?_; exact eqI (by omega), by refine sS0 ?_; exact hg⟩
      · rintro e M2 ⟨j, hj, e0, e5, hg⟩ K2 hK2
        refine sS2 @e0 @e5 ?_
        refine cond_dec (fun h => ?_) (fun h => ?_)
        · have hi' : ts.length - 1 - j < ts.length := by omega
          have hnl := ndK_last hok (j := j) (by omega)
          have hns := fun x => ndK_succ (l := ts) (j := j) (i := x)
          obtain ⟨o1, o2, o3, o4⟩ := hok _ hi'
          have hat : atN 4 v (ts.length - 1 - j) = encT ts[ts.length - 1 - j] := hv.elt hi'
          rw [← tAt_eq hi'] at hat
          have et : (ts.length : Int) - 1 - j = ((ts.length - 1 - j : Nat) : Int) := by omega
          have g5 : ((mkL ts.length (ndK ts j)).map vb)[ts.length - 1 - j]? = some (.sc (.bool (ndA ts (ts.length - 1 - j)))) := by rw [mkL_at hi', hnl]
          have hat3 := hg.at (by rw [mkL_lenv]; omega)
          have hia : ∀ {k : IntKind} {a : Int}, 0 ≤ a → a < (ts.length : Int) → iaddrV 1 (e 3) (.int k a) = some (.sc (.ptr (some (oB (e 3), a.toNat)))) := fun q1 q2 => hg.own.iaddr q1 (by rw [mkL_lenv]; exact q2)
          generalize hI : ts.length - 1 - j = i at *
          generalize tAt ts i = t at *
          have e9 : (i : Int) - 1 = (ts.length : Int) - 1 - ((j + 1 : Nat) : Int) := by omega
          cases hA : ndA ts i with
          | false =>
            rw [hA] at g5 hnl
            rw [hnl] at hns
            have k5 : mkL ts.length (ndK ts (j + 1)) = mkL ts.length (ndK ts j) := mkL_ext fun x _ => by rw [hns x]; simp
            refine sS6 @e0 @e5 @et @hia @hat3 @g5 ?_
            exact hK2 _ _ ⟨j + 1, by omega, sT0, by refine sS0 ?_; exact eqI e9, by refine sS0 ?_; rw [k5]; exact hg⟩ (by simp (maxSteps := 2000000) (disch := first | omega | assumption | exact idP rfl | exact idP (bL rfl)) only [go_sem, reduceIte, Nat.reduceEqDiff, wpV_kd, wpV_tH, dnV_int, e5]; omega)
          | true =>
            rw [hA] at g5 hnl
            rw [hnl] at hns
            simp (maxSteps := 2000000) (disch := first | omega | assumption | exact idP rfl | exact idP (bL rfl)) only [go_sem, reduceIte, Nat.reduceEqDiff, wpV_kd, wpV_tH, e0, e5, et, hia, hat3, g5, hv.iaddr, hat, encT]
            refine cond_dec (fun z0 => ?_) (fun z0 => ?_)
            · obtain ⟨a1, a2, a3, a4⟩ := o4 (by omega)
              have ha5 : t.a.toNat + 1 ≤ ((mkL ts.length (ndK ts j)).map vb).length := by rw [mkL_lenv]; omega
              have hb5 : t.b.toNat + 1 ≤ (((mkL ts.length (ndK ts j)).map vb).set t.a.toNat (.sc (.bool true))).length := by rw [List.length_set, mkL_lenv]; omega
              have k5 : (((mkL ts.length (ndK ts j)).map vb).set t.a.toNat (.sc (.bool true))).set t.b.toNat (.sc (.bool true)) = (mkL ts.length (ndK ts (j + 1))).map vb := by
                rw [mkL_setv (q := fun x => ndK ts j x || decide (x = t.a.toNat)) fun x _ => rfl]
                have z2 : decide (2 ≤ t.op) = true := by simp; omega
                exact mkL_setv fun x _ => by rw [hns x, z2]; simp [Bool.or_assoc]
              simp (maxSteps := 2000000) (disch := first | omega | assumption | exact idP rfl | exact idP (bL rfl)) only [go_sem, reduceIte, Nat.reduceEqDiff, wpV_kd, wpV_tH, e0, e5, et, hia, hat3, hv.iaddr, hat, encT, k5]
              have hg2 := hg.setO (l' := (mkL ts.length (ndK ts (j + 1))).map vb) (by rw [mkL_lenv]; omega) (by rw [mkL_lenv, mkL_lenv])
              exact hK2 _ _ ⟨j + 1, by omega, sT0, by refine sS0 ?_; exact eqI e9, by refine sS0 ?_; exact hg2⟩ (by simp (maxSteps := 2000000) (disch := first | omega | assumption | exact idP rfl | exact idP (bL rfl)) only [go_sem, reduceIte, Nat.reduceEqDiff, wpV_kd, wpV_tH, dnV_int, e5]; omega)
            · have k5 : mkL ts.length (ndK ts (j + 1)) = mkL ts.length (ndK ts j) := mkL_ext fun x _ => by
                have z2 : decide (2 ≤ t.op) = false := by simp; omega
                rw [hns x, z2]; simp
              refine sS3 @e0 @e5 @et ?_
              exact hK2 _ _ ⟨j + 1, by omega, sT0, by refine sS0 ?_; exact eqI e9, by refine sS0 ?_; rw [k5]; exact hg⟩ (by simp (maxSteps := 2000000) (disch := first | omega | assumption | exact idP rfl | exact idP (bL rfl)) only [go_sem, reduceIte, Nat.reduceEqDiff, wpV_kd, wpV_tH, dnV_int, e5]; omega)
        · obtain rfl : j = ts.length := by omega
          refine sS0 ?_
          exact hR _ _ hg
theorem t_UsedBy {v : V} {ts : List TermS} {nv : Nat} {ks : List Int} (hv : LT v ts) (hk : kindsF nv ts = some ks) (h5 : nv ≤ 5) :
    VCall Try.prog n_spec_UsedBy [v, .sc (.int .i64 nv)] M (fun r M' => Gr 1 M M' r ((selL nv (usP ts)).map vi)) := by
  obtain ⟨hok, h1, h40⟩ := TOk.of hk
  refine VCall.plain fun R hR => v_spec_UsedBy rfl ?_
  refine sS0 ?_
  intro b5 hb5
  have hg0 : Gr 1 M (M.set b5 []) (.sc (.sl (some (b5, 0)) 0 0 true 1)) (([] : List Int).map vi) := Gr.new' (Sub.refl _) hb5 rfl
  generalize M.set b5 [] = M1 at *
  refine (t_TermsValid hv).mono ?_
  rintro _ _ ⟨rfl, rfl⟩
  have hks : (kindsF nv ts).isSome = true := by rw [hk]; rfl
  refine sS1 @hks ?_
  refine (VCall.fr1 (t_l1Needed hv hk)).mono ?_
  rintro nd _ ⟨rfl, hnd⟩
  have hnd := hnd.lb
  refine sS0 ?_
  refine loop_k (fun e M' => ∃ w : Nat, w ≤ nv ∧ e 0 = v ∧ e 1 = .sc (.int .i64 nv) ∧ e 6 = nd ∧ e 7 = .sc (.int .i64 w) ∧ Gr 1 M M' (e 5) ((selL w (usP ts)).map vi)) (fun e _ => ctrV nv (e 7)) ?_ ?_
  · exact ⟨0, by omega, sT0, sT0, sT0, by refine sS0 ?_; rfl, by refine sS0 ?_; exact hg0⟩
  · rintro e M2 ⟨w, hw, e0, e1, e6, e7, hg⟩ K hK
    have hsl : (selL w (usP ts)).length ≤ w := selL_len
    refine sS4 @e0 @e1 @e6 @e7 ?_
    refine cond_dec (fun h => ?_) (fun h => ?_)
    · refine sS4 @e0 @e1 @e6 @e7 ?_
      generalize e 5 = x5 at *
      have eq7 := e7
      refine loop_k (fun e M' => M2 = M' ∧ ∃ i : Nat, i ≤ ts.length ∧ e 0 = v ∧ e 1 = .sc (.int .i64 nv) ∧ e 5 = x5 ∧ e 6 = nd ∧ e 7 = .sc (.int .i64 w) ∧ e 8 = .sc (.bool (usF ts w i)) ∧ e 9 = .sc (.int .i64 i)) (fun e _ => ctrV ts.length (e 9)) ?_ ?_
      · exact ⟨rfl, 0, by omega, sT0, sT0, sT0, sT0, sT0, by refine sS0 ?_; rfl, by refine sS0 ?_; rfl⟩
      · rintro e _ ⟨rfl, i, hi, e0, e1, e5, e6, e7, e8, e9⟩ K2 hK2
        refine sS8 @e0 @e1 @e5 @e6 @e7 @e8 @e9 @hv.len ?_
        refine cond_dec (fun h => ?_) (fun h => ?_)
        · have hi' : i < ts.length := by omega
          have hi2 : i < (mkL ts.length (ndA ts)).length := by rw [mkL_len]; exact hi'
          have hat : atN 4 v i = encT ts[i] := hv.elt hi'
          rw [← tAt_eq hi'] at hat
          have hus := usF_succ (l := ts) (i := i) (v := w)
          unfold isV at hus
          generalize tAt ts i = t at *
          have hia := hnd.iaddr (k := .i64) (a := (i : Int)) (by omega) (by rw [mkL_len]; omega)
          have hnb := hnd.at hi2
          rw [mkL_get] at hnb
          cases hu : usF ts w i with
          | true =>
            rw [hu] at hus e8
            refine sS7 @e0 @e1 @e5 @e6 @e7 @e8 @e9 ?_
            exact hK2 _ _ ⟨rfl, i + 1, by omega, sT0, sT0, sT0, sT0, sT0, by refine sS0 ?_; rw [hus]; rfl, by refine sS0 ?_; rfl⟩ (by refine sS2 @ctrV_int @e9 ?_; omega)
          | false =>
            rw [hu] at hus e8
            cases hA : ndA ts i with
            | false =>
              rw [hA] at hus hnb
              refine sS9 @e0 @e1 @e5 @e6 @e7 @e8 @e9 @hia @hnb ?_
              exact hK2 _ _ ⟨rfl, i + 1, by omega, sT0, sT0, sT0, sT0, sT0, by refine sS0 ?_; rw [hus]; rfl, by refine sS0 ?_; rfl⟩ (by refine sS2 @ctrV_int @e9 ?_; omega)
            | true =>
              rw [hA] at hus hnb
              cases ho : decide (t.op = 1) with
              | false =>
                rw [ho] at hus
                simp (maxSteps := 2000000) (disch := first | omega | assumption | exact idP rfl | exact idP (bL rfl)) only [go_sem, reduceIte, Nat.reduceEqDiff, wpV_kd, wpV_tH, e0, e1, e5, e6, e7, e8, e9, hia, hnb, hv.iaddr, hat, encT, ho]
                exact hK2 _ _ ⟨rfl, i + 1, by omega, sT0, sT0, sT0, sT0, sT0, by refine sS0 ?_; rw [hus]; rfl, by refine sS0 ?_; rfl⟩ (by refine sS2 @ctrV_int @e9 ?_; omega)
              | true =>
                rw [ho] at hus
                simp (maxSteps := 2000000) (disch := first | omega | assumption | exact idP rfl | exact idP (bL rfl)) only [go_sem, reduceIte, Nat.reduceEqDiff, wpV_kd, wpV_tH, e0, e1, e5, e6, e7, e8, e9, hia, hnb, hv.iaddr, hat, encT, ho]
                exact hK2 _ _ ⟨rfl, i + 1, by omega, sT0, sT0, sT0, sT0, sT0, by refine sS0 ?_; rw [hus]; rfl, by refine sS0 ?_; rfl⟩ (by refine sS2 @ctrV_int @e9 ?_; omega)
        · obtain rfl : i = ts.length := by omega
          have hup : usF ts w ts.length = usP ts w := rfl
          rw [hup] at e8
          refine sS6 @e0 @e1 @e5 @e6 @e7 @e8 ?_
          refine cond_split (fun h2 => ?_) (fun h2 => ?_)
          · rw [hup] at h2
            refine sS5 @e0 @e1 @e5 @e6 @e7 ?_
            intro bt hbt
            refine app_int hg hbt (by omega) (by omega) ?_
            intro s' M' hg' _
            refine sS0 ?_
            exact hK _ _ ⟨w + 1, by omega, sT0, sT0, sT0, by refine sS0 ?_; rfl, by refine sS0 ?_; rw [selL_succ, if_pos h2]; exact hg'⟩ (by refine sS2 @ctrV_int @eq7 ?_; omega)
          · rw [hup] at h2
            refine sS5 @e0 @e1 @e5 @e6 @e7 ?_
            exact hK _ _ ⟨w + 1, by omega, sT0, sT0, sT0, by refine sS0 ?_; rfl, by refine sS0 ?_; rw [selL_succ, if_neg (by simpa using h2)]; exact hg⟩ (by refine sS2 @ctrV_int @eq7 ?_; omega)
    · obtain rfl : w = nv := by omega
      refine sS0 ?_
      exact hR _ _ hg
theorem f_UsedBy {v : V} {ts : List TermS} {nv : Nat} {ks : List Int} (hv : LT v ts) (hk : kindsF nv ts = some ks) (h5 : nv ≤ 5) :
    VCall Try.prog n_spec_UsedBy [v, .sc (.int .i64 nv)] M (fun r M' => M = M' ∧ LI r (selL nv (usP ts))) :=
  (VCall.fr1 (t_UsedBy hv hk h5)).mono fun r M' ⟨h1, h2⟩ => ⟨h1, h2.li⟩
end Go.M2

namespace Go.M2
open Go.Proofs
variable {M : MH}
theorem t_Contains {w : V} {xs : List Int} {n : Int} (hw : LI w xs) (hl : xs.length ≤ 1048576) : VCall Try.prog n_slices_Contains_Sint_int [w, .sc (.int .i64 n)] M (fun r M' => M = M' ∧ r = .sc (.bool (decide (n ∈ xs)))) := by
  have key : VCall Try.prog n_slices_Index_Sint_int [w, .sc (.int .i64 n)] M (fun r M' => M = M' ∧ ∃ k : Int, r = .sc (.int .i64 k) ∧ (0 ≤ k ↔ n ∈ xs)) := by
    refine VCall.pure fun R hR => v_slices_Index_Sint_int rfl ?_
    refine sS1 @hw.len ?_
    refine loop_k (fun e M' => M' = M ∧ ∃ i : Nat, i ≤ xs.length ∧ e 0 = w ∧ e 1 = .sc (.int .i64 n) ∧ e 7 = .sc (.int .i64 xs.length) ∧ e 8 = .sc (.int .i64 i) ∧ ∀ j (hj : j < xs.length), j < i → xs[j] ≠ n) (fun e _ => ctrV xs.length (e 8)) ?_ ?_
    · exact ⟨rfl, 0, by omega, sT0, sT0, sT0, by refine sS0 ?_; rfl, fun j _ h => by omega⟩
    · rintro e M1 ⟨hM, i, hi, e0, e1, e7, e8, hj⟩ K hK
      subst hM
      refine sS2 @e7 @e8 ?_
      refine cond_dec (fun h => ?_) (fun h => ?_)
      · have hi' : i < xs.length := by omega
        simp (maxSteps := 2000000) (disch := first | omega | assumption | exact idP rfl | exact idP (bL rfl)) only [go_sem, reduceIte, Nat.reduceEqDiff, wpV_kd, wpV_tH, e0, e1, e8, hw.iaddr, hw.at hi']
        refine cond_dec (fun h2 => ?_) (fun h2 => ?_)
        · refine sS0 ?_
          exact hR _ _ (sB) ⟨_, rfl, by simp only [Int.natCast_nonneg, true_iff]; first | exact h2 ▸ List.getElem_mem hi' | (rw [h2]; exact List.getElem_mem hi')⟩
        · refine sS1 @e8 ?_
          refine hK _ _ ⟨rfl, i + 1, by omega, sT0, sT0, sT0, by refine sS0 ?_; rfl, fun j hj1 hj2 => ?_⟩ (by refine sS2 @ctrV_int @e8 ?_; omega)
          by_cases hji : j = i
          · subst hji; first | exact h2 | exact fun e => h2 e.symm
          · exact hj j hj1 (by omega)
      · refine sS0 ?_
        refine hR _ _ (sB) ⟨-1, rfl, ⟨fun h => by omega, fun h => ?_⟩⟩
        obtain ⟨j, hj1, e⟩ := List.getElem_of_mem h
        exact absurd e (hj j hj1 (by omega))
  refine VCall.pure fun R hR => v_slices_Contains_Sint_int rfl ?_
  refine sS0 ?_
  refine key.mono ?_
  rintro _ _ ⟨rfl, k, rfl, hk⟩
  refine sS0 ?_
  exact hR _ _ (sB) (congrArg (fun b => V.sc (.bool b)) (decide_eq_decide.2 (by first | exact hk | (rw [← hk]; omega))))
end Go.M2

namespace Go.M2
open Go.Proofs
variable {M : MH}
theorem Dn.tupM {M0 M1 M2 : MH} {x y : V} {p q : V → Prop} (h : Dn M0 M1 x p) (k : Dn M1 M2 y q) : Dn M0 M2 (.tup [x, y]) (fun u => ∃ x' y', u = .tup [x', y'] ∧ p x' ∧ q y') := by
  obtain ⟨x', f, t1, m1, f1, g1, h1⟩ := h
  obtain ⟨y', g, t2, m2, f2, g2, h2⟩ := k
  refine ⟨.tup [x', y'], f ++ g, ?_, m1.add m2, by simp [flat, flatL, f1, f2], fun r hr => ?_, x', y', rfl, h1, h2⟩
  · have := Tr.tup (t1.append t2) Tr.nil
    simpa using this
  · rcases List.mem_append.1 hr with h3 | h3
    · exact g1 r h3
    · exact g2 r h3
def rOk (s : SysS) (k : Int) : Bool := decide (0 ≤ k ∧ k ≤ (s.rules.length : Int) - 1)
def ruleAt (s : SysS) (k : Int) : RuleS := s.rules.getD k.toNat ⟨[], [], []⟩
theorem ruleAt_eq {s : SysS} {n : Nat} (h : n < s.rules.length) : ruleAt s (n : Int) = s.rules[n] := by simp [ruleAt, h]
noncomputable def touF (s : SysS) (k : Int) : List Int × List Int := if sysB s = true ∧ rOk s k = true then ((ruleAt s k).sets, toF s.vars.length (ruleAt s k)) else ([], [])
def isTou (q : List Int × List Int) (u : V) : Prop := ∃ x y, u = .tup [x, y] ∧ LI x q.1 ∧ LI y q.2
theorem touF_no {s : SysS} {k : Int} (h : ¬ (sysB s = true ∧ rOk s k = true)) : touF s k = ([], []) := by unfold touF; rw [if_neg h]
theorem touF_yes {s : SysS} {n : Nat} (h1 : sysB s = true) (h : n < s.rules.length) : touF s (n : Int) = (s.rules[n].sets, toF s.vars.length s.rules[n]) := by
  unfold touF; rw [if_pos ⟨h1, by simp [rOk]; omega⟩, ruleAt_eq h]
theorem nilTou {M' : MH} (h : Sub M M') : Dn M M' (.tup [.sc (.sl none 0 0 true 0), .sc (.sl none 0 0 true 0)]) (isTou ([], [])) := (Dn.nilS h).tupM Dn.nil1
theorem mem_sel {n w : Nat} {p : Nat → Bool} (h : w < n) : decide ((w : Int) ∈ selL n p) = p w := by
  rw [Bool.eq_iff_iff, decide_eq_true_eq, mem_selL]
  constructor
  · rintro ⟨i, _, h2, h3⟩
    have : i = w := by omega
    subst this; exact h2
  · intro h2; exact ⟨w, h, h2, rfl⟩
theorem o_TouchedBy {v : V} {s : SysS} {k : Int} (hv : isSys s v) :
    VCall Try.prog n_spec_TouchedBy [v, .sc (.int .i64 k)] M (fun r M' => Dn M M' r (isTou (touF s k))) := by
  refine VCall.plain fun R hR => v_spec_TouchedBy rfl ?_
  have hv0 := hv
  obtain ⟨a, b, rfl, ha, hb⟩ := hv
  have nope : ∀ M', Sub M M' → ¬ (sysB s = true ∧ rOk s k = true) → R (.tup [.sc (.sl none 0 0 true 0), .sc (.sl none 0 0 true 0)]) M' := fun M' h1 h2 => hR _ _ (by rw [touF_no h2]; exact nilTou h1)
  refine sS0 ?_
  intro b2 hb2
  have q2 : (M.set b2 [a, b]) b2 = some [a, b] := set_same
  have s1 : Sub M (M.set b2 [a, b]) := (Sub.refl M).set' hb2
  generalize M.set b2 [a, b] = M1 at *
  refine (t_SystemValidS hv0).mono ?_
  rintro _ _ ⟨rfl, rfl⟩
  cases h1 : sysB s with
  | false =>
    refine sS0 ?_
    exact nope _ s1 (by simp [h1])
  | true =>
    have hs := (sysB_iff s).1 h1
    have h8 := hs.r8
    refine sS2 @q2 @hb.len ?_
    refine t_l1In.mono ?_
    rintro _ _ ⟨rfl, rfl⟩
    cases h2 : rOk s k with
    | false =>
      have h2' := h2
      unfold rOk at h2'
      refine sS1 @h2' ?_
      exact nope _ s1 (by simp [h2])
    | true =>
      have h2' := h2
      unfold rOk at h2'
      refine sS1 @h2' ?_
      obtain ⟨h3, h4⟩ := of_decide_eq_true h2'
      obtain ⟨n, rfl⟩ : ∃ n : Nat, k = n := ⟨k.toNat, by omega⟩
      have hn : n < s.rules.length := by omega
      obtain ⟨x, y, z, hat, hx, hy, hzz⟩ := hb.elt hn
      obtain ⟨hw2, hst, hsets⟩ := hs.rules _ (List.getElem_mem hn)
      obtain ⟨kw, hkw⟩ := kind_some hw2
      have h5 := hs.v5
      have hle := sets_le hsets (by omega)
      have hty := touF_yes h1 hn
      have hx1 := hx.one.1
      have hy1 := hy.one.1
      have hz1 := hzz.one.1
      generalize hr : s.rules[n] = r at *
      refine sS3 @q2 @hb.iaddr @hat ?_
      intro b6 hb6
      have q6 : (M1.set b6 [x, y, z]) b6 = some [x, y, z] := set_same
      have q26 : (M1.set b6 [x, y, z]) b2 = some [a, b] := by rw [set_ne (fun e => by subst e; rw [hb6] at q2; cases q2)]; exact q2
      have s2 : Sub M (M1.set b6 [x, y, z]) := s1.trans ((Sub.refl _).set' hb6)
      generalize M1.set b6 [x, y, z] = M2 at *
      intro b7 hb7
      have hg0 : Gr 1 M2 (M2.set b7 []) (.sc (.sl (some (b7, 0)) 0 0 true 1)) (([] : List Int).map vi) := Gr.new' (Sub.refl _) hb7 rfl
      generalize M2.set b7 [] = M2' at *
      refine loop_k (fun e M' => ∃ i : Nat, i ≤ r.sets.length ∧ e 2 = .sc (.ptr (some (b2, 0))) ∧ e 6 = .sc (.ptr (some (b6, 0))) ∧ e 8 = .sc (.int .i64 i) ∧ Gr 1 M2 M' (e 7) ((r.sets.take i).map vi)) (fun e _ => ctrV r.sets.length (e 8)) ?_ ?_
      · exact ⟨0, by omega, sT0, sT0, by refine sS0 ?_; rfl, by refine sS0 ?_; exact hg0⟩
      · rintro e M3 ⟨i, hi, e2, e6, e8, hg⟩ K hK
        have p6 := hg.sub _ _ q6
        refine sS5 @e2 @e6 @e8 @p6 @hy.len ?_
        refine cond_dec (fun h => ?_) (fun h => ?_)
        · have hi' : i < r.sets.length := by omega
          simp (maxSteps := 2000000) (disch := first | omega | assumption | exact idP rfl | exact idP (bL rfl)) only [go_sem, reduceIte, Nat.reduceEqDiff, wpV_kd, wpV_tH, e2, e6, e8, p6, hy.iaddr, hy.at hi']
          intro bt hbt
          refine app_int hg hbt (by simp; omega) (by omega) ?_
          intro s' M' hg' _
          refine sS3 @e2 @e6 @e8 ?_
          exact hK _ _ ⟨i + 1, by omega, sT0, sT0, by refine sS0 ?_; rfl, by refine sS0 ?_; rw [take_snoc hi']; exact hg'⟩ (by refine sS2 @ctrV_int @e8 ?_; omega)
        · obtain rfl : i = r.sets.length := by omega
          rw [List.take_length] at hg
          refine sS2 @e2 @e6 ?_
          generalize e 7 = x7 at *
          have p2 := hg.sub _ _ q26
          intro b9 hb9
          have hg9 : Gr 1 M3 (M3.set b9 []) (.sc (.sl (some (b9, 0)) 0 0 true 1)) (([] : List Int).map vi) := Gr.new' (Sub.refl _) hb9 rfl
          generalize M3.set b9 [] = M3' at *
          refine loop_k (fun e M' => ∃ w : Nat, w ≤ s.vars.length ∧ e 2 = .sc (.ptr (some (b2, 0))) ∧ e 6 = .sc (.ptr (some (b6, 0))) ∧ e 7 = x7 ∧ e 10 = .sc (.int .i64 w) ∧ Gr 1 M3 M' (e 9) ((selL w (toP r)).map vi)) (fun e _ => ctrV s.vars.length (e 10)) ?_ ?_
          · exact ⟨0, by omega, sT0, sT0, sT0, by refine sS0 ?_; rfl, by refine sS0 ?_; exact hg9⟩
          · rintro e M4 ⟨w, hw, e2, e6, e7, e10, hg4⟩ K2 hK2
            have hsl : (selL w (toP r)).length ≤ w := selL_len
            have p64 := hg4.sub _ _ p6
            have p24 := hg4.sub _ _ p2
            refine sS6 @e2 @e6 @e7 @e10 @p24 @ha.len ?_
            refine cond_dec (fun h => ?_) (fun h => ?_)
            · have hw' : w < s.vars.length := by omega
              refine sS7 @e2 @e6 @e7 @e10 @p24 @p64 @ha.len ?_
              refine (f_UsedBy hx hkw h5).mono ?_
              rintro u _ ⟨rfl, hu⟩
              have hul : (selL s.vars.length (usP r.when_)).length ≤ s.vars.length := selL_len
              refine sS1 @e10 ?_
              refine (t_l2Has hu (by omega)).mono ?_
              rintro _ _ ⟨rfl, rfl⟩
              rw [mem_sel hw']
              refine sS4 @e2 @e6 @e7 @e10 ?_
              generalize e 9 = x9 at *
              have eq10 := e10
              refine loop_k (fun e M' => M4 = M' ∧ ∃ i : Nat, i ≤ r.terms.length ∧ e 2 = .sc (.ptr (some (b2, 0))) ∧ e 6 = .sc (.ptr (some (b6, 0))) ∧ e 7 = x7 ∧ e 9 = x9 ∧ e 10 = .sc (.int .i64 w) ∧ e 11 = .sc (.bool (usP r.when_ w || (r.terms.take i).any fun t => usP t w)) ∧ e 12 = .sc (.int .i64 i)) (fun e _ => ctrV r.terms.length (e 12)) ?_ ?_
              · exact ⟨rfl, 0, by omega, sT0, sT0, sT0, sT0, sT0, by simp (maxSteps := 2000000) (disch := first | omega | assumption | exact idP rfl | exact idP (bL rfl)) only [go_sem, reduceIte, Nat.reduceEqDiff, wpV_kd, wpV_tH, List.take_zero, List.any_nil, Bool.or_false], by refine sS0 ?_; rfl⟩
              · rintro e _ ⟨rfl, i, hi, e2, e6, e7, e9, e10, e11, e12⟩ K3 hK3
                refine sS9 @e2 @e6 @e7 @e9 @e10 @e11 @e12 @p64 @hzz.len ?_
                refine cond_dec (fun h => ?_) (fun h => ?_)
                · have hi' : i < r.terms.length := by omega
                  have hnx : (r.terms.take (i + 1)).any (fun t => usP t w) = ((r.terms.take i).any (fun t => usP t w) || usP r.terms[i] w) := by rw [take_snoc hi', List.any_append]; simp
                  obtain ⟨ki, hki⟩ := kind_some (hsets.kind (by omega) hi')
                  cases hc : usP r.when_ w || (r.terms.take i).any fun t => usP t w with
                  | true =>
                    rw [hc] at e11
                    refine sS7 @e2 @e6 @e7 @e9 @e10 @e11 @e12 ?_
                    exact hK3 _ _ ⟨rfl, i + 1, by omega, sT0, sT0, sT0, sT0, sT0, by refine sS0 ?_; rw [hnx, ← Bool.or_assoc, hc]; rfl, by refine sS0 ?_; rfl⟩ (by refine sS2 @ctrV_int @e12 ?_; omega)
                  | false =>
                    rw [hc] at e11
                    simp (maxSteps := 2000000) (disch := first | omega | assumption | exact idP rfl | exact idP (bL rfl)) only [go_sem, reduceIte, Nat.reduceEqDiff, wpV_kd, wpV_tH, e2, e6, e7, e9, e10, e11, e12, p64, p24, hzz.iaddr, ha.len]
                    refine (f_UsedBy (hzz.elt hi') hki h5).mono ?_
                    rintro u _ ⟨rfl, hu⟩
                    have hul : (selL s.vars.length (usP r.terms[i])).length ≤ s.vars.length := selL_len
                    refine sS1 @e10 ?_
                    refine (t_l2Has hu (by omega)).mono ?_
                    rintro _ _ ⟨rfl, rfl⟩
                    rw [mem_sel hw']
                    refine sS6 @e2 @e6 @e7 @e9 @e10 @e12 ?_
                    exact hK3 _ _ ⟨rfl, i + 1, by omega, sT0, sT0, sT0, sT0, sT0, by refine sS0 ?_; rw [hnx, ← Bool.or_assoc, hc]; rfl, by refine sS0 ?_; rfl⟩ (by refine sS2 @ctrV_int @e12 ?_; omega)
                · obtain rfl : i = r.terms.length := by omega
                  rw [List.take_length] at e11
                  have hto : (usP r.when_ w || r.terms.any fun t => usP t w) = toP r w := rfl
                  rw [hto] at e11
                  refine sS6 @e2 @e6 @e7 @e9 @e10 @e11 ?_
                  refine cond_split (fun h2 => ?_) (fun h2 => ?_)
                  · rw [List.take_length] at h2
                    change toP r w = _ at h2
                    refine sS5 @e2 @e6 @e7 @e9 @e10 ?_
                    intro bt hbt
                    refine app_int hg4 hbt (by omega) (by omega) ?_
                    intro s' M' hg' _
                    refine sS4 @e2 @e6 @e7 @e10 ?_
                    exact hK2 _ _ ⟨w + 1, by omega, sT0, sT0, sT0, by refine sS0 ?_; rfl, by refine sS0 ?_; rw [selL_succ, if_pos h2]; exact hg'⟩ (by refine sS2 @ctrV_int @eq10 ?_; omega)
                  · rw [List.take_length] at h2
                    change toP r w = _ at h2
                    refine sS5 @e2 @e6 @e7 @e9 @e10 ?_
                    exact hK2 _ _ ⟨w + 1, by omega, sT0, sT0, sT0, by refine sS0 ?_; rfl, by refine sS0 ?_; rw [selL_succ, if_neg (by simpa using h2)]; exact hg4⟩ (by refine sS2 @ctrV_int @eq10 ?_; omega)
            · obtain rfl : w = s.vars.length := by omega
              refine sS1 @e7 ?_
              refine hR _ _ ?_
              rw [hty]
              exact (hg.dnI.base s2).tupM hg4.dnI
theorem f_TouchedBy {v : V} {s : SysS} {k : Int} (hv : isSys s v) :
    VCall Try.prog n_spec_TouchedBy [v, .sc (.int .i64 k)] M (fun r M' => M = M' ∧ isTou (touF s k) r) := VCall.frT (o_TouchedBy hv)
end Go.M2

namespace Go.M2
open Go.Proofs
variable {M : MH}
def meetB (xs ys : List Int) : Bool := xs.any fun x => decide (x ∈ ys)
theorem t_meets {v w : V} {xs ys : List Int} (hv : LI v xs) (hw : LI w ys) (hl : xs.length ≤ 1048576) (hl2 : ys.length ≤ 1048576) :
    VCall Try.prog n_impl_meets [v, w] M (fun r M' => M = M' ∧ r = .sc (.bool (meetB xs ys))) := by
  refine VCall.pure fun R hR => v_impl_meets rfl ?_
  have ho1 := hw.one.1
  have ho2 := hw.one.2
  refine sS1 @ho2 ?_
  intro bk hbk
  have q : (M.set bk [w]) bk = some [w] := set_same
  have s1 : Sub M (M.set bk [w]) := (Sub.refl M).set' hbk
  generalize M.set bk [w] = M1 at *
  refine (t_ContainsInt (pred := fun x => decide (x ∈ ys)) hv hl fun x hx => ?_).mono ?_
  · refine VCall.pure fun R2 hR2 => v_impl_meets_1 rfl ?_
    refine sS1 @q ?_
    refine (t_Contains hw hl2).mono ?_
    rintro _ _ ⟨rfl, rfl⟩
    refine sS0 ?_
    exact hR2 _ _ (Sub.refl _) rfl
  · rintro _ _ ⟨rfl, rfl⟩
    refine sS0 ?_
    exact hR _ _ s1 rfl
theorem t_l26Meet {v w : V} {xs ys : List Int} (hv : LI v xs) (hw : LI w ys) (hl : xs.length ≤ 1048576) (hl2 : ys.length ≤ 1048576) :
    VCall Try.prog n_spec_l26Meet [v, w] M (fun r M' => M = M' ∧ r = .sc (.bool (meetB xs ys))) := by
  refine VCall.pure fun R hR => v_spec_l26Meet rfl ?_
  refine sS0 ?_
  refine loop_k (fun e M' => M = M' ∧ ∃ i : Nat, i ≤ xs.length ∧ e 0 = v ∧ e 1 = w ∧ e 5 = .sc (.int .i64 i) ∧ meetB (xs.take i) ys = false) (fun e _ => ctrV xs.length (e 5)) ?_ ?_
  · exact ⟨rfl, 0, by omega, sT0, sT0, by refine sS0 ?_; rfl, rfl⟩
  · rintro e _ ⟨rfl, i, hi, e0, e1, e5, hm⟩ K hK
    refine sS4 @e0 @e1 @e5 @hv.len ?_
    refine cond_dec (fun h => ?_) (fun h => ?_)
    · have hi' : i < xs.length := by omega
      simp (maxSteps := 2000000) (disch := first | omega | assumption | exact idP rfl | exact idP (bL rfl)) only [go_sem, reduceIte, Nat.reduceEqDiff, wpV_kd, wpV_tH, e0, e1, e5, hv.iaddr, hv.at hi']
      refine (t_l2Has hw hl2).mono ?_
      rintro _ _ ⟨rfl, rfl⟩
      cases hd : decide (xs[i] ∈ ys) with
      | true =>
        refine sS0 ?_
        refine hR _ _ (Sub.refl _) ?_
        have : meetB xs ys = true := by
          unfold meetB; rw [List.any_eq_true]; exact ⟨_, List.getElem_mem hi', hd⟩
        rw [this]
      | false =>
        refine sS3 @e0 @e1 @e5 ?_
        refine hK _ _ ⟨rfl, i + 1, by omega, sT0, sT0, by refine sS0 ?_; rfl, ?_⟩ (by refine sS2 @ctrV_int @e5 ?_; omega)
        unfold meetB at hm ⊢
        rw [take_snoc hi', List.any_append, hm]
        simpa using hd
    · obtain rfl : i = xs.length := by omega
      rw [List.take_length] at hm
      refine sS0 ?_
      exact hR _ _ (Sub.refl _) (by rw [hm])
theorem f_touchedBy {v : V} {s : SysS} {k : Nat} (hv : isSys s v) (hs : SysOk s) (hk : k < s.rules.length) :
    VCall Try.prog n_impl_touchedBy [v, .sc (.int .i64 k)] M (fun r M' => M = M' ∧ LI r (toF s.vars.length s.rules[k])) :=
  (VCall.fr1 (t_touchedBy hv hs hk)).mono fun r M' ⟨h1, h2⟩ => ⟨h1, h2.li⟩
def wakB (n : Nat) (s : SysS) (r : RuleS) (k : Int) (i : Nat) : Bool := decide (¬ (i : Int) = k) && meetB (ruleAt s i).sets (toF n r)
noncomputable def wakF (s : SysS) (k : Int) : List Int := if sysB s = true ∧ rOk s k = true then selL s.rules.length (wakB s.vars.length s (ruleAt s k) k) else []
theorem wakF_no {s : SysS} {k : Int} (h : ¬ (sysB s = true ∧ rOk s k = true)) : wakF s k = [] := by unfold wakF; rw [if_neg h]
theorem o_wakersOf {v : V} {s : SysS} {k : Nat} (hv : isSys s v) (hs : SysOk s) (hk : k < s.rules.length) :
    VCall Try.prog n_impl_wakersOf [v, .sc (.int .i64 k)] M (fun r M' => Gr 1 M M' r ((selL s.rules.length (wakB s.vars.length s s.rules[k] k)).map vi)) := by
  refine VCall.plain fun R hR => v_impl_wakersOf rfl ?_
  have hv0 := hv
  obtain ⟨a, b, rfl, ha, hb⟩ := hv
  have h5 := hs.v5
  have h8 := hs.r8
  have t1 : (toF s.vars.length s.rules[k]).length ≤ s.vars.length := selL_len
  refine sS0 ?_
  intro b2 hb2
  have q2 : (M.set b2 [a, b]) b2 = some [a, b] := set_same
  have s1 : Sub M (M.set b2 [a, b]) := (Sub.refl M).set' hb2
  generalize M.set b2 [a, b] = M1 at *
  refine (f_touchedBy hv0 hs hk).mono ?_
  rintro u _ ⟨rfl, hu⟩
  refine sS2 @q2 @hb.len ?_
  refine loop_k (fun e M' => ∃ i : Nat, i ≤ s.rules.length ∧ e 1 = .sc (.int .i64 k) ∧ e 5 = u ∧ e 13 = b ∧ e 14 = .sc (.int .i64 s.rules.length) ∧ e 15 = .sc (.int .i64 i) ∧ Gr 1 M M' (e 6) ((selL i (wakB s.vars.length s s.rules[k] k)).map vi)) (fun e _ => ctrV s.rules.length (e 15)) ?_ ?_
  · exact ⟨0, by omega, sT0, sT0, sT0, sT0, by refine sS0 ?_; rfl, by refine sS0 ?_; exact .nil s1⟩
  · rintro e M2 ⟨i, hi, e1, e5, e13, e14, e15, hg⟩ K hK
    have hsl : (selL i (wakB s.vars.length s s.rules[k] k)).length ≤ i := selL_len
    refine sS5 @e1 @e5 @e13 @e14 @e15 ?_
    refine cond_dec (fun h => ?_) (fun h => ?_)
    · have hi' : i < s.rules.length := by omega
      obtain ⟨x, y, z, hat, hx, hy, hz⟩ := hb.elt hi'
      have hl1 := sets_le (hs.rules _ (List.getElem_mem hi')).2.2 (by omega)
      have hx1 := hx.one.1
      have hy1 := hy.one.1
      have hz1 := hz.one.1
      have hwk : wakB s.vars.length s s.rules[k] k i = (decide (¬ (i : Int) = (k : Int)) && meetB s.rules[i].sets (toF s.vars.length s.rules[k])) := by unfold wakB; rw [ruleAt_eq hi']
      refine sS7 @e1 @e5 @e13 @e14 @e15 @hb.iaddr @hat ?_
      intro b8 hb8
      have q8 : (M2.set b8 [x, y, z]) b8 = some [x, y, z] := set_same
      have hg8 := hg.more ((Sub.refl _).set' (l := [x, y, z]) hb8)
      generalize M2.set b8 [x, y, z] = M3 at *
      cases hd : decide (¬ (i : Int) = (k : Int)) with
      | false =>
        rw [hd] at hwk
        refine sS6 @hd @e1 @e5 @e13 @e14 @e15 ?_
        exact hK _ _ ⟨i + 1, by omega, sT0, sT0, sT0, sT0, by refine sS0 ?_; rfl, by refine sS0 ?_; rw [selL_succ, if_neg (by rw [hwk]; simp)]; exact hg8⟩ (by refine sS2 @ctrV_int @e15 ?_; omega)
      | true =>
        rw [hd] at hwk
        refine sS3 @hd @q8 @e5 ?_
        refine (t_meets hy hu (by omega) (by omega)).mono ?_
        rintro _ _ ⟨rfl, rfl⟩
        cases hm : meetB s.rules[i].sets (toF s.vars.length s.rules[k]) with
        | false =>
          rw [hm] at hwk
          refine sS5 @e1 @e5 @e13 @e14 @e15 ?_
          exact hK _ _ ⟨i + 1, by omega, sT0, sT0, sT0, sT0, by refine sS0 ?_; rfl, by refine sS0 ?_; rw [selL_succ, if_neg (by rw [hwk]; simp)]; exact hg8⟩ (by refine sS2 @ctrV_int @e15 ?_; omega)
        | true =>
          rw [hm] at hwk
          refine sS5 @e1 @e5 @e13 @e14 @e15 ?_
          intro bt hbt
          refine app_int hg8 hbt (by omega) (by omega) ?_
          intro s' M' hg' _
          refine sS5 @e1 @e5 @e13 @e14 @e15 ?_
          exact hK _ _ ⟨i + 1, by omega, sT0, sT0, sT0, sT0, by refine sS0 ?_; rfl, by refine sS0 ?_; rw [selL_succ, if_pos (by rw [hwk]; rfl)]; exact hg'⟩ (by refine sS2 @ctrV_int @e15 ?_; omega)
    · obtain rfl : i = s.rules.length := by omega
      refine sS0 ?_
      refine (VCall.give0 hg fun u M4 hu hs2 => (t_cloneInt hu.li (by omega)).mono fun r M' hr => hr.base hs2).mono ?_
      rintro r M4 hg2
      refine sS0 ?_
      exact hR _ _ hg2
theorem o_impWakersOf {v : V} {s : SysS} {k : Int} (hv : isSys s v) (hz : SysSz s) :
    VCall Try.prog n_impl_WakersOf [v, .sc (.int .i64 k)] M (fun r M' => Dn M M' r (fun u => LI u (wakF s k))) := by
  refine VCall.plain fun R hR => v_impl_WakersOf rfl ?_
  have hv0 := hv
  obtain ⟨a, b, rfl, ha, hb⟩ := hv
  have nope : ∀ M', Sub M M' → ¬ (sysB s = true ∧ rOk s k = true) → R (.sc (.sl none 0 0 true 0)) M' := fun M' h1 h2 => hR _ _ (by rw [wakF_no h2]; exact Dn.nilS h1)
  refine sS0 ?_
  intro b2 hb2
  have q2 : (M.set b2 [a, b]) b2 = some [a, b] := set_same
  have s1 : Sub M (M.set b2 [a, b]) := (Sub.refl M).set' hb2
  generalize M.set b2 [a, b] = M1 at *
  refine (t_impSystemValid hv0 hz).mono ?_
  rintro _ _ ⟨rfl, rfl⟩
  cases h1 : sysB s with
  | false =>
    refine sS0 ?_
    exact nope _ s1 (by simp [h1])
  | true =>
    have hs := (sysB_iff s).1 h1
    have h8 := hs.r8
    refine sS2 @q2 @hb.len ?_
    refine t_in.mono ?_
    rintro _ _ ⟨rfl, rfl⟩
    cases h2 : rOk s k with
    | false =>
      have h2' := h2
      unfold rOk at h2'
      refine sS1 @h2' ?_
      exact nope _ s1 (by simp [h2])
    | true =>
      have h2' := h2
      unfold rOk at h2'
      refine sS2 @h2' @q2 ?_
      obtain ⟨h3, h4⟩ := of_decide_eq_true h2'
      obtain ⟨n, rfl⟩ : ∃ n : Nat, k = n := ⟨k.toNat, by omega⟩
      have hn : n < s.rules.length := by omega
      refine (o_wakersOf hv0 hs hn).mono ?_
      intro r2 M3 hg2
      refine sS0 ?_
      refine hR _ _ ?_
      unfold wakF
      rw [if_pos ⟨h1, h2⟩, ruleAt_eq hn]
      exact (hg2.base s1).dnI
theorem t_l26Wakers {v : V} {s : SysS} {k : Nat} (hv : isSys s v) (h1 : sysB s = true) (hk : k < s.rules.length) :
    VCall Try.prog n_spec_l26Wakers [v, .sc (.int .i64 k)] M (fun r M' => Gr 1 M M' r ((selL s.rules.length (wakB s.vars.length s s.rules[k] k)).map vi)) := by
  refine VCall.plain fun R hR => v_spec_l26Wakers rfl ?_
  have hs := (sysB_iff s).1 h1
  have hv0 := hv
  obtain ⟨a, b, rfl, ha, hb⟩ := hv
  have h5 := hs.v5
  have h8 := hs.r8
  have t1 : (toF s.vars.length s.rules[k]).length ≤ s.vars.length := selL_len
  have e1 := touF_yes h1 hk
  refine sS0 ?_
  intro b2 hb2
  have q2 : (M.set b2 [a, b]) b2 = some [a, b] := set_same
  have s1 : Sub M (M.set b2 [a, b]) := (Sub.refl M).set' hb2
  generalize M.set b2 [a, b] = M1 at *
  refine (f_TouchedBy hv0).mono ?_
  rintro _ _ ⟨rfl, x, u, rfl, hx, hu⟩
  rw [e1] at hx hu
  simp only at hx hu
  refine sS0 ?_
  intro b7 hb7
  have hg0 : Gr 1 M (M1.set b7 []) (.sc (.sl (some (b7, 0)) 0 0 true 1)) (([] : List Int).map vi) := Gr.new' s1 hb7 rfl
  have p20 : (M1.set b7 []) b2 = some [a, b] := by rw [set_ne (fun e => by subst e; rw [hb7] at q2; cases q2)]; exact q2
  have n27 : blkV (.sc (.sl (some (b7, 0)) 0 0 true 1)) ≠ some b2 := fun e => by simp [blkV] at e; subst e; rw [hb7] at q2; cases q2
  generalize M1.set b7 [] = M2 at *
  refine loop_k (fun e M' => ∃ i : Nat, i ≤ s.rules.length ∧ e 1 = .sc (.int .i64 k) ∧ e 2 = .sc (.ptr (some (b2, 0))) ∧ e 6 = u ∧ e 8 = .sc (.int .i64 i) ∧ Gr 1 M M' (e 7) ((selL i (wakB s.vars.length s s.rules[k] k)).map vi) ∧ M' b2 = some [a, b] ∧ blkV (e 7) ≠ some b2) (fun e _ => ctrV s.rules.length (e 8)) ?_ ?_
  · exact ⟨0, by omega, sT0, sT0, sT0, by refine sS0 ?_; rfl, by refine sS0 ?_; exact hg0, p20, by refine sS0 ?_; exact n27⟩
  · rintro e M2 ⟨i, hi, e1, e2, e6, e8, hg, p2, hne⟩ K hK
    have hsl : (selL i (wakB s.vars.length s s.rules[k] k)).length ≤ i := selL_len
    refine sS6 @e1 @e2 @e6 @e8 @p2 @hb.len ?_
    refine cond_dec (fun h => ?_) (fun h => ?_)
    · have hi' : i < s.rules.length := by omega
      obtain ⟨x, y, z, hat, hx, hy, hz⟩ := hb.elt hi'
      have hl1 := sets_le (hs.rules _ (List.getElem_mem hi')).2.2 (by omega)
      have hwk : wakB s.vars.length s s.rules[k] k i = (decide (¬ (i : Int) = (k : Int)) && meetB s.rules[i].sets (toF s.vars.length s.rules[k])) := by unfold wakB; rw [ruleAt_eq hi']
      refine sS4 @e1 @e2 @e6 @e8 ?_
      cases hd : decide (¬ (i : Int) = (k : Int)) with
      | false =>
        rw [hd] at hwk
        refine sS5 @hd @e1 @e2 @e6 @e8 ?_
        exact hK _ _ ⟨i + 1, by omega, sT0, sT0, sT0, by refine sS0 ?_; rfl, by refine sS0 ?_; rw [selL_succ, if_neg (by rw [hwk]; simp)]; exact hg, p2, by refine sS0 ?_; exact hne⟩ (by refine sS2 @ctrV_int @e8 ?_; omega)
      | true =>
        rw [hd] at hwk
        refine sS8 @hd @e1 @e2 @e6 @e8 @p2 @hb.iaddr @hat ?_
        refine (t_l26Meet hy hu (by omega) (by omega)).mono ?_
        rintro _ _ ⟨rfl, rfl⟩
        cases hm : meetB s.rules[i].sets (toF s.vars.length s.rules[k]) with
        | false =>
          rw [hm] at hwk
          refine sS4 @e1 @e2 @e6 @e8 ?_
          exact hK _ _ ⟨i + 1, by omega, sT0, sT0, sT0, by refine sS0 ?_; rfl, by refine sS0 ?_; rw [selL_succ, if_neg (by rw [hwk]; simp)]; exact hg, p2, by refine sS0 ?_; exact hne⟩ (by refine sS2 @ctrV_int @e8 ?_; omega)
        | true =>
          rw [hm] at hwk
          refine sS4 @e1 @e2 @e6 @e8 ?_
          intro bt hbt
          refine app_int hg hbt (by omega) (by omega) ?_
          intro s' M' hg' hoth
          obtain ⟨g1, g2⟩ := hoth b2 _ p2 hne
          refine sS4 @e1 @e2 @e6 @e8 ?_
          exact hK _ _ ⟨i + 1, by omega, sT0, sT0, sT0, by refine sS0 ?_; rfl, by refine sS0 ?_; rw [selL_succ, if_pos (by rw [hwk]; rfl)]; exact hg', g1, by refine sS0 ?_; exact g2⟩ (by refine sS2 @ctrV_int @e8 ?_; omega)
    · obtain rfl : i = s.rules.length := by omega
      refine sS0 ?_
      exact hR _ _ hg
theorem f_WakersOf {v : V} {s : SysS} {k : Int} (hv : isSys s v) :
    VCall Try.prog n_spec_WakersOf [v, .sc (.int .i64 k)] M (fun r M' => M = M' ∧ LI r (wakF s k)) := by
  refine VCall.frT (VCall.plain fun R hR => v_spec_WakersOf rfl ?_)
  have hv0 := hv
  obtain ⟨a, b, rfl, ha, hb⟩ := hv
  have nope : ∀ M', Sub M M' → ¬ (sysB s = true ∧ rOk s k = true) → R (.sc (.sl none 0 0 true 0)) M' := fun M' h1 h2 => hR _ _ (by rw [wakF_no h2]; exact Dn.nilS h1)
  refine sS0 ?_
  intro b2 hb2
  have q2 : (M.set b2 [a, b]) b2 = some [a, b] := set_same
  have s1 : Sub M (M.set b2 [a, b]) := (Sub.refl M).set' hb2
  generalize M.set b2 [a, b] = M1 at *
  refine (t_SystemValidS hv0).mono ?_
  rintro _ _ ⟨rfl, rfl⟩
  cases h1 : sysB s with
  | false =>
    refine sS0 ?_
    exact nope _ s1 (by simp [h1])
  | true =>
    have hs := (sysB_iff s).1 h1
    have h8 := hs.r8
    refine sS2 @q2 @hb.len ?_
    refine t_l1In.mono ?_
    rintro _ _ ⟨rfl, rfl⟩
    cases h2 : rOk s k with
    | false =>
      have h2' := h2
      unfold rOk at h2'
      refine sS1 @h2' ?_
      exact nope _ s1 (by simp [h2])
    | true =>
      have h2' := h2
      unfold rOk at h2'
      refine sS2 @h2' @q2 ?_
      obtain ⟨h3, h4⟩ := of_decide_eq_true h2'
      obtain ⟨n, rfl⟩ : ∃ n : Nat, k = n := ⟨k.toNat, by omega⟩
      have hn : n < s.rules.length := by omega
      refine (t_l26Wakers hv0 h1 hn).mono ?_
      intro r2 M3 hg2
      refine sS0 ?_
      refine hR _ _ ?_
      unfold wakF
      rw [if_pos ⟨h1, h2⟩, ruleAt_eq hn]
      exact (hg2.base s1).dnI
end Go.M2

namespace Go.M2
open Go.Proofs
variable {M : MH}
theorem wakF_len {s : SysS} {k : Int} : (wakF s k).length ≤ 8 := by
  unfold wakF
  split
  · rename_i h
    exact Nat.le_trans selL_len ((sysB_iff s).1 h.1).r8
  · simp
theorem law_WakersOf {v : V} {s : SysS} {k1 : Int} (hv : isSysX s v) (hl : SysLen s) :
    VCall Try.prog n_laws_FnExactWakersOf [v, .sc (.int .i64 k1)] M (fun r M' => M = M' ∧ r = .sc (.bool true)) := by
  refine VCall.pure fun R hR => v_laws_FnExactWakersOf rfl ?_
  have hv0 := hv
  obtain ⟨a, b, rfl, ha, hb⟩ := hv
  (repeat' (first | ((with_reducible first | refine cond_dec (fun h => ?_) (fun h => ?_) | refine guardK_dec (fun h => ?_) (fun h => ?_) | refine guardD3_dec (fun h => ?_) (fun h => ?_)) <;> first | (exfalso; omega) | (simp (maxSteps := 2000000) (disch := first | omega | assumption | exact idP rfl | exact idP (bL rfl)) only [go_sem, reduceIte, Nat.reduceEqDiff, wpV_kd, wpV_tH, h]) | skip) | ((with_reducible first | refine cond_split (fun h => ?_) (fun h => ?_) | refine guardK_split (fun h => ?_) (fun h => ?_) | refine guardD3_split (fun h => ?_) (fun h => ?_)) <;> ((try simp only [Bool.not_eq_true', Bool.not_eq_false'] at h); first | (simp (maxSteps := 2000000) (disch := first | omega | assumption | exact idP rfl | exact idP (bL rfl)) only [go_sem, reduceIte, Nat.reduceEqDiff, wpV_kd, wpV_tH, h]) | skip)) | (with_reducible intro bk hbk; try have hnk := (fresh_set hbk).1) | (simp (maxSteps := 2000000) (disch := first | omega | assumption | exact idP rfl | exact idP (bL rfl)) only [go_sem, reduceIte, Nat.reduceEqDiff, wpV_kd, wpV_tH])))
  · refine (x_szSystem hv0 hl (by omega) (by omega)).mono ?_
    rintro _ _ ⟨rfl, k, rfl, hk1, hk⟩
    (repeat' (first | ((with_reducible first | refine cond_dec (fun h => ?_) (fun h => ?_) | refine guardK_dec (fun h => ?_) (fun h => ?_) | refine guardD3_dec (fun h => ?_) (fun h => ?_)) <;> first | (exfalso; omega) | (simp (maxSteps := 2000000) (disch := first | omega | assumption | exact idP rfl | exact idP (bL rfl)) only [go_sem, reduceIte, Nat.reduceEqDiff, wpV_kd, wpV_tH, h]) | skip) | ((with_reducible first | refine cond_split (fun h => ?_) (fun h => ?_) | refine guardK_split (fun h => ?_) (fun h => ?_) | refine guardD3_split (fun h => ?_) (fun h => ?_)) <;> ((try simp only [Bool.not_eq_true', Bool.not_eq_false'] at h); first | (simp (maxSteps := 2000000) (disch := first | omega | assumption | exact idP rfl | exact idP (bL rfl)) only [go_sem, reduceIte, Nat.reduceEqDiff, wpV_kd, wpV_tH, h]) | skip)) | (with_reducible intro bk hbk; try have hnk := (fresh_set hbk).1) | (simp (maxSteps := 2000000) (disch := first | omega | assumption | exact idP rfl | exact idP (bL rfl)) only [go_sem, reduceIte, Nat.reduceEqDiff, wpV_kd, wpV_tH])))
    · exact hR _ _ (sB) rfl
    · have hf := hk (by omega)
      have hzl : (wakF s k1).length ≤ 1048576 := Nat.le_trans (wakF_len) (by omega)
      generalize hz : wakF s k1 = zs at *
      refine (f_toSystem hv0 hf).mono ?_
      rintro s1 _ ⟨rfl, hs1⟩
      refine sS0 ?_
      refine (f_WakersOf hs1).mono ?_
      rintro w0 _ ⟨rfl, hw0⟩
      rw [hz] at hw0
      refine sS0 ?_
      have hsub0 : Sub M (M.set bk [a, b]) := (Sub.refl M).set' hbk
      refine (o_toSystem hv0 hf).mono ?_
      rintro _ M1 ⟨x, y, x', y', fp, rfl, ⟨ox1, ox2⟩, ⟨oy1, oy2⟩, hos⟩
      refine sS4 @ox1 @ox2 @oy1 @oy2 ?_
      intro b7 hb7
      have hs7 : Sub M1 (M1.set b7 [x, y]) := (Sub.refl M1).set' hb7
      have hbk1 : M1 bk = some [a, b] := hos.mem.sub bk _ set_same
      have nbk : bk ≠ b7 := fun e => by subst e; rw [hb7] at hbk1; cases hbk1
      have hos3 := hos.more hs7
      have hm7 : (M1.set b7 [x, y]) b7 = some [x, y] := set_same
      have hmk : (M1.set b7 [x, y]) bk = some [a, b] := hs7 bk _ hbk1
      have htr : Tr [.agg [x, y], .sc (.int .i64 k1)] [.agg [x', y'], .sc (.int .i64 k1)] fp := by have := hos.arg.append (Tr.keep (.sc (.int .i64 k1)) Tr.nil); rwa [List.append_nil] at this
      refine (VCall.lendD htr hos3.mem.at_ hos3.mem.nd fun M' => o_impWakersOf hos.sys hf.sz).mono ?_
      rintro g0 M4 ⟨g0', fg, tg, mg, flg, ffg, hg0⟩
      rw [hz] at hg0
      have hos4 := hos3.more mg.sub
      have hmk4 : M4 bk = some [a, b] := mg.sub bk _ hmk
      have hm74 : M4 b7 = some [x, y] := mg.sub b7 _ hm7
      refine sS0 ?_
      refine (l_eqIntS tg hg0 mg.at_ mg.nd hw0 hzl).mono ?_
      rintro _ _ ⟨rfl, rfl⟩
      refine sS2 @hmk4 @hm74 ?_
      refine (f_toSystem hv0 hf).mono ?_
      rintro s3 _ ⟨rfl, hs3⟩
      refine sS1 @hm74 ?_
      refine (l_eqSystem hos4 hs3 hf).mono ?_
      rintro _ _ ⟨rfl, rfl⟩
      refine sS1 @hm74 ?_
      refine (t_markSystem hos4 hf (by omega) (by omega)).mono ?_
      rintro _ M5 ⟨k5, rfl, k51, k52, sub5, keep5⟩
      have ng : ∀ p ∈ fg, inF fp p.1 = false := fun p hp => by
        cases hc : inF fp p.1 with
        | false => rfl
        | true =>
          obtain ⟨l, hl⟩ := inF_iff.1 hc
          have e1 := hos3.mem.at_ _ hl
          have e2 := mg.new p hp
          simp only at e1
          rw [e1] at e2; cases e2
      have hg5 : ∀ p ∈ fg, M5 p.1 = some p.2 := fun p hp => keep5 _ _ (mg.at_ p hp) (ng p hp)
      have hmk5 : M5 bk = some [a, b] := sub5 bk _ set_same
      refine sS0 ?_
      have hg6 := hg5
      have old : ∀ q l, (M.set bk [a, b]) q = some l → inF fg q = false := fun q l hq => by
        cases hc : inF fg q with
        | false => rfl
        | true =>
          obtain ⟨l2, hl⟩ := inF_iff.1 hc
          have e2 := mg.new _ hl
          have e1 := hos3.mem.sub q _ hq
          simp only at e2
          rw [e1] at e2; cases e2
      have hk6 : ¬ k5 < 0 := by omega
      refine sS1 @hk6 ?_
      refine (l_eqIntS tg hg0 hg6 mg.nd hw0 hzl).mono ?_
      rintro _ _ ⟨rfl, rfl⟩
      refine sS0 ?_
      refine (t_markR tg flg hg0 hg6 hzl).mono ?_
      rintro _ M7 ⟨rfl, hd7, keep7⟩
      have sub7 : Sub (M.set bk [a, b]) M7 := fun q l hq => by
        rw [keep7 q (old q l hq)]; exact sub5 q l hq
      have hmk7 : M7 bk = some [a, b] := sub7 bk _ set_same
      refine sS0 ?_
      refine (t_heldIntS hd7 hzl (by omega) (by omega)).mono ?_
      rintro _ _ ⟨rfl, rfl⟩
      have hneg : ¬ (1 : Int) + (zs.length : Int) < 0 := by omega
      refine sS2 @hneg @hmk7 ?_
      refine (f_toSystem hv0 hf).mono ?_
      rintro s4 _ ⟨rfl, hs4⟩
      refine sS0 ?_
      refine (VCall.frT (o_impWakersOf hs4 hf.sz)).mono ?_
      rintro h0 _ ⟨rfl, hh0⟩
      rw [hz] at hh0
      refine sS0 ?_
      refine (x_eqIntS hh0 hw0 hzl).mono ?_
      rintro _ _ ⟨rfl, rfl⟩
      have ei : decide (zs = zs) = true := by simp
      refine sS1 @ei ?_
      refine (t_heldIntS hd7 hzl (by omega) (by omega)).mono ?_
      rintro _ _ ⟨rfl, rfl⟩
      refine sS1 @hneg ?_
      exact hR _ _ (hsub0.trans sub7) rfl
end Go.M2
