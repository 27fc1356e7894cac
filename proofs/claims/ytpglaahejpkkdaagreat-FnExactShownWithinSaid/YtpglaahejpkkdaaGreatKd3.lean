/- The plain law of systems: states, numbers, what comes behind. No program in sight. -/
import Derived.Test.YtpglaahejpkkdaaGreatKd2
namespace Go.M2
set_option linter.unusedVariables false
def firstF (s : SysS) : List Int := s.vars.map (·.first)
def StIn (vars : List VarS) (st : List Int) : Prop := st.length = vars.length ∧ ∀ i (h : i < vars.length) (h2 : i < st.length), vars[i].low ≤ st[i] ∧ st[i] ≤ vars[i].high
noncomputable def inB (vars : List VarS) (st : List Int) : Bool := @decide (StIn vars st) (Classical.propDecidable _)
theorem inB_iff (vars : List VarS) (st : List Int) : inB vars st = true ↔ StIn vars st := by unfold inB; exact @decide_eq_true_iff _ (Classical.propDecidable _)
theorem inB_false (vars : List VarS) (st : List Int) : inB vars st = false ↔ ¬ StIn vars st := by
  rw [← inB_iff]; cases inB vars st <;> simp
theorem StIn.ok {s : SysS} (hs : SysOk s) {st : List Int} (h : StIn s.vars st) : stOk st := by
  intro x hx
  obtain ⟨i, hi, rfl⟩ := List.getElem_of_mem hx
  have h1 := h.2 i (by rw [← h.1]; exact hi) hi
  have h2 := hs.vars _ (List.getElem_mem (by rw [← h.1]; exact hi : i < s.vars.length))
  unfold VarOk at h2
  omega
theorem first_in {s : SysS} (hs : SysOk s) : StIn s.vars (firstF s) := by
  refine ⟨by simp [firstF], fun i h h2 => ?_⟩
  have := hs.vars _ (List.getElem_mem h)
  unfold VarOk at this
  simp [firstF]
  omega
def setsF (st : List Int) (terms : List (List TermS)) (sets : List Int) : Nat → List Int
  | 0 => st
  | n + 1 => (setsF st terms sets n).set (sets.getD n 0).toNat (evalF (terms.getD n []) st)
theorem setsF_len (st : List Int) (terms : List (List TermS)) (sets : List Int) : ∀ n, (setsF st terms sets n).length = st.length
  | 0 => rfl
  | n + 1 => by simp [setsF, setsF_len st terms sets n]
noncomputable def useR (vars : List VarS) (r : RuleS) (st : List Int) : Option (List Int) :=
  if evalF r.when_ st = 0 then none else if inB vars (setsF st r.terms r.sets r.sets.length) then some (setsF st r.terms r.sets r.sets.length) else none
theorem useR_in {vars : List VarS} {r : RuleS} {st out : List Int} (h : useR vars r st = some out) : StIn vars out := by
  unfold useR at h
  split at h
  · cases h
  · split at h
    · rename_i h2; cases h; exact (inB_iff _ _).1 h2
    · cases h
def lessF : List Int → List Int → Bool
  | [], [] => false
  | [], _ :: _ => true
  | _ :: _, [] => false
  | a :: s, b :: t => if a = b then lessF s t else decide (a < b)
theorem lessF_irr : ∀ a : List Int, lessF a a = false
  | [] => rfl
  | a :: s => by simp [lessF, lessF_irr s]
theorem lessF_trans : ∀ {a b c : List Int}, lessF a b = true → lessF b c = true → lessF a c = true
  | [], [], _, h, _ => by simp [lessF] at h
  | [], _ :: _, [], _, h => by simp [lessF] at h
  | [], _ :: _, _ :: _, _, _ => rfl
  | _ :: _, [], _, h, _ => by simp [lessF] at h
  | _ :: _, _ :: _, [], _, h => by simp [lessF] at h
  | a :: s, b :: t, c :: u, h, k => by
    simp only [lessF] at h k ⊢
    split at h
    · rename_i e; subst e
      split at k
      · rename_i e; subst e; rw [if_pos rfl]; exact lessF_trans h k
      · rename_i hne; rw [if_neg hne]; exact k
    · rename_i hne
      simp at h
      split at k
      · rename_i e; subst e; rw [if_neg hne]; simp; exact h
      · rename_i hne2
        simp at k
        rw [if_neg (by omega)]; simp; omega
theorem lessF_tri : ∀ a b : List Int, lessF a b = true ∨ a = b ∨ lessF b a = true
  | [], [] => .inr (.inl rfl)
  | [], _ :: _ => .inl rfl
  | _ :: _, [] => .inr (.inr rfl)
  | a :: s, b :: t => by
    simp only [lessF]
    by_cases h : a = b
    · subst h
      rw [if_pos rfl, if_pos rfl]
      rcases lessF_tri s t with h1 | h1 | h1
      · exact .inl h1
      · exact .inr (.inl (by rw [h1]))
      · exact .inr (.inr h1)
    · rw [if_neg h, if_neg (fun e => h e.symm)]
      simp
      omega
def putF : List (List Int) → List Int → List (List Int)
  | [], x => [x]
  | y :: t, x => if y = x then y :: t else if lessF x y then x :: y :: t else y :: putF t x
def SortedF (l : List (List Int)) : Prop := l.Pairwise (fun a b => lessF a b = true)
theorem putF_mem : ∀ {l : List (List Int)} {x y : List Int}, y ∈ putF l x ↔ y ∈ l ∨ y = x
  | [], x, y => by simp [putF]
  | z :: t, x, y => by
    simp only [putF]
    split
    · rename_i hzx
      subst hzx
      constructor
      · exact fun hm => .inl hm
      · rintro (hm | rfl)
        · exact hm
        · exact List.mem_cons_self ..
    · split
      · rw [List.mem_cons, Or.comm]
      · rw [List.mem_cons, putF_mem (l := t), List.mem_cons, or_assoc]
theorem putF_sorted : ∀ {l : List (List Int)} {x : List Int}, SortedF l → SortedF (putF l x)
  | [], x, _ => by simp [putF, SortedF]
  | z :: t, x, h => by
    unfold SortedF at h ⊢
    rw [List.pairwise_cons] at h
    simp only [putF]
    split
    · exact List.pairwise_cons.2 h
    · rename_i hne
      split
      · rename_i hl
        refine List.pairwise_cons.2 ⟨fun a ha => ?_, List.pairwise_cons.2 h⟩
        rcases List.mem_cons.1 ha with rfl | ha
        · exact hl
        · exact lessF_trans hl (h.1 a ha)
      · rename_i hl
        refine List.pairwise_cons.2 ⟨fun a ha => ?_, putF_sorted h.2⟩
        rcases putF_mem.1 ha with ha | rfl
        · exact h.1 a ha
        · rcases lessF_tri z a with h1 | h1 | h1
          · exact h1
          · exact absurd h1 hne
          · exact absurd h1 hl
theorem putF_split : ∀ {l : List (List Int)} {x : List Int} {i : Nat}, i ≤ l.length → (∀ j (h : j < l.length), j < i → lessF l[j] x = true) → putF l x = l.take i ++ putF (l.drop i) x
  | l, x, 0, _, _ => by simp
  | [], x, i + 1, h, _ => by simp at h
  | z :: t, x, i + 1, h, hl => by
    have h0 := hl 0 (by simp) (by omega)
    simp only [List.getElem_cons_zero] at h0
    have hne : z ≠ x := fun e => by subst e; rw [lessF_irr] at h0; cases h0
    have hnl : ¬ lessF x z = true := fun e => by have := lessF_trans h0 e; rw [lessF_irr] at this; cases this
    simp only [putF, if_neg hne, if_neg hnl, List.take_succ_cons, List.drop_succ_cons, List.cons_append]
    rw [putF_split (by simpa using h) (fun j hj hji => by have := hl (j + 1) (by simp; omega) (by omega); simpa using this)]
theorem putF_at {l : List (List Int)} {x : List Int} {i : Nat} (hi : i ≤ l.length) (hl : ∀ j (h : j < l.length), j < i → lessF l[j] x = true) (hr : ∀ h : i < l.length, lessF x l[i] = true) : putF l x = l.take i ++ x :: l.drop i := by
  rw [putF_split hi hl]
  congr 1
  by_cases h : i < l.length
  · rw [List.drop_eq_getElem_cons h]
    have := hr h
    have hne : l[i] ≠ x := fun e => by rw [e, lessF_irr] at this; cases this
    simp only [putF, if_neg hne, if_pos this]
  · rw [List.drop_eq_nil_of_le (by omega)]; rfl
theorem putF_in {l : List (List Int)} {x : List Int} {i : Nat} (h : i < l.length) (hl : ∀ j (h : j < l.length), j < i → lessF l[j] x = true) (he : l[i] = x) : putF l x = l := by
  rw [putF_split (by omega) hl, List.drop_eq_getElem_cons h]
  simp only [putF, if_pos he]
  rw [← List.drop_eq_getElem_cons h, List.take_append_drop]
noncomputable def nextGo (vars : List VarS) (st : List Int) : List RuleS → List (List Int) → List (List Int)
  | [], l => l
  | r :: t, l => nextGo vars st t (match useR vars r st with | some x => putF l x | none => l)
noncomputable def nextF (s : SysS) (st : List Int) : List (List Int) := nextGo s.vars st s.rules []
theorem nextGo_snoc (vars : List VarS) (st : List Int) : ∀ (a : List RuleS) (r : RuleS) (l : List (List Int)), nextGo vars st (a ++ [r]) l = (match useR vars r st with | some x => putF (nextGo vars st a l) x | none => nextGo vars st a l)
  | [], r, l => rfl
  | q :: a, r, l => by simp only [List.cons_append, nextGo]; exact nextGo_snoc vars st a r _
theorem nextGo_take {vars : List VarS} {st : List Int} {l : List RuleS} {i : Nat} (h : i < l.length) : nextGo vars st (l.take (i + 1)) [] = (match useR vars l[i] st with | some x => putF (nextGo vars st (l.take i) []) x | none => nextGo vars st (l.take i) []) := by
  rw [List.take_succ_eq_append_getElem h, nextGo_snoc]
theorem nextGo_ok {vars : List VarS} {st : List Int} : ∀ {rs : List RuleS} {l : List (List Int)}, SortedF l → (∀ x ∈ l, StIn vars x) → SortedF (nextGo vars st rs l) ∧ ∀ x ∈ nextGo vars st rs l, StIn vars x
  | [], l, h, k => ⟨h, k⟩
  | r :: t, l, h, k => by
    simp only [nextGo]
    split
    · rename_i x hx
      refine nextGo_ok (putF_sorted h) fun y hy => ?_
      rcases putF_mem.1 hy with h1 | rfl
      · exact k y h1
      · exact useR_in hx
    · exact nextGo_ok h k
theorem putF_len : ∀ (l : List (List Int)) (x : List Int), (putF l x).length ≤ l.length + 1
  | [], x => by simp [putF]
  | z :: t, x => by
    simp only [putF]
    split
    · simp
    · split
      · simp
      · have := putF_len t x; simp; omega
theorem nextGo_len {vars : List VarS} {st : List Int} : ∀ {rs : List RuleS} {l : List (List Int)}, (nextGo vars st rs l).length ≤ l.length + rs.length
  | [], l => by simp [nextGo]
  | r :: t, l => by
    simp only [nextGo]
    split
    · rename_i x hx
      have := nextGo_len (vars := vars) (st := st) (rs := t) (l := putF l x)
      have := putF_len l x
      simp; omega
    · have := nextGo_len (vars := vars) (st := st) (rs := t) (l := l)
      simp; omega
def span1 (v : VarS) : Int := v.high - v.low + 1
def numGo : List VarS → List Int → Int → Int
  | v :: vs, x :: xs, n => numGo vs xs (n * span1 v + x - v.low)
  | _, _, n => n
def numF (vars : List VarS) (st : List Int) : Int := numGo vars st 0
theorem numGo_snoc : ∀ (vs : List VarS) (st : List Int) (v : VarS) (x n : Int), vs.length = st.length → numGo (vs ++ [v]) (st ++ [x]) n = numGo vs st n * span1 v + x - v.low
  | [], [], v, x, n, _ => by simp [numGo]
  | a :: vs, b :: st, v, x, n, h => by simp only [List.cons_append, numGo]; exact numGo_snoc vs st v x _ (by simpa using h)
  | [], _ :: _, _, _, _, h => by simp at h
  | _ :: _, [], _, _, _, h => by simp at h
theorem numF_take {vs : List VarS} {st : List Int} {i : Nat} (h : i < vs.length) (h2 : i < st.length) : numF (vs.take (i + 1)) (st.take (i + 1)) = numF (vs.take i) (st.take i) * span1 vs[i] + st[i] - vs[i].low := by
  rw [List.take_succ_eq_append_getElem h, List.take_succ_eq_append_getElem h2]
  exact numGo_snoc _ _ _ _ _ (by simp; omega)
theorem numF_bd {vars : List VarS} {st : List Int} (hv : ∀ v ∈ vars, VarOk v) (h : StIn vars st) : ∀ i, i ≤ vars.length → 0 ≤ numF (vars.take i) (st.take i) ∧ numF (vars.take i) (st.take i) < sizeF (vars.take i) := by
  intro i
  induction i with
  | zero => intro _; simp [numF, numGo, sizeF]
  | succ i ih =>
    intro hi
    have h0 := ih (by omega)
    have hi1 : i < vars.length := by omega
    have hi2 : i < st.length := by have := h.1; omega
    have h1 := h.2 i hi1 hi2
    have h2 := hv _ (List.getElem_mem hi1)
    unfold VarOk at h2
    rw [numF_take hi1 hi2, sizeF_take hi1]
    unfold span1
    generalize numF (vars.take i) (st.take i) = x at *
    generalize sizeF (vars.take i) = y at *
    have h3 : 0 ≤ x * (vars[i].high - vars[i].low + 1) := Int.mul_nonneg h0.1 (by omega)
    have h4 : (x + 1) * (vars[i].high - vars[i].low + 1) ≤ y * (vars[i].high - vars[i].low + 1) := Int.mul_le_mul_of_nonneg_right (by omega) (by omega)
    rw [Int.add_mul] at h4
    omega
def qGo : List VarS → Int → Int
  | [], n => n
  | v :: vs, n => qGo vs n / span1 v
def stGo : List VarS → Int → List Int
  | [], _ => []
  | v :: vs, n => (v.low + qGo vs n % span1 v) :: stGo vs n
theorem stGo_len : ∀ (vs : List VarS) (n : Int), (stGo vs n).length = vs.length
  | [], _ => rfl
  | v :: vs, n => by simp [stGo, stGo_len vs n]
theorem span_pos {v : VarS} (h : VarOk v) : 1 ≤ span1 v ∧ span1 v ≤ 20 := by unfold VarOk at h; unfold span1; omega
theorem qGo_bd : ∀ {vs : List VarS} {n : Int}, (∀ v ∈ vs, VarOk v) → 0 ≤ n → 0 ≤ qGo vs n ∧ qGo vs n ≤ n
  | [], n, _, h => ⟨h, Int.le_refl n⟩
  | v :: vs, n, hv, h => by
    obtain ⟨h1, h2⟩ := qGo_bd (vs := vs) (fun u hu => hv u (List.mem_cons_of_mem _ hu)) h
    have h3 := span_pos (hv v (List.mem_cons_self ..))
    simp only [qGo]
    exact ⟨Int.ediv_nonneg h1 (by omega), Int.le_trans (Int.ediv_le_self _ h1) h2⟩
theorem stGo_in : ∀ {vs : List VarS} {n : Int}, (∀ v ∈ vs, VarOk v) → StIn vs (stGo vs n)
  | [], n, _ => ⟨rfl, fun i h => by simp at h⟩
  | v :: vs, n, hv => by
    have ih := stGo_in (vs := vs) (n := n) (fun u hu => hv u (List.mem_cons_of_mem _ hu))
    have h3 := span_pos (hv v (List.mem_cons_self ..))
    refine ⟨by simp [stGo, stGo_len], fun i h h2 => ?_⟩
    cases i with
    | zero =>
      simp only [List.getElem_cons_zero, stGo]
      have q1 := Int.emod_nonneg (qGo vs n) (show span1 v ≠ 0 by omega)
      have q2 := Int.emod_lt_of_pos (qGo vs n) (show 0 < span1 v by omega)
      unfold span1 at q1 q2 ⊢
      omega
    | succ i =>
      simp only [List.getElem_cons_succ, stGo]
      exact ih.2 i (by simpa using h) (by simpa [stGo] using h2)
noncomputable def rowF (s : SysS) (n : Nat) : List Int := (nextF s (stGo s.vars n)).map (numF s.vars)
noncomputable def tabF (s : SysS) : List (List Int) := (List.range (sizeF s.vars).toNat).map (rowF s)
theorem tabF_len (s : SysS) : (tabF s).length = (sizeF s.vars).toNat := by simp [tabF]
theorem nextF_in {s : SysS} {st x : List Int} (h : x ∈ nextF s st) : StIn s.vars x :=
  (nextGo_ok (vars := s.vars) (st := st) (rs := s.rules) (l := []) List.Pairwise.nil (fun x hx => by cases hx)).2 x h
theorem numF_lt {s : SysS} (hs : SysOk s) {x : List Int} (h : StIn s.vars x) : 0 ≤ numF s.vars x ∧ numF s.vars x < sizeF s.vars := by
  have := numF_bd hs.vars h s.vars.length (Nat.le_refl _)
  rwa [List.take_length, List.take_of_length_le (by rw [h.1]; exact Nat.le_refl _)] at this
theorem rowF_lt {s : SysS} (hs : SysOk s) {n : Nat} {k : Int} (h : k ∈ rowF s n) : 0 ≤ k ∧ k < sizeF s.vars := by
  obtain ⟨x, hx, rfl⟩ := List.mem_map.1 h
  exact numF_lt hs (nextF_in hx)
end Go.M2
