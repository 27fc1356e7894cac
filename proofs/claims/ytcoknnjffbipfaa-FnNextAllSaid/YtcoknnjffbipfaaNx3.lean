/- The plain law of systems: expressions, their kinds and values. No program in sight. -/
import Derived.Test.YtcoknnjffbipfaaNx2
set_option linter.unusedVariables false
set_option linter.unusedSimpArgs false
set_option maxRecDepth 10000
set_option maxHeartbeats 4000000
namespace Go.M2
structure TermS where
  op : Int
  n : Int
  a : Int
  b : Int
structure VarS where
  low : Int
  high : Int
  first : Int
structure RuleS where
  when_ : List TermS
  sets : List Int
  terms : List (List TermS)
structure SysS where
  vars : List VarS
  rules : List RuleS
def ix (l : List Int) (i : Int) : Int := l.getD i.toNat 0
theorem ix_eq {l : List Int} {i : Int} (h0 : 0 ≤ i) (h1 : i < (l.length : Int)) : ∃ h : i.toNat < l.length, ix l i = l[i.toNat] := by
  have h : i.toNat < l.length := by omega
  exact ⟨h, by simp [ix, List.getD, h]⟩
def wantK (op : Int) : Int := if 7 ≤ op then 2 else 1
def kind1 (vars : Int) (t : TermS) (ks : List Int) : Int :=
  if t.op = 0 then (if -9999 ≤ t.n ∧ t.n ≤ 9999 ∧ t.a = 0 ∧ t.b = 0 then 1 else 0)
  else if t.op = 1 then (if 0 ≤ t.n ∧ t.n < vars ∧ t.a = 0 ∧ t.b = 0 then 1 else 0)
  else if 2 ≤ t.op ∧ t.op ≤ 9 ∧ t.n = 0 ∧ (0 ≤ t.a ∧ t.a < (ks.length : Int)) ∧ (0 ≤ t.b ∧ t.b < (ks.length : Int)) ∧ ix ks t.a = wantK t.op ∧ ix ks t.b = wantK t.op ∧ (t.op = 7 → t.a = t.b) then (if 5 ≤ t.op then 2 else 1)
  else 0
def kindsGo (vars : Int) : List TermS → List Int → Option (List Int)
  | [], ks => some ks
  | t :: r, ks => if kind1 vars t ks = 0 then none else kindsGo vars r (ks ++ [kind1 vars t ks])
def kindsF (vars : Int) (l : List TermS) : Option (List Int) := if 0 ≤ vars ∧ vars ≤ 5 ∧ 1 ≤ l.length ∧ l.length ≤ 40 then kindsGo vars l [] else none
theorem kindsGo_append {vars : Int} : ∀ (a b : List TermS) (ks : List Int), kindsGo vars (a ++ b) ks = (kindsGo vars a ks).bind (kindsGo vars b)
  | [], b, ks => rfl
  | t :: r, b, ks => by
    simp only [List.cons_append, kindsGo]
    split
    · rfl
    · exact kindsGo_append r b _
theorem kindsGo_len {vars : Int} : ∀ {a : List TermS} {ks r : List Int}, kindsGo vars a ks = some r → r.length = ks.length + a.length ∧ r.take ks.length = ks
  | [], ks, r, h => by simp [kindsGo] at h; subst h; simp
  | t :: a, ks, r, h => by
    simp only [kindsGo] at h
    split at h
    · cases h
    · obtain ⟨h1, h2⟩ := kindsGo_len h
      simp at h1 h2
      refine ⟨by simp; omega, ?_⟩
      have := congrArg (List.take ks.length) h2
      rw [List.take_take] at this
      simpa [Nat.min_eq_left (Nat.le_succ _)] using this
theorem kindsGo_take {vars : Int} {l : List TermS} {i : Nat} (h : i < l.length) {ks : List Int} (hk : kindsGo vars (l.take i) [] = some ks) :
    kindsGo vars (l.take (i + 1)) [] = if kind1 vars l[i] ks = 0 then none else some (ks ++ [kind1 vars l[i] ks]) := by
  rw [List.take_succ_eq_append_getElem h, kindsGo_append, hk]
  rfl
theorem kindsGo_none {vars : Int} {l : List TermS} {i : Nat} (hk : kindsGo vars (l.take i) [] = none) : kindsGo vars l [] = none := by
  rw [← List.take_append_drop i l, kindsGo_append, hk]; rfl
theorem kindsGo_at {vars : Int} {l : List TermS} {ks : List Int} (h : kindsGo vars l [] = some ks) : ks.length = l.length ∧ ∀ i (hi : i < l.length) (hk : i < ks.length), kind1 vars l[i] (ks.take i) = ks[i] ∧ ks[i] ≠ 0 := by
  have hl := (kindsGo_len h).1
  simp at hl
  refine ⟨hl, fun i hi hk => ?_⟩
  have h1 : kindsGo vars (l.take (i + 1) ++ l.drop (i + 1)) [] = some ks := by rw [List.take_append_drop]; exact h
  rw [kindsGo_append] at h1
  cases h2 : kindsGo vars (l.take (i + 1)) [] with
  | none => rw [h2] at h1; cases h1
  | some ks1 =>
    rw [h2] at h1
    have h3 := kindsGo_len (show kindsGo vars (l.drop (i + 1)) ks1 = some ks from h1)
    have h4 := kindsGo_len h2
    simp at h4
    rw [List.take_succ_eq_append_getElem hi, kindsGo_append] at h2
    cases h5 : kindsGo vars (l.take i) [] with
    | none => rw [h5] at h2; cases h2
    | some ks0 =>
      rw [h5] at h2
      simp only [Option.bind_some, kindsGo] at h2
      split at h2
      · cases h2
      · rename_i h6
        cases h2
        have h7 := (kindsGo_len h5).1
        simp at h7
        have h8 : ks0.length = i := by omega
        have h9 : ks.take (i + 1) = ks0 ++ [kind1 vars l[i] ks0] := by
          have := h3.2
          rw [List.length_append] at this
          simpa [h8] using this
        have h10 : ks.take i = ks0 := by
          have := congrArg (List.take i) h9
          rw [List.take_take, Nat.min_eq_left (Nat.le_succ _)] at this
          rw [this, List.take_append_of_le_length (by omega), List.take_of_length_le (by omega)]
        have h11 : ks[i] = kind1 vars l[i] ks0 := by
          have : (ks.take (i + 1))[i]? = some ks[i] := by rw [List.getElem?_take]; simp [hk]
          rw [h9, List.getElem?_append_right (by omega)] at this
          simp [h8] at this
          exact this.symm
        rw [h10, h11]
        exact ⟨rfl, h6⟩
def heldF (n : Int) : Int := if 9999 < n then 9999 else if n < -9999 then -9999 else n
def do1 (op a b : Int) : Int :=
  if op = 2 then heldF (a + b) else if op = 3 then heldF (a - b) else if op = 4 then heldF (a * b) else
  if op = 5 then (if a < b then 1 else 0) else if op = 6 then (if a = b then 1 else 0) else if op = 7 then 1 - a else
  if op = 8 then min a b else max a b
def val1 (state : List Int) (t : TermS) (vs : List Int) : Int := if t.op = 0 then t.n else if t.op = 1 then ix state t.n else do1 t.op (ix vs t.a) (ix vs t.b)
def valsF (state : List Int) (l : List TermS) : List Int := l.foldl (fun vs t => vs ++ [val1 state t vs]) []
theorem valsF_snoc (state : List Int) (l : List TermS) (t : TermS) : valsF state (l ++ [t]) = valsF state l ++ [val1 state t (valsF state l)] := by
  simp [valsF, List.foldl_append]
theorem valsF_len (state : List Int) (l : List TermS) : (valsF state l).length = l.length := by
  have : ∀ (l : List TermS) (vs : List Int), (l.foldl (fun vs t => vs ++ [val1 state t vs]) vs).length = vs.length + l.length := by
    intro l
    induction l with
    | nil => intro vs; simp
    | cons t l ih => intro vs; simp only [List.foldl_cons, ih]; simp; omega
  simpa [valsF] using this l []
theorem valsF_take {state : List Int} {l : List TermS} {i : Nat} (h : i < l.length) : valsF state (l.take (i + 1)) = valsF state (l.take i) ++ [val1 state l[i] (valsF state (l.take i))] := by
  rw [List.take_succ_eq_append_getElem h, valsF_snoc]
def evalF (l : List TermS) (state : List Int) : Int := (valsF state l).getLastD 0
def stOk (state : List Int) : Prop := ∀ x ∈ state, -9999 ≤ x ∧ x ≤ 9999
theorem heldF_in (n : Int) : -9999 ≤ heldF n ∧ heldF n ≤ 9999 := by unfold heldF; split <;> (try split) <;> omega
theorem vals_ok {state : List Int} {vars : Int} (hs : stOk state) (hv : vars ≤ (state.length : Int)) : ∀ (n : Nat) {l : List TermS} {ks : List Int}, l.length = n → kindsGo vars l [] = some ks → ∀ i (hi : i < (valsF state l).length) (hk : i < ks.length),
    -9999 ≤ (valsF state l)[i] ∧ (valsF state l)[i] ≤ 9999 ∧ (ks[i] = 2 → 0 ≤ (valsF state l)[i] ∧ (valsF state l)[i] ≤ 1) := by
  intro n
  induction n with
  | zero => intro l ks hl hk i hi; rw [valsF_len] at hi; omega
  | succ n ih =>
    intro l ks hl hk i hi hik
    obtain ⟨l0, t, rfl⟩ : ∃ l0 t, l = l0 ++ [t] := by
      refine ⟨l.dropLast, l.getLast (by intro e; subst e; simp at hl), ?_⟩
      exact (List.dropLast_concat_getLast _).symm
    have hl0 : l0.length = n := by simp at hl; exact hl
    rw [kindsGo_append] at hk
    cases h0 : kindsGo vars l0 [] with
    | none => rw [h0] at hk; cases hk
    | some ks0 =>
      rw [h0] at hk
      simp only [Option.bind_some, kindsGo] at hk
      split at hk
      · cases hk
      · rename_i hne
        cases hk
        have hk0 := (kindsGo_len h0).1
        simp at hk0
        have hlen := valsF_len state l0
        have IH := ih hl0 h0
        have get : ∀ j (hj : j < l0.length), (valsF state (l0 ++ [t]))[j]'(by rw [valsF_len]; simp; omega) = (valsF state l0)[j]'(by omega) := by
          intro j hj
          simp only [valsF_snoc]
          rw [List.getElem_append_left]
        by_cases hi2 : i < l0.length
        · rw [get i hi2, List.getElem_append_left (by omega)]
          exact IH i (by omega) (by omega)
        · have hieq : i = l0.length := by rw [valsF_len] at hi; simp at hi; omega
          subst hieq
          have e1 : (valsF state (l0 ++ [t]))[l0.length]'hi = val1 state t (valsF state l0) := by
            simp only [valsF_snoc]
            rw [List.getElem_append_right (by omega)]
            simp [hlen]
          have e2 : (ks0 ++ [kind1 vars t ks0])[l0.length]'hik = kind1 vars t ks0 := by
            rw [List.getElem_append_right (by omega)]
            simp [hk0]
          rw [e1, e2]
          clear e1 e2 get
          unfold kind1 at hne ⊢
          unfold val1
          by_cases c0 : t.op = 0
          · rw [if_pos c0] at hne ⊢
            rw [if_pos c0]
            split at hne
            · rename_i hc; rw [if_pos hc]; exact ⟨hc.1, hc.2.1, fun h => by omega⟩
            · exact absurd rfl hne
          · rw [if_neg c0] at hne ⊢
            rw [if_neg c0]
            by_cases c1 : t.op = 1
            · rw [if_pos c1] at hne ⊢
              rw [if_pos c1]
              split at hne
              · rename_i hc; rw [if_pos hc]
                obtain ⟨hh, e⟩ := ix_eq (l := state) hc.1 (by omega)
                rw [e]
                have := hs _ (List.getElem_mem hh)
                exact ⟨this.1, this.2, fun h => by omega⟩
              · exact absurd rfl hne
            · rw [if_neg c1] at hne ⊢
              rw [if_neg c1]
              split at hne
              · rename_i hc
                rw [if_pos hc]
                obtain ⟨q1, q2, q3, q4, q5, q6, q7, q8⟩ := hc
                obtain ⟨ha, ea⟩ := ix_eq (l := valsF state l0) (i := t.a) q4.1 (by omega)
                obtain ⟨hb, eb⟩ := ix_eq (l := valsF state l0) (i := t.b) q5.1 (by omega)
                obtain ⟨ha', ea'⟩ := ix_eq (l := ks0) (i := t.a) q4.1 q4.2
                obtain ⟨hb', eb'⟩ := ix_eq (l := ks0) (i := t.b) q5.1 q5.2
                have A := IH t.a.toNat ha ha'
                have B := IH t.b.toNat hb hb'
                rw [← ea, ← ea'] at A
                rw [← eb, ← eb'] at B
                rw [q6] at A
                rw [q7] at B
                generalize ix (valsF state l0) t.a = x at *
                generalize ix (valsF state l0) t.b = y at *
                unfold do1
                by_cases d2 : t.op = 2
                · rw [if_pos d2]; have := heldF_in (x + y); refine ⟨this.1, this.2, fun h => ?_⟩; rw [if_neg (by omega)] at h; omega
                · rw [if_neg d2]
                  by_cases d3 : t.op = 3
                  · rw [if_pos d3]; have := heldF_in (x - y); refine ⟨this.1, this.2, fun h => ?_⟩; rw [if_neg (by omega)] at h; omega
                  · rw [if_neg d3]
                    by_cases d4 : t.op = 4
                    · rw [if_pos d4]; have := heldF_in (x * y); refine ⟨this.1, this.2, fun h => ?_⟩; rw [if_neg (by omega)] at h; omega
                    · rw [if_neg d4]
                      by_cases d5 : t.op = 5
                      · rw [if_pos d5]; split <;> omega
                      · rw [if_neg d5]
                        by_cases d6 : t.op = 6
                        · rw [if_pos d6]; split <;> omega
                        · rw [if_neg d6]
                          have h7 : (7 : Int) ≤ t.op := by omega
                          unfold wantK at A B
                          rw [if_pos h7] at A B
                          have A2 := A.2.2 rfl
                          have B2 := B.2.2 rfl
                          by_cases d7 : t.op = 7
                          · rw [if_pos d7]; omega
                          · rw [if_neg d7]; split <;> omega
              · exact absurd rfl hne
def kindIs (vars kind : Int) (ts : List TermS) : Bool := match kindsF vars ts with
  | some ks => ks.getLastD 0 == kind
  | none => false
theorem kindsF_some {vars : Int} {ts : List TermS} {ks : List Int} (h : kindsF vars ts = some ks) : 0 ≤ vars ∧ vars ≤ 5 ∧ 1 ≤ ts.length ∧ ts.length ≤ 40 ∧ kindsGo vars ts [] = some ks ∧ ks.length = ts.length := by
  unfold kindsF at h
  split at h
  · rename_i hc
    exact ⟨hc.1, hc.2.1, hc.2.2.1, hc.2.2.2, h, by have := (kindsGo_len h).1; simpa using this⟩
  · cases h
theorem getLastD_eq {l : List Int} (h : 0 < l.length) : l.getLastD 0 = l[l.length - 1]'(by omega) := by
  cases l with
  | nil => simp at h
  | cons a t =>
    rw [List.getLastD_eq_getLast?, List.getLast?_eq_getElem?]
    simp
def VarOk (v : VarS) : Prop := (-9999 ≤ v.low ∧ v.low ≤ 9999) ∧ (v.low ≤ v.high ∧ v.high ≤ 9999) ∧ v.high - v.low < 20 ∧ (v.low ≤ v.first ∧ v.first ≤ v.high)
instance (v : VarS) : Decidable (VarOk v) := by unfold VarOk; infer_instance
def SetsOk (vars : Int) (r : RuleS) : Prop := ∀ i (h : i < r.sets.length), (0 ≤ r.sets[i] ∧ r.sets[i] < vars) ∧ (∀ h0 : 0 < i, r.sets[i - 1]'(by omega) < r.sets[i]) ∧ (∀ h2 : i < r.terms.length, kindIs vars 1 r.terms[i] = true)
def RuleOk (vars : Int) (r : RuleS) : Prop := kindIs vars 2 r.when_ = true ∧ r.sets.length = r.terms.length ∧ SetsOk vars r
def sizeF (vs : List VarS) : Int := vs.foldl (fun n v => n * (v.high - v.low + 1)) 1
structure SysOk (s : SysS) : Prop where
  v1 : 1 ≤ s.vars.length
  v5 : s.vars.length ≤ 5
  r8 : s.rules.length ≤ 8
  vars : ∀ v ∈ s.vars, VarOk v
  rules : ∀ r ∈ s.rules, RuleOk (s.vars.length : Int) r
  size : sizeF s.vars ≤ 400
theorem sizeF_snoc (vs : List VarS) (v : VarS) : sizeF (vs ++ [v]) = sizeF vs * (v.high - v.low + 1) := by simp [sizeF, List.foldl_append]
theorem sizeF_bd : ∀ (n : Nat) (vs : List VarS), vs.length = n → (∀ v ∈ vs, VarOk v) → 1 ≤ sizeF vs ∧ sizeF vs ≤ 20 ^ vs.length := by
  intro n
  induction n with
  | zero => intro vs h _; have : vs = [] := List.eq_nil_of_length_eq_zero h; subst this; simp [sizeF]
  | succ n ih =>
    intro vs h hv
    obtain ⟨l0, t, rfl⟩ : ∃ l0 t, vs = l0 ++ [t] := ⟨vs.dropLast, vs.getLast (by intro e; subst e; simp at h), (List.dropLast_concat_getLast _).symm⟩
    have h0 := ih l0 (by simp at h; exact h) (fun v hv' => hv v (List.mem_append_left _ hv'))
    have ht := hv t (List.mem_append_right _ (List.mem_singleton.2 rfl))
    unfold VarOk at ht
    rw [sizeF_snoc, List.length_append, List.length_singleton, Int.pow_succ]
    generalize sizeF l0 = x at *
    generalize (20 : Int) ^ l0.length = y at *
    refine ⟨?_, ?_⟩
    · have : 1 * 1 ≤ x * (t.high - t.low + 1) := Int.mul_le_mul h0.1 (by omega) (by omega) (by omega)
      omega
    · exact Int.mul_le_mul h0.2 (by omega) (by omega) (by omega)
theorem sizeF_take {vs : List VarS} {i : Nat} (h : i < vs.length) : sizeF (vs.take (i + 1)) = sizeF (vs.take i) * (vs[i].high - vs[i].low + 1) := by
  rw [List.take_succ_eq_append_getElem h, sizeF_snoc]
theorem sizeF_take_bd {vs : List VarS} (h5 : vs.length ≤ 5) {i : Nat} (h : ∀ j (hj : j < vs.length), j < i → VarOk vs[j]) : 1 ≤ sizeF (vs.take i) ∧ sizeF (vs.take i) ≤ 3200000 := by
  have h1 := sizeF_bd _ (vs.take i) rfl (fun v hv => by
    obtain ⟨j, hj, rfl⟩ := List.getElem_of_mem hv
    simp at hj
    rw [List.getElem_take]
    exact h j (by omega) (by omega))
  refine ⟨h1.1, Int.le_trans h1.2 ?_⟩
  have h2 : (vs.take i).length ≤ 5 := by simp; omega
  have : ∀ m : Nat, m ≤ 5 → (20 : Int) ^ m ≤ 3200000 := by
    intro m hm
    match m, hm with
    | 0, _ => decide
    | 1, _ => decide
    | 2, _ => decide
    | 3, _ => decide
    | 4, _ => decide
    | 5, _ => decide
  exact this _ h2
end Go.M2

namespace Go.M2
def firstF (s : SysS) : List Int := s.vars.map (·.first)
def StIn (vars : List VarS) (st : List Int) : Prop := st.length = vars.length ∧ ∀ i (h : i < vars.length) (h2 : i < st.length), vars[i].low ≤ st[i] ∧ st[i] ≤ vars[i].high
noncomputable def inB (vars : List VarS) (st : List Int) : Bool := @decide (StIn vars st) (Classical.propDecidable _)
theorem inB_iff (vars : List VarS) (st : List Int) : inB vars st = true ↔ StIn vars st := by unfold inB; exact @decide_eq_true_iff _ (Classical.propDecidable _)
theorem inB_false (vars : List VarS) (st : List Int) : inB vars st = false ↔ ¬ StIn vars st := by
  rw [← inB_iff]; cases inB vars st <;> simp
theorem StIn.ok {s : SysS} (hs : SysOk s) {st : List Int} (h : StIn s.vars st) : stOk st := by
  intro x hx
  obtain ⟨i, hi, rfl⟩ := List.getElem_of_mem hx
  have h1 := h.2 i (by rw [← h.1]; exact hi) hi
  have h2 := hs.vars _ (List.getElem_mem (by rw [← h.1]; exact hi : i < s.vars.length))
  unfold VarOk at h2
  omega
def setsF (st : List Int) (terms : List (List TermS)) (sets : List Int) : Nat → List Int
  | 0 => st
  | n + 1 => (setsF st terms sets n).set (sets.getD n 0).toNat (evalF (terms.getD n []) st)
theorem setsF_len (st : List Int) (terms : List (List TermS)) (sets : List Int) : ∀ n, (setsF st terms sets n).length = st.length
  | 0 => rfl
  | n + 1 => by simp [setsF, setsF_len st terms sets n]
noncomputable def useR (vars : List VarS) (r : RuleS) (st : List Int) : Option (List Int) :=
  if evalF r.when_ st = 0 then none else if inB vars (setsF st r.terms r.sets r.sets.length) then some (setsF st r.terms r.sets r.sets.length) else none
theorem useR_in {vars : List VarS} {r : RuleS} {st out : List Int} (h : useR vars r st = some out) : StIn vars out := by
  unfold useR at h
  split at h
  · cases h
  · split at h
    · rename_i h2; cases h; exact (inB_iff _ _).1 h2
    · cases h
def lessF : List Int → List Int → Bool
  | [], [] => false
  | [], _ :: _ => true
  | _ :: _, [] => false
  | a :: s, b :: t => if a = b then lessF s t else decide (a < b)
theorem lessF_irr : ∀ a : List Int, lessF a a = false
  | [] => rfl
  | a :: s => by simp [lessF, lessF_irr s]
theorem lessF_trans : ∀ {a b c : List Int}, lessF a b = true → lessF b c = true → lessF a c = true
  | [], [], _, h, _ => by simp [lessF] at h
  | [], _ :: _, [], _, h => by simp [lessF] at h
  | [], _ :: _, _ :: _, _, _ => rfl
  | _ :: _, [], _, h, _ => by simp [lessF] at h
  | _ :: _, _ :: _, [], _, h => by simp [lessF] at h
  | a :: s, b :: t, c :: u, h, k => by
    simp only [lessF] at h k ⊢
    split at h
    · rename_i e; subst e
      split at k
      · rename_i e; subst e; rw [if_pos rfl]; exact lessF_trans h k
      · rename_i hne; rw [if_neg hne]; exact k
    · rename_i hne
      simp at h
      split at k
      · rename_i e; subst e; rw [if_neg hne]; simp; exact h
      · rename_i hne2
        simp at k
        rw [if_neg (by omega)]; simp; omega
theorem lessF_tri : ∀ a b : List Int, lessF a b = true ∨ a = b ∨ lessF b a = true
  | [], [] => .inr (.inl rfl)
  | [], _ :: _ => .inl rfl
  | _ :: _, [] => .inr (.inr rfl)
  | a :: s, b :: t => by
    simp only [lessF]
    by_cases h : a = b
    · subst h
      rw [if_pos rfl, if_pos rfl]
      rcases lessF_tri s t with h1 | h1 | h1
      · exact .inl h1
      · exact .inr (.inl (by rw [h1]))
      · exact .inr (.inr h1)
    · rw [if_neg h, if_neg (fun e => h e.symm)]
      simp
      omega
def putF : List (List Int) → List Int → List (List Int)
  | [], x => [x]
  | y :: t, x => if y = x then y :: t else if lessF x y then x :: y :: t else y :: putF t x
def SortedF (l : List (List Int)) : Prop := l.Pairwise (fun a b => lessF a b = true)
theorem putF_mem : ∀ {l : List (List Int)} {x y : List Int}, y ∈ putF l x ↔ y ∈ l ∨ y = x
  | [], x, y => by simp [putF]
  | z :: t, x, y => by
    simp only [putF]
    split
    · rename_i hzx
      subst hzx
      constructor
      · exact fun hm => .inl hm
      · rintro (hm | rfl)
        · exact hm
        · exact List.mem_cons_self ..
    · split
      · rw [List.mem_cons, Or.comm]
      · rw [List.mem_cons, putF_mem (l := t), List.mem_cons, or_assoc]
theorem putF_sorted : ∀ {l : List (List Int)} {x : List Int}, SortedF l → SortedF (putF l x)
  | [], x, _ => by simp [putF, SortedF]
  | z :: t, x, h => by
    unfold SortedF at h ⊢
    rw [List.pairwise_cons] at h
    simp only [putF]
    split
    · exact List.pairwise_cons.2 h
    · rename_i hne
      split
      · rename_i hl
        refine List.pairwise_cons.2 ⟨fun a ha => ?_, List.pairwise_cons.2 h⟩
        rcases List.mem_cons.1 ha with rfl | ha
        · exact hl
        · exact lessF_trans hl (h.1 a ha)
      · rename_i hl
        refine List.pairwise_cons.2 ⟨fun a ha => ?_, putF_sorted h.2⟩
        rcases putF_mem.1 ha with ha | rfl
        · exact h.1 a ha
        · rcases lessF_tri z a with h1 | h1 | h1
          · exact h1
          · exact absurd h1 hne
          · exact absurd h1 hl
theorem putF_split : ∀ {l : List (List Int)} {x : List Int} {i : Nat}, i ≤ l.length → (∀ j (h : j < l.length), j < i → lessF l[j] x = true) → putF l x = l.take i ++ putF (l.drop i) x
  | l, x, 0, _, _ => by simp
  | [], x, i + 1, h, _ => by simp at h
  | z :: t, x, i + 1, h, hl => by
    have h0 := hl 0 (by simp) (by omega)
    simp only [List.getElem_cons_zero] at h0
    have hne : z ≠ x := fun e => by subst e; rw [lessF_irr] at h0; cases h0
    have hnl : ¬ lessF x z = true := fun e => by have := lessF_trans h0 e; rw [lessF_irr] at this; cases this
    simp only [putF, if_neg hne, if_neg hnl, List.take_succ_cons, List.drop_succ_cons, List.cons_append]
    rw [putF_split (by simpa using h) (fun j hj hji => by have := hl (j + 1) (by simp; omega) (by omega); simpa using this)]
theorem putF_at {l : List (List Int)} {x : List Int} {i : Nat} (hi : i ≤ l.length) (hl : ∀ j (h : j < l.length), j < i → lessF l[j] x = true) (hr : ∀ h : i < l.length, lessF x l[i] = true) : putF l x = l.take i ++ x :: l.drop i := by
  rw [putF_split hi hl]
  congr 1
  by_cases h : i < l.length
  · rw [List.drop_eq_getElem_cons h]
    have := hr h
    have hne : l[i] ≠ x := fun e => by rw [e, lessF_irr] at this; cases this
    simp only [putF, if_neg hne, if_pos this]
  · rw [List.drop_eq_nil_of_le (by omega)]; rfl
theorem putF_in {l : List (List Int)} {x : List Int} {i : Nat} (h : i < l.length) (hl : ∀ j (h : j < l.length), j < i → lessF l[j] x = true) (he : l[i] = x) : putF l x = l := by
  rw [putF_split (by omega) hl, List.drop_eq_getElem_cons h]
  simp only [putF, if_pos he]
  rw [← List.drop_eq_getElem_cons h, List.take_append_drop]
noncomputable def nextGo (vars : List VarS) (st : List Int) : List RuleS → List (List Int) → List (List Int)
  | [], l => l
  | r :: t, l => nextGo vars st t (match useR vars r st with | some x => putF l x | none => l)
noncomputable def nextF (s : SysS) (st : List Int) : List (List Int) := nextGo s.vars st s.rules []
theorem nextGo_snoc (vars : List VarS) (st : List Int) : ∀ (a : List RuleS) (r : RuleS) (l : List (List Int)), nextGo vars st (a ++ [r]) l = (match useR vars r st with | some x => putF (nextGo vars st a l) x | none => nextGo vars st a l)
  | [], r, l => rfl
  | q :: a, r, l => by simp only [List.cons_append, nextGo]; exact nextGo_snoc vars st a r _
theorem nextGo_take {vars : List VarS} {st : List Int} {l : List RuleS} {i : Nat} (h : i < l.length) : nextGo vars st (l.take (i + 1)) [] = (match useR vars l[i] st with | some x => putF (nextGo vars st (l.take i) []) x | none => nextGo vars st (l.take i) []) := by
  rw [List.take_succ_eq_append_getElem h, nextGo_snoc]
theorem nextGo_ok {vars : List VarS} {st : List Int} : ∀ {rs : List RuleS} {l : List (List Int)}, SortedF l → (∀ x ∈ l, StIn vars x) → SortedF (nextGo vars st rs l) ∧ ∀ x ∈ nextGo vars st rs l, StIn vars x
  | [], l, h, k => ⟨h, k⟩
  | r :: t, l, h, k => by
    simp only [nextGo]
    split
    · rename_i x hx
      refine nextGo_ok (putF_sorted h) fun y hy => ?_
      rcases putF_mem.1 hy with h1 | rfl
      · exact k y h1
      · exact useR_in hx
    · exact nextGo_ok h k
theorem putF_len : ∀ (l : List (List Int)) (x : List Int), (putF l x).length ≤ l.length + 1
  | [], x => by simp [putF]
  | z :: t, x => by
    simp only [putF]
    split
    · simp
    · split
      · simp
      · have := putF_len t x; simp; omega
theorem nextGo_len {vars : List VarS} {st : List Int} : ∀ {rs : List RuleS} {l : List (List Int)}, (nextGo vars st rs l).length ≤ l.length + rs.length
  | [], l => by simp [nextGo]
  | r :: t, l => by
    simp only [nextGo]
    split
    · rename_i x hx
      have := nextGo_len (vars := vars) (st := st) (rs := t) (l := putF l x)
      have := putF_len l x
      simp; omega
    · have := nextGo_len (vars := vars) (st := st) (rs := t) (l := l)
      simp; omega
def span1 (v : VarS) : Int := v.high - v.low + 1
def numGo : List VarS → List Int → Int → Int
  | v :: vs, x :: xs, n => numGo vs xs (n * span1 v + x - v.low)
  | _, _, n => n
def numF (vars : List VarS) (st : List Int) : Int := numGo vars st 0
def qGo : List VarS → Int → Int
  | [], n => n
  | v :: vs, n => qGo vs n / span1 v
def stGo : List VarS → Int → List Int
  | [], _ => []
  | v :: vs, n => (v.low + qGo vs n % span1 v) :: stGo vs n
noncomputable def rowF (s : SysS) (n : Nat) : List Int := (nextF s (stGo s.vars n)).map (numF s.vars)
noncomputable def tabF (s : SysS) : List (List Int) := (List.range (sizeF s.vars).toNat).map (rowF s)
end Go.M2
