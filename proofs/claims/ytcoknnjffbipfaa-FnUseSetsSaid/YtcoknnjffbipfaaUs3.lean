/- The plain law of systems: expressions, their kinds and values. No program in sight. -/
import Derived.Test.YtcoknnjffbipfaaUs2
import Derived.Test.YtcoknnjffbipfaaProg
import Derived.KernelRfl
set_option linter.unusedVariables false
set_option linter.unusedSimpArgs false
set_option maxRecDepth 10000
set_option maxHeartbeats 4000000
namespace Go.M2
structure TermS where
  op : Int
  n : Int
  a : Int
  b : Int
structure VarS where
  low : Int
  high : Int
  first : Int
structure RuleS where
  when_ : List TermS
  sets : List Int
  terms : List (List TermS)
structure SysS where
  vars : List VarS
  rules : List RuleS
def ix (l : List Int) (i : Int) : Int := l.getD i.toNat 0
theorem ix_eq {l : List Int} {i : Int} (h0 : 0 ≤ i) (h1 : i < (l.length : Int)) : ∃ h : i.toNat < l.length, ix l i = l[i.toNat] := by
  have h : i.toNat < l.length := by omega
  exact ⟨h, by simp [ix, List.getD, h]⟩
def wantK (op : Int) : Int := if 7 ≤ op then 2 else 1
def kind1 (vars : Int) (t : TermS) (ks : List Int) : Int :=
  if t.op = 0 then (if -9999 ≤ t.n ∧ t.n ≤ 9999 ∧ t.a = 0 ∧ t.b = 0 then 1 else 0)
  else if t.op = 1 then (if 0 ≤ t.n ∧ t.n < vars ∧ t.a = 0 ∧ t.b = 0 then 1 else 0)
  else if 2 ≤ t.op ∧ t.op ≤ 9 ∧ t.n = 0 ∧ (0 ≤ t.a ∧ t.a < (ks.length : Int)) ∧ (0 ≤ t.b ∧ t.b < (ks.length : Int)) ∧ ix ks t.a = wantK t.op ∧ ix ks t.b = wantK t.op ∧ (t.op = 7 → t.a = t.b) then (if 5 ≤ t.op then 2 else 1)
  else 0
def kindsGo (vars : Int) : List TermS → List Int → Option (List Int)
  | [], ks => some ks
  | t :: r, ks => if kind1 vars t ks = 0 then none else kindsGo vars r (ks ++ [kind1 vars t ks])
def kindsF (vars : Int) (l : List TermS) : Option (List Int) := if 0 ≤ vars ∧ vars ≤ 5 ∧ 1 ≤ l.length ∧ l.length ≤ 40 then kindsGo vars l [] else none
theorem kindsGo_append {vars : Int} : ∀ (a b : List TermS) (ks : List Int), kindsGo vars (a ++ b) ks = (kindsGo vars a ks).bind (kindsGo vars b)
  | [], b, ks => rfl
  | t :: r, b, ks => by
    simp only [List.cons_append, kindsGo]
    split
    · rfl
    · exact kindsGo_append r b _
theorem kindsGo_len {vars : Int} : ∀ {a : List TermS} {ks r : List Int}, kindsGo vars a ks = some r → r.length = ks.length + a.length ∧ r.take ks.length = ks
  | [], ks, r, h => by simp [kindsGo] at h; subst h; simp
  | t :: a, ks, r, h => by
    simp only [kindsGo] at h
    split at h
    · cases h
    · obtain ⟨h1, h2⟩ := kindsGo_len h
      simp at h1 h2
      refine ⟨by simp; omega, ?_⟩
      have := congrArg (List.take ks.length) h2
      rw [List.take_take] at this
      simpa [Nat.min_eq_left (Nat.le_succ _)] using this
theorem kindsGo_take {vars : Int} {l : List TermS} {i : Nat} (h : i < l.length) {ks : List Int} (hk : kindsGo vars (l.take i) [] = some ks) :
    kindsGo vars (l.take (i + 1)) [] = if kind1 vars l[i] ks = 0 then none else some (ks ++ [kind1 vars l[i] ks]) := by
  rw [List.take_succ_eq_append_getElem h, kindsGo_append, hk]
  rfl
theorem kindsGo_none {vars : Int} {l : List TermS} {i : Nat} (hk : kindsGo vars (l.take i) [] = none) : kindsGo vars l [] = none := by
  rw [← List.take_append_drop i l, kindsGo_append, hk]; rfl
theorem kindsGo_at {vars : Int} {l : List TermS} {ks : List Int} (h : kindsGo vars l [] = some ks) : ks.length = l.length ∧ ∀ i (hi : i < l.length) (hk : i < ks.length), kind1 vars l[i] (ks.take i) = ks[i] ∧ ks[i] ≠ 0 := by
  have hl := (kindsGo_len h).1
  simp at hl
  refine ⟨hl, fun i hi hk => ?_⟩
  have h1 : kindsGo vars (l.take (i + 1) ++ l.drop (i + 1)) [] = some ks := by rw [List.take_append_drop]; exact h
  rw [kindsGo_append] at h1
  cases h2 : kindsGo vars (l.take (i + 1)) [] with
  | none => rw [h2] at h1; cases h1
  | some ks1 =>
    rw [h2] at h1
    have h3 := kindsGo_len (show kindsGo vars (l.drop (i + 1)) ks1 = some ks from h1)
    have h4 := kindsGo_len h2
    simp at h4
    rw [List.take_succ_eq_append_getElem hi, kindsGo_append] at h2
    cases h5 : kindsGo vars (l.take i) [] with
    | none => rw [h5] at h2; cases h2
    | some ks0 =>
      rw [h5] at h2
      simp only [Option.bind_some, kindsGo] at h2
      split at h2
      · cases h2
      · rename_i h6
        cases h2
        have h7 := (kindsGo_len h5).1
        simp at h7
        have h8 : ks0.length = i := by omega
        have h9 : ks.take (i + 1) = ks0 ++ [kind1 vars l[i] ks0] := by
          have := h3.2
          rw [List.length_append] at this
          simpa [h8] using this
        have h10 : ks.take i = ks0 := by
          have := congrArg (List.take i) h9
          rw [List.take_take, Nat.min_eq_left (Nat.le_succ _)] at this
          rw [this, List.take_append_of_le_length (by omega), List.take_of_length_le (by omega)]
        have h11 : ks[i] = kind1 vars l[i] ks0 := by
          have : (ks.take (i + 1))[i]? = some ks[i] := by rw [List.getElem?_take]; simp [hk]
          rw [h9, List.getElem?_append_right (by omega)] at this
          simp [h8] at this
          exact this.symm
        rw [h10, h11]
        exact ⟨rfl, h6⟩
def heldF (n : Int) : Int := if 9999 < n then 9999 else if n < -9999 then -9999 else n
def do1 (op a b : Int) : Int :=
  if op = 2 then heldF (a + b) else if op = 3 then heldF (a - b) else if op = 4 then heldF (a * b) else
  if op = 5 then (if a < b then 1 else 0) else if op = 6 then (if a = b then 1 else 0) else if op = 7 then 1 - a else
  if op = 8 then min a b else max a b
def val1 (state : List Int) (t : TermS) (vs : List Int) : Int := if t.op = 0 then t.n else if t.op = 1 then ix state t.n else do1 t.op (ix vs t.a) (ix vs t.b)
def valsF (state : List Int) (l : List TermS) : List Int := l.foldl (fun vs t => vs ++ [val1 state t vs]) []
theorem valsF_snoc (state : List Int) (l : List TermS) (t : TermS) : valsF state (l ++ [t]) = valsF state l ++ [val1 state t (valsF state l)] := by
  simp [valsF, List.foldl_append]
theorem valsF_len (state : List Int) (l : List TermS) : (valsF state l).length = l.length := by
  have : ∀ (l : List TermS) (vs : List Int), (l.foldl (fun vs t => vs ++ [val1 state t vs]) vs).length = vs.length + l.length := by
    intro l
    induction l with
    | nil => intro vs; simp
    | cons t l ih => intro vs; simp only [List.foldl_cons, ih]; simp; omega
  simpa [valsF] using this l []
theorem valsF_take {state : List Int} {l : List TermS} {i : Nat} (h : i < l.length) : valsF state (l.take (i + 1)) = valsF state (l.take i) ++ [val1 state l[i] (valsF state (l.take i))] := by
  rw [List.take_succ_eq_append_getElem h, valsF_snoc]
def evalF (l : List TermS) (state : List Int) : Int := (valsF state l).getLastD 0
def stOk (state : List Int) : Prop := ∀ x ∈ state, -9999 ≤ x ∧ x ≤ 9999
theorem heldF_in (n : Int) : -9999 ≤ heldF n ∧ heldF n ≤ 9999 := by unfold heldF; split <;> (try split) <;> omega
theorem vals_ok {state : List Int} {vars : Int} (hs : stOk state) (hv : vars ≤ (state.length : Int)) : ∀ (n : Nat) {l : List TermS} {ks : List Int}, l.length = n → kindsGo vars l [] = some ks → ∀ i (hi : i < (valsF state l).length) (hk : i < ks.length),
    -9999 ≤ (valsF state l)[i] ∧ (valsF state l)[i] ≤ 9999 ∧ (ks[i] = 2 → 0 ≤ (valsF state l)[i] ∧ (valsF state l)[i] ≤ 1) := by
  intro n
  induction n with
  | zero => intro l ks hl hk i hi; rw [valsF_len] at hi; omega
  | succ n ih =>
    intro l ks hl hk i hi hik
    obtain ⟨l0, t, rfl⟩ : ∃ l0 t, l = l0 ++ [t] := by
      refine ⟨l.dropLast, l.getLast (by intro e; subst e; simp at hl), ?_⟩
      exact (List.dropLast_concat_getLast _).symm
    have hl0 : l0.length = n := by simp at hl; exact hl
    rw [kindsGo_append] at hk
    cases h0 : kindsGo vars l0 [] with
    | none => rw [h0] at hk; cases hk
    | some ks0 =>
      rw [h0] at hk
      simp only [Option.bind_some, kindsGo] at hk
      split at hk
      · cases hk
      · rename_i hne
        cases hk
        have hk0 := (kindsGo_len h0).1
        simp at hk0
        have hlen := valsF_len state l0
        have IH := ih hl0 h0
        have get : ∀ j (hj : j < l0.length), (valsF state (l0 ++ [t]))[j]'(by rw [valsF_len]; simp; omega) = (valsF state l0)[j]'(by omega) := by
          intro j hj
          simp only [valsF_snoc]
          rw [List.getElem_append_left]
        by_cases hi2 : i < l0.length
        · rw [get i hi2, List.getElem_append_left (by omega)]
          exact IH i (by omega) (by omega)
        · have hieq : i = l0.length := by rw [valsF_len] at hi; simp at hi; omega
          subst hieq
          have e1 : (valsF state (l0 ++ [t]))[l0.length]'hi = val1 state t (valsF state l0) := by
            simp only [valsF_snoc]
            rw [List.getElem_append_right (by omega)]
            simp [hlen]
          have e2 : (ks0 ++ [kind1 vars t ks0])[l0.length]'hik = kind1 vars t ks0 := by
            rw [List.getElem_append_right (by omega)]
            simp [hk0]
          rw [e1, e2]
          clear e1 e2 get
          unfold kind1 at hne ⊢
          unfold val1
          by_cases c0 : t.op = 0
          · rw [if_pos c0] at hne ⊢
            rw [if_pos c0]
            split at hne
            · rename_i hc; rw [if_pos hc]; exact ⟨hc.1, hc.2.1, fun h => by omega⟩
            · exact absurd rfl hne
          · rw [if_neg c0] at hne ⊢
            rw [if_neg c0]
            by_cases c1 : t.op = 1
            · rw [if_pos c1] at hne ⊢
              rw [if_pos c1]
              split at hne
              · rename_i hc; rw [if_pos hc]
                obtain ⟨hh, e⟩ := ix_eq (l := state) hc.1 (by omega)
                rw [e]
                have := hs _ (List.getElem_mem hh)
                exact ⟨this.1, this.2, fun h => by omega⟩
              · exact absurd rfl hne
            · rw [if_neg c1] at hne ⊢
              rw [if_neg c1]
              split at hne
              · rename_i hc
                rw [if_pos hc]
                obtain ⟨q1, q2, q3, q4, q5, q6, q7, q8⟩ := hc
                obtain ⟨ha, ea⟩ := ix_eq (l := valsF state l0) (i := t.a) q4.1 (by omega)
                obtain ⟨hb, eb⟩ := ix_eq (l := valsF state l0) (i := t.b) q5.1 (by omega)
                obtain ⟨ha', ea'⟩ := ix_eq (l := ks0) (i := t.a) q4.1 q4.2
                obtain ⟨hb', eb'⟩ := ix_eq (l := ks0) (i := t.b) q5.1 q5.2
                have A := IH t.a.toNat ha ha'
                have B := IH t.b.toNat hb hb'
                rw [← ea, ← ea'] at A
                rw [← eb, ← eb'] at B
                rw [q6] at A
                rw [q7] at B
                generalize ix (valsF state l0) t.a = x at *
                generalize ix (valsF state l0) t.b = y at *
                unfold do1
                by_cases d2 : t.op = 2
                · rw [if_pos d2]; have := heldF_in (x + y); refine ⟨this.1, this.2, fun h => ?_⟩; rw [if_neg (by omega)] at h; omega
                · rw [if_neg d2]
                  by_cases d3 : t.op = 3
                  · rw [if_pos d3]; have := heldF_in (x - y); refine ⟨this.1, this.2, fun h => ?_⟩; rw [if_neg (by omega)] at h; omega
                  · rw [if_neg d3]
                    by_cases d4 : t.op = 4
                    · rw [if_pos d4]; have := heldF_in (x * y); refine ⟨this.1, this.2, fun h => ?_⟩; rw [if_neg (by omega)] at h; omega
                    · rw [if_neg d4]
                      by_cases d5 : t.op = 5
                      · rw [if_pos d5]; split <;> omega
                      · rw [if_neg d5]
                        by_cases d6 : t.op = 6
                        · rw [if_pos d6]; split <;> omega
                        · rw [if_neg d6]
                          have h7 : (7 : Int) ≤ t.op := by omega
                          unfold wantK at A B
                          rw [if_pos h7] at A B
                          have A2 := A.2.2 rfl
                          have B2 := B.2.2 rfl
                          by_cases d7 : t.op = 7
                          · rw [if_pos d7]; omega
                          · rw [if_neg d7]; split <;> omega
              · exact absurd rfl hne
def kindIs (vars kind : Int) (ts : List TermS) : Bool := match kindsF vars ts with
  | some ks => ks.getLastD 0 == kind
  | none => false
theorem kindsF_some {vars : Int} {ts : List TermS} {ks : List Int} (h : kindsF vars ts = some ks) : 0 ≤ vars ∧ vars ≤ 5 ∧ 1 ≤ ts.length ∧ ts.length ≤ 40 ∧ kindsGo vars ts [] = some ks ∧ ks.length = ts.length := by
  unfold kindsF at h
  split at h
  · rename_i hc
    exact ⟨hc.1, hc.2.1, hc.2.2.1, hc.2.2.2, h, by have := (kindsGo_len h).1; simpa using this⟩
  · cases h
theorem getLastD_eq {l : List Int} (h : 0 < l.length) : l.getLastD 0 = l[l.length - 1]'(by omega) := by
  cases l with
  | nil => simp at h
  | cons a t =>
    rw [List.getLastD_eq_getLast?, List.getLast?_eq_getElem?]
    simp
def VarOk (v : VarS) : Prop := (-9999 ≤ v.low ∧ v.low ≤ 9999) ∧ (v.low ≤ v.high ∧ v.high ≤ 9999) ∧ v.high - v.low < 20 ∧ (v.low ≤ v.first ∧ v.first ≤ v.high)
instance (v : VarS) : Decidable (VarOk v) := by unfold VarOk; infer_instance
def SetsOk (vars : Int) (r : RuleS) : Prop := ∀ i (h : i < r.sets.length), (0 ≤ r.sets[i] ∧ r.sets[i] < vars) ∧ (∀ h0 : 0 < i, r.sets[i - 1]'(by omega) < r.sets[i]) ∧ (∀ h2 : i < r.terms.length, kindIs vars 1 r.terms[i] = true)
def RuleOk (vars : Int) (r : RuleS) : Prop := kindIs vars 2 r.when_ = true ∧ r.sets.length = r.terms.length ∧ SetsOk vars r
def sizeF (vs : List VarS) : Int := vs.foldl (fun n v => n * (v.high - v.low + 1)) 1
structure SysOk (s : SysS) : Prop where
  v1 : 1 ≤ s.vars.length
  v5 : s.vars.length ≤ 5
  r8 : s.rules.length ≤ 8
  vars : ∀ v ∈ s.vars, VarOk v
  rules : ∀ r ∈ s.rules, RuleOk (s.vars.length : Int) r
  size : sizeF s.vars ≤ 400
theorem sizeF_snoc (vs : List VarS) (v : VarS) : sizeF (vs ++ [v]) = sizeF vs * (v.high - v.low + 1) := by simp [sizeF, List.foldl_append]
theorem sizeF_bd : ∀ (n : Nat) (vs : List VarS), vs.length = n → (∀ v ∈ vs, VarOk v) → 1 ≤ sizeF vs ∧ sizeF vs ≤ 20 ^ vs.length := by
  intro n
  induction n with
  | zero => intro vs h _; have : vs = [] := List.eq_nil_of_length_eq_zero h; subst this; simp [sizeF]
  | succ n ih =>
    intro vs h hv
    obtain ⟨l0, t, rfl⟩ : ∃ l0 t, vs = l0 ++ [t] := ⟨vs.dropLast, vs.getLast (by intro e; subst e; simp at h), (List.dropLast_concat_getLast _).symm⟩
    have h0 := ih l0 (by simp at h; exact h) (fun v hv' => hv v (List.mem_append_left _ hv'))
    have ht := hv t (List.mem_append_right _ (List.mem_singleton.2 rfl))
    unfold VarOk at ht
    rw [sizeF_snoc, List.length_append, List.length_singleton, Int.pow_succ]
    generalize sizeF l0 = x at *
    generalize (20 : Int) ^ l0.length = y at *
    refine ⟨?_, ?_⟩
    · have : 1 * 1 ≤ x * (t.high - t.low + 1) := Int.mul_le_mul h0.1 (by omega) (by omega) (by omega)
      omega
    · exact Int.mul_le_mul h0.2 (by omega) (by omega) (by omega)
theorem sizeF_take {vs : List VarS} {i : Nat} (h : i < vs.length) : sizeF (vs.take (i + 1)) = sizeF (vs.take i) * (vs[i].high - vs[i].low + 1) := by
  rw [List.take_succ_eq_append_getElem h, sizeF_snoc]
theorem sizeF_take_bd {vs : List VarS} (h5 : vs.length ≤ 5) {i : Nat} (h : ∀ j (hj : j < vs.length), j < i → VarOk vs[j]) : 1 ≤ sizeF (vs.take i) ∧ sizeF (vs.take i) ≤ 3200000 := by
  have h1 := sizeF_bd _ (vs.take i) rfl (fun v hv => by
    obtain ⟨j, hj, rfl⟩ := List.getElem_of_mem hv
    simp at hj
    rw [List.getElem_take]
    exact h j (by omega) (by omega))
  refine ⟨h1.1, Int.le_trans h1.2 ?_⟩
  have h2 : (vs.take i).length ≤ 5 := by simp; omega
  have : ∀ m : Nat, m ≤ 5 → (20 : Int) ^ m ≤ 3200000 := by
    intro m hm
    match m, hm with
    | 0, _ => decide
    | 1, _ => decide
    | 2, _ => decide
    | 3, _ => decide
    | 4, _ => decide
    | 5, _ => decide
  exact this _ h2
end Go.M2

namespace Go.M2
def firstF (s : SysS) : List Int := s.vars.map (·.first)
def StIn (vars : List VarS) (st : List Int) : Prop := st.length = vars.length ∧ ∀ i (h : i < vars.length) (h2 : i < st.length), vars[i].low ≤ st[i] ∧ st[i] ≤ vars[i].high
noncomputable def inB (vars : List VarS) (st : List Int) : Bool := @decide (StIn vars st) (Classical.propDecidable _)
theorem inB_iff (vars : List VarS) (st : List Int) : inB vars st = true ↔ StIn vars st := by unfold inB; exact @decide_eq_true_iff _ (Classical.propDecidable _)
theorem inB_false (vars : List VarS) (st : List Int) : inB vars st = false ↔ ¬ StIn vars st := by
  rw [← inB_iff]; cases inB vars st <;> simp
theorem StIn.ok {s : SysS} (hs : SysOk s) {st : List Int} (h : StIn s.vars st) : stOk st := by
  intro x hx
  obtain ⟨i, hi, rfl⟩ := List.getElem_of_mem hx
  have h1 := h.2 i (by rw [← h.1]; exact hi) hi
  have h2 := hs.vars _ (List.getElem_mem (by rw [← h.1]; exact hi : i < s.vars.length))
  unfold VarOk at h2
  omega
def setsF (st : List Int) (terms : List (List TermS)) (sets : List Int) : Nat → List Int
  | 0 => st
  | n + 1 => (setsF st terms sets n).set (sets.getD n 0).toNat (evalF (terms.getD n []) st)
theorem setsF_len (st : List Int) (terms : List (List TermS)) (sets : List Int) : ∀ n, (setsF st terms sets n).length = st.length
  | 0 => rfl
  | n + 1 => by simp [setsF, setsF_len st terms sets n]
noncomputable def useR (vars : List VarS) (r : RuleS) (st : List Int) : Option (List Int) :=
  if evalF r.when_ st = 0 then none else if inB vars (setsF st r.terms r.sets r.sets.length) then some (setsF st r.terms r.sets r.sets.length) else none
theorem useR_in {vars : List VarS} {r : RuleS} {st out : List Int} (h : useR vars r st = some out) : StIn vars out := by
  unfold useR at h
  split at h
  · cases h
  · split at h
    · rename_i h2; cases h; exact (inB_iff _ _).1 h2
    · cases h
def lessF : List Int → List Int → Bool
  | [], [] => false
  | [], _ :: _ => true
  | _ :: _, [] => false
  | a :: s, b :: t => if a = b then lessF s t else decide (a < b)
def putF : List (List Int) → List Int → List (List Int)
  | [], x => [x]
  | y :: t, x => if y = x then y :: t else if lessF x y then x :: y :: t else y :: putF t x
noncomputable def nextGo (vars : List VarS) (st : List Int) : List RuleS → List (List Int) → List (List Int)
  | [], l => l
  | r :: t, l => nextGo vars st t (match useR vars r st with | some x => putF l x | none => l)
noncomputable def nextF (s : SysS) (st : List Int) : List (List Int) := nextGo s.vars st s.rules []
def span1 (v : VarS) : Int := v.high - v.low + 1
def numGo : List VarS → List Int → Int → Int
  | v :: vs, x :: xs, n => numGo vs xs (n * span1 v + x - v.low)
  | _, _, n => n
def numF (vars : List VarS) (st : List Int) : Int := numGo vars st 0
def qGo : List VarS → Int → Int
  | [], n => n
  | v :: vs, n => qGo vs n / span1 v
def stGo : List VarS → Int → List Int
  | [], _ => []
  | v :: vs, n => (v.low + qGo vs n % span1 v) :: stGo vs n
noncomputable def rowF (s : SysS) (n : Nat) : List Int := (nextF s (stGo s.vars n)).map (numF s.vars)
noncomputable def tabF (s : SysS) : List (List Int) := (List.range (sizeF s.vars).toNat).map (rowF s)
end Go.M2

namespace Go.M2
open Go.Proofs
variable {M : MH} {vs : List V} {RV : V → MH → Prop}
theorem mixed : Try.prog.follows .mixedOrders = true := by kernel_rfl
def n_spec_l40Open : Nat := 49
def n_spec_l40Rd_pick : Nat := 53
def n_spec_l40Rd_num : Nat := 52
def n_spec_l2VarOf : Nat := 141
def n_spec_l2Const : Nat := 89
def n_spec_l2Cond : Nat := 139
def n_spec_l1In : Nat := 44
def n_spec_l1One : Nat := 150
def n_spec_l1Kind : Nat := 136
def n_spec_KindsOf : Nat := 114
def n_spec_TermsValid : Nat := 152
def n_spec_l1Moved : Nat := 153
def n_spec_Joined : Nat := 140
def n_spec_l2When : Nat := 119
def n_spec_l1Number : Nat := 154
def n_spec_l1Pick : Nat := 155
def n_spec_l1Terms : Nat := 142
def n_spec_l2Value : Nat := 120
def n_spec_l2Rules : Nat := 108
def n_spec_l2System : Nat := 88
def n_spec_l2Any : Nat := 50
def n_spec_l2Some : Nat := 51
def n_spec_DrawUse : Nat := 18
def n_impl_in : Nat := 47
def n_slices_IndexFunc_Simpl_Var_impl_Var : Nat := 98
def n_slices_ContainsFunc_Simpl_Var_impl_Var : Nat := 71
def n_impl_varOk : Nat := 73
def n_impl_SystemValid_1 : Nat := 72
def n_impl_size : Nat := 43
def n_impl_parts : Nat := 135
def n_impl_kindsOf : Nat := 113
def n_impl_kindOf : Nat := 100
def n_impl_ruleOk : Nat := 76
def n_impl_SystemValid_2 : Nat := 75
def n_slices_IndexFunc_Simpl_Rule_impl_Rule : Nat := 99
def n_slices_ContainsFunc_Simpl_Rule_impl_Rule : Nat := 74
def n_impl_SystemValid : Nat := 27
def n_impl_inRange : Nat := 59
def n_impl_InRange : Nat := 22
def n_impl_held : Nat := 121
def n_impl_bit : Nat := 122
def n_impl_do : Nat := 109
def n_impl_eval : Nat := 90
def n_impl_clone_int : Nat := 57
def n_impl_use : Nat := 54
def n_impl_Use : Nat := 19
def n_spec_l2Var : Nat := 77
def n_spec_l2Is : Nat := 101
def n_spec_l2Rule : Nat := 78
def n_spec_SystemValid : Nat := 28
def n_spec_l2In : Nat := 64
def n_spec_InRange : Nat := 55
def n_spec_l1Held : Nat := 143
def n_spec_l1Truth : Nat := 144
def n_spec_l1Do : Nat := 123
def n_spec_l1Values : Nat := 110
def n_spec_l2Last : Nat := 91
def n_spec_l2Use : Nat := 56
def n_spec_Use : Nat := 20
def n_laws_wcInts : Nat := 9
def n_impl_usedBy : Nat := 92
def n_math_bits_Len32 : Nat := 133
def n_math_bits_Len64 : Nat := 134
def n_math_bits_Len : Nat := 112
def n_cmp_isNaN_int : Nat := 137
def n_cmp_Less_int : Nat := 130
def n_slices_insertionSortOrdered_int : Nat := 124
def n_slices_siftDownOrdered_int : Nat := 145
def n_slices_heapSortOrdered_int : Nat := 125
def n_slices_nextPowerOfTwo : Nat := 146
def n_slices_xorshift_Next : Nat := 147
def n_slices_breakPatternsOrdered_int : Nat := 126
def n_slices_order2Ordered_int : Nat := 156
def n_slices_medianOrdered_int : Nat := 149
def n_slices_medianAdjacentOrdered_int : Nat := 148
def n_slices_choosePivotOrdered_int : Nat := 127
def n_slices_reverseRangeOrdered_int : Nat := 128
def n_slices_partialInsertionSortOrdered_int : Nat := 129
def n_slices_partitionEqualOrdered_int : Nat := 131
def n_slices_partitionOrdered_int : Nat := 132
def n_slices_pdqsortOrdered_int : Nat := 111
def n_slices_Sort_Sint_int : Nat := 93
def n_slices_Compact_Sint_int : Nat := 94
def n_impl_touchedBy : Nat := 58
def n_impl_TouchedBy : Nat := 21
def n_laws_wcHas : Nat := 14
def n_impl_usableIn : Nat := 46
def n_impl_UsableIn : Nat := 23
def n_laws_FnUseSets : Nat := 4
@[go_sem] def l49_0 (_ : Unit) : KL := [kB 2 (.mv (.c (.ptr none))) [0]]
@[go_sem] def l49_1 (_ : Unit) : KL := [kA 3 (.mv (.t 0)),
  kA 4 (.len (.t 3)),
  kB 5 (.bin .gtr (.t 4) (.c (.int .i64 2000))) [0, 5]]
@[go_sem] def l49_2 (_ : Unit) : KL := [kA 6 (.mv (.t 0)),
  kA 7 (.slc 1 (.t 6) none (some (.c (.int .i64 2000))) none),
  kB 0 (.mv (.t 7)) [0]]
@[go_sem] def s49_3 (_ : Unit) : IR := (sQ [(kT l49_1), (.cond (.t 5) (kT l49_2) .skip)])
@[go_sem] def l49_4 (_ : Unit) : KL := [kA 8 (.mv (.t 0)),
  kA 9 (.bld [(.sl none 0 0 true 0), (.int .i64 0)] [(0, 1, (.t 8))]),
  kA 10 (.box (.t 9)),
  kB 2 (.mv (.t 10)) [2]]
@[go_sem] def s49_5 (_ : Unit) : IR := (sQ [(kT l49_0), (tH s49_3), (kT l49_4), .ret])
theorem c49 : compFn Try.prog [(0, [], [oS [0]]), (1, [], [oN, oN, oS [0, 5]]), (2, [], [oN, oN, oS [0]]), (3, [], [oN, oN, oN, oS [2]])] Try.f49 = some ⟨1, 11, [.t 2], (tH s49_5)⟩ := by kernel_rfl
theorem v_spec_l40Open (hl : vs.length = 1) (h : wpV Try.prog (tH s49_5) (postV [.t 2] RV) (envV vs) M) : VCall Try.prog n_spec_l40Open vs M RV :=
  vcall_of_wp (fun _ _ _ hl h => acall_of_wp mixed Try.func49 c49 (by kernel_rfl) hl h) hl h
@[go_sem] def l53_0 (_ : Unit) : KL := [kB 4 (.mv (cI 0)) [0, 1]]
@[go_sem] def l53_1 (_ : Unit) : KL := [kA 7 (.mv (.t 0)),
  kA 8 (.mv (.t 0)),
  kA 9 (.nilck (.t 8)),
  kA 10 (.faddr (.t 9) 1),
  kB 11 (.load (.t 10) 1 false) [0, 1, 7, 11],
  kA 12 (.bin .add (.t 11) (cI 1)),
  kA 13 (.nilck (.t 7)),
  kA 14 (.faddr (.t 13) 1),
  (⟨none, .store (.t 14) 1 (.t 12), none⟩, (some [0, 1]))]
@[go_sem] def l53_2 (_ : Unit) : KL := [kA 15 (.mv (.t 1)),
  kA 16 (.bin .lss (.t 15) (cI 1)),
  kA 17 (.mv (.t 16)),
  (⟨(some 18), .mv (.t 0), (some (17, false))⟩, none),
  (⟨(some 19), .nilck (.t 18), (some (17, false))⟩, (some [0, 1, 17, 19])),
  (⟨(some 20), .faddr (.t 19) 0, (some (17, false))⟩, none),
  (⟨(some 21), .load (.t 20) 1 false, (some (17, false))⟩, none),
  (⟨(some 22), .len (.t 21), (some (17, false))⟩, none),
  (⟨(some 23), .bin .eql (.t 22) (cI 0), (some (17, false))⟩, none),
  kB 24 (.pick (.t 17) (.c (.bool true)) (.t 23)) [0, 1, 24]]
@[go_sem] def l53_3 (_ : Unit) : KL := [kB 4 (.mv (cI 0)) [4]]
@[go_sem] def s53_4 (_ : Unit) : IR := (sQ [(kT l53_3), .ret])
@[go_sem] def s53_5 (_ : Unit) : IR := (sQ [(kT l53_2), (.cond (.t 24) (tH s53_4) .skip)])
@[go_sem] def l53_6 (_ : Unit) : KL := [kA 25 (.mv (.t 0)),
  kA 26 (.nilck (.t 25)),
  kA 27 (.faddr (.t 26) 1),
  kA 28 (.load (.t 27) 1 false),
  kB 29 (.bin .sub (.t 28) (cI 1)) [0, 1, 29],
  kB 5 (.mv (.t 29)) [0, 1, 5]]
@[go_sem] def l53_7 (_ : Unit) : KL := [kA 30 (.mv (.t 5)),
  kA 31 (.mv (.t 0)),
  kA 32 (.nilck (.t 31)),
  kA 33 (.faddr (.t 32) 0),
  kB 34 (.load (.t 33) 1 false) [0, 1, 5, 30, 34],
  kA 35 (.len (.t 34)),
  kB 36 (.bin .lss (.t 30) (.t 35)) [0, 1, 5, 36]]
@[go_sem] def l53_8 (_ : Unit) : KL := [kA 37 (.mv (.t 0)),
  kA 38 (.nilck (.t 37)),
  kA 39 (.faddr (.t 38) 0),
  kA 40 (.load (.t 39) 1 false),
  kB 41 (.mv (.t 5)) [1, 40, 41],
  kA 42 (.iaddr (.t 40) (.t 41) 1),
  kA 43 (.load (.t 42) 1 false),
  kA 44 (.cvi .i64 (.t 43)),
  kA 45 (.mv (.t 1)),
  kB 46 (.bin .rem (.t 44) (.t 45)) [46],
  kB 4 (.mv (.t 46)) [4]]
@[go_sem] def s53_9 (_ : Unit) : IR := (sQ [(kT l53_8), .ret])
@[go_sem] def s53_10 (_ : Unit) : IR := (sQ [(kT l53_7), (.cond (.t 36) (tH s53_9) .skip)])
@[go_sem] def l53_11 : Nat → GOp
  | 0 => ⟨(some 47), .mv (.t 0), none⟩
  | 1 => ⟨(some 48), .nilck (.t 47), none⟩
  | 2 => ⟨(some 49), .faddr (.t 48) 0, none⟩
  | 3 => ⟨(some 50), .load (.t 49) 1 false, none⟩
  | 4 => ⟨(some 51), .mv (.t 5), none⟩
  | 5 => ⟨(some 52), .mv (.t 0), none⟩
  | 6 => ⟨(some 53), .nilck (.t 52), none⟩
  | 7 => ⟨(some 54), .faddr (.t 53) 0, none⟩
  | 8 => ⟨(some 55), .load (.t 54) 1 false, none⟩
  | 9 => ⟨(some 56), .len (.t 55), none⟩
  | 10 => ⟨(some 57), .bin .rem (.t 51) (.t 56), none⟩
  | 11 => ⟨(some 58), .iaddr (.t 50) (.t 57) 1, none⟩
  | 12 => ⟨(some 59), .load (.t 58) 1 false, none⟩
  | 13 => ⟨(some 60), .cvi .i64 (.t 59), none⟩
  | 14 => ⟨(some 61), .bin .mul (.t 60) (.c (.int .i64 131)), none⟩
  | 15 => ⟨(some 62), .mv (.t 0), none⟩
  | 16 => ⟨(some 63), .nilck (.t 62), none⟩
  | 17 => ⟨(some 64), .faddr (.t 63) 0, none⟩
  | 18 => ⟨(some 65), .load (.t 64) 1 false, none⟩
  | 19 => ⟨(some 66), .mv (.t 5), none⟩
  | 20 => ⟨(some 67), .bin .mul (.t 66) (.c (.int .i64 7)), none⟩
  | 21 => ⟨(some 68), .bin .add (.t 67) (.c (.int .i64 3)), none⟩
  | 22 => ⟨(some 69), .mv (.t 0), none⟩
  | 23 => ⟨(some 70), .nilck (.t 69), none⟩
  | 24 => ⟨(some 71), .faddr (.t 70) 0, none⟩
  | 25 => ⟨(some 72), .load (.t 71) 1 false, none⟩
  | 26 => ⟨(some 73), .len (.t 72), none⟩
  | 27 => ⟨(some 74), .bin .rem (.t 68) (.t 73), none⟩
  | 28 => ⟨(some 75), .iaddr (.t 65) (.t 74) 1, none⟩
  | 29 => ⟨(some 76), .load (.t 75) 1 false, none⟩
  | 30 => ⟨(some 77), .cvi .i64 (.t 76), none⟩
  | 31 => ⟨(some 78), .bin .mul (.t 77) (.c (.int .i64 1117)), none⟩
  | 32 => ⟨(some 79), .bin .add (.t 61) (.t 78), none⟩
  | 33 => ⟨(some 80), .mv (.t 5), none⟩
  | 34 => ⟨(some 81), .bin .mul (.t 80) (.c (.int .i64 29)), none⟩
  | 35 => ⟨(some 82), .bin .add (.t 79) (.t 81), none⟩
  | 36 => ⟨(some 83), .mv (.t 5), none⟩
  | 37 => ⟨(some 84), .mv (.t 0), none⟩
  | 38 => ⟨(some 85), .nilck (.t 84), none⟩
  | 39 => ⟨(some 86), .faddr (.t 85) 0, none⟩
  | 40 => ⟨(some 87), .load (.t 86) 1 false, none⟩
  | 41 => ⟨(some 88), .len (.t 87), none⟩
  | 42 => ⟨(some 89), .bin .quo (.t 83) (.t 88), none⟩
  | 43 => ⟨(some 90), .bin .mul (.t 89) (.c (.int .i64 53)), none⟩
  | 44 => ⟨(some 91), .bin .add (.t 82) (.t 90), none⟩
  | 45 => ⟨(some 6), .mv (.t 91), none⟩
  | _ => ⟨none, .mkmap, none⟩
@[go_sem] def l53_12 (_ : Unit) : KL := [kA 92 (.mv (.t 6)),
  kA 93 (.mv (.t 6)),
  kA 94 (.bin .quo (.t 93) (.c (.int .i64 64))),
  kA 95 (.bin .xor (.t 92) (.t 94)),
  kB 6 (.mv (.t 95)) [1, 6]]
@[go_sem] def l53_13 (_ : Unit) : KL := [kA 96 (.mv (.t 6)),
  kA 97 (.mv (.t 1)),
  kA 98 (.bin .rem (.t 96) (.t 97)),
  kB 4 (.mv (.t 98)) [4]]
@[go_sem] def s53_14 (_ : Unit) : IR := (sQ [(kT l53_0), (kT l53_1), (tH s53_5), (kT l53_6), (tH s53_10), (.kd (oF l53_11 46) [(0, []), (1, []), (2, []), (3, []), (4, []), (5, []), (6, []), (7, []), (8, []), (9, []), (10, []), (11, []), (12, []), (13, []), (14, []), (15, []), (16, []), (17, []), (18, []), (19, []), (20, []), (21, []), (22, []), (23, []), (24, []), (25, []), (26, []), (27, []), (28, []), (29, []), (30, []), (31, []), (32, []), (33, []), (34, []), (35, []), (36, []), (37, []), (38, []), (39, []), (40, []), (41, []), (42, []), (43, []), (44, []), (45, [])] [1, 6]), (kT l53_12), (kT l53_13), .ret])
theorem c53 : compFn Try.prog [(0, [], [oS [0, 1]]), (1, [], [oN, oN, oN, oN, oS [0, 1, 7, 11], oN, oN, oN, oS [0, 1]]), (2, [], [oN, oN, oN, oN, oS [0, 1, 17, 19], oN, oN, oN, oN, oS [0, 1, 24]]), (3, [], [oS [4]]), (4, [], [oN, oN, oN, oN, oS [0, 1, 29], oS [0, 1, 5]]), (5, [], [oN, oN, oN, oN, oS [0, 1, 5, 30, 34], oN, oS [0, 1, 5, 36]]), (6, [], [oN, oN, oN, oN, oS [1, 40, 41], oN, oN, oN, oN, oS [46], oS [4]]), (7, [(0, []), (1, []), (2, []), (3, []), (4, []), (5, []), (6, []), (7, []), (8, []), (9, []), (10, []), (11, []), (12, []), (13, []), (14, []), (15, []), (16, []), (17, []), (18, []), (19, []), (20, []), (21, []), (22, []), (23, []), (24, []), (25, []), (26, []), (27, []), (28, []), (29, []), (30, []), (31, []), (32, []), (33, []), (34, []), (35, []), (36, []), (37, []), (38, []), (39, []), (40, []), (41, []), (42, []), (43, []), (44, []), (45, [])], [oS [1, 6]]), (8, [], [oN, oN, oN, oN, oS [1, 6]]), (9, [], [oN, oN, oN, oS [4]])] Try.f53 = some ⟨2, 99, [.t 4], (tH s53_14)⟩ := by kernel_rfl
theorem v_spec_l40Rd_pick (hl : vs.length = 2) (h : wpV Try.prog (tH s53_14) (postV [.t 4] RV) (envV vs) M) : VCall Try.prog n_spec_l40Rd_pick vs M RV :=
  vcall_of_wp (fun _ _ _ hl h => acall_of_wp mixed Try.func53 c53 (by kernel_rfl) hl h) hl h
@[go_sem] def l52_0 (_ : Unit) : KL := [kB 4 (.mv (cI 0)) [0, 1]]
@[go_sem] def l52_1 (_ : Unit) : KL := [kA 5 (.mv (.t 1)),
  kA 6 (.mv (.t 0)),
  kA 7 (.mv (.t 1)),
  kA 8 (.len (.t 7)),
  kB 9 (.call (n_spec_l40Rd_pick) [(.t 6), (.t 8)]) [5, 9],
  kA 10 (.iaddr (.t 5) (.t 9) 1),
  kA 11 (.load (.t 10) 1 false),
  kB 4 (.mv (.t 11)) [4]]
@[go_sem] def s52_2 (_ : Unit) : IR := (sQ [(kT l52_0), (kT l52_1), .ret])
theorem c52 : compFn Try.prog [(0, [], [oS [0, 1]]), (1, [], [oN, oN, oN, oN, oS [5, 9], oN, oN, oS [4]])] Try.f52 = some ⟨2, 12, [.t 4], (tH s52_2)⟩ := by kernel_rfl
theorem v_spec_l40Rd_num (hl : vs.length = 2) (h : wpV Try.prog (tH s52_2) (postV [.t 4] RV) (envV vs) M) : VCall Try.prog n_spec_l40Rd_num vs M RV :=
  vcall_of_wp (fun _ _ _ hl h => acall_of_wp mixed Try.func52 c52 (by kernel_rfl) hl h) hl h
@[go_sem] def l141_0 (_ : Unit) : KL := [kB 2 (.alloc [(.int .i64 0), (.int .i64 0), (.int .i64 0), (.int .i64 0)]) [0, 2]]
@[go_sem] def l141_1 (_ : Unit) : KL := [kA 3 (.mv (.t 0)),
  kA 4 (.bld [(.int .i64 0), (.int .i64 0), (.int .i64 0), (.int .i64 0)] [(0, 1, (cI 1)), (1, 1, (.t 3))]),
  (⟨none, .store (.t 2) 4 (.t 4), none⟩, (some [2]))]
@[go_sem] def s141_2 (_ : Unit) : IR := (sQ [(kT l141_0), (kT l141_1), .ret])
theorem c141 : compFn Try.prog [(0, [], [oS [0, 2]]), (1, [], [oN, oN, oS [2]])] Try.f141 = some ⟨1, 5, [.c 2 4 true], (tH s141_2)⟩ := by kernel_rfl
theorem v_spec_l2VarOf (hl : vs.length = 1) (h : wpV Try.prog (tH s141_2) (postV [.c 2 4 true] RV) (envV vs) M) : VCall Try.prog n_spec_l2VarOf vs M RV :=
  vcall_of_wp (fun _ _ _ hl h => acall_of_wp mixed Try.func141 c141 (by kernel_rfl) hl h) hl h
@[go_sem] def l89_0 (_ : Unit) : KL := [kB 2 (.alloc [(.int .i64 0), (.int .i64 0), (.int .i64 0), (.int .i64 0)]) [0, 2]]
@[go_sem] def l89_1 (_ : Unit) : KL := [kA 3 (.mv (.t 0)),
  kA 4 (.bld [(.int .i64 0), (.int .i64 0), (.int .i64 0), (.int .i64 0)] [(0, 1, (cI 0)), (1, 1, (.t 3))]),
  (⟨none, .store (.t 2) 4 (.t 4), none⟩, (some [2]))]
@[go_sem] def s89_2 (_ : Unit) : IR := (sQ [(kT l89_0), (kT l89_1), .ret])
theorem c89 : compFn Try.prog [(0, [], [oS [0, 2]]), (1, [], [oN, oN, oS [2]])] Try.f89 = some ⟨1, 5, [.c 2 4 true], (tH s89_2)⟩ := by kernel_rfl
theorem v_spec_l2Const (hl : vs.length = 1) (h : wpV Try.prog (tH s89_2) (postV [.c 2 4 true] RV) (envV vs) M) : VCall Try.prog n_spec_l2Const vs M RV :=
  vcall_of_wp (fun _ _ _ hl h => acall_of_wp mixed Try.func89 c89 (by kernel_rfl) hl h) hl h
@[go_sem] def l139_0 (_ : Unit) : KL := [kA 4 (.box (.t 1)),
  kB 6 (.mv (.c (.sl none 0 0 true 0))) [0, 2, 4]]
@[go_sem] def l139_1 : Nat → GOp
  | 0 => ⟨(some 10), .faddr (.t 4) 0, none⟩
  | 1 => ⟨(some 11), .load (.t 10) 1 false, none⟩
  | 2 => ⟨(some 12), .mv (.t 0), none⟩
  | 3 => ⟨(some 13), .faddr (.t 4) 1, none⟩
  | 4 => ⟨(some 14), .load (.t 13) 1 false, none⟩
  | 5 => ⟨(some 15), .faddr (.t 4) 0, none⟩
  | 6 => ⟨(some 16), .load (.t 15) 1 false, none⟩
  | 7 => ⟨(some 17), .bin .sub (.t 14) (.t 16), none⟩
  | 8 => ⟨(some 18), .bin .add (.t 17) (cI 1), none⟩
  | 9 => ⟨(some 19), .call (n_spec_l40Rd_pick) [(.t 12), (.t 18)], none⟩
  | 10 => ⟨(some 20), .bin .add (.t 11) (.t 19), none⟩
  | 11 => ⟨(some 7), .mv (.t 20), none⟩
  | _ => ⟨none, .mkmap, none⟩
@[go_sem] def l139_2 (_ : Unit) : KL := [kA 21 (.mv (.t 0)),
  kA 22 (.bslc 1 4 [(.int .i64 0)] [(0, (.c (.int .i64 6))), (1, (.c (.int .i64 5))), (2, (.c (.int .i64 5))), (3, (.c (.int .i64 6)))]),
  kA 23 (.call (n_spec_l40Rd_num) [(.t 21), (.t 22)]),
  kB 8 (.mv (.t 23)) [0, 2, 7, 8]]
@[go_sem] def l139_3 (_ : Unit) : KL := [kA 24 (.mv (.t 2)),
  kA 25 (.call (n_spec_l2VarOf) [(.t 24)]),
  kA 26 (.mv (.t 7)),
  kA 27 (.call (n_spec_l2Const) [(.t 26)]),
  kB 28 (.mv (.t 8)) [0, 25, 27, 28],
  kA 29 (.bld [(.int .i64 0), (.int .i64 0), (.int .i64 0), (.int .i64 0)] [(0, 1, (.t 28)), (2, 1, (cI 0)), (3, 1, (cI 1))]),
  kA 30 (.bslc 4 3 [(.int .i64 0), (.int .i64 0), (.int .i64 0), (.int .i64 0)] [(0, (.t 25)), (1, (.t 27)), (2, (.t 29))]),
  kB 9 (.mv (.t 30)) [0, 9]]
@[go_sem] def l139_4 (_ : Unit) : KL := [kA 31 (.mv (.t 0)),
  kA 32 (.call (n_spec_l40Rd_pick) [(.t 31), (.c (.int .i64 3))]),
  kB 33 (.bin .eql (.t 32) (cI 0)) [9, 33]]
@[go_sem] def l139_5 (_ : Unit) : KL := [kA 34 (.mv (.t 9)),
  kA 35 (.bld [(.int .i64 0), (.int .i64 0), (.int .i64 0), (.int .i64 0)] [(0, 1, (.c (.int .i64 7))), (2, 1, (.c (.int .i64 2))), (3, 1, (.c (.int .i64 2)))]),
  kA 36 (.bslc 4 1 [(.int .i64 0), (.int .i64 0), (.int .i64 0), (.int .i64 0)] [(0, (.t 35))]),
  kA 37 (.app 4 32 (.t 34) (.t 36)),
  kB 9 (.mv (.t 37)) [9]]
@[go_sem] def s139_6 (_ : Unit) : IR := (sQ [(kT l139_4), (.cond (.t 33) (kT l139_5) .skip)])
@[go_sem] def l139_7 (_ : Unit) : KL := [kA 38 (.mv (.t 9)),
  kB 6 (.mv (.t 38)) [6]]
@[go_sem] def s139_8 (_ : Unit) : IR := (sQ [(kT l139_0), (.kd (oF l139_1 12) [(0, []), (1, []), (2, []), (3, []), (4, []), (5, []), (6, []), (7, []), (8, []), (9, [1]), (10, []), (11, [])] [0, 2, 7]), (kT l139_2), (kT l139_3), (tH s139_6), (kT l139_7), .ret])
theorem c139 : compFn Try.prog [(0, [], [oN, oS [0, 2, 4]]), (1, [(0, []), (1, []), (2, []), (3, []), (4, []), (5, []), (6, []), (7, []), (8, []), (9, [1]), (10, []), (11, [])], [oS [0, 2, 7]]), (2, [], [oN, oN, oN, oS [0, 2, 7, 8]]), (3, [], [oN, oN, oN, oN, oS [0, 25, 27, 28], oN, oN, oS [0, 9]]), (4, [], [oN, oN, oS [9, 33]]), (5, [], [oN, oN, oN, oN, oS [9]]), (6, [], [oN, oS [6]])] Try.f139 = some ⟨3, 39, [.t 6], (tH s139_8)⟩ := by kernel_rfl
theorem v_spec_l2Cond (hl : vs.length = 3) (h : wpV Try.prog (tH s139_8) (postV [.t 6] RV) (envV vs) M) : VCall Try.prog n_spec_l2Cond vs M RV :=
  vcall_of_wp (fun _ _ _ hl h => acall_of_wp mixed Try.func139 c139 (by kernel_rfl) hl h) hl h
@[go_sem] def l44_0 (_ : Unit) : KL := [kB 6 (.mv (.c (.bool false))) [0, 1, 2]]
@[go_sem] def l44_1 (_ : Unit) : KL := [kA 7 (.mv (.t 0)),
  kA 8 (.mv (.t 1)),
  kA 9 (.bin .geq (.t 7) (.t 8)),
  kA 10 (.mv (.t 9)),
  (⟨(some 11), .mv (.t 0), (some (10, true))⟩, (some [2, 10, 11])),
  (⟨(some 12), .mv (.t 2), (some (10, true))⟩, none),
  (⟨(some 13), .bin .leq (.t 11) (.t 12), (some (10, true))⟩, none),
  kA 14 (.pick (.t 10) (.t 13) (.c (.bool false))),
  kB 6 (.mv (.t 14)) [6]]
@[go_sem] def s44_2 (_ : Unit) : IR := (sQ [(kT l44_0), (kT l44_1), .ret])
theorem c44 : compFn Try.prog [(0, [], [oS [0, 1, 2]]), (1, [], [oN, oN, oN, oN, oS [2, 10, 11], oN, oN, oN, oS [6]])] Try.f44 = some ⟨3, 15, [.t 6], (tH s44_2)⟩ := by kernel_rfl
theorem v_spec_l1In (hl : vs.length = 3) (h : wpV Try.prog (tH s44_2) (postV [.t 6] RV) (envV vs) M) : VCall Try.prog n_spec_l1In vs M RV :=
  vcall_of_wp (fun _ _ _ hl h => acall_of_wp mixed Try.func44 c44 (by kernel_rfl) hl h) hl h
@[go_sem] def l150_0 (_ : Unit) : KL := [kB 2 (.mv (.c (.bool false))) [0]]
@[go_sem] def l150_1 (_ : Unit) : KL := [kA 3 (.mv (.t 0)),
  kA 4 (.bin .eql (.t 3) (.c (.int .i64 7))),
  kB 2 (.mv (.t 4)) [2]]
@[go_sem] def s150_2 (_ : Unit) : IR := (sQ [(kT l150_0), (kT l150_1), .ret])
theorem c150 : compFn Try.prog [(0, [], [oS [0]]), (1, [], [oN, oN, oS [2]])] Try.f150 = some ⟨1, 5, [.t 2], (tH s150_2)⟩ := by kernel_rfl
theorem v_spec_l1One (hl : vs.length = 1) (h : wpV Try.prog (tH s150_2) (postV [.t 2] RV) (envV vs) M) : VCall Try.prog n_spec_l1One vs M RV :=
  vcall_of_wp (fun _ _ _ hl h => acall_of_wp mixed Try.func150 c150 (by kernel_rfl) hl h) hl h
@[go_sem] def l136_0 (_ : Unit) : KL := [kA 3 (.box (.t 0)),
  kB 6 (.mv (cI 0)) [1, 2, 3]]
@[go_sem] def l136_1 (_ : Unit) : KL := [kA 8 (.faddr (.t 3) 0),
  kA 9 (.load (.t 8) 1 false),
  kA 10 (.bin .eql (.t 9) (cI 0)),
  kA 11 (.mv (.t 10)),
  (⟨(some 12), .faddr (.t 3) 1, (some (11, true))⟩, (some [1, 2, 3, 11, 12])),
  (⟨(some 13), .load (.t 12) 1 false, (some (11, true))⟩, none),
  (⟨(some 14), .call (n_spec_l1In) [(.t 13), (.c (.int .i64 (-9999))), (.c (.int .i64 9999))], (some (11, true))⟩, none),
  kA 15 (.pick (.t 11) (.t 14) (.c (.bool false))),
  kA 16 (.mv (.t 15)),
  (⟨(some 17), .faddr (.t 3) 2, (some (16, true))⟩, (some [1, 2, 3, 16, 17])),
  (⟨(some 18), .load (.t 17) 1 false, (some (16, true))⟩, none),
  (⟨(some 19), .bin .eql (.t 18) (cI 0), (some (16, true))⟩, none),
  kA 20 (.pick (.t 16) (.t 19) (.c (.bool false))),
  kA 21 (.mv (.t 20)),
  (⟨(some 22), .faddr (.t 3) 3, (some (21, true))⟩, (some [1, 2, 3, 21, 22])),
  (⟨(some 23), .load (.t 22) 1 false, (some (21, true))⟩, none),
  (⟨(some 24), .bin .eql (.t 23) (cI 0), (some (21, true))⟩, none),
  kB 25 (.pick (.t 21) (.t 24) (.c (.bool false))) [1, 2, 3, 25]]
@[go_sem] def l136_2 (_ : Unit) : KL := [kB 6 (.mv (cI 1)) [6]]
@[go_sem] def s136_3 (_ : Unit) : IR := (sQ [(kT l136_2), .ret])
@[go_sem] def s136_4 (_ : Unit) : IR := (sQ [(kT l136_1), (.cond (.t 25) (tH s136_3) .skip)])
@[go_sem] def l136_5 (_ : Unit) : KL := [kA 26 (.faddr (.t 3) 0),
  kA 27 (.load (.t 26) 1 false),
  kA 28 (.bin .eql (.t 27) (cI 1)),
  kA 29 (.mv (.t 28)),
  (⟨(some 30), .faddr (.t 3) 1, (some (29, true))⟩, (some [1, 2, 3, 29, 30])),
  (⟨(some 31), .load (.t 30) 1 false, (some (29, true))⟩, none),
  (⟨(some 32), .mv (.t 2), (some (29, true))⟩, none),
  (⟨(some 33), .bin .sub (.t 32) (cI 1), (some (29, true))⟩, none),
  (⟨(some 34), .call (n_spec_l1In) [(.t 31), (cI 0), (.t 33)], (some (29, true))⟩, none),
  kB 35 (.pick (.t 29) (.t 34) (.c (.bool false))) [1, 3, 35],
  kA 36 (.mv (.t 35)),
  (⟨(some 37), .faddr (.t 3) 2, (some (36, true))⟩, none),
  (⟨(some 38), .load (.t 37) 1 false, (some (36, true))⟩, none),
  (⟨(some 39), .bin .eql (.t 38) (cI 0), (some (36, true))⟩, none),
  kB 40 (.pick (.t 36) (.t 39) (.c (.bool false))) [1, 3, 40],
  kA 41 (.mv (.t 40)),
  (⟨(some 42), .faddr (.t 3) 3, (some (41, true))⟩, none),
  (⟨(some 43), .load (.t 42) 1 false, (some (41, true))⟩, none),
  (⟨(some 44), .bin .eql (.t 43) (cI 0), (some (41, true))⟩, none),
  kB 45 (.pick (.t 41) (.t 44) (.c (.bool false))) [1, 3, 45]]
@[go_sem] def l136_6 (_ : Unit) : KL := [kB 6 (.mv (cI 1)) [6]]
@[go_sem] def s136_7 (_ : Unit) : IR := (sQ [(kT l136_6), .ret])
@[go_sem] def s136_8 (_ : Unit) : IR := (sQ [(kT l136_5), (.cond (.t 45) (tH s136_7) .skip)])
@[go_sem] def l136_9 (_ : Unit) : KL := [kA 46 (.faddr (.t 3) 0),
  kA 47 (.load (.t 46) 1 false),
  kA 48 (.call (n_spec_l1In) [(.t 47), (.c (.int .i64 2)), (.c (.int .i64 9))]),
  kA 49 (.un .not (.t 48)),
  kB 50 (.mv (.t 49)) [1, 3, 50],
  (⟨(some 51), .faddr (.t 3) 1, (some (50, false))⟩, none),
  (⟨(some 52), .load (.t 51) 1 false, (some (50, false))⟩, none),
  (⟨(some 53), .bin .neq (.t 52) (cI 0), (some (50, false))⟩, none),
  kA 54 (.pick (.t 50) (.c (.bool true)) (.t 53)),
  kB 55 (.mv (.t 54)) [1, 3, 55],
  (⟨(some 56), .faddr (.t 3) 2, (some (55, false))⟩, none),
  (⟨(some 57), .load (.t 56) 1 false, (some (55, false))⟩, none),
  (⟨(some 58), .mv (.t 1), (some (55, false))⟩, none),
  (⟨(some 59), .len (.t 58), (some (55, false))⟩, none),
  (⟨(some 60), .bin .sub (.t 59) (cI 1), (some (55, false))⟩, (some [1, 3, 55, 57, 60])),
  (⟨(some 61), .call (n_spec_l1In) [(.t 57), (cI 0), (.t 60)], (some (55, false))⟩, none),
  (⟨(some 62), .un .not (.t 61), (some (55, false))⟩, none),
  kA 63 (.pick (.t 55) (.c (.bool true)) (.t 62)),
  kA 64 (.mv (.t 63)),
  (⟨(some 65), .faddr (.t 3) 3, (some (64, false))⟩, (some [1, 3, 64, 65])),
  (⟨(some 66), .load (.t 65) 1 false, (some (64, false))⟩, none),
  (⟨(some 67), .mv (.t 1), (some (64, false))⟩, none),
  (⟨(some 68), .len (.t 67), (some (64, false))⟩, none),
  (⟨(some 69), .bin .sub (.t 68) (cI 1), (some (64, false))⟩, none),
  (⟨(some 70), .call (n_spec_l1In) [(.t 66), (cI 0), (.t 69)], (some (64, false))⟩, (some [1, 3, 64, 70])),
  (⟨(some 71), .un .not (.t 70), (some (64, false))⟩, none),
  kB 72 (.pick (.t 64) (.c (.bool true)) (.t 71)) [1, 3, 72]]
@[go_sem] def l136_10 (_ : Unit) : KL := [kB 6 (.mv (cI 0)) [6]]
@[go_sem] def s136_11 (_ : Unit) : IR := (sQ [(kT l136_10), .ret])
@[go_sem] def s136_12 (_ : Unit) : IR := (sQ [(kT l136_9), (.cond (.t 72) (tH s136_11) .skip)])
@[go_sem] def l136_13 (_ : Unit) : KL := [kB 7 (.mv (cI 1)) [1, 3, 7]]
@[go_sem] def l136_14 (_ : Unit) : KL := [kA 73 (.faddr (.t 3) 0),
  kA 74 (.load (.t 73) 1 false),
  kB 75 (.bin .geq (.t 74) (.c (.int .i64 7))) [1, 3, 7, 75]]
@[go_sem] def l136_15 (_ : Unit) : KL := [kB 7 (.mv (.c (.int .i64 2))) [1, 3, 7]]
@[go_sem] def s136_16 (_ : Unit) : IR := (sQ [(kT l136_14), (.cond (.t 75) (kT l136_15) .skip)])
@[go_sem] def l136_17 (_ : Unit) : KL := [kA 76 (.mv (.t 1)),
  kA 77 (.faddr (.t 3) 2),
  kA 78 (.load (.t 77) 1 false),
  kA 79 (.iaddr (.t 76) (.t 78) 1),
  kB 80 (.load (.t 79) 1 false) [1, 3, 7, 80],
  kA 81 (.mv (.t 7)),
  kA 82 (.bin .neq (.t 80) (.t 81)),
  kA 83 (.mv (.t 82)),
  (⟨(some 84), .mv (.t 1), (some (83, false))⟩, none),
  (⟨(some 85), .faddr (.t 3) 3, (some (83, false))⟩, (some [3, 7, 83, 84, 85])),
  (⟨(some 86), .load (.t 85) 1 false, (some (83, false))⟩, none),
  (⟨(some 87), .iaddr (.t 84) (.t 86) 1, (some (83, false))⟩, none),
  (⟨(some 88), .load (.t 87) 1 false, (some (83, false))⟩, none),
  (⟨(some 89), .mv (.t 7), (some (83, false))⟩, none),
  (⟨(some 90), .bin .neq (.t 88) (.t 89), (some (83, false))⟩, (some [3, 83, 90])),
  kA 91 (.pick (.t 83) (.c (.bool true)) (.t 90)),
  kA 92 (.mv (.t 91)),
  (⟨(some 93), .faddr (.t 3) 0, (some (92, false))⟩, none),
  (⟨(some 94), .load (.t 93) 1 false, (some (92, false))⟩, none),
  (⟨(some 95), .call (n_spec_l1One) [(.t 94)], (some (92, false))⟩, (some [3, 92, 95])),
  (⟨(some 96), .mv (.t 95), (some (92, false))⟩, none),
  (⟨(some 97), .faddr (.t 3) 3, (some (96, true))⟩, none),
  (⟨(some 98), .load (.t 97) 1 false, (some (96, true))⟩, none),
  (⟨(some 99), .faddr (.t 3) 2, (some (96, true))⟩, none),
  (⟨(some 100), .load (.t 99) 1 false, (some (96, true))⟩, (some [3, 92, 96, 98, 100])),
  (⟨(some 101), .bin .neq (.t 98) (.t 100), (some (96, true))⟩, none),
  (⟨(some 102), .pick (.t 96) (.t 101) (.c (.bool false)), (some (92, false))⟩, none),
  kB 103 (.pick (.t 92) (.c (.bool true)) (.t 102)) [3, 103]]
@[go_sem] def l136_18 (_ : Unit) : KL := [kB 6 (.mv (cI 0)) [6]]
@[go_sem] def s136_19 (_ : Unit) : IR := (sQ [(kT l136_18), .ret])
@[go_sem] def s136_20 (_ : Unit) : IR := (sQ [(kT l136_17), (.cond (.t 103) (tH s136_19) .skip)])
@[go_sem] def l136_21 (_ : Unit) : KL := [kA 104 (.faddr (.t 3) 0),
  kA 105 (.load (.t 104) 1 false),
  kB 106 (.bin .geq (.t 105) (.c (.int .i64 5))) [106]]
@[go_sem] def l136_22 (_ : Unit) : KL := [kB 6 (.mv (.c (.int .i64 2))) [6]]
@[go_sem] def s136_23 (_ : Unit) : IR := (sQ [(kT l136_22), .ret])
@[go_sem] def s136_24 (_ : Unit) : IR := (sQ [(kT l136_21), (.cond (.t 106) (tH s136_23) .skip)])
@[go_sem] def l136_25 (_ : Unit) : KL := [kB 6 (.mv (cI 1)) [6]]
@[go_sem] def s136_26 (_ : Unit) : IR := (sQ [(kT l136_0), (tH s136_4), (tH s136_8), (tH s136_12), (kT l136_13), (tH s136_16), (tH s136_20), (tH s136_24), (kT l136_25), .ret])
theorem c136 : compFn Try.prog [(0, [], [oN, oS [1, 2, 3]]), (1, [], [oN, oN, oN, oN, oS [1, 2, 3, 11, 12], oN, oN, oN, oN, oS [1, 2, 3, 16, 17], oN, oN, oN, oN, oS [1, 2, 3, 21, 22], oN, oN, oS [1, 2, 3, 25]]), (2, [], [oS [6]]), (3, [], [oN, oN, oN, oN, oS [1, 2, 3, 29, 30], oN, oN, oN, oN, oS [1, 3, 35], oN, oN, oN, oN, oS [1, 3, 40], oN, oN, oN, oN, oS [1, 3, 45]]), (4, [], [oS [6]]), (5, [], [oN, oN, oN, oN, oS [1, 3, 50], oN, oN, oN, oN, oS [1, 3, 55], oN, oN, oN, oN, oS [1, 3, 55, 57, 60], oN, oN, oN, oN, oS [1, 3, 64, 65], oN, oN, oN, oN, oS [1, 3, 64, 70], oN, oS [1, 3, 72]]), (6, [], [oS [6]]), (7, [], [oS [1, 3, 7]]), (8, [], [oN, oN, oS [1, 3, 7, 75]]), (9, [], [oS [1, 3, 7]]), (10, [], [oN, oN, oN, oN, oS [1, 3, 7, 80], oN, oN, oN, oN, oS [3, 7, 83, 84, 85], oN, oN, oN, oN, oS [3, 83, 90], oN, oN, oN, oN, oS [3, 92, 95], oN, oN, oN, oN, oS [3, 92, 96, 98, 100], oN, oN, oS [3, 103]]), (11, [], [oS [6]]), (12, [], [oN, oN, oS [106]]), (13, [], [oS [6]]), (14, [], [oS [6]])] Try.f136 = some ⟨3, 107, [.t 6], (tH s136_26)⟩ := by kernel_rfl
theorem v_spec_l1Kind (hl : vs.length = 3) (h : wpV Try.prog (tH s136_26) (postV [.t 6] RV) (envV vs) M) : VCall Try.prog n_spec_l1Kind vs M RV :=
  vcall_of_wp (fun _ _ _ hl h => acall_of_wp mixed Try.func136 c136 (by kernel_rfl) hl h) hl h
@[go_sem] def l114_0 (_ : Unit) : KL := [kB 4 (.mv (.c (.sl none 0 0 true 0))) [0, 1]]
@[go_sem] def l114_1 (_ : Unit) : KL := [kA 8 (.mv (.t 1)),
  kA 9 (.call (n_spec_l1In) [(.t 8), (cI 0), (.c (.int .i64 5))]),
  kA 10 (.un .not (.t 9)),
  kA 11 (.mv (.t 10)),
  (⟨(some 12), .mv (.t 0), (some (11, false))⟩, (some [0, 1, 11, 12])),
  (⟨(some 13), .len (.t 12), (some (11, false))⟩, none),
  (⟨(some 14), .call (n_spec_l1In) [(.t 13), (cI 1), (.c (.int .i64 40))], (some (11, false))⟩, none),
  (⟨(some 15), .un .not (.t 14), (some (11, false))⟩, none),
  kB 16 (.pick (.t 11) (.c (.bool true)) (.t 15)) [0, 1, 16]]
@[go_sem] def l114_2 (_ : Unit) : KL := [kB 4 (.mv (.c (.sl none 0 0 true 0))) [4]]
@[go_sem] def s114_3 (_ : Unit) : IR := (sQ [(kT l114_2), .ret])
@[go_sem] def s114_4 (_ : Unit) : IR := (sQ [(kT l114_1), (.cond (.t 16) (tH s114_3) .skip)])
@[go_sem] def l114_5 (_ : Unit) : KL := [kA 17 (.bslc 1 0 [(.int .i64 0)] []),
  kB 5 (.mv (.t 17)) [0, 1, 5]]
@[go_sem] def l114_6 (_ : Unit) : KL := [kB 6 (.mv (cI 0)) [0, 1, 5, 6]]
@[go_sem] def l114_7 (_ : Unit) : KL := [kA 18 (.mv (.t 6)),
  kA 19 (.mv (.t 0)),
  kA 20 (.len (.t 19)),
  kB 21 (.bin .lss (.t 18) (.t 20)) [0, 1, 5, 6, 21]]
@[go_sem] def s114_8 (_ : Unit) : IR := (sQ [(kT l114_7), (.cond (.t 21) .skip (.exit 0))])
@[go_sem] def l114_9 (_ : Unit) : KL := [kA 24 (.mv (.t 0)),
  kA 25 (.mv (.t 6)),
  kA 26 (.iaddr (.t 24) (.t 25) 4),
  kA 27 (.load (.t 26) 4 true),
  kB 28 (.mv (.t 5)) [0, 1, 5, 6, 27, 28],
  kA 29 (.mv (.t 1)),
  kA 30 (.call (n_spec_l1Kind) [(.t 27), (.t 28), (.t 29)]),
  kB 7 (.mv (.t 30)) [0, 1, 5, 6, 7]]
@[go_sem] def l114_10 (_ : Unit) : KL := [kA 31 (.mv (.t 7)),
  kB 32 (.bin .eql (.t 31) (cI 0)) [0, 1, 5, 6, 7, 32]]
@[go_sem] def l114_11 (_ : Unit) : KL := [kB 4 (.mv (.c (.sl none 0 0 true 0))) [4]]
@[go_sem] def s114_12 (_ : Unit) : IR := (sQ [(kT l114_11), .ret])
@[go_sem] def s114_13 (_ : Unit) : IR := (sQ [(kT l114_10), (.cond (.t 32) (tH s114_12) .skip)])
@[go_sem] def l114_14 (_ : Unit) : KL := [kA 33 (.mv (.t 5)),
  kA 34 (.mv (.t 7)),
  kA 35 (.bslc 1 1 [(.int .i64 0)] [(0, (.t 34))]),
  kA 36 (.app 1 8 (.t 33) (.t 35)),
  kB 5 (.mv (.t 36)) [0, 1, 5, 6]]
@[go_sem] def s114_15 (_ : Unit) : IR := (sQ [(kT l114_9), (tH s114_13), (kT l114_14)])
@[go_sem] def s114_16 (_ : Unit) : IR := (.block 1 (tH s114_15))
@[go_sem] def l114_17 (_ : Unit) : KL := [kA 22 (.mv (.t 6)),
  kA 23 (.bin .add (.t 22) (cI 1)),
  kB 6 (.mv (.t 23)) [0, 1, 5, 6]]
@[go_sem] def s114_18 (_ : Unit) : IR := (sQ [(tH s114_8), (tH s114_16), (kT l114_17)])
@[go_sem] def s114_19 (_ : Unit) : IR := (.loop (tH s114_18))
@[go_sem] def s114_20 (_ : Unit) : IR := (.block 0 (tH s114_19))
@[go_sem] def s114_21 (_ : Unit) : IR := (sQ [(kT l114_6), (tH s114_20)])
@[go_sem] def l114_22 (_ : Unit) : KL := [kA 37 (.mv (.t 5)),
  kB 4 (.mv (.t 37)) [4]]
@[go_sem] def s114_23 (_ : Unit) : IR := (sQ [(kT l114_0), (tH s114_4), (kT l114_5), (tH s114_21), (kT l114_22), .ret])
theorem c114 : compFn Try.prog [(0, [], [oS [0, 1]]), (1, [], [oN, oN, oN, oN, oS [0, 1, 11, 12], oN, oN, oN, oS [0, 1, 16]]), (2, [], [oS [4]]), (3, [], [oN, oS [0, 1, 5]]), (4, [], [oS [0, 1, 5, 6]]), (5, [], [oN, oN, oN, oS [0, 1, 5, 6, 21]]), (7, [], [oN, oN, oN, oN, oS [0, 1, 5, 6, 27, 28], oN, oN, oS [0, 1, 5, 6, 7]]), (8, [], [oN, oS [0, 1, 5, 6, 7, 32]]), (9, [], [oS [4]]), (10, [], [oN, oN, oN, oN, oS [0, 1, 5, 6]]), (6, [], [oN, oN, oS [0, 1, 5, 6]]), (11, [], [oN, oS [4]])] Try.f114 = some ⟨2, 38, [.t 4], (tH s114_23)⟩ := by kernel_rfl
theorem v_spec_KindsOf (hl : vs.length = 2) (h : wpV Try.prog (tH s114_23) (postV [.t 4] RV) (envV vs) M) : VCall Try.prog n_spec_KindsOf vs M RV :=
  vcall_of_wp (fun _ _ _ hl h => acall_of_wp mixed Try.func114 c114 (by kernel_rfl) hl h) hl h
@[go_sem] def l152_0 (_ : Unit) : KL := [kB 4 (.mv (.c (.bool false))) [0, 1]]
@[go_sem] def l152_1 (_ : Unit) : KL := [kA 5 (.mv (.t 0)),
  kA 6 (.mv (.t 1)),
  kA 7 (.call (n_spec_KindsOf) [(.t 5), (.t 6)]),
  kA 8 (.len (.t 7)),
  kB 9 (.bin .gtr (.t 8) (cI 0)) [9],
  kB 4 (.mv (.t 9)) [4]]
@[go_sem] def s152_2 (_ : Unit) : IR := (sQ [(kT l152_0), (kT l152_1), .ret])
theorem c152 : compFn Try.prog [(0, [], [oS [0, 1]]), (1, [], [oN, oN, oN, oN, oS [9], oS [4]])] Try.f152 = some ⟨2, 10, [.t 4], (tH s152_2)⟩ := by kernel_rfl
theorem v_spec_TermsValid (hl : vs.length = 2) (h : wpV Try.prog (tH s152_2) (postV [.t 4] RV) (envV vs) M) : VCall Try.prog n_spec_TermsValid vs M RV :=
  vcall_of_wp (fun _ _ _ hl h => acall_of_wp mixed Try.func152 c152 (by kernel_rfl) hl h) hl h
@[go_sem] def l153_0 (_ : Unit) : KL := [kA 2 (.box (.t 0)),
  kB 4 (.alloc [(.int .i64 0), (.int .i64 0), (.int .i64 0), (.int .i64 0)]) [1, 2, 4]]
@[go_sem] def l153_1 (_ : Unit) : KL := [kA 5 (.faddr (.t 2) 0),
  kA 6 (.load (.t 5) 1 false),
  kB 7 (.bin .geq (.t 6) (.c (.int .i64 2))) [1, 2, 4, 7]]
@[go_sem] def l153_2 (_ : Unit) : KL := [kA 8 (.faddr (.t 2) 0),
  kA 9 (.load (.t 8) 1 false),
  kA 10 (.faddr (.t 2) 2),
  kA 11 (.load (.t 10) 1 false),
  kB 12 (.mv (.t 1)) [1, 2, 4, 9, 11, 12],
  kA 13 (.bin .add (.t 11) (.t 12)),
  kA 14 (.faddr (.t 2) 3),
  kA 15 (.load (.t 14) 1 false),
  kA 16 (.mv (.t 1)),
  kB 17 (.bin .add (.t 15) (.t 16)) [4, 9, 13, 17],
  kA 18 (.bld [(.int .i64 0), (.int .i64 0), (.int .i64 0), (.int .i64 0)] [(0, 1, (.t 9)), (2, 1, (.t 13)), (3, 1, (.t 17))]),
  (⟨none, .store (.t 4) 4 (.t 18), none⟩, (some [4]))]
@[go_sem] def s153_3 (_ : Unit) : IR := (sQ [(kT l153_2), .ret])
@[go_sem] def s153_4 (_ : Unit) : IR := (sQ [(kT l153_1), (.cond (.t 7) (tH s153_3) .skip)])
@[go_sem] def l153_5 (_ : Unit) : KL := [kA 19 (.load (.t 2) 4 true),
  (⟨none, .store (.t 4) 4 (.t 19), none⟩, (some [4]))]
@[go_sem] def s153_6 (_ : Unit) : IR := (sQ [(kT l153_0), (tH s153_4), (kT l153_5), .ret])
theorem c153 : compFn Try.prog [(0, [], [oN, oS [1, 2, 4]]), (1, [], [oN, oN, oS [1, 2, 4, 7]]), (2, [], [oN, oN, oN, oN, oS [1, 2, 4, 9, 11, 12], oN, oN, oN, oN, oS [4, 9, 13, 17], oN, oS [4]]), (3, [], [oN, oS [4]])] Try.f153 = some ⟨2, 20, [.c 4 4 true], (tH s153_6)⟩ := by kernel_rfl
theorem v_spec_l1Moved (hl : vs.length = 2) (h : wpV Try.prog (tH s153_6) (postV [.c 4 4 true] RV) (envV vs) M) : VCall Try.prog n_spec_l1Moved vs M RV :=
  vcall_of_wp (fun _ _ _ hl h => acall_of_wp mixed Try.func153 c153 (by kernel_rfl) hl h) hl h
@[go_sem] def l140_0 (_ : Unit) : KL := [kB 8 (.mv (.c (.sl none 0 0 true 0))) [0, 1, 2, 3]]
@[go_sem] def l140_1 (_ : Unit) : KL := [kA 12 (.mv (.t 1)),
  kA 13 (.mv (.t 3)),
  kA 14 (.call (n_spec_TermsValid) [(.t 12), (.t 13)]),
  kA 15 (.un .not (.t 14)),
  kB 16 (.mv (.t 15)) [0, 1, 2, 3, 16],
  (⟨(some 17), .mv (.t 2), (some (16, false))⟩, none),
  (⟨(some 18), .mv (.t 3), (some (16, false))⟩, none),
  (⟨(some 19), .call (n_spec_TermsValid) [(.t 17), (.t 18)], (some (16, false))⟩, none),
  (⟨(some 20), .un .not (.t 19), (some (16, false))⟩, none),
  kB 21 (.pick (.t 16) (.c (.bool true)) (.t 20)) [0, 1, 2, 3, 21]]
@[go_sem] def l140_2 (_ : Unit) : KL := [kB 8 (.mv (.c (.sl none 0 0 true 0))) [8]]
@[go_sem] def s140_3 (_ : Unit) : IR := (sQ [(kT l140_2), .ret])
@[go_sem] def s140_4 (_ : Unit) : IR := (sQ [(kT l140_1), (.cond (.t 21) (tH s140_3) .skip)])
@[go_sem] def l140_5 (_ : Unit) : KL := [kA 22 (.bslc 4 0 [(.int .i64 0), (.int .i64 0), (.int .i64 0), (.int .i64 0)] []),
  kB 9 (.mv (.t 22)) [0, 1, 2, 3, 9]]
@[go_sem] def l140_6 (_ : Unit) : KL := [kB 10 (.mv (cI 0)) [0, 1, 2, 3, 9, 10]]
@[go_sem] def l140_7 (_ : Unit) : KL := [kA 23 (.mv (.t 10)),
  kA 24 (.mv (.t 1)),
  kA 25 (.len (.t 24)),
  kB 26 (.bin .lss (.t 23) (.t 25)) [0, 1, 2, 3, 9, 10, 26]]
@[go_sem] def s140_8 (_ : Unit) : IR := (sQ [(kT l140_7), (.cond (.t 26) .skip (.exit 0))])
@[go_sem] def l140_9 (_ : Unit) : KL := [kA 29 (.mv (.t 9)),
  kA 30 (.mv (.t 1)),
  kA 31 (.mv (.t 10)),
  kA 32 (.iaddr (.t 30) (.t 31) 4),
  kB 33 (.load (.t 32) 4 true) [0, 1, 2, 3, 10, 29, 33],
  kA 34 (.bslc 4 1 [(.int .i64 0), (.int .i64 0), (.int .i64 0), (.int .i64 0)] [(0, (.t 33))]),
  kA 35 (.app 4 32 (.t 29) (.t 34)),
  kB 9 (.mv (.t 35)) [0, 1, 2, 3, 9, 10]]
@[go_sem] def s140_10 (_ : Unit) : IR := (.block 1 (kT l140_9))
@[go_sem] def l140_11 (_ : Unit) : KL := [kA 27 (.mv (.t 10)),
  kA 28 (.bin .add (.t 27) (cI 1)),
  kB 10 (.mv (.t 28)) [0, 1, 2, 3, 9, 10]]
@[go_sem] def s140_12 (_ : Unit) : IR := (sQ [(tH s140_8), (tH s140_10), (kT l140_11)])
@[go_sem] def s140_13 (_ : Unit) : IR := (.loop (tH s140_12))
@[go_sem] def s140_14 (_ : Unit) : IR := (.block 0 (tH s140_13))
@[go_sem] def s140_15 (_ : Unit) : IR := (sQ [(kT l140_6), (tH s140_14)])
@[go_sem] def l140_16 (_ : Unit) : KL := [kB 11 (.mv (cI 0)) [0, 1, 2, 3, 9, 11]]
@[go_sem] def l140_17 (_ : Unit) : KL := [kA 36 (.mv (.t 11)),
  kA 37 (.mv (.t 2)),
  kA 38 (.len (.t 37)),
  kA 39 (.bin .lss (.t 36) (.t 38)),
  kB 40 (.mv (.t 39)) [0, 1, 2, 3, 9, 11, 40],
  (⟨(some 41), .mv (.t 0), (some (40, true))⟩, none),
  (⟨(some 42), .call (n_spec_l1One) [(.t 41)], (some (40, true))⟩, none),
  (⟨(some 43), .un .not (.t 42), (some (40, true))⟩, none),
  kB 44 (.pick (.t 40) (.t 43) (.c (.bool false))) [0, 1, 2, 3, 9, 11, 44]]
@[go_sem] def s140_18 (_ : Unit) : IR := (sQ [(kT l140_17), (.cond (.t 44) .skip (.exit 2))])
@[go_sem] def l140_19 (_ : Unit) : KL := [kA 47 (.mv (.t 9)),
  kA 48 (.mv (.t 2)),
  kA 49 (.mv (.t 11)),
  kA 50 (.iaddr (.t 48) (.t 49) 4),
  kB 51 (.load (.t 50) 4 true) [0, 1, 2, 3, 11, 47, 51],
  kA 52 (.mv (.t 1)),
  kA 53 (.len (.t 52)),
  kA 54 (.call (n_spec_l1Moved) [(.t 51), (.t 53)]),
  kA 55 (.bslc 4 1 [(.int .i64 0), (.int .i64 0), (.int .i64 0), (.int .i64 0)] [(0, (.t 54))]),
  kB 56 (.app 4 32 (.t 47) (.t 55)) [0, 1, 2, 3, 11, 56],
  kB 9 (.mv (.t 56)) [0, 1, 2, 3, 9, 11]]
@[go_sem] def s140_20 (_ : Unit) : IR := (.block 3 (kT l140_19))
@[go_sem] def l140_21 (_ : Unit) : KL := [kA 45 (.mv (.t 11)),
  kA 46 (.bin .add (.t 45) (cI 1)),
  kB 11 (.mv (.t 46)) [0, 1, 2, 3, 9, 11]]
@[go_sem] def s140_22 (_ : Unit) : IR := (sQ [(tH s140_18), (tH s140_20), (kT l140_21)])
@[go_sem] def s140_23 (_ : Unit) : IR := (.loop (tH s140_22))
@[go_sem] def s140_24 (_ : Unit) : IR := (.block 2 (tH s140_23))
@[go_sem] def s140_25 (_ : Unit) : IR := (sQ [(kT l140_16), (tH s140_24)])
@[go_sem] def l140_26 (_ : Unit) : KL := [kA 57 (.mv (.t 9)),
  kA 58 (.mv (.t 0)),
  kA 59 (.mv (.t 1)),
  kA 60 (.len (.t 59)),
  kB 61 (.bin .sub (.t 60) (cI 1)) [0, 3, 9, 57, 58, 61],
  kA 62 (.mv (.t 9)),
  kA 63 (.len (.t 62)),
  kA 64 (.bin .sub (.t 63) (cI 1)),
  kA 65 (.bld [(.int .i64 0), (.int .i64 0), (.int .i64 0), (.int .i64 0)] [(0, 1, (.t 58)), (2, 1, (.t 61)), (3, 1, (.t 64))]),
  kB 66 (.bslc 4 1 [(.int .i64 0), (.int .i64 0), (.int .i64 0), (.int .i64 0)] [(0, (.t 65))]) [0, 3, 57, 66],
  kA 67 (.app 4 32 (.t 57) (.t 66)),
  kB 9 (.mv (.t 67)) [0, 3, 9]]
@[go_sem] def l140_27 (_ : Unit) : KL := [kA 68 (.mv (.t 0)),
  kA 69 (.bin .lss (.t 68) (.c (.int .i64 2))),
  kA 70 (.mv (.t 69)),
  (⟨(some 71), .mv (.t 9), (some (70, false))⟩, none),
  (⟨(some 72), .mv (.t 3), (some (70, false))⟩, (some [9, 70, 71, 72])),
  (⟨(some 73), .call (n_spec_TermsValid) [(.t 71), (.t 72)], (some (70, false))⟩, none),
  (⟨(some 74), .un .not (.t 73), (some (70, false))⟩, none),
  kB 75 (.pick (.t 70) (.c (.bool true)) (.t 74)) [9, 75]]
@[go_sem] def l140_28 (_ : Unit) : KL := [kB 8 (.mv (.c (.sl none 0 0 true 0))) [8]]
@[go_sem] def s140_29 (_ : Unit) : IR := (sQ [(kT l140_28), .ret])
@[go_sem] def s140_30 (_ : Unit) : IR := (sQ [(kT l140_27), (.cond (.t 75) (tH s140_29) .skip)])
@[go_sem] def l140_31 (_ : Unit) : KL := [kA 76 (.mv (.t 9)),
  kB 8 (.mv (.t 76)) [8]]
@[go_sem] def s140_32 (_ : Unit) : IR := (sQ [(kT l140_0), (tH s140_4), (kT l140_5), (tH s140_15), (tH s140_25), (kT l140_26), (tH s140_30), (kT l140_31), .ret])
theorem c140 : compFn Try.prog [(0, [], [oS [0, 1, 2, 3]]), (1, [], [oN, oN, oN, oN, oS [0, 1, 2, 3, 16], oN, oN, oN, oN, oS [0, 1, 2, 3, 21]]), (2, [], [oS [8]]), (3, [], [oN, oS [0, 1, 2, 3, 9]]), (4, [], [oS [0, 1, 2, 3, 9, 10]]), (5, [], [oN, oN, oN, oS [0, 1, 2, 3, 9, 10, 26]]), (7, [], [oN, oN, oN, oN, oS [0, 1, 2, 3, 10, 29, 33], oN, oN, oS [0, 1, 2, 3, 9, 10]]), (6, [], [oN, oN, oS [0, 1, 2, 3, 9, 10]]), (8, [], [oS [0, 1, 2, 3, 9, 11]]), (9, [], [oN, oN, oN, oN, oS [0, 1, 2, 3, 9, 11, 40], oN, oN, oN, oS [0, 1, 2, 3, 9, 11, 44]]), (11, [], [oN, oN, oN, oN, oS [0, 1, 2, 3, 11, 47, 51], oN, oN, oN, oN, oS [0, 1, 2, 3, 11, 56], oS [0, 1, 2, 3, 9, 11]]), (10, [], [oN, oN, oS [0, 1, 2, 3, 9, 11]]), (12, [], [oN, oN, oN, oN, oS [0, 3, 9, 57, 58, 61], oN, oN, oN, oN, oS [0, 3, 57, 66], oN, oS [0, 3, 9]]), (13, [], [oN, oN, oN, oN, oS [9, 70, 71, 72], oN, oN, oS [9, 75]]), (14, [], [oS [8]]), (15, [], [oN, oS [8]])] Try.f140 = some ⟨4, 77, [.t 8], (tH s140_32)⟩ := by kernel_rfl
theorem v_spec_Joined (hl : vs.length = 4) (h : wpV Try.prog (tH s140_32) (postV [.t 8] RV) (envV vs) M) : VCall Try.prog n_spec_Joined vs M RV :=
  vcall_of_wp (fun _ _ _ hl h => acall_of_wp mixed Try.func140 c140 (by kernel_rfl) hl h) hl h
@[go_sem] def l119_0 (_ : Unit) : KL := [kB 4 (.mv (.c (.sl none 0 0 true 0))) [0, 1]]
@[go_sem] def l119_1 (_ : Unit) : KL := [kA 8 (.mv (.t 0)),
  kA 9 (.mv (.t 1)),
  kA 10 (.len (.t 9)),
  kA 11 (.call (n_spec_l40Rd_pick) [(.t 8), (.t 10)]),
  kB 5 (.mv (.t 11)) [0, 1, 5]]
@[go_sem] def l119_2 (_ : Unit) : KL := [kA 12 (.mv (.t 0)),
  kA 13 (.mv (.t 1)),
  kA 14 (.mv (.t 5)),
  kA 15 (.iaddr (.t 13) (.t 14) 3),
  kB 16 (.load (.t 15) 3 true) [0, 1, 5, 12, 16],
  kA 17 (.mv (.t 5)),
  kA 18 (.call (n_spec_l2Cond) [(.t 12), (.t 16), (.t 17)]),
  kB 6 (.mv (.t 18)) [0, 1, 6]]
@[go_sem] def l119_3 (_ : Unit) : KL := [kA 19 (.mv (.t 0)),
  kA 20 (.call (n_spec_l40Rd_pick) [(.t 19), (.c (.int .i64 2))]),
  kB 21 (.bin .eql (.t 20) (cI 0)) [0, 1, 6, 21]]
@[go_sem] def l119_4 (_ : Unit) : KL := [kA 22 (.mv (.t 0)),
  kA 23 (.mv (.t 1)),
  kA 24 (.len (.t 23)),
  kA 25 (.call (n_spec_l40Rd_pick) [(.t 22), (.t 24)]),
  kB 7 (.mv (.t 25)) [0, 1, 6, 7]]
@[go_sem] def l119_5 : Nat → GOp
  | 0 => ⟨(some 26), .mv (.t 0), none⟩
  | 1 => ⟨(some 27), .bslc 1 3 [(.int .i64 0)] [(0, (.c (.int .i64 8))), (1, (.c (.int .i64 9))), (2, (.c (.int .i64 8)))], none⟩
  | 2 => ⟨(some 28), .call (n_spec_l40Rd_num) [(.t 26), (.t 27)], none⟩
  | 3 => ⟨(some 29), .mv (.t 6), none⟩
  | 4 => ⟨(some 30), .mv (.t 0), none⟩
  | 5 => ⟨(some 31), .mv (.t 1), none⟩
  | 6 => ⟨(some 32), .mv (.t 7), none⟩
  | 7 => ⟨(some 33), .iaddr (.t 31) (.t 32) 3, none⟩
  | 8 => ⟨(some 34), .load (.t 33) 3 true, none⟩
  | 9 => ⟨(some 35), .mv (.t 7), none⟩
  | 10 => ⟨(some 36), .call (n_spec_l2Cond) [(.t 30), (.t 34), (.t 35)], none⟩
  | 11 => ⟨(some 37), .mv (.t 1), none⟩
  | 12 => ⟨(some 38), .len (.t 37), none⟩
  | 13 => ⟨(some 39), .call (n_spec_Joined) [(.t 28), (.t 29), (.t 36), (.t 38)], none⟩
  | 14 => ⟨(some 6), .mv (.t 39), none⟩
  | _ => ⟨none, .mkmap, none⟩
@[go_sem] def s119_6 (_ : Unit) : IR := (sQ [(kT l119_4), (.kd (oF l119_5 15) [(0, []), (3, []), (4, []), (5, []), (6, []), (7, []), (8, []), (9, []), (11, []), (12, []), (1, []), (2, [8]), (10, []), (13, []), (14, [])] [6])])
@[go_sem] def s119_7 (_ : Unit) : IR := (sQ [(kT l119_3), (.cond (.t 21) (tH s119_6) .skip)])
@[go_sem] def l119_8 (_ : Unit) : KL := [kA 40 (.mv (.t 6)),
  kB 4 (.mv (.t 40)) [4]]
@[go_sem] def s119_9 (_ : Unit) : IR := (sQ [(kT l119_0), (kT l119_1), (kT l119_2), (tH s119_7), (kT l119_8), .ret])
theorem c119 : compFn Try.prog [(0, [], [oS [0, 1]]), (1, [], [oN, oN, oN, oN, oS [0, 1, 5]]), (2, [], [oN, oN, oN, oN, oS [0, 1, 5, 12, 16], oN, oN, oS [0, 1, 6]]), (3, [], [oN, oN, oS [0, 1, 6, 21]]), (4, [], [oN, oN, oN, oN, oS [0, 1, 6, 7]]), (5, [(0, []), (3, []), (4, []), (5, []), (6, []), (7, []), (8, []), (9, []), (11, []), (12, []), (1, []), (2, [8]), (10, []), (13, []), (14, [])], [oS [6]]), (6, [], [oN, oS [4]])] Try.f119 = some ⟨2, 41, [.t 4], (tH s119_9)⟩ := by kernel_rfl
theorem v_spec_l2When (hl : vs.length = 2) (h : wpV Try.prog (tH s119_9) (postV [.t 4] RV) (envV vs) M) : VCall Try.prog n_spec_l2When vs M RV :=
  vcall_of_wp (fun _ _ _ hl h => acall_of_wp mixed Try.func119 c119 (by kernel_rfl) hl h) hl h
@[go_sem] def l154_0 (_ : Unit) : KL := [kB 2 (.mv (cI 0)) [0]]
@[go_sem] def l154_1 (_ : Unit) : KL := [kA 3 (.mv (.t 0)),
  kA 4 (.mv (.t 0)),
  kA 5 (.call (n_spec_l40Rd_pick) [(.t 4), (.c (.int .i64 4))]),
  kA 6 (.mv (.t 0)),
  kB 7 (.call (n_spec_l40Rd_pick) [(.t 6), (.c (.int .i64 4))]) [0, 3, 5, 7],
  kA 8 (.mv (.t 0)),
  kA 9 (.call (n_spec_l40Rd_pick) [(.t 8), (.c (.int .i64 7))]),
  kA 10 (.bin .sub (.t 9) (.c (.int .i64 3))),
  kA 11 (.mv (.t 0)),
  kB 12 (.call (n_spec_l40Rd_pick) [(.t 11), (.c (.int .i64 200))]) [0, 3, 5, 7, 10, 12],
  kA 13 (.bin .sub (.t 12) (.c (.int .i64 100))),
  kA 14 (.bslc 1 4 [(.int .i64 0)] [(0, (.c (.int .i64 9999))), (1, (.c (.int .i64 (-9999)))), (2, (.c (.int .i64 5000))), (3, (.c (.int .i64 100)))]),
  kA 15 (.mv (.t 0)),
  kA 16 (.call (n_spec_l40Rd_pick) [(.t 15), (.c (.int .i64 4))]),
  kB 17 (.iaddr (.t 14) (.t 16) 1) [3, 5, 7, 10, 13, 17],
  kA 18 (.load (.t 17) 1 false),
  kA 19 (.bslc 1 7 [(.int .i64 0)] [(0, (.t 5)), (1, (.t 7)), (2, (.t 10)), (3, (cI 1)), (4, (cI 0)), (5, (.t 13)), (6, (.t 18))]),
  kA 20 (.call (n_spec_l40Rd_num) [(.t 3), (.t 19)]),
  kB 2 (.mv (.t 20)) [2]]
@[go_sem] def s154_2 (_ : Unit) : IR := (sQ [(kT l154_0), (kT l154_1), .ret])
theorem c154 : compFn Try.prog [(0, [], [oS [0]]), (1, [], [oN, oN, oN, oN, oS [0, 3, 5, 7], oN, oN, oN, oN, oS [0, 3, 5, 7, 10, 12], oN, oN, oN, oN, oS [3, 5, 7, 10, 13, 17], oN, oN, oN, oS [2]])] Try.f154 = some ⟨1, 21, [.t 2], (tH s154_2)⟩ := by kernel_rfl
theorem v_spec_l1Number (hl : vs.length = 1) (h : wpV Try.prog (tH s154_2) (postV [.t 2] RV) (envV vs) M) : VCall Try.prog n_spec_l1Number vs M RV :=
  vcall_of_wp (fun _ _ _ hl h => acall_of_wp mixed Try.func154 c154 (by kernel_rfl) hl h) hl h
@[go_sem] def l155_0 (_ : Unit) : KL := [kB 6 (.mv (cI 0)) [0, 1, 2]]
@[go_sem] def l155_1 (_ : Unit) : KL := [kA 10 (.mv (.t 0)),
  kA 11 (.mv (.t 1)),
  kA 12 (.len (.t 11)),
  kA 13 (.call (n_spec_l40Rd_pick) [(.t 10), (.t 12)]),
  kB 7 (.mv (.t 13)) [1, 2, 7]]
@[go_sem] def l155_2 (_ : Unit) : KL := [kB 8 (.mv (cI 0)) [1, 2, 7, 8]]
@[go_sem] def l155_3 (_ : Unit) : KL := [kA 14 (.mv (.t 8)),
  kA 15 (.mv (.t 1)),
  kA 16 (.len (.t 15)),
  kB 17 (.bin .lss (.t 14) (.t 16)) [1, 2, 7, 8, 17]]
@[go_sem] def s155_4 (_ : Unit) : IR := (sQ [(kT l155_3), (.cond (.t 17) .skip (.exit 0))])
@[go_sem] def l155_5 (_ : Unit) : KL := [kA 20 (.mv (.t 7)),
  kA 21 (.mv (.t 8)),
  kA 22 (.bin .add (.t 20) (.t 21)),
  kA 23 (.mv (.t 1)),
  kB 24 (.len (.t 23)) [1, 2, 7, 8, 22, 24],
  kA 25 (.bin .rem (.t 22) (.t 24)),
  kB 9 (.mv (.t 25)) [1, 2, 7, 8, 9]]
@[go_sem] def l155_6 (_ : Unit) : KL := [kA 26 (.mv (.t 1)),
  kA 27 (.mv (.t 9)),
  kA 28 (.iaddr (.t 26) (.t 27) 1),
  kA 29 (.load (.t 28) 1 false),
  kB 30 (.mv (.t 2)) [1, 2, 7, 8, 9, 29, 30],
  kB 31 (.bin .eql (.t 29) (.t 30)) [1, 2, 7, 8, 9, 31]]
@[go_sem] def l155_7 (_ : Unit) : KL := [kA 32 (.mv (.t 9)),
  kB 6 (.mv (.t 32)) [6]]
@[go_sem] def s155_8 (_ : Unit) : IR := (sQ [(kT l155_7), .ret])
@[go_sem] def s155_9 (_ : Unit) : IR := (sQ [(kT l155_5), (kT l155_6), (.cond (.t 31) (tH s155_8) .skip)])
@[go_sem] def s155_10 (_ : Unit) : IR := (.block 1 (tH s155_9))
@[go_sem] def l155_11 (_ : Unit) : KL := [kA 18 (.mv (.t 8)),
  kA 19 (.bin .add (.t 18) (cI 1)),
  kB 8 (.mv (.t 19)) [1, 2, 7, 8]]
@[go_sem] def s155_12 (_ : Unit) : IR := (sQ [(tH s155_4), (tH s155_10), (kT l155_11)])
@[go_sem] def s155_13 (_ : Unit) : IR := (.loop (tH s155_12))
@[go_sem] def s155_14 (_ : Unit) : IR := (.block 0 (tH s155_13))
@[go_sem] def s155_15 (_ : Unit) : IR := (sQ [(kT l155_2), (tH s155_14)])
@[go_sem] def l155_16 (_ : Unit) : KL := [kB 6 (.mv (.c (.int .i64 (-1)))) [6]]
@[go_sem] def s155_17 (_ : Unit) : IR := (sQ [(kT l155_0), (kT l155_1), (tH s155_15), (kT l155_16), .ret])
theorem c155 : compFn Try.prog [(0, [], [oS [0, 1, 2]]), (1, [], [oN, oN, oN, oN, oS [1, 2, 7]]), (2, [], [oS [1, 2, 7, 8]]), (3, [], [oN, oN, oN, oS [1, 2, 7, 8, 17]]), (5, [], [oN, oN, oN, oN, oS [1, 2, 7, 8, 22, 24], oN, oS [1, 2, 7, 8, 9]]), (6, [], [oN, oN, oN, oN, oS [1, 2, 7, 8, 9, 29, 30], oS [1, 2, 7, 8, 9, 31]]), (7, [], [oN, oS [6]]), (4, [], [oN, oN, oS [1, 2, 7, 8]]), (8, [], [oS [6]])] Try.f155 = some ⟨3, 33, [.t 6], (tH s155_17)⟩ := by kernel_rfl
theorem v_spec_l1Pick (hl : vs.length = 3) (h : wpV Try.prog (tH s155_17) (postV [.t 6] RV) (envV vs) M) : VCall Try.prog n_spec_l1Pick vs M RV :=
  vcall_of_wp (fun _ _ _ hl h => acall_of_wp mixed Try.func155 c155 (by kernel_rfl) hl h) hl h
@[go_sem] def l142_0 (_ : Unit) : KL := [kB 8 (.mv (.c (.sl none 0 0 true 0))) [0, 1, 2, 3]]
@[go_sem] def l142_1 (_ : Unit) : KL := [kA 18 (.bslc 4 0 [(.int .i64 0), (.int .i64 0), (.int .i64 0), (.int .i64 0)] []),
  kB 9 (.mv (.t 18)) [0, 1, 2, 3, 9]]
@[go_sem] def l142_2 (_ : Unit) : KL := [kA 19 (.bslc 1 0 [(.int .i64 0)] []),
  kB 10 (.mv (.t 19)) [0, 1, 2, 3, 9, 10]]
@[go_sem] def l142_3 (_ : Unit) : KL := [kA 20 (.mv (.t 0)),
  kA 21 (.mv (.t 3)),
  kA 22 (.call (n_spec_l40Rd_pick) [(.t 20), (.t 21)]),
  kA 23 (.bin .add (.c (.int .i64 2)) (.t 22)),
  kB 11 (.mv (.t 23)) [0, 1, 2, 9, 10, 11]]
@[go_sem] def l142_4 (_ : Unit) : KL := [kA 24 (.mv (.t 11)),
  kB 25 (.bin .gtr (.t 24) (cI 0)) [0, 1, 2, 9, 10, 11, 25]]
@[go_sem] def s142_5 (_ : Unit) : IR := (sQ [(kT l142_4), (.cond (.t 25) .skip (.exit 0))])
@[go_sem] def l142_6 (_ : Unit) : KL := [kA 28 (.mv (.t 0)),
  kA 29 (.bslc 1 13 [(.int .i64 0)] [(0, (cI 0)), (1, (cI 1)), (2, (cI 1)), (3, (.c (.int .i64 2))), (4, (.c (.int .i64 3))), (5, (.c (.int .i64 4))), (6, (.c (.int .i64 5))), (7, (.c (.int .i64 6))), (8, (.c (.int .i64 5))), (9, (.c (.int .i64 6))), (10, (.c (.int .i64 7))), (11, (.c (.int .i64 8))), (12, (.c (.int .i64 9)))]),
  kA 30 (.call (n_spec_l40Rd_num) [(.t 28), (.t 29)]),
  kB 12 (.mv (.t 30)) [0, 1, 2, 9, 10, 11, 12]]
@[go_sem] def l142_7 (_ : Unit) : KL := [kA 31 (.mv (.t 12)),
  kA 32 (.bld [(.int .i64 0), (.int .i64 0), (.int .i64 0), (.int .i64 0)] [(0, 1, (.t 31))]),
  kA 13 (.alloc [(.int .i64 0), (.int .i64 0), (.int .i64 0), (.int .i64 0)]),
  (⟨none, .store (.t 13) 4 (.t 32), none⟩, (some [0, 1, 2, 9, 10, 11, 12, 13]))]
@[go_sem] def l142_8 (_ : Unit) : KL := [kA 33 (.mv (.t 9)),
  kA 34 (.len (.t 33)),
  kA 35 (.bin .eql (.t 34) (cI 0)),
  kA 36 (.mv (.t 35)),
  (⟨(some 37), .mv (.t 12), (some (36, false))⟩, (some [0, 1, 2, 9, 10, 11, 12, 13, 36, 37])),
  (⟨(some 38), .bin .lss (.t 37) (.c (.int .i64 2)), (some (36, false))⟩, none),
  kB 39 (.pick (.t 36) (.c (.bool true)) (.t 38)) [0, 1, 2, 9, 10, 11, 12, 13, 39]]
@[go_sem] def l142_9 (_ : Unit) : KL := [kA 40 (.mv (.t 0)),
  kA 41 (.call (n_spec_l1Number) [(.t 40)]),
  kA 42 (.bld [(.int .i64 0), (.int .i64 0), (.int .i64 0), (.int .i64 0)] [(0, 1, (cI 0)), (1, 1, (.t 41))]),
  (⟨none, .store (.t 13) 4 (.t 42), none⟩, (some [0, 1, 2, 9, 10, 11, 12, 13]))]
@[go_sem] def l142_10 (_ : Unit) : KL := [kA 43 (.mv (.t 1)),
  kA 44 (.bin .gtr (.t 43) (cI 0)),
  kA 45 (.mv (.t 44)),
  (⟨(some 46), .mv (.t 12), (some (45, true))⟩, none),
  (⟨(some 47), .bin .neq (.t 46) (cI 0), (some (45, true))⟩, (some [0, 1, 2, 9, 10, 11, 13, 45, 47])),
  kB 48 (.pick (.t 45) (.t 47) (.c (.bool false))) [0, 1, 2, 9, 10, 11, 13, 48]]
@[go_sem] def l142_11 (_ : Unit) : KL := [kA 49 (.mv (.t 0)),
  kA 50 (.mv (.t 1)),
  kA 51 (.call (n_spec_l40Rd_pick) [(.t 49), (.t 50)]),
  kA 52 (.bld [(.int .i64 0), (.int .i64 0), (.int .i64 0), (.int .i64 0)] [(0, 1, (cI 1)), (1, 1, (.t 51))]),
  (⟨none, .store (.t 13) 4 (.t 52), none⟩, (some [0, 1, 2, 9, 10, 11, 13]))]
@[go_sem] def s142_12 (_ : Unit) : IR := (sQ [(kT l142_9), (kT l142_10), (.cond (.t 48) (kT l142_11) .skip)])
@[go_sem] def l142_13 (_ : Unit) : KL := [kB 14 (.mv (cI 1)) [0, 1, 2, 9, 10, 11, 12, 13, 14]]
@[go_sem] def l142_14 (_ : Unit) : KL := [kA 53 (.mv (.t 12)),
  kB 54 (.bin .geq (.t 53) (.c (.int .i64 7))) [0, 1, 2, 9, 10, 11, 12, 13, 14, 54]]
@[go_sem] def l142_15 (_ : Unit) : KL := [kB 14 (.mv (.c (.int .i64 2))) [0, 1, 2, 9, 10, 11, 12, 13, 14]]
@[go_sem] def s142_16 (_ : Unit) : IR := (sQ [(kT l142_14), (.cond (.t 54) (kT l142_15) .skip)])
@[go_sem] def l142_17 (_ : Unit) : KL := [kA 55 (.mv (.t 0)),
  kA 56 (.mv (.t 10)),
  kA 57 (.mv (.t 14)),
  kA 58 (.call (n_spec_l1Pick) [(.t 55), (.t 56), (.t 57)]),
  kB 59 (.faddr (.t 13) 2) [0, 1, 2, 9, 10, 11, 12, 13, 14, 58, 59],
  (⟨none, .store (.t 59) 1 (.t 58), none⟩, (some [0, 1, 2, 9, 10, 11, 12, 13, 14]))]
@[go_sem] def l142_18 (_ : Unit) : KL := [kA 60 (.mv (.t 0)),
  kA 61 (.mv (.t 10)),
  kA 62 (.mv (.t 14)),
  kA 63 (.call (n_spec_l1Pick) [(.t 60), (.t 61), (.t 62)]),
  kB 64 (.faddr (.t 13) 3) [0, 1, 2, 9, 10, 11, 12, 13, 63, 64],
  (⟨none, .store (.t 64) 1 (.t 63), none⟩, (some [0, 1, 2, 9, 10, 11, 12, 13]))]
@[go_sem] def l142_19 (_ : Unit) : KL := [kA 65 (.mv (.t 12)),
  kB 66 (.call (n_spec_l1One) [(.t 65)]) [0, 1, 2, 9, 10, 11, 13, 66]]
@[go_sem] def l142_20 (_ : Unit) : KL := [kA 67 (.faddr (.t 13) 2),
  kA 68 (.load (.t 67) 1 false),
  kA 69 (.faddr (.t 13) 3),
  (⟨none, .store (.t 69) 1 (.t 68), none⟩, (some [0, 1, 2, 9, 10, 11, 13]))]
@[go_sem] def s142_21 (_ : Unit) : IR := (sQ [(kT l142_13), (tH s142_16), (kT l142_17), (kT l142_18), (kT l142_19), (.cond (.t 66) (kT l142_20) .skip)])
@[go_sem] def s142_22 (_ : Unit) : IR := (sQ [(kT l142_8), (.cond (.t 39) (tH s142_12) (tH s142_21))])
@[go_sem] def l142_23 (_ : Unit) : KL := [kA 70 (.load (.t 13) 4 true),
  kA 71 (.mv (.t 10)),
  kA 72 (.mv (.t 1)),
  kA 73 (.call (n_spec_l1Kind) [(.t 70), (.t 71), (.t 72)]),
  kB 15 (.mv (.t 73)) [0, 1, 2, 9, 10, 11, 13, 15]]
@[go_sem] def l142_24 (_ : Unit) : KL := [kA 74 (.mv (.t 15)),
  kB 75 (.bin .neq (.t 74) (cI 0)) [0, 1, 2, 9, 10, 11, 13, 15, 75]]
@[go_sem] def l142_25 (_ : Unit) : KL := [kA 76 (.mv (.t 9)),
  kA 77 (.load (.t 13) 4 true),
  kA 78 (.bslc 4 1 [(.int .i64 0), (.int .i64 0), (.int .i64 0), (.int .i64 0)] [(0, (.t 77))]),
  kA 79 (.app 4 32 (.t 76) (.t 78)),
  kB 9 (.mv (.t 79)) [0, 1, 2, 9, 10, 11, 15]]
@[go_sem] def l142_26 (_ : Unit) : KL := [kA 80 (.mv (.t 10)),
  kA 81 (.mv (.t 15)),
  kA 82 (.bslc 1 1 [(.int .i64 0)] [(0, (.t 81))]),
  kA 83 (.app 1 8 (.t 80) (.t 82)),
  kB 10 (.mv (.t 83)) [0, 1, 2, 9, 10, 11]]
@[go_sem] def s142_27 (_ : Unit) : IR := (sQ [(kT l142_25), (kT l142_26)])
@[go_sem] def s142_28 (_ : Unit) : IR := (sQ [(kT l142_6), (kT l142_7), (tH s142_22), (kT l142_23), (kT l142_24), (.cond (.t 75) (tH s142_27) .skip)])
@[go_sem] def s142_29 (_ : Unit) : IR := (.block 1 (tH s142_28))
@[go_sem] def l142_30 (_ : Unit) : KL := [kA 26 (.mv (.t 11)),
  kA 27 (.bin .sub (.t 26) (cI 1)),
  kB 11 (.mv (.t 27)) [0, 1, 2, 9, 10, 11]]
@[go_sem] def s142_31 (_ : Unit) : IR := (sQ [(tH s142_5), (tH s142_29), (kT l142_30)])
@[go_sem] def s142_32 (_ : Unit) : IR := (.loop (tH s142_31))
@[go_sem] def s142_33 (_ : Unit) : IR := (.block 0 (tH s142_32))
@[go_sem] def s142_34 (_ : Unit) : IR := (sQ [(kT l142_3), (tH s142_33)])
@[go_sem] def l142_35 (_ : Unit) : KL := [kA 84 (.mv (.t 9)),
  kA 85 (.len (.t 84)),
  kB 86 (.bin .eql (.t 85) (cI 0)) [0, 2, 9, 10, 86]]
@[go_sem] def l142_36 (_ : Unit) : KL := [kA 87 (.mv (.t 9)),
  kA 88 (.bld [(.int .i64 0), (.int .i64 0), (.int .i64 0), (.int .i64 0)] [(0, 1, (cI 0)), (1, 1, (cI 1))]),
  kA 89 (.bslc 4 1 [(.int .i64 0), (.int .i64 0), (.int .i64 0), (.int .i64 0)] [(0, (.t 88))]),
  kA 90 (.app 4 32 (.t 87) (.t 89)),
  kB 9 (.mv (.t 90)) [0, 2, 9, 10]]
@[go_sem] def l142_37 (_ : Unit) : KL := [kA 91 (.mv (.t 10)),
  kA 92 (.bslc 1 1 [(.int .i64 0)] [(0, (cI 1))]),
  kA 93 (.app 1 8 (.t 91) (.t 92)),
  kB 10 (.mv (.t 93)) [0, 2, 9, 10]]
@[go_sem] def s142_38 (_ : Unit) : IR := (sQ [(kT l142_36), (kT l142_37)])
@[go_sem] def s142_39 (_ : Unit) : IR := (sQ [(kT l142_35), (.cond (.t 86) (tH s142_38) .skip)])
@[go_sem] def l142_40 (_ : Unit) : KL := [kA 94 (.mv (.t 9)),
  kA 95 (.len (.t 94)),
  kA 96 (.bin .sub (.t 95) (cI 1)),
  kB 16 (.mv (.t 96)) [0, 2, 9, 10, 16]]
@[go_sem] def l142_41 (_ : Unit) : KL := [kA 97 (.mv (.t 2)),
  kA 98 (.bin .eql (.t 97) (.c (.int .i64 2))),
  kA 99 (.mv (.t 98)),
  (⟨(some 100), .mv (.t 10), (some (99, true))⟩, none),
  (⟨(some 101), .mv (.t 16), (some (99, true))⟩, (some [0, 2, 9, 10, 16, 99, 100, 101])),
  (⟨(some 102), .iaddr (.t 100) (.t 101) 1, (some (99, true))⟩, none),
  (⟨(some 103), .load (.t 102) 1 false, (some (99, true))⟩, none),
  (⟨(some 104), .mv (.t 2), (some (99, true))⟩, none),
  (⟨(some 105), .bin .neq (.t 103) (.t 104), (some (99, true))⟩, none),
  kB 106 (.pick (.t 99) (.t 105) (.c (.bool false))) [0, 2, 9, 10, 16, 106]]
@[go_sem] def l142_42 (_ : Unit) : KL := [kA 107 (.mv (.t 9)),
  kA 108 (.mv (.t 0)),
  kA 109 (.bslc 1 2 [(.int .i64 0)] [(0, (.c (.int .i64 5))), (1, (.c (.int .i64 6)))]),
  kA 110 (.call (n_spec_l40Rd_num) [(.t 108), (.t 109)]),
  kB 111 (.mv (.t 16)) [0, 10, 107, 110, 111],
  kA 112 (.mv (.t 0)),
  kA 113 (.mv (.t 10)),
  kA 114 (.call (n_spec_l1Pick) [(.t 112), (.t 113), (cI 1)]),
  kA 115 (.bld [(.int .i64 0), (.int .i64 0), (.int .i64 0), (.int .i64 0)] [(0, 1, (.t 110)), (2, 1, (.t 111)), (3, 1, (.t 114))]),
  kB 116 (.bslc 4 1 [(.int .i64 0), (.int .i64 0), (.int .i64 0), (.int .i64 0)] [(0, (.t 115))]) [107, 116],
  kA 117 (.app 4 32 (.t 107) (.t 116)),
  kB 9 (.mv (.t 117)) [9]]
@[go_sem] def l142_43 (_ : Unit) : KL := [kA 118 (.mv (.t 2)),
  kA 119 (.bin .eql (.t 118) (cI 1)),
  kA 120 (.mv (.t 119)),
  (⟨(some 121), .mv (.t 10), (some (120, true))⟩, none),
  (⟨(some 122), .mv (.t 16), (some (120, true))⟩, (some [0, 2, 9, 10, 120, 121, 122])),
  (⟨(some 123), .iaddr (.t 121) (.t 122) 1, (some (120, true))⟩, none),
  (⟨(some 124), .load (.t 123) 1 false, (some (120, true))⟩, none),
  (⟨(some 125), .mv (.t 2), (some (120, true))⟩, none),
  (⟨(some 126), .bin .neq (.t 124) (.t 125), (some (120, true))⟩, none),
  kB 127 (.pick (.t 120) (.t 126) (.c (.bool false))) [0, 9, 10, 127]]
@[go_sem] def l142_44 (_ : Unit) : KL := [kA 128 (.mv (.t 0)),
  kA 129 (.mv (.t 10)),
  kA 130 (.call (n_spec_l1Pick) [(.t 128), (.t 129), (cI 1)]),
  kB 17 (.mv (.t 130)) [0, 9, 10, 17]]
@[go_sem] def l142_45 (_ : Unit) : KL := [kA 131 (.mv (.t 9)),
  kA 132 (.mv (.t 0)),
  kA 133 (.bslc 1 2 [(.int .i64 0)] [(0, (.c (.int .i64 2))), (1, (.c (.int .i64 3)))]),
  kA 134 (.call (n_spec_l40Rd_num) [(.t 132), (.t 133)]),
  kB 135 (.mv (.t 17)) [0, 10, 131, 134, 135],
  kA 136 (.mv (.t 0)),
  kA 137 (.mv (.t 10)),
  kA 138 (.call (n_spec_l1Pick) [(.t 136), (.t 137), (cI 1)]),
  kA 139 (.bld [(.int .i64 0), (.int .i64 0), (.int .i64 0), (.int .i64 0)] [(0, 1, (.t 134)), (2, 1, (.t 135)), (3, 1, (.t 138))]),
  kB 140 (.bslc 4 1 [(.int .i64 0), (.int .i64 0), (.int .i64 0), (.int .i64 0)] [(0, (.t 139))]) [131, 140],
  kA 141 (.app 4 32 (.t 131) (.t 140)),
  kB 9 (.mv (.t 141)) [9]]
@[go_sem] def s142_46 (_ : Unit) : IR := (sQ [(kT l142_44), (kT l142_45)])
@[go_sem] def s142_47 (_ : Unit) : IR := (sQ [(kT l142_43), (.cond (.t 127) (tH s142_46) .skip)])
@[go_sem] def s142_48 (_ : Unit) : IR := (sQ [(kT l142_41), (.cond (.t 106) (kT l142_42) (tH s142_47))])
@[go_sem] def l142_49 (_ : Unit) : KL := [kA 142 (.mv (.t 9)),
  kB 8 (.mv (.t 142)) [8]]
@[go_sem] def s142_50 (_ : Unit) : IR := (sQ [(kT l142_0), (kT l142_1), (kT l142_2), (tH s142_34), (tH s142_39), (kT l142_40), (tH s142_48), (kT l142_49), .ret])
theorem c142 : compFn Try.prog [(0, [], [oS [0, 1, 2, 3]]), (1, [], [oN, oS [0, 1, 2, 3, 9]]), (2, [], [oN, oS [0, 1, 2, 3, 9, 10]]), (3, [], [oN, oN, oN, oN, oS [0, 1, 2, 9, 10, 11]]), (4, [], [oN, oS [0, 1, 2, 9, 10, 11, 25]]), (6, [], [oN, oN, oN, oS [0, 1, 2, 9, 10, 11, 12]]), (7, [], [oN, oN, oN, oS [0, 1, 2, 9, 10, 11, 12, 13]]), (8, [], [oN, oN, oN, oN, oS [0, 1, 2, 9, 10, 11, 12, 13, 36, 37], oN, oS [0, 1, 2, 9, 10, 11, 12, 13, 39]]), (9, [], [oN, oN, oN, oS [0, 1, 2, 9, 10, 11, 12, 13]]), (10, [], [oN, oN, oN, oN, oS [0, 1, 2, 9, 10, 11, 13, 45, 47], oS [0, 1, 2, 9, 10, 11, 13, 48]]), (11, [], [oN, oN, oN, oN, oS [0, 1, 2, 9, 10, 11, 13]]), (12, [], [oS [0, 1, 2, 9, 10, 11, 12, 13, 14]]), (13, [], [oN, oS [0, 1, 2, 9, 10, 11, 12, 13, 14, 54]]), (14, [], [oS [0, 1, 2, 9, 10, 11, 12, 13, 14]]), (15, [], [oN, oN, oN, oN, oS [0, 1, 2, 9, 10, 11, 12, 13, 14, 58, 59], oS [0, 1, 2, 9, 10, 11, 12, 13, 14]]), (16, [], [oN, oN, oN, oN, oS [0, 1, 2, 9, 10, 11, 12, 13, 63, 64], oS [0, 1, 2, 9, 10, 11, 12, 13]]), (17, [], [oN, oS [0, 1, 2, 9, 10, 11, 13, 66]]), (18, [], [oN, oN, oN, oS [0, 1, 2, 9, 10, 11, 13]]), (19, [], [oN, oN, oN, oN, oS [0, 1, 2, 9, 10, 11, 13, 15]]), (20, [], [oN, oS [0, 1, 2, 9, 10, 11, 13, 15, 75]]), (21, [], [oN, oN, oN, oN, oS [0, 1, 2, 9, 10, 11, 15]]), (22, [], [oN, oN, oN, oN, oS [0, 1, 2, 9, 10, 11]]), (5, [], [oN, oN, oS [0, 1, 2, 9, 10, 11]]), (23, [], [oN, oN, oS [0, 2, 9, 10, 86]]), (24, [], [oN, oN, oN, oN, oS [0, 2, 9, 10]]), (25, [], [oN, oN, oN, oS [0, 2, 9, 10]]), (26, [], [oN, oN, oN, oS [0, 2, 9, 10, 16]]), (27, [], [oN, oN, oN, oN, oS [0, 2, 9, 10, 16, 99, 100, 101], oN, oN, oN, oN, oS [0, 2, 9, 10, 16, 106]]), (28, [], [oN, oN, oN, oN, oS [0, 10, 107, 110, 111], oN, oN, oN, oN, oS [107, 116], oN, oS [9]]), (29, [], [oN, oN, oN, oN, oS [0, 2, 9, 10, 120, 121, 122], oN, oN, oN, oN, oS [0, 9, 10, 127]]), (30, [], [oN, oN, oN, oS [0, 9, 10, 17]]), (31, [], [oN, oN, oN, oN, oS [0, 10, 131, 134, 135], oN, oN, oN, oN, oS [131, 140], oN, oS [9]]), (32, [], [oN, oS [8]])] Try.f142 = some ⟨4, 143, [.t 8], (tH s142_50)⟩ := by kernel_rfl
theorem v_spec_l1Terms (hl : vs.length = 4) (h : wpV Try.prog (tH s142_50) (postV [.t 8] RV) (envV vs) M) : VCall Try.prog n_spec_l1Terms vs M RV :=
  vcall_of_wp (fun _ _ _ hl h => acall_of_wp mixed Try.func142 c142 (by kernel_rfl) hl h) hl h
@[go_sem] def l120_0 (_ : Unit) : KL := [kB 6 (.mv (.c (.sl none 0 0 true 0))) [0, 1, 2]]
@[go_sem] def l120_1 (_ : Unit) : KL := [kA 8 (.mv (.t 0)),
  kA 9 (.call (n_spec_l40Rd_pick) [(.t 8), (.c (.int .i64 6))]),
  kB 7 (.mv (.t 9)) [0, 1, 2, 7]]
@[go_sem] def l120_2 (_ : Unit) : KL := [kA 10 (.mv (.t 7)),
  kB 11 (.bin .lss (.t 10) (.c (.int .i64 3))) [0, 1, 2, 7, 11]]
@[go_sem] def l120_3 (_ : Unit) : KL := [kA 12 (.mv (.t 2)),
  kA 13 (.call (n_spec_l2VarOf) [(.t 12)]),
  kA 14 (.call (n_spec_l2Const) [(cI 1)]),
  kA 15 (.mv (.t 0)),
  kB 16 (.bslc 1 2 [(.int .i64 0)] [(0, (.c (.int .i64 2))), (1, (.c (.int .i64 3)))]) [13, 14, 15, 16],
  kA 17 (.call (n_spec_l40Rd_num) [(.t 15), (.t 16)]),
  kA 18 (.bld [(.int .i64 0), (.int .i64 0), (.int .i64 0), (.int .i64 0)] [(0, 1, (.t 17)), (2, 1, (cI 0)), (3, 1, (cI 1))]),
  kA 19 (.bslc 4 3 [(.int .i64 0), (.int .i64 0), (.int .i64 0), (.int .i64 0)] [(0, (.t 13)), (1, (.t 14)), (2, (.t 18))]),
  kB 6 (.mv (.t 19)) [6]]
@[go_sem] def s120_4 (_ : Unit) : IR := (sQ [(kT l120_3), .ret])
@[go_sem] def s120_5 (_ : Unit) : IR := (sQ [(kT l120_2), (.cond (.t 11) (tH s120_4) .skip)])
@[go_sem] def l120_6 (_ : Unit) : KL := [kA 20 (.mv (.t 7)),
  kB 21 (.bin .eql (.t 20) (.c (.int .i64 3))) [0, 1, 2, 7, 21]]
@[go_sem] def l120_7 : Nat → GOp
  | 0 => ⟨(some 22), .mv (.t 1), none⟩
  | 1 => ⟨(some 23), .mv (.t 2), none⟩
  | 2 => ⟨(some 24), .iaddr (.t 22) (.t 23) 3, none⟩
  | 3 => ⟨(some 25), .faddr (.t 24) 0, none⟩
  | 4 => ⟨(some 26), .load (.t 25) 1 false, none⟩
  | 5 => ⟨(some 27), .mv (.t 0), none⟩
  | 6 => ⟨(some 28), .mv (.t 1), none⟩
  | 7 => ⟨(some 29), .mv (.t 2), none⟩
  | 8 => ⟨(some 30), .iaddr (.t 28) (.t 29) 3, none⟩
  | 9 => ⟨(some 31), .faddr (.t 30) 1, none⟩
  | 10 => ⟨(some 32), .load (.t 31) 1 false, none⟩
  | 11 => ⟨(some 33), .mv (.t 1), none⟩
  | 12 => ⟨(some 34), .mv (.t 2), none⟩
  | 13 => ⟨(some 35), .iaddr (.t 33) (.t 34) 3, none⟩
  | 14 => ⟨(some 36), .faddr (.t 35) 0, none⟩
  | 15 => ⟨(some 37), .load (.t 36) 1 false, none⟩
  | 16 => ⟨(some 38), .bin .sub (.t 32) (.t 37), none⟩
  | 17 => ⟨(some 39), .bin .add (.t 38) (cI 1), none⟩
  | 18 => ⟨(some 40), .call (n_spec_l40Rd_pick) [(.t 27), (.t 39)], none⟩
  | 19 => ⟨(some 41), .bin .add (.t 26) (.t 40), none⟩
  | 20 => ⟨(some 42), .call (n_spec_l2Const) [(.t 41)], none⟩
  | 21 => ⟨(some 43), .bslc 4 1 [(.int .i64 0), (.int .i64 0), (.int .i64 0), (.int .i64 0)] [(0, (.t 42))], none⟩
  | 22 => ⟨(some 6), .mv (.t 43), none⟩
  | _ => ⟨none, .mkmap, none⟩
@[go_sem] def s120_8 (_ : Unit) : IR := (sQ [(.kd (oF l120_7 23) [(0, []), (1, []), (2, []), (3, []), (4, []), (5, []), (6, []), (7, []), (8, []), (9, []), (10, []), (11, []), (12, []), (13, []), (14, []), (15, []), (16, []), (17, []), (18, [4]), (19, []), (20, []), (21, []), (22, [])] [6]), .ret])
@[go_sem] def s120_9 (_ : Unit) : IR := (sQ [(kT l120_6), (.cond (.t 21) (tH s120_8) .skip)])
@[go_sem] def l120_10 (_ : Unit) : KL := [kA 44 (.mv (.t 7)),
  kB 45 (.bin .eql (.t 44) (.c (.int .i64 4))) [0, 1, 45]]
@[go_sem] def l120_11 (_ : Unit) : KL := [kA 46 (.mv (.t 0)),
  kA 47 (.mv (.t 1)),
  kA 48 (.len (.t 47)),
  kA 49 (.call (n_spec_l40Rd_pick) [(.t 46), (.t 48)]),
  kB 50 (.call (n_spec_l2VarOf) [(.t 49)]) [50],
  kA 51 (.bslc 4 1 [(.int .i64 0), (.int .i64 0), (.int .i64 0), (.int .i64 0)] [(0, (.t 50))]),
  kB 6 (.mv (.t 51)) [6]]
@[go_sem] def s120_12 (_ : Unit) : IR := (sQ [(kT l120_11), .ret])
@[go_sem] def s120_13 (_ : Unit) : IR := (sQ [(kT l120_10), (.cond (.t 45) (tH s120_12) .skip)])
@[go_sem] def l120_14 (_ : Unit) : KL := [kA 52 (.mv (.t 0)),
  kA 53 (.mv (.t 1)),
  kA 54 (.len (.t 53)),
  kA 55 (.call (n_spec_l1Terms) [(.t 52), (.t 54), (cI 1), (.c (.int .i64 5))]),
  kB 6 (.mv (.t 55)) [6]]
@[go_sem] def s120_15 (_ : Unit) : IR := (sQ [(kT l120_0), (kT l120_1), (tH s120_5), (tH s120_9), (tH s120_13), (kT l120_14), .ret])
theorem c120 : compFn Try.prog [(0, [], [oS [0, 1, 2]]), (1, [], [oN, oN, oS [0, 1, 2, 7]]), (2, [], [oN, oS [0, 1, 2, 7, 11]]), (3, [], [oN, oN, oN, oN, oS [13, 14, 15, 16], oN, oN, oN, oS [6]]), (4, [], [oN, oS [0, 1, 2, 7, 21]]), (5, [(0, []), (1, []), (2, []), (3, []), (4, []), (5, []), (6, []), (7, []), (8, []), (9, []), (10, []), (11, []), (12, []), (13, []), (14, []), (15, []), (16, []), (17, []), (18, [4]), (19, []), (20, []), (21, []), (22, [])], [oS [6]]), (6, [], [oN, oS [0, 1, 45]]), (7, [], [oN, oN, oN, oN, oS [50], oN, oS [6]]), (8, [], [oN, oN, oN, oN, oS [6]])] Try.f120 = some ⟨3, 56, [.t 6], (tH s120_15)⟩ := by kernel_rfl
theorem v_spec_l2Value (hl : vs.length = 3) (h : wpV Try.prog (tH s120_15) (postV [.t 6] RV) (envV vs) M) : VCall Try.prog n_spec_l2Value vs M RV :=
  vcall_of_wp (fun _ _ _ hl h => acall_of_wp mixed Try.func120 c120 (by kernel_rfl) hl h) hl h
@[go_sem] def l108_0 (_ : Unit) : KL := [kB 6 (.mv (.c (.sl none 0 0 true 0))) [0, 1, 2]]
@[go_sem] def l108_1 (_ : Unit) : KL := [kA 11 (.bslc 3 0 [(.sl none 0 0 true 0), (.sl none 0 0 true 0), (.sl none 0 0 true 0)] []),
  kB 7 (.mv (.t 11)) [0, 1, 2, 7]]
@[go_sem] def l108_2 (_ : Unit) : KL := [kB 8 (.mv (cI 0)) [0, 1, 2, 7, 8]]
@[go_sem] def l108_3 (_ : Unit) : KL := [kA 12 (.mv (.t 8)),
  kA 13 (.mv (.t 2)),
  kB 14 (.bin .lss (.t 12) (.t 13)) [0, 1, 2, 7, 8, 14]]
@[go_sem] def s108_4 (_ : Unit) : IR := (sQ [(kT l108_3), (.cond (.t 14) .skip (.exit 0))])
@[go_sem] def l108_5 (_ : Unit) : KL := [kA 17 (.mv (.t 0)),
  kA 18 (.mv (.t 1)),
  kA 19 (.call (n_spec_l2When) [(.t 17), (.t 18)]),
  kA 20 (.bld [(.sl none 0 0 true 0), (.sl none 0 0 true 0), (.sl none 0 0 true 0)] [(0, 1, (.t 19))]),
  kB 9 (.alloc [(.sl none 0 0 true 0), (.sl none 0 0 true 0), (.sl none 0 0 true 0)]) [0, 1, 2, 7, 8, 9, 20],
  (⟨none, .store (.t 9) 3 (.t 20), none⟩, (some [0, 1, 2, 7, 8, 9]))]
@[go_sem] def l108_6 (_ : Unit) : KL := [kB 10 (.mv (cI 0)) [0, 1, 2, 7, 8, 9, 10]]
@[go_sem] def l108_7 (_ : Unit) : KL := [kA 21 (.mv (.t 10)),
  kA 22 (.mv (.t 1)),
  kA 23 (.len (.t 22)),
  kB 24 (.bin .lss (.t 21) (.t 23)) [0, 1, 2, 7, 8, 9, 10, 24]]
@[go_sem] def s108_8 (_ : Unit) : IR := (sQ [(kT l108_7), (.cond (.t 24) .skip (.exit 2))])
@[go_sem] def l108_9 (_ : Unit) : KL := [kA 27 (.mv (.t 0)),
  kA 28 (.mv (.t 1)),
  kA 29 (.len (.t 28)),
  kA 30 (.bin .add (.t 29) (cI 1)),
  kB 31 (.call (n_spec_l40Rd_pick) [(.t 27), (.t 30)]) [0, 1, 2, 7, 8, 9, 10, 31],
  kA 32 (.bin .lss (.t 31) (cI 1)),
  kA 33 (.mv (.t 32)),
  (⟨(some 34), .mv (.t 10), (some (33, false))⟩, none),
  (⟨(some 35), .mv (.t 1), (some (33, false))⟩, none),
  (⟨(some 36), .len (.t 35), (some (33, false))⟩, (some [0, 1, 2, 7, 8, 9, 10, 33, 34, 36])),
  (⟨(some 37), .bin .sub (.t 36) (cI 1), (some (33, false))⟩, none),
  (⟨(some 38), .bin .eql (.t 34) (.t 37), (some (33, false))⟩, none),
  (⟨(some 39), .mv (.t 38), (some (33, false))⟩, none),
  (⟨(some 40), .faddr (.t 9) 1, (some (39, true))⟩, none),
  (⟨(some 41), .load (.t 40) 1 false, (some (39, true))⟩, (some [0, 1, 2, 7, 8, 9, 10, 33, 39, 41])),
  (⟨(some 42), .len (.t 41), (some (39, true))⟩, none),
  (⟨(some 43), .bin .eql (.t 42) (cI 0), (some (39, true))⟩, none),
  (⟨(some 44), .pick (.t 39) (.t 43) (.c (.bool false)), (some (33, false))⟩, none),
  (⟨(some 45), .mv (.t 44), (some (33, false))⟩, none),
  (⟨(some 46), .mv (.t 0), (some (45, true))⟩, (some [0, 1, 2, 7, 8, 9, 10, 33, 45, 46])),
  (⟨(some 47), .call (n_spec_l40Rd_pick) [(.t 46), (.c (.int .i64 9))], (some (45, true))⟩, none),
  (⟨(some 48), .bin .gtr (.t 47) (cI 0), (some (45, true))⟩, none),
  (⟨(some 49), .pick (.t 45) (.t 48) (.c (.bool false)), (some (33, false))⟩, none),
  kB 50 (.pick (.t 33) (.c (.bool true)) (.t 49)) [0, 1, 2, 7, 8, 9, 10, 50]]
@[go_sem] def l108_10 (_ : Unit) : KL := [kA 51 (.faddr (.t 9) 1),
  kA 52 (.load (.t 51) 1 false),
  kA 53 (.mv (.t 10)),
  kA 54 (.bslc 1 1 [(.int .i64 0)] [(0, (.t 53))]),
  kB 55 (.app 1 8 (.t 52) (.t 54)) [0, 1, 2, 7, 8, 9, 10, 55],
  kA 56 (.faddr (.t 9) 1),
  (⟨none, .store (.t 56) 1 (.t 55), none⟩, (some [0, 1, 2, 7, 8, 9, 10]))]
@[go_sem] def l108_11 : Nat → GOp
  | 0 => ⟨(some 57), .faddr (.t 9) 2, none⟩
  | 1 => ⟨(some 58), .load (.t 57) 1 false, none⟩
  | 2 => ⟨(some 59), .mv (.t 0), none⟩
  | 3 => ⟨(some 60), .mv (.t 1), none⟩
  | 4 => ⟨(some 61), .mv (.t 10), none⟩
  | 5 => ⟨(some 62), .call (n_spec_l2Value) [(.t 59), (.t 60), (.t 61)], none⟩
  | 6 => ⟨(some 63), .bslc 1 1 [(.sl none 0 0 true 0)] [(0, (.t 62))], none⟩
  | 7 => ⟨(some 64), .app 1 24 (.t 58) (.t 63), none⟩
  | 8 => ⟨(some 65), .faddr (.t 9) 2, none⟩
  | 9 => ⟨none, .store (.t 65) 1 (.t 64), none⟩
  | _ => ⟨none, .mkmap, none⟩
@[go_sem] def s108_12 (_ : Unit) : IR := (sQ [(kT l108_10), (.kd (oF l108_11 10) [(0, []), (1, []), (2, []), (3, []), (4, []), (5, [1]), (6, []), (7, []), (8, []), (9, [])] [0, 1, 2, 7, 8, 9, 10])])
@[go_sem] def s108_13 (_ : Unit) : IR := (sQ [(kT l108_9), (.cond (.t 50) (tH s108_12) .skip)])
@[go_sem] def s108_14 (_ : Unit) : IR := (.block 3 (tH s108_13))
@[go_sem] def l108_15 (_ : Unit) : KL := [kA 25 (.mv (.t 10)),
  kA 26 (.bin .add (.t 25) (cI 1)),
  kB 10 (.mv (.t 26)) [0, 1, 2, 7, 8, 9, 10]]
@[go_sem] def s108_16 (_ : Unit) : IR := (sQ [(tH s108_8), (tH s108_14), (kT l108_15)])
@[go_sem] def s108_17 (_ : Unit) : IR := (.loop (tH s108_16))
@[go_sem] def s108_18 (_ : Unit) : IR := (.block 2 (tH s108_17))
@[go_sem] def s108_19 (_ : Unit) : IR := (sQ [(kT l108_6), (tH s108_18)])
@[go_sem] def l108_20 (_ : Unit) : KL := [kA 66 (.mv (.t 7)),
  kA 67 (.load (.t 9) 3 true),
  kA 68 (.bslc 3 1 [(.sl none 0 0 true 0), (.sl none 0 0 true 0), (.sl none 0 0 true 0)] [(0, (.t 67))]),
  kA 69 (.app 3 72 (.t 66) (.t 68)),
  kB 7 (.mv (.t 69)) [0, 1, 2, 7, 8]]
@[go_sem] def s108_21 (_ : Unit) : IR := (sQ [(kT l108_5), (tH s108_19), (kT l108_20)])
@[go_sem] def s108_22 (_ : Unit) : IR := (.block 1 (tH s108_21))
@[go_sem] def l108_23 (_ : Unit) : KL := [kA 15 (.mv (.t 8)),
  kA 16 (.bin .add (.t 15) (cI 1)),
  kB 8 (.mv (.t 16)) [0, 1, 2, 7, 8]]
@[go_sem] def s108_24 (_ : Unit) : IR := (sQ [(tH s108_4), (tH s108_22), (kT l108_23)])
@[go_sem] def s108_25 (_ : Unit) : IR := (.loop (tH s108_24))
@[go_sem] def s108_26 (_ : Unit) : IR := (.block 0 (tH s108_25))
@[go_sem] def s108_27 (_ : Unit) : IR := (sQ [(kT l108_2), (tH s108_26)])
@[go_sem] def l108_28 (_ : Unit) : KL := [kA 70 (.mv (.t 7)),
  kB 6 (.mv (.t 70)) [6]]
@[go_sem] def s108_29 (_ : Unit) : IR := (sQ [(kT l108_0), (kT l108_1), (tH s108_27), (kT l108_28), .ret])
theorem c108 : compFn Try.prog [(0, [], [oS [0, 1, 2]]), (1, [], [oN, oS [0, 1, 2, 7]]), (2, [], [oS [0, 1, 2, 7, 8]]), (3, [], [oN, oN, oS [0, 1, 2, 7, 8, 14]]), (5, [], [oN, oN, oN, oN, oS [0, 1, 2, 7, 8, 9, 20], oS [0, 1, 2, 7, 8, 9]]), (6, [], [oS [0, 1, 2, 7, 8, 9, 10]]), (7, [], [oN, oN, oN, oS [0, 1, 2, 7, 8, 9, 10, 24]]), (9, [], [oN, oN, oN, oN, oS [0, 1, 2, 7, 8, 9, 10, 31], oN, oN, oN, oN, oS [0, 1, 2, 7, 8, 9, 10, 33, 34, 36], oN, oN, oN, oN, oS [0, 1, 2, 7, 8, 9, 10, 33, 39, 41], oN, oN, oN, oN, oS [0, 1, 2, 7, 8, 9, 10, 33, 45, 46], oN, oN, oN, oS [0, 1, 2, 7, 8, 9, 10, 50]]), (10, [], [oN, oN, oN, oN, oS [0, 1, 2, 7, 8, 9, 10, 55], oN, oS [0, 1, 2, 7, 8, 9, 10]]), (11, [(0, []), (1, []), (2, []), (3, []), (4, []), (5, [1]), (6, []), (7, []), (8, []), (9, [])], [oS [0, 1, 2, 7, 8, 9, 10]]), (8, [], [oN, oN, oS [0, 1, 2, 7, 8, 9, 10]]), (12, [], [oN, oN, oN, oN, oS [0, 1, 2, 7, 8]]), (4, [], [oN, oN, oS [0, 1, 2, 7, 8]]), (13, [], [oN, oS [6]])] Try.f108 = some ⟨3, 71, [.t 6], (tH s108_29)⟩ := by kernel_rfl
theorem v_spec_l2Rules (hl : vs.length = 3) (h : wpV Try.prog (tH s108_29) (postV [.t 6] RV) (envV vs) M) : VCall Try.prog n_spec_l2Rules vs M RV :=
  vcall_of_wp (fun _ _ _ hl h => acall_of_wp mixed Try.func108 c108 (by kernel_rfl) hl h) hl h
@[go_sem] def l88_0 (_ : Unit) : KL := [kB 4 (.alloc [(.sl none 0 0 true 0), (.sl none 0 0 true 0)]) [0, 1, 4]]
@[go_sem] def l88_1 (_ : Unit) : KL := [kA 10 (.bld [(.sl none 0 0 true 0), (.sl none 0 0 true 0)] []),
  kA 5 (.alloc [(.sl none 0 0 true 0), (.sl none 0 0 true 0)]),
  (⟨none, .store (.t 5) 2 (.t 10), none⟩, (some [0, 1, 4, 5]))]
@[go_sem] def l88_2 (_ : Unit) : KL := [kB 6 (.mv (cI 1)) [0, 1, 4, 5, 6]]
@[go_sem] def l88_3 (_ : Unit) : KL := [kA 11 (.mv (.t 0)),
  kA 12 (.call (n_spec_l40Rd_pick) [(.t 11), (.c (.int .i64 3))]),
  kA 13 (.bin .add (cI 1) (.t 12)),
  kB 7 (.mv (.t 13)) [0, 1, 4, 5, 6, 7]]
@[go_sem] def l88_4 (_ : Unit) : KL := [kA 14 (.mv (.t 7)),
  kB 15 (.bin .gtr (.t 14) (cI 0)) [0, 1, 4, 5, 6, 7, 15]]
@[go_sem] def s88_5 (_ : Unit) : IR := (sQ [(kT l88_4), (.cond (.t 15) .skip (.exit 0))])
@[go_sem] def l88_6 (_ : Unit) : KL := [kA 18 (.mv (.t 0)),
  kA 19 (.bslc 1 5 [(.int .i64 0)] [(0, (.c (.int .i64 2))), (1, (.c (.int .i64 3))), (2, (.c (.int .i64 2))), (3, (.c (.int .i64 4))), (4, (.c (.int .i64 5)))]),
  kA 20 (.call (n_spec_l40Rd_num) [(.t 18), (.t 19)]),
  kB 8 (.mv (.t 20)) [0, 1, 4, 5, 6, 7, 8]]
@[go_sem] def l88_7 (_ : Unit) : KL := [kA 21 (.mv (.t 6)),
  kA 22 (.mv (.t 8)),
  kA 23 (.bin .mul (.t 21) (.t 22)),
  kA 24 (.mv (.t 1)),
  kB 25 (.bin .leq (.t 23) (.t 24)) [0, 1, 4, 5, 6, 7, 8, 25]]
@[go_sem] def l88_8 (_ : Unit) : KL := [kA 26 (.mv (.t 0)),
  kA 27 (.bslc 1 5 [(.int .i64 0)] [(0, (cI 0)), (1, (cI 0)), (2, (cI 0)), (3, (.c (.int .i64 (-1)))), (4, (.c (.int .i64 2)))]),
  kA 28 (.call (n_spec_l40Rd_num) [(.t 26), (.t 27)]),
  kB 9 (.mv (.t 28)) [0, 1, 4, 5, 6, 7, 8, 9]]
@[go_sem] def l88_9 : Nat → GOp
  | 0 => ⟨(some 29), .faddr (.t 5) 0, none⟩
  | 1 => ⟨(some 30), .load (.t 29) 1 false, none⟩
  | 2 => ⟨(some 31), .mv (.t 9), none⟩
  | 3 => ⟨(some 32), .mv (.t 9), none⟩
  | 4 => ⟨(some 33), .mv (.t 8), none⟩
  | 5 => ⟨(some 34), .bin .add (.t 32) (.t 33), none⟩
  | 6 => ⟨(some 35), .bin .sub (.t 34) (cI 1), none⟩
  | 7 => ⟨(some 36), .mv (.t 9), none⟩
  | 8 => ⟨(some 37), .mv (.t 0), none⟩
  | 9 => ⟨(some 38), .mv (.t 8), none⟩
  | 10 => ⟨(some 39), .call (n_spec_l40Rd_pick) [(.t 37), (.t 38)], none⟩
  | 11 => ⟨(some 40), .bin .add (.t 36) (.t 39), none⟩
  | 12 => ⟨(some 41), .bld [(.int .i64 0), (.int .i64 0), (.int .i64 0)] [(0, 1, (.t 31)), (1, 1, (.t 35)), (2, 1, (.t 40))], none⟩
  | 13 => ⟨(some 42), .bslc 3 1 [(.int .i64 0), (.int .i64 0), (.int .i64 0)] [(0, (.t 41))], none⟩
  | 14 => ⟨(some 43), .app 3 24 (.t 30) (.t 42), none⟩
  | 15 => ⟨(some 44), .faddr (.t 5) 0, none⟩
  | 16 => ⟨none, .store (.t 44) 1 (.t 43), none⟩
  | _ => ⟨none, .mkmap, none⟩
@[go_sem] def l88_10 (_ : Unit) : KL := [kA 45 (.mv (.t 6)),
  kA 46 (.mv (.t 8)),
  kA 47 (.bin .mul (.t 45) (.t 46)),
  kB 6 (.mv (.t 47)) [0, 1, 4, 5, 6, 7]]
@[go_sem] def s88_11 (_ : Unit) : IR := (sQ [(kT l88_8), (.kd (oF l88_9 17) [(0, []), (1, []), (2, []), (3, []), (4, []), (5, []), (6, []), (7, []), (8, []), (9, []), (10, [1]), (11, []), (12, []), (13, []), (14, []), (15, []), (16, [])] [0, 1, 4, 5, 6, 7, 8]), (kT l88_10)])
@[go_sem] def s88_12 (_ : Unit) : IR := (sQ [(kT l88_6), (kT l88_7), (.cond (.t 25) (tH s88_11) .skip)])
@[go_sem] def s88_13 (_ : Unit) : IR := (.block 1 (tH s88_12))
@[go_sem] def l88_14 (_ : Unit) : KL := [kA 16 (.mv (.t 7)),
  kA 17 (.bin .sub (.t 16) (cI 1)),
  kB 7 (.mv (.t 17)) [0, 1, 4, 5, 6, 7]]
@[go_sem] def s88_15 (_ : Unit) : IR := (sQ [(tH s88_5), (tH s88_13), (kT l88_14)])
@[go_sem] def s88_16 (_ : Unit) : IR := (.loop (tH s88_15))
@[go_sem] def s88_17 (_ : Unit) : IR := (.block 0 (tH s88_16))
@[go_sem] def s88_18 (_ : Unit) : IR := (sQ [(kT l88_3), (tH s88_17)])
@[go_sem] def l88_19 (_ : Unit) : KL := [kA 48 (.faddr (.t 5) 0),
  kA 49 (.load (.t 48) 1 false),
  kA 50 (.len (.t 49)),
  kB 51 (.bin .eql (.t 50) (cI 0)) [0, 4, 5, 51]]
@[go_sem] def l88_20 (_ : Unit) : KL := [kA 52 (.faddr (.t 5) 0),
  kA 53 (.load (.t 52) 1 false),
  kA 54 (.bld [(.int .i64 0), (.int .i64 0), (.int .i64 0)] [(1, 1, (cI 1))]),
  kA 55 (.bslc 3 1 [(.int .i64 0), (.int .i64 0), (.int .i64 0)] [(0, (.t 54))]),
  kB 56 (.app 3 24 (.t 53) (.t 55)) [0, 4, 5, 56],
  kA 57 (.faddr (.t 5) 0),
  (⟨none, .store (.t 57) 1 (.t 56), none⟩, (some [0, 4, 5]))]
@[go_sem] def s88_21 (_ : Unit) : IR := (sQ [(kT l88_19), (.cond (.t 51) (kT l88_20) .skip)])
@[go_sem] def l88_22 : Nat → GOp
  | 0 => ⟨(some 58), .mv (.t 0), none⟩
  | 1 => ⟨(some 59), .faddr (.t 5) 0, none⟩
  | 2 => ⟨(some 60), .load (.t 59) 1 false, none⟩
  | 3 => ⟨(some 61), .mv (.t 0), none⟩
  | 4 => ⟨(some 62), .bslc 1 7 [(.int .i64 0)] [(0, (cI 1)), (1, (.c (.int .i64 2))), (2, (.c (.int .i64 3))), (3, (.c (.int .i64 4))), (4, (.c (.int .i64 2))), (5, (.c (.int .i64 3))), (6, (cI 0))], none⟩
  | 5 => ⟨(some 63), .call (n_spec_l40Rd_num) [(.t 61), (.t 62)], none⟩
  | 6 => ⟨(some 64), .call (n_spec_l2Rules) [(.t 58), (.t 60), (.t 63)], none⟩
  | 7 => ⟨(some 65), .faddr (.t 5) 1, none⟩
  | 8 => ⟨none, .store (.t 65) 1 (.t 64), none⟩
  | _ => ⟨none, .mkmap, none⟩
@[go_sem] def l88_23 (_ : Unit) : KL := [kA 66 (.load (.t 5) 2 true),
  (⟨none, .store (.t 4) 2 (.t 66), none⟩, (some [4]))]
@[go_sem] def s88_24 (_ : Unit) : IR := (sQ [(kT l88_0), (kT l88_1), (kT l88_2), (tH s88_18), (tH s88_21), (.kd (oF l88_22 9) [(0, []), (1, []), (2, []), (3, []), (4, []), (5, [2]), (6, []), (7, []), (8, [])] [4, 5]), (kT l88_23), .ret])
theorem c88 : compFn Try.prog [(0, [], [oS [0, 1, 4]]), (1, [], [oN, oN, oS [0, 1, 4, 5]]), (2, [], [oS [0, 1, 4, 5, 6]]), (3, [], [oN, oN, oN, oS [0, 1, 4, 5, 6, 7]]), (4, [], [oN, oS [0, 1, 4, 5, 6, 7, 15]]), (6, [], [oN, oN, oN, oS [0, 1, 4, 5, 6, 7, 8]]), (7, [], [oN, oN, oN, oN, oS [0, 1, 4, 5, 6, 7, 8, 25]]), (8, [], [oN, oN, oN, oS [0, 1, 4, 5, 6, 7, 8, 9]]), (9, [(0, []), (1, []), (2, []), (3, []), (4, []), (5, []), (6, []), (7, []), (8, []), (9, []), (10, [1]), (11, []), (12, []), (13, []), (14, []), (15, []), (16, [])], [oS [0, 1, 4, 5, 6, 7, 8]]), (10, [], [oN, oN, oN, oS [0, 1, 4, 5, 6, 7]]), (5, [], [oN, oN, oS [0, 1, 4, 5, 6, 7]]), (11, [], [oN, oN, oN, oS [0, 4, 5, 51]]), (12, [], [oN, oN, oN, oN, oS [0, 4, 5, 56], oN, oS [0, 4, 5]]), (13, [(0, []), (1, []), (2, []), (3, []), (4, []), (5, [2]), (6, []), (7, []), (8, [])], [oS [4, 5]]), (14, [], [oN, oS [4]])] Try.f88 = some ⟨2, 67, [.c 4 2 true], (tH s88_24)⟩ := by kernel_rfl
theorem v_spec_l2System (hl : vs.length = 2) (h : wpV Try.prog (tH s88_24) (postV [.c 4 2 true] RV) (envV vs) M) : VCall Try.prog n_spec_l2System vs M RV :=
  vcall_of_wp (fun _ _ _ hl h => acall_of_wp mixed Try.func88 c88 (by kernel_rfl) hl h) hl h
@[go_sem] def l50_0 (_ : Unit) : KL := [kB 4 (.alloc [(.sl none 0 0 true 0), (.sl none 0 0 true 0)]) [0, 1, 4]]
@[go_sem] def l50_1 (_ : Unit) : KL := [kA 7 (.mv (.t 0)),
  kA 8 (.mv (.t 1)),
  kA 9 (.call (n_spec_l2System) [(.t 7), (.t 8)]),
  kA 5 (.alloc [(.sl none 0 0 true 0), (.sl none 0 0 true 0)]),
  (⟨none, .store (.t 5) 2 (.t 9), none⟩, (some [0, 4, 5]))]
@[go_sem] def l50_2 (_ : Unit) : KL := [kA 10 (.mv (.t 0)),
  kA 11 (.call (n_spec_l40Rd_pick) [(.t 10), (.c (.int .i64 14))]),
  kB 12 (.bin .eql (.t 11) (cI 0)) [0, 4, 5, 12]]
@[go_sem] def l50_3 (_ : Unit) : KL := [kA 13 (.mv (.t 0)),
  kA 14 (.call (n_spec_l40Rd_pick) [(.t 13), (.c (.int .i64 6))]),
  kB 6 (.mv (.t 14)) [0, 4, 5, 6]]
@[go_sem] def l50_4 (_ : Unit) : KL := [kA 15 (.mv (.t 6)),
  kB 16 (.bin .eql (.t 15) (cI 0)) [0, 4, 5, 6, 16]]
@[go_sem] def l50_5 : Nat → GOp
  | 0 => ⟨(some 17), .faddr (.t 5) 0, none⟩
  | 1 => ⟨(some 18), .load (.t 17) 1 false, none⟩
  | 2 => ⟨(some 19), .faddr (.t 5) 0, none⟩
  | 3 => ⟨(some 20), .load (.t 19) 1 false, none⟩
  | 4 => ⟨(some 21), .iaddr (.t 20) (cI 0) 3, none⟩
  | 5 => ⟨(some 22), .faddr (.t 21) 1, none⟩
  | 6 => ⟨(some 23), .load (.t 22) 1 false, none⟩
  | 7 => ⟨(some 24), .bin .add (.t 23) (cI 1), none⟩
  | 8 => ⟨(some 25), .iaddr (.t 18) (cI 0) 3, none⟩
  | 9 => ⟨(some 26), .faddr (.t 25) 2, none⟩
  | 10 => ⟨none, .store (.t 26) 1 (.t 24), none⟩
  | _ => ⟨none, .mkmap, none⟩
@[go_sem] def l50_6 (_ : Unit) : KL := [kA 27 (.mv (.t 6)),
  kB 28 (.bin .eql (.t 27) (cI 1)) [0, 4, 5, 6, 28]]
@[go_sem] def l50_7 : Nat → GOp
  | 0 => ⟨(some 29), .faddr (.t 5) 0, none⟩
  | 1 => ⟨(some 30), .load (.t 29) 1 false, none⟩
  | 2 => ⟨(some 31), .faddr (.t 5) 0, none⟩
  | 3 => ⟨(some 32), .load (.t 31) 1 false, none⟩
  | 4 => ⟨(some 33), .iaddr (.t 32) (cI 0) 3, none⟩
  | 5 => ⟨(some 34), .faddr (.t 33) 0, none⟩
  | 6 => ⟨(some 35), .load (.t 34) 1 false, none⟩
  | 7 => ⟨(some 36), .mv (.t 0), none⟩
  | 8 => ⟨(some 37), .bslc 1 3 [(.int .i64 0)] [(0, (.c (.int .i64 (-1)))), (1, (.c (.int .i64 20))), (2, (.c (.int .i64 19)))], none⟩
  | 9 => ⟨(some 38), .call (n_spec_l40Rd_num) [(.t 36), (.t 37)], none⟩
  | 10 => ⟨(some 39), .bin .add (.t 35) (.t 38), none⟩
  | 11 => ⟨(some 40), .iaddr (.t 30) (cI 0) 3, none⟩
  | 12 => ⟨(some 41), .faddr (.t 40) 1, none⟩
  | 13 => ⟨none, .store (.t 41) 1 (.t 39), none⟩
  | _ => ⟨none, .mkmap, none⟩
@[go_sem] def l50_8 (_ : Unit) : KL := [kA 42 (.mv (.t 6)),
  kA 43 (.bin .eql (.t 42) (.c (.int .i64 2))),
  kA 44 (.mv (.t 43)),
  (⟨(some 45), .faddr (.t 5) 1, (some (44, true))⟩, none),
  (⟨(some 46), .load (.t 45) 1 false, (some (44, true))⟩, (some [4, 5, 6, 44, 46])),
  (⟨(some 47), .len (.t 46), (some (44, true))⟩, none),
  (⟨(some 48), .bin .gtr (.t 47) (cI 0), (some (44, true))⟩, none),
  kB 49 (.pick (.t 44) (.t 48) (.c (.bool false))) [4, 5, 6, 49]]
@[go_sem] def l50_9 : Nat → GOp
  | 0 => ⟨(some 50), .faddr (.t 5) 1, none⟩
  | 1 => ⟨(some 51), .load (.t 50) 1 false, none⟩
  | 2 => ⟨(some 52), .call (n_spec_l2Const) [(cI 1)], none⟩
  | 3 => ⟨(some 53), .bslc 4 1 [(.int .i64 0), (.int .i64 0), (.int .i64 0), (.int .i64 0)] [(0, (.t 52))], none⟩
  | 4 => ⟨(some 54), .iaddr (.t 51) (cI 0) 3, none⟩
  | 5 => ⟨(some 55), .faddr (.t 54) 0, none⟩
  | 6 => ⟨none, .store (.t 55) 1 (.t 53), none⟩
  | _ => ⟨none, .mkmap, none⟩
@[go_sem] def l50_10 (_ : Unit) : KL := [kA 56 (.mv (.t 6)),
  kA 57 (.bin .eql (.t 56) (.c (.int .i64 3))),
  kA 58 (.mv (.t 57)),
  (⟨(some 59), .faddr (.t 5) 1, (some (58, true))⟩, none),
  (⟨(some 60), .load (.t 59) 1 false, (some (58, true))⟩, (some [4, 5, 6, 58, 60])),
  (⟨(some 61), .len (.t 60), (some (58, true))⟩, none),
  (⟨(some 62), .bin .gtr (.t 61) (cI 0), (some (58, true))⟩, none),
  kB 63 (.pick (.t 58) (.t 62) (.c (.bool false))) [4, 5, 6, 63]]
@[go_sem] def l50_11 : Nat → GOp
  | 0 => ⟨(some 64), .faddr (.t 5) 1, none⟩
  | 1 => ⟨(some 65), .load (.t 64) 1 false, none⟩
  | 2 => ⟨(some 66), .faddr (.t 5) 1, none⟩
  | 3 => ⟨(some 67), .load (.t 66) 1 false, none⟩
  | 4 => ⟨(some 68), .iaddr (.t 67) (cI 0) 3, none⟩
  | 5 => ⟨(some 69), .faddr (.t 68) 1, none⟩
  | 6 => ⟨(some 70), .load (.t 69) 1 false, none⟩
  | 7 => ⟨(some 71), .faddr (.t 5) 0, none⟩
  | 8 => ⟨(some 72), .load (.t 71) 1 false, none⟩
  | 9 => ⟨(some 73), .len (.t 72), none⟩
  | 10 => ⟨(some 74), .bslc 1 1 [(.int .i64 0)] [(0, (.t 73))], none⟩
  | 11 => ⟨(some 75), .app 1 8 (.t 70) (.t 74), none⟩
  | 12 => ⟨(some 76), .iaddr (.t 65) (cI 0) 3, none⟩
  | 13 => ⟨(some 77), .faddr (.t 76) 1, none⟩
  | 14 => ⟨none, .store (.t 77) 1 (.t 75), none⟩
  | _ => ⟨none, .mkmap, none⟩
@[go_sem] def l50_12 (_ : Unit) : KL := [kA 78 (.mv (.t 6)),
  kB 79 (.bin .eql (.t 78) (.c (.int .i64 4))) [4, 5, 79]]
@[go_sem] def l50_13 (_ : Unit) : KL := [kA 80 (.faddr (.t 5) 0),
  (⟨none, .store (.t 80) 1 (.c (.sl none 0 0 true 0)), none⟩, (some [4, 5]))]
@[go_sem] def l50_14 (_ : Unit) : KL := [kA 81 (.faddr (.t 5) 1),
  kA 82 (.load (.t 81) 1 false),
  kA 83 (.len (.t 82)),
  kB 84 (.bin .gtr (.t 83) (cI 0)) [4, 5, 84]]
@[go_sem] def l50_15 : Nat → GOp
  | 0 => ⟨(some 85), .faddr (.t 5) 1, none⟩
  | 1 => ⟨(some 86), .load (.t 85) 1 false, none⟩
  | 2 => ⟨(some 87), .faddr (.t 5) 1, none⟩
  | 3 => ⟨(some 88), .load (.t 87) 1 false, none⟩
  | 4 => ⟨(some 89), .iaddr (.t 88) (cI 0) 3, none⟩
  | 5 => ⟨(some 90), .faddr (.t 89) 2, none⟩
  | 6 => ⟨(some 91), .load (.t 90) 1 false, none⟩
  | 7 => ⟨(some 92), .call (n_spec_l2Const) [(cI 0)], none⟩
  | 8 => ⟨(some 93), .bslc 4 1 [(.int .i64 0), (.int .i64 0), (.int .i64 0), (.int .i64 0)] [(0, (.t 92))], none⟩
  | 9 => ⟨(some 94), .bslo 1 1 [(.sl none 0 0 true 0)] [(0, (.t 93))], none⟩
  | 10 => ⟨(some 95), .app 1 24 (.t 91) (.t 94), none⟩
  | 11 => ⟨(some 96), .iaddr (.t 86) (cI 0) 3, none⟩
  | 12 => ⟨(some 97), .faddr (.t 96) 2, none⟩
  | 13 => ⟨none, .store (.t 97) 1 (.t 95), none⟩
  | _ => ⟨none, .mkmap, none⟩
@[go_sem] def s50_16 (_ : Unit) : IR := (sQ [(kT l50_14), (.cond (.t 84) (.kd (oF l50_15 14) [(0, []), (1, []), (2, []), (3, []), (4, []), (5, []), (6, []), (7, [1, 3, 6]), (8, []), (9, [1, 3, 6]), (10, [1]), (11, []), (12, []), (13, [])] [4, 5]) .skip)])
@[go_sem] def s50_17 (_ : Unit) : IR := (sQ [(kT l50_12), (.cond (.t 79) (kT l50_13) (tH s50_16))])
@[go_sem] def s50_18 (_ : Unit) : IR := (sQ [(kT l50_10), (.cond (.t 63) (.kd (oF l50_11 15) [(0, []), (1, []), (2, []), (3, []), (4, []), (5, []), (6, []), (7, []), (8, []), (9, []), (10, []), (11, [1]), (12, []), (13, []), (14, [])] [4, 5]) (tH s50_17))])
@[go_sem] def s50_19 (_ : Unit) : IR := (sQ [(kT l50_8), (.cond (.t 49) (.kd (oF l50_9 7) [(0, []), (1, []), (2, [1]), (3, []), (4, []), (5, []), (6, [])] [4, 5]) (tH s50_18))])
@[go_sem] def s50_20 (_ : Unit) : IR := (sQ [(kT l50_6), (.cond (.t 28) (.kd (oF l50_7 14) [(0, []), (1, []), (2, []), (3, []), (4, []), (5, []), (6, []), (7, []), (8, []), (9, [1, 3, 6]), (10, []), (11, []), (12, []), (13, [])] [4, 5]) (tH s50_19))])
@[go_sem] def s50_21 (_ : Unit) : IR := (sQ [(kT l50_3), (kT l50_4), (.cond (.t 16) (.kd (oF l50_5 11) [(0, []), (1, []), (2, []), (3, []), (4, []), (5, []), (6, []), (7, []), (8, []), (9, []), (10, [])] [4, 5]) (tH s50_20))])
@[go_sem] def s50_22 (_ : Unit) : IR := (sQ [(kT l50_2), (.cond (.t 12) (tH s50_21) .skip)])
@[go_sem] def l50_23 (_ : Unit) : KL := [kA 98 (.load (.t 5) 2 true),
  (⟨none, .store (.t 4) 2 (.t 98), none⟩, (some [4]))]
@[go_sem] def s50_24 (_ : Unit) : IR := (sQ [(kT l50_0), (kT l50_1), (tH s50_22), (kT l50_23), .ret])
theorem c50 : compFn Try.prog [(0, [], [oS [0, 1, 4]]), (1, [], [oN, oN, oN, oN, oS [0, 4, 5]]), (2, [], [oN, oN, oS [0, 4, 5, 12]]), (3, [], [oN, oN, oS [0, 4, 5, 6]]), (4, [], [oN, oS [0, 4, 5, 6, 16]]), (5, [(0, []), (1, []), (2, []), (3, []), (4, []), (5, []), (6, []), (7, []), (8, []), (9, []), (10, [])], [oS [4, 5]]), (6, [], [oN, oS [0, 4, 5, 6, 28]]), (7, [(0, []), (1, []), (2, []), (3, []), (4, []), (5, []), (6, []), (7, []), (8, []), (9, [1, 3, 6]), (10, []), (11, []), (12, []), (13, [])], [oS [4, 5]]), (8, [], [oN, oN, oN, oN, oS [4, 5, 6, 44, 46], oN, oN, oS [4, 5, 6, 49]]), (9, [(0, []), (1, []), (2, [1]), (3, []), (4, []), (5, []), (6, [])], [oS [4, 5]]), (10, [], [oN, oN, oN, oN, oS [4, 5, 6, 58, 60], oN, oN, oS [4, 5, 6, 63]]), (11, [(0, []), (1, []), (2, []), (3, []), (4, []), (5, []), (6, []), (7, []), (8, []), (9, []), (10, []), (11, [1]), (12, []), (13, []), (14, [])], [oS [4, 5]]), (12, [], [oN, oS [4, 5, 79]]), (13, [], [oN, oS [4, 5]]), (14, [], [oN, oN, oN, oS [4, 5, 84]]), (15, [(0, []), (1, []), (2, []), (3, []), (4, []), (5, []), (6, []), (7, [1, 3, 6]), (8, []), (9, [1, 3, 6]), (10, [1]), (11, []), (12, []), (13, [])], [oS [4, 5]]), (16, [], [oN, oS [4]])] Try.f50 = some ⟨2, 99, [.c 4 2 true], (tH s50_24)⟩ := by kernel_rfl
theorem v_spec_l2Any (hl : vs.length = 2) (h : wpV Try.prog (tH s50_24) (postV [.c 4 2 true] RV) (envV vs) M) : VCall Try.prog n_spec_l2Any vs M RV :=
  vcall_of_wp (fun _ _ _ hl h => acall_of_wp mixed Try.func50 c50 (by kernel_rfl) hl h) hl h
@[go_sem] def l51_0 (_ : Unit) : KL := [kA 3 (.box (.t 1)),
  kB 4 (.mv (.c (.sl none 0 0 true 0))) [0, 3]]
@[go_sem] def l51_1 (_ : Unit) : KL := [kA 9 (.bslc 1 0 [(.int .i64 0)] []),
  kB 5 (.mv (.t 9)) [0, 3, 5]]
@[go_sem] def l51_2 (_ : Unit) : KL := [kB 6 (.mv (cI 0)) [0, 3, 5, 6]]
@[go_sem] def l51_3 (_ : Unit) : KL := [kA 10 (.mv (.t 6)),
  kA 11 (.faddr (.t 3) 0),
  kA 12 (.load (.t 11) 1 false),
  kA 13 (.len (.t 12)),
  kB 14 (.bin .lss (.t 10) (.t 13)) [0, 3, 5, 6, 14]]
@[go_sem] def s51_4 (_ : Unit) : IR := (sQ [(kT l51_3), (.cond (.t 14) .skip (.exit 0))])
@[go_sem] def l51_5 : Nat → GOp
  | 0 => ⟨(some 17), .faddr (.t 3) 0, none⟩
  | 1 => ⟨(some 18), .load (.t 17) 1 false, none⟩
  | 2 => ⟨(some 19), .mv (.t 6), none⟩
  | 3 => ⟨(some 20), .iaddr (.t 18) (.t 19) 3, none⟩
  | 4 => ⟨(some 21), .faddr (.t 20) 1, none⟩
  | 5 => ⟨(some 22), .load (.t 21) 1 false, none⟩
  | 6 => ⟨(some 23), .faddr (.t 3) 0, none⟩
  | 7 => ⟨(some 24), .load (.t 23) 1 false, none⟩
  | 8 => ⟨(some 25), .mv (.t 6), none⟩
  | 9 => ⟨(some 26), .iaddr (.t 24) (.t 25) 3, none⟩
  | 10 => ⟨(some 27), .faddr (.t 26) 0, none⟩
  | 11 => ⟨(some 28), .load (.t 27) 1 false, none⟩
  | 12 => ⟨(some 29), .bin .sub (.t 22) (.t 28), none⟩
  | 13 => ⟨(some 30), .bin .add (.t 29) (cI 1), none⟩
  | 14 => ⟨(some 7), .mv (.t 30), none⟩
  | _ => ⟨none, .mkmap, none⟩
@[go_sem] def l51_6 (_ : Unit) : KL := [kA 31 (.faddr (.t 3) 0),
  kA 32 (.load (.t 31) 1 false),
  kA 33 (.mv (.t 6)),
  kA 34 (.iaddr (.t 32) (.t 33) 3),
  kB 35 (.faddr (.t 34) 0) [0, 3, 5, 6, 7, 35],
  kA 36 (.load (.t 35) 1 false),
  kB 8 (.mv (.t 36)) [0, 3, 5, 6, 7, 8]]
@[go_sem] def l51_7 (_ : Unit) : KL := [kA 37 (.mv (.t 7)),
  kA 38 (.bin .gtr (.t 37) (cI 0)),
  kA 39 (.mv (.t 38)),
  (⟨(some 40), .mv (.t 7), (some (39, true))⟩, none),
  (⟨(some 41), .bin .lss (.t 40) (.c (.int .i64 100)), (some (39, true))⟩, (some [0, 3, 5, 6, 7, 8, 39, 41])),
  kB 42 (.pick (.t 39) (.t 41) (.c (.bool false))) [0, 3, 5, 6, 7, 8, 42]]
@[go_sem] def l51_8 (_ : Unit) : KL := [kA 43 (.mv (.t 8)),
  kA 44 (.mv (.t 0)),
  kA 45 (.mv (.t 7)),
  kA 46 (.call (n_spec_l40Rd_pick) [(.t 44), (.t 45)]),
  kB 47 (.bin .add (.t 43) (.t 46)) [0, 3, 5, 6, 47],
  kB 8 (.mv (.t 47)) [0, 3, 5, 6, 8]]
@[go_sem] def s51_9 (_ : Unit) : IR := (sQ [(kT l51_7), (.cond (.t 42) (kT l51_8) .skip)])
@[go_sem] def l51_10 (_ : Unit) : KL := [kA 48 (.mv (.t 5)),
  kA 49 (.mv (.t 8)),
  kA 50 (.bslc 1 1 [(.int .i64 0)] [(0, (.t 49))]),
  kA 51 (.app 1 8 (.t 48) (.t 50)),
  kB 5 (.mv (.t 51)) [0, 3, 5, 6]]
@[go_sem] def s51_11 (_ : Unit) : IR := (sQ [(.kd (oF l51_5 15) [(0, []), (1, []), (2, []), (3, []), (4, []), (5, []), (6, []), (7, []), (8, []), (9, []), (10, []), (11, []), (12, []), (13, []), (14, [])] [0, 3, 5, 6, 7]), (kT l51_6), (tH s51_9), (kT l51_10)])
@[go_sem] def s51_12 (_ : Unit) : IR := (.block 1 (tH s51_11))
@[go_sem] def l51_13 (_ : Unit) : KL := [kA 15 (.mv (.t 6)),
  kA 16 (.bin .add (.t 15) (cI 1)),
  kB 6 (.mv (.t 16)) [0, 3, 5, 6]]
@[go_sem] def s51_14 (_ : Unit) : IR := (sQ [(tH s51_4), (tH s51_12), (kT l51_13)])
@[go_sem] def s51_15 (_ : Unit) : IR := (.loop (tH s51_14))
@[go_sem] def s51_16 (_ : Unit) : IR := (.block 0 (tH s51_15))
@[go_sem] def s51_17 (_ : Unit) : IR := (sQ [(kT l51_2), (tH s51_16)])
@[go_sem] def l51_18 (_ : Unit) : KL := [kA 52 (.mv (.t 0)),
  kA 53 (.call (n_spec_l40Rd_pick) [(.t 52), (.c (.int .i64 15))]),
  kB 54 (.bin .eql (.t 53) (cI 0)) [0, 3, 5, 54]]
@[go_sem] def l51_19 (_ : Unit) : KL := [kA 55 (.mv (.t 0)),
  kA 56 (.call (n_spec_l40Rd_pick) [(.t 55), (.c (.int .i64 2))]),
  kA 57 (.bin .eql (.t 56) (cI 0)),
  kA 58 (.mv (.t 57)),
  (⟨(some 59), .mv (.t 5), (some (58, false))⟩, (some [3, 5, 58, 59])),
  (⟨(some 60), .len (.t 59), (some (58, false))⟩, none),
  (⟨(some 61), .bin .eql (.t 60) (cI 0), (some (58, false))⟩, none),
  kB 62 (.pick (.t 58) (.c (.bool true)) (.t 61)) [3, 5, 62]]
@[go_sem] def l51_20 (_ : Unit) : KL := [kA 63 (.mv (.t 5)),
  kA 64 (.bslc 1 1 [(.int .i64 0)] [(0, (cI 0))]),
  kA 65 (.app 1 8 (.t 63) (.t 64)),
  kB 5 (.mv (.t 65)) [5]]
@[go_sem] def l51_21 (_ : Unit) : KL := [kA 66 (.mv (.t 5)),
  kA 67 (.faddr (.t 3) 0),
  kA 68 (.load (.t 67) 1 false),
  kA 69 (.iaddr (.t 68) (cI 0) 3),
  kB 70 (.faddr (.t 69) 1) [5, 66, 70],
  kA 71 (.load (.t 70) 1 false),
  kA 72 (.bin .add (.t 71) (cI 1)),
  kA 73 (.iaddr (.t 66) (cI 0) 1),
  (⟨none, .store (.t 73) 1 (.t 72), none⟩, (some [5]))]
@[go_sem] def s51_22 (_ : Unit) : IR := (sQ [(kT l51_19), (.cond (.t 62) (kT l51_20) (kT l51_21))])
@[go_sem] def s51_23 (_ : Unit) : IR := (sQ [(kT l51_18), (.cond (.t 54) (tH s51_22) .skip)])
@[go_sem] def l51_24 (_ : Unit) : KL := [kA 74 (.mv (.t 5)),
  kB 4 (.mv (.t 74)) [4]]
@[go_sem] def s51_25 (_ : Unit) : IR := (sQ [(kT l51_0), (kT l51_1), (tH s51_17), (tH s51_23), (kT l51_24), .ret])
theorem c51 : compFn Try.prog [(0, [], [oN, oS [0, 3]]), (1, [], [oN, oS [0, 3, 5]]), (2, [], [oS [0, 3, 5, 6]]), (3, [], [oN, oN, oN, oN, oS [0, 3, 5, 6, 14]]), (5, [(0, []), (1, []), (2, []), (3, []), (4, []), (5, []), (6, []), (7, []), (8, []), (9, []), (10, []), (11, []), (12, []), (13, []), (14, [])], [oS [0, 3, 5, 6, 7]]), (6, [], [oN, oN, oN, oN, oS [0, 3, 5, 6, 7, 35], oN, oS [0, 3, 5, 6, 7, 8]]), (7, [], [oN, oN, oN, oN, oS [0, 3, 5, 6, 7, 8, 39, 41], oS [0, 3, 5, 6, 7, 8, 42]]), (8, [], [oN, oN, oN, oN, oS [0, 3, 5, 6, 47], oS [0, 3, 5, 6, 8]]), (9, [], [oN, oN, oN, oN, oS [0, 3, 5, 6]]), (4, [], [oN, oN, oS [0, 3, 5, 6]]), (10, [], [oN, oN, oS [0, 3, 5, 54]]), (11, [], [oN, oN, oN, oN, oS [3, 5, 58, 59], oN, oN, oS [3, 5, 62]]), (12, [], [oN, oN, oN, oS [5]]), (13, [], [oN, oN, oN, oN, oS [5, 66, 70], oN, oN, oN, oS [5]]), (14, [], [oN, oS [4]])] Try.f51 = some ⟨2, 75, [.t 4], (tH s51_25)⟩ := by kernel_rfl
theorem v_spec_l2Some (hl : vs.length = 2) (h : wpV Try.prog (tH s51_25) (postV [.t 4] RV) (envV vs) M) : VCall Try.prog n_spec_l2Some vs M RV :=
  vcall_of_wp (fun _ _ _ hl h => acall_of_wp mixed Try.func51 c51 (by kernel_rfl) hl h) hl h
@[go_sem] def l18_0 (_ : Unit) : KL := [kA 2 (.alloc [(.sl none 0 0 true 0), (.sl none 0 0 true 0)]),
  kA 3 (.mv (.c (.sl none 0 0 true 0))),
  kB 4 (.mv (cI 0)) [0, 2]]
@[go_sem] def l18_1 (_ : Unit) : KL := [kA 8 (.mv (.t 0)),
  kA 9 (.call (n_spec_l40Open) [(.t 8)]),
  kB 5 (.mv (.t 9)) [2, 5]]
@[go_sem] def l18_2 (_ : Unit) : KL := [kA 10 (.mv (.t 5)),
  kA 11 (.call (n_spec_l2Any) [(.t 10), (.c (.int .i64 60))]),
  kA 6 (.alloc [(.sl none 0 0 true 0), (.sl none 0 0 true 0)]),
  (⟨none, .store (.t 6) 2 (.t 11), none⟩, (some [2, 5, 6]))]
@[go_sem] def l18_3 (_ : Unit) : KL := [kA 12 (.mv (.t 5)),
  kA 13 (.load (.t 6) 2 true),
  kA 14 (.call (n_spec_l2Some) [(.t 12), (.t 13)]),
  kB 7 (.mv (.t 14)) [2, 5, 6, 7]]
@[go_sem] def l18_4 : Nat → GOp
  | 0 => ⟨(some 15), .load (.t 6) 2 true, none⟩
  | 1 => ⟨(some 16), .mv (.t 7), none⟩
  | 2 => ⟨(some 17), .mv (.t 5), none⟩
  | 3 => ⟨(some 18), .mv (.t 5), none⟩
  | 4 => ⟨(some 19), .faddr (.t 6) 1, none⟩
  | 5 => ⟨(some 20), .load (.t 19) 1 false, none⟩
  | 6 => ⟨(some 21), .len (.t 20), none⟩
  | 7 => ⟨(some 22), .bin .add (.t 21) (cI 1), none⟩
  | 8 => ⟨(some 23), .call (n_spec_l40Rd_pick) [(.t 18), (.t 22)], none⟩
  | 9 => ⟨(some 24), .mv (.t 5), none⟩
  | 10 => ⟨(some 25), .faddr (.t 6) 1, none⟩
  | 11 => ⟨(some 26), .load (.t 25) 1 false, none⟩
  | 12 => ⟨(some 27), .len (.t 26), none⟩
  | 13 => ⟨(some 28), .bin .add (.t 27) (cI 1), none⟩
  | 14 => ⟨(some 29), .call (n_spec_l40Rd_pick) [(.t 24), (.t 28)], none⟩
  | 15 => ⟨(some 30), .bslc 1 6 [(.int .i64 0)] [(0, (.t 23)), (1, (cI 0)), (2, (cI 0)), (3, (.t 29)), (4, (.c (.int .i64 (-1)))), (5, (cI 1))], none⟩
  | 16 => ⟨(some 31), .call (n_spec_l40Rd_num) [(.t 17), (.t 30)], none⟩
  | 17 => ⟨none, .store (.t 2) 2 (.t 15), none⟩
  | 18 => ⟨(some 3), .mv (.t 16), none⟩
  | 19 => ⟨(some 4), .mv (.t 31), none⟩
  | _ => ⟨none, .mkmap, none⟩
@[go_sem] def s18_5 (_ : Unit) : IR := (sQ [(kT l18_0), (kT l18_1), (kT l18_2), (kT l18_3), (.kd (oF l18_4 20) [(0, []), (1, []), (2, []), (3, []), (4, []), (5, []), (6, []), (7, []), (9, []), (10, []), (11, []), (12, []), (13, []), (8, [0, 11]), (14, [0]), (15, []), (16, [0]), (17, []), (18, []), (19, [])] [2, 3, 4]), .ret])
theorem c18 : compFn Try.prog [(0, [], [oN, oN, oS [0, 2]]), (1, [], [oN, oN, oS [2, 5]]), (2, [], [oN, oN, oN, oS [2, 5, 6]]), (3, [], [oN, oN, oN, oS [2, 5, 6, 7]]), (4, [(0, []), (1, []), (2, []), (3, []), (4, []), (5, []), (6, []), (7, []), (9, []), (10, []), (11, []), (12, []), (13, []), (8, [0, 11]), (14, [0]), (15, []), (16, [0]), (17, []), (18, []), (19, [])], [oS [2, 3, 4]])] Try.f18 = some ⟨1, 32, [.c 2 2 true, .t 3, .t 4], (tH s18_5)⟩ := by kernel_rfl
theorem v_spec_DrawUse (hl : vs.length = 1) (h : wpV Try.prog (tH s18_5) (postV [.c 2 2 true, .t 3, .t 4] RV) (envV vs) M) : VCall Try.prog n_spec_DrawUse vs M RV :=
  vcall_of_wp (fun _ _ _ hl h => acall_of_wp mixed Try.func18 c18 (by kernel_rfl) hl h) hl h
@[go_sem] def l47_0 (_ : Unit) : KL := [kB 6 (.mv (.c (.bool false))) [0, 1, 2]]
@[go_sem] def l47_1 (_ : Unit) : KL := [kA 7 (.mv (.t 0)),
  kA 8 (.mv (.t 1)),
  kA 9 (.bin .geq (.t 7) (.t 8)),
  kA 10 (.mv (.t 9)),
  (⟨(some 11), .mv (.t 0), (some (10, true))⟩, (some [2, 10, 11])),
  (⟨(some 12), .mv (.t 2), (some (10, true))⟩, none),
  (⟨(some 13), .bin .leq (.t 11) (.t 12), (some (10, true))⟩, none),
  kA 14 (.pick (.t 10) (.t 13) (.c (.bool false))),
  kB 6 (.mv (.t 14)) [6]]
@[go_sem] def s47_2 (_ : Unit) : IR := (sQ [(kT l47_0), (kT l47_1), .ret])
theorem c47 : compFn Try.prog [(0, [], [oS [0, 1, 2]]), (1, [], [oN, oN, oN, oN, oS [2, 10, 11], oN, oN, oN, oS [6]])] Try.f47 = some ⟨3, 15, [.t 6], (tH s47_2)⟩ := by kernel_rfl
theorem v_impl_in (hl : vs.length = 3) (h : wpV Try.prog (tH s47_2) (postV [.t 6] RV) (envV vs) M) : VCall Try.prog n_impl_in vs M RV :=
  vcall_of_wp (fun _ _ _ hl h => acall_of_wp mixed Try.func47 c47 (by kernel_rfl) hl h) hl h
@[go_sem] def l98_0 (_ : Unit) : KL := [kB 4 (.mv (cI 0)) [0, 1]]
@[go_sem] def l98_1 (_ : Unit) : KL := [kA 6 (.mv (.t 0)),
  kA 7 (.len (.t 6)),
  kB 8 (.mv (cI 0)) [0, 1, 7, 8]]
@[go_sem] def l98_2 (_ : Unit) : KL := [kB 9 (.bin .lss (.t 8) (.t 7)) [0, 1, 7, 8, 9]]
@[go_sem] def l98_3 (_ : Unit) : KL := [kA 10 (.mv (.t 8)),
  kB 5 (.mv (.t 10)) [0, 1, 5, 7, 8]]
@[go_sem] def l98_4 (_ : Unit) : KL := [kA 11 (.mv (.t 1)),
  kA 12 (.mv (.t 0)),
  kA 13 (.mv (.t 5)),
  kA 14 (.iaddr (.t 12) (.t 13) 3),
  kB 15 (.load (.t 14) 3 true) [0, 1, 5, 7, 8, 11, 15],
  kB 16 (.callv (.t 11) [(.t 15)]) [0, 1, 5, 7, 8, 16]]
@[go_sem] def l98_5 (_ : Unit) : KL := [kA 17 (.mv (.t 5)),
  kB 4 (.mv (.t 17)) [4]]
@[go_sem] def s98_6 (_ : Unit) : IR := (sQ [(kT l98_5), .ret])
@[go_sem] def s98_7 (_ : Unit) : IR := (sQ [(kT l98_3), (kT l98_4), (.cond (.t 16) (tH s98_6) .skip)])
@[go_sem] def s98_8 (_ : Unit) : IR := (.block 1 (tH s98_7))
@[go_sem] def l98_9 (_ : Unit) : KL := [kA 18 (.bin .add (.t 8) (cI 1)),
  kB 8 (.mv (.t 18)) [0, 1, 7, 8]]
@[go_sem] def s98_10 (_ : Unit) : IR := (sQ [(kT l98_2), (.cond (.t 9) .skip (.exit 0)), (tH s98_8), (kT l98_9)])
@[go_sem] def s98_11 (_ : Unit) : IR := (.loop (tH s98_10))
@[go_sem] def s98_12 (_ : Unit) : IR := (.block 0 (tH s98_11))
@[go_sem] def s98_13 (_ : Unit) : IR := (sQ [(kT l98_1), (tH s98_12)])
@[go_sem] def l98_14 (_ : Unit) : KL := [kB 4 (.mv (.c (.int .i64 (-1)))) [4]]
@[go_sem] def s98_15 (_ : Unit) : IR := (sQ [(kT l98_0), (tH s98_13), (kT l98_14), .ret])
theorem c98 : compFn Try.prog [(0, [], [oS [0, 1]]), (1, [], [oN, oN, oS [0, 1, 7, 8]]), (2, [], [oS [0, 1, 7, 8, 9]]), (3, [], [oN, oS [0, 1, 5, 7, 8]]), (4, [], [oN, oN, oN, oN, oS [0, 1, 5, 7, 8, 11, 15], oS [0, 1, 5, 7, 8, 16]]), (5, [], [oN, oS [4]]), (6, [], [oN, oS [0, 1, 7, 8]]), (7, [], [oS [4]])] Try.f98 = some ⟨2, 19, [.t 4], (tH s98_15)⟩ := by kernel_rfl
theorem v_slices_IndexFunc_Simpl_Var_impl_Var (hl : vs.length = 2) (h : wpV Try.prog (tH s98_15) (postV [.t 4] RV) (envV vs) M) : VCall Try.prog n_slices_IndexFunc_Simpl_Var_impl_Var vs M RV :=
  vcall_of_wp (fun _ _ _ hl h => acall_of_wp mixed Try.func98 c98 (by kernel_rfl) hl h) hl h
@[go_sem] def l71_0 (_ : Unit) : KL := [kB 4 (.mv (.c (.bool false))) [0, 1]]
@[go_sem] def l71_1 (_ : Unit) : KL := [kA 5 (.mv (.t 0)),
  kA 6 (.mv (.t 1)),
  kA 7 (.call (n_slices_IndexFunc_Simpl_Var_impl_Var) [(.t 5), (.t 6)]),
  kA 8 (.bin .geq (.t 7) (cI 0)),
  kB 4 (.mv (.t 8)) [4]]
@[go_sem] def s71_2 (_ : Unit) : IR := (sQ [(kT l71_0), (kT l71_1), .ret])
theorem c71 : compFn Try.prog [(0, [], [oS [0, 1]]), (1, [], [oN, oN, oN, oN, oS [4]])] Try.f71 = some ⟨2, 9, [.t 4], (tH s71_2)⟩ := by kernel_rfl
theorem v_slices_ContainsFunc_Simpl_Var_impl_Var (hl : vs.length = 2) (h : wpV Try.prog (tH s71_2) (postV [.t 4] RV) (envV vs) M) : VCall Try.prog n_slices_ContainsFunc_Simpl_Var_impl_Var vs M RV :=
  vcall_of_wp (fun _ _ _ hl h => acall_of_wp mixed Try.func71 c71 (by kernel_rfl) hl h) hl h
@[go_sem] def l73_0 (_ : Unit) : KL := [kA 1 (.box (.t 0)),
  kB 2 (.mv (.c (.bool false))) [1]]
@[go_sem] def l73_1 (_ : Unit) : KL := [kA 3 (.faddr (.t 1) 0),
  kA 4 (.load (.t 3) 1 false),
  kA 5 (.call (n_impl_in) [(.t 4), (.c (.int .i64 (-9999))), (.c (.int .i64 9999))]),
  kA 6 (.mv (.t 5)),
  (⟨(some 7), .faddr (.t 1) 1, (some (6, true))⟩, (some [1, 6, 7])),
  (⟨(some 8), .load (.t 7) 1 false, (some (6, true))⟩, none),
  (⟨(some 9), .faddr (.t 1) 0, (some (6, true))⟩, none),
  (⟨(some 10), .load (.t 9) 1 false, (some (6, true))⟩, none),
  (⟨(some 11), .call (n_impl_in) [(.t 8), (.t 10), (.c (.int .i64 9999))], (some (6, true))⟩, none),
  kB 12 (.pick (.t 6) (.t 11) (.c (.bool false))) [1, 12],
  kA 13 (.mv (.t 12)),
  (⟨(some 14), .faddr (.t 1) 1, (some (13, true))⟩, none),
  (⟨(some 15), .load (.t 14) 1 false, (some (13, true))⟩, none),
  (⟨(some 16), .faddr (.t 1) 0, (some (13, true))⟩, none),
  (⟨(some 17), .load (.t 16) 1 false, (some (13, true))⟩, (some [1, 13, 15, 17])),
  (⟨(some 18), .bin .sub (.t 15) (.t 17), (some (13, true))⟩, none),
  (⟨(some 19), .bin .lss (.t 18) (.c (.int .i64 20)), (some (13, true))⟩, none),
  kA 20 (.pick (.t 13) (.t 19) (.c (.bool false))),
  kA 21 (.mv (.t 20)),
  (⟨(some 22), .faddr (.t 1) 2, (some (21, true))⟩, (some [1, 21, 22])),
  (⟨(some 23), .load (.t 22) 1 false, (some (21, true))⟩, none),
  (⟨(some 24), .faddr (.t 1) 0, (some (21, true))⟩, none),
  (⟨(some 25), .load (.t 24) 1 false, (some (21, true))⟩, none),
  (⟨(some 26), .faddr (.t 1) 1, (some (21, true))⟩, none),
  (⟨(some 27), .load (.t 26) 1 false, (some (21, true))⟩, (some [21, 23, 25, 27])),
  (⟨(some 28), .call (n_impl_in) [(.t 23), (.t 25), (.t 27)], (some (21, true))⟩, none),
  kA 29 (.pick (.t 21) (.t 28) (.c (.bool false))),
  kB 2 (.mv (.t 29)) [2]]
@[go_sem] def s73_2 (_ : Unit) : IR := (sQ [(kT l73_0), (kT l73_1), .ret])
theorem c73 : compFn Try.prog [(0, [], [oN, oS [1]]), (1, [], [oN, oN, oN, oN, oS [1, 6, 7], oN, oN, oN, oN, oS [1, 12], oN, oN, oN, oN, oS [1, 13, 15, 17], oN, oN, oN, oN, oS [1, 21, 22], oN, oN, oN, oN, oS [21, 23, 25, 27], oN, oN, oS [2]])] Try.f73 = some ⟨1, 30, [.t 2], (tH s73_2)⟩ := by kernel_rfl
theorem v_impl_varOk (hl : vs.length = 1) (h : wpV Try.prog (tH s73_2) (postV [.t 2] RV) (envV vs) M) : VCall Try.prog n_impl_varOk vs M RV :=
  vcall_of_wp (fun _ _ _ hl h => acall_of_wp mixed Try.func73 c73 (by kernel_rfl) hl h) hl h
@[go_sem] def l72_0 (_ : Unit) : KL := [kA 1 (.box (.t 0)),
  kB 2 (.mv (.c (.bool false))) [1]]
@[go_sem] def l72_1 (_ : Unit) : KL := [kA 3 (.load (.t 1) 3 true),
  kA 4 (.call (n_impl_varOk) [(.t 3)]),
  kA 5 (.un .not (.t 4)),
  kB 2 (.mv (.t 5)) [2]]
@[go_sem] def s72_2 (_ : Unit) : IR := (sQ [(kT l72_0), (kT l72_1), .ret])
theorem c72 : compFn Try.prog [(0, [], [oN, oS [1]]), (1, [], [oN, oN, oN, oS [2]])] Try.f72 = some ⟨1, 6, [.t 2], (tH s72_2)⟩ := by kernel_rfl
theorem v_impl_SystemValid_1 (hl : vs.length = 1) (h : wpV Try.prog (tH s72_2) (postV [.t 2] RV) (envV vs) M) : VCall Try.prog n_impl_SystemValid_1 vs M RV :=
  vcall_of_wp (fun _ _ _ hl h => acall_of_wp mixed Try.func72 c72 (by kernel_rfl) hl h) hl h
@[go_sem] def l43_0 (_ : Unit) : KL := [kB 2 (.mv (cI 0)) [0]]
@[go_sem] def l43_1 (_ : Unit) : KL := [kB 3 (.mv (cI 1)) [0, 3]]
@[go_sem] def l43_2 (_ : Unit) : KL := [kA 6 (.mv (.t 0)),
  kA 7 (.len (.t 6)),
  kB 8 (.mv (cI 0)) [3, 6, 7, 8]]
@[go_sem] def l43_3 (_ : Unit) : KL := [kB 9 (.bin .lss (.t 8) (.t 7)) [3, 6, 7, 8, 9]]
@[go_sem] def l43_4 (_ : Unit) : KL := [kA 10 (.iaddr (.t 6) (.t 8) 3),
  kA 11 (.load (.t 10) 3 true),
  kA 5 (.alloc [(.int .i64 0), (.int .i64 0), (.int .i64 0)]),
  (⟨none, .store (.t 5) 3 (.t 11), none⟩, (some [3, 5, 6, 7, 8]))]
@[go_sem] def l43_5 (_ : Unit) : KL := [kA 12 (.mv (.t 3)),
  kA 13 (.faddr (.t 5) 1),
  kA 14 (.load (.t 13) 1 false),
  kA 15 (.faddr (.t 5) 0),
  kB 16 (.load (.t 15) 1 false) [6, 7, 8, 12, 14, 16],
  kA 17 (.bin .sub (.t 14) (.t 16)),
  kA 18 (.bin .add (.t 17) (cI 1)),
  kA 19 (.bin .mul (.t 12) (.t 18)),
  kB 3 (.mv (.t 19)) [3, 6, 7, 8]]
@[go_sem] def s43_6 (_ : Unit) : IR := (sQ [(kT l43_4), (kT l43_5)])
@[go_sem] def s43_7 (_ : Unit) : IR := (.block 1 (tH s43_6))
@[go_sem] def l43_8 (_ : Unit) : KL := [kA 20 (.bin .add (.t 8) (cI 1)),
  kB 8 (.mv (.t 20)) [3, 6, 7, 8]]
@[go_sem] def s43_9 (_ : Unit) : IR := (sQ [(kT l43_3), (.cond (.t 9) .skip (.exit 0)), (tH s43_7), (kT l43_8)])
@[go_sem] def s43_10 (_ : Unit) : IR := (.loop (tH s43_9))
@[go_sem] def s43_11 (_ : Unit) : IR := (.block 0 (tH s43_10))
@[go_sem] def s43_12 (_ : Unit) : IR := (sQ [(kT l43_2), (tH s43_11)])
@[go_sem] def l43_13 (_ : Unit) : KL := [kA 21 (.mv (.t 3)),
  kB 2 (.mv (.t 21)) [2]]
@[go_sem] def s43_14 (_ : Unit) : IR := (sQ [(kT l43_0), (kT l43_1), (tH s43_12), (kT l43_13), .ret])
theorem c43 : compFn Try.prog [(0, [], [oS [0]]), (1, [], [oS [0, 3]]), (2, [], [oN, oN, oS [3, 6, 7, 8]]), (3, [], [oS [3, 6, 7, 8, 9]]), (4, [], [oN, oN, oN, oS [3, 5, 6, 7, 8]]), (5, [], [oN, oN, oN, oN, oS [6, 7, 8, 12, 14, 16], oN, oN, oN, oS [3, 6, 7, 8]]), (6, [], [oN, oS [3, 6, 7, 8]]), (7, [], [oN, oS [2]])] Try.f43 = some ⟨1, 22, [.t 2], (tH s43_14)⟩ := by kernel_rfl
theorem v_impl_size (hl : vs.length = 1) (h : wpV Try.prog (tH s43_14) (postV [.t 2] RV) (envV vs) M) : VCall Try.prog n_impl_size vs M RV :=
  vcall_of_wp (fun _ _ _ hl h => acall_of_wp mixed Try.func43 c43 (by kernel_rfl) hl h) hl h
@[go_sem] def l135_0 (_ : Unit) : KL := [kA 2 (.mv (cI 0)),
  kA 3 (.mv (cI 0)),
  kB 4 (.mv (cI 0)) [0]]
@[go_sem] def l135_1 (_ : Unit) : KL := [kB 5 (.mv (.t 0)) [5]]
@[go_sem] def l135_2 (_ : Unit) : KL := [kA 7 (.bin .eql (.t 5) (.c (.int .i64 2))),
  kB 6 (.mv (.t 7)) [5, 6]]
@[go_sem] def l135_3 (_ : Unit) : KL := [kA 8 (.bin .eql (.t 5) (.c (.int .i64 3))),
  kB 6 (.mv (.t 8)) [5, 6]]
@[go_sem] def l135_4 (_ : Unit) : KL := [kA 9 (.bin .eql (.t 5) (.c (.int .i64 4))),
  kB 6 (.mv (.t 9)) [5, 6]]
@[go_sem] def s135_5 (_ : Unit) : IR := (sQ [(kT l135_3), (.cond (.t 6) .skip (kT l135_4))])
@[go_sem] def s135_6 (_ : Unit) : IR := (sQ [(kT l135_2), (.cond (.t 6) .skip (tH s135_5))])
@[go_sem] def l135_7 (_ : Unit) : KL := [kA 2 (.mv (.c (.int .i64 2))),
  kA 3 (.mv (cI 1)),
  kB 4 (.mv (cI 1)) [2, 3, 4]]
@[go_sem] def s135_8 (_ : Unit) : IR := (sQ [(kT l135_7), .ret])
@[go_sem] def l135_9 (_ : Unit) : KL := [kA 11 (.bin .eql (.t 5) (.c (.int .i64 5))),
  kB 10 (.mv (.t 11)) [5, 10]]
@[go_sem] def l135_10 (_ : Unit) : KL := [kA 12 (.bin .eql (.t 5) (.c (.int .i64 6))),
  kB 10 (.mv (.t 12)) [5, 10]]
@[go_sem] def s135_11 (_ : Unit) : IR := (sQ [(kT l135_9), (.cond (.t 10) .skip (kT l135_10))])
@[go_sem] def l135_12 (_ : Unit) : KL := [kA 2 (.mv (.c (.int .i64 2))),
  kA 3 (.mv (cI 1)),
  kB 4 (.mv (.c (.int .i64 2))) [2, 3, 4]]
@[go_sem] def s135_13 (_ : Unit) : IR := (sQ [(kT l135_12), .ret])
@[go_sem] def l135_14 (_ : Unit) : KL := [kA 14 (.bin .eql (.t 5) (.c (.int .i64 7))),
  kB 13 (.mv (.t 14)) [5, 13]]
@[go_sem] def l135_15 (_ : Unit) : KL := [kA 2 (.mv (cI 1)),
  kA 3 (.mv (.c (.int .i64 2))),
  kB 4 (.mv (.c (.int .i64 2))) [2, 3, 4]]
@[go_sem] def s135_16 (_ : Unit) : IR := (sQ [(kT l135_15), .ret])
@[go_sem] def l135_17 (_ : Unit) : KL := [kA 16 (.bin .eql (.t 5) (.c (.int .i64 8))),
  kB 15 (.mv (.t 16)) [5, 15]]
@[go_sem] def l135_18 (_ : Unit) : KL := [kA 17 (.bin .eql (.t 5) (.c (.int .i64 9))),
  kB 15 (.mv (.t 17)) [15]]
@[go_sem] def s135_19 (_ : Unit) : IR := (sQ [(kT l135_17), (.cond (.t 15) .skip (kT l135_18))])
@[go_sem] def l135_20 (_ : Unit) : KL := [kA 2 (.mv (.c (.int .i64 2))),
  kA 3 (.mv (.c (.int .i64 2))),
  kB 4 (.mv (.c (.int .i64 2))) [2, 3, 4]]
@[go_sem] def s135_21 (_ : Unit) : IR := (sQ [(kT l135_20), .ret])
@[go_sem] def s135_22 (_ : Unit) : IR := (sQ [(tH s135_19), (.cond (.t 15) (tH s135_21) .skip)])
@[go_sem] def s135_23 (_ : Unit) : IR := (sQ [(kT l135_14), (.cond (.t 13) (tH s135_16) (tH s135_22))])
@[go_sem] def s135_24 (_ : Unit) : IR := (sQ [(tH s135_11), (.cond (.t 10) (tH s135_13) (tH s135_23))])
@[go_sem] def s135_25 (_ : Unit) : IR := (sQ [(tH s135_6), (.cond (.t 6) (tH s135_8) (tH s135_24))])
@[go_sem] def s135_26 (_ : Unit) : IR := (.block 0 (tH s135_25))
@[go_sem] def s135_27 (_ : Unit) : IR := (sQ [(kT l135_1), (tH s135_26)])
@[go_sem] def l135_28 (_ : Unit) : KL := [kA 2 (.mv (cI 0)),
  kA 3 (.mv (cI 0)),
  kB 4 (.mv (cI 1)) [2, 3, 4]]
@[go_sem] def s135_29 (_ : Unit) : IR := (sQ [(kT l135_0), (tH s135_27), (kT l135_28), .ret])
theorem c135 : compFn Try.prog [(0, [], [oN, oN, oS [0]]), (1, [], [oS [5]]), (2, [], [oN, oS [5, 6]]), (3, [], [oN, oS [5, 6]]), (4, [], [oN, oS [5, 6]]), (5, [], [oN, oN, oS [2, 3, 4]]), (6, [], [oN, oS [5, 10]]), (7, [], [oN, oS [5, 10]]), (8, [], [oN, oN, oS [2, 3, 4]]), (9, [], [oN, oS [5, 13]]), (10, [], [oN, oN, oS [2, 3, 4]]), (11, [], [oN, oS [5, 15]]), (12, [], [oN, oS [15]]), (13, [], [oN, oN, oS [2, 3, 4]]), (14, [], [oN, oN, oS [2, 3, 4]])] Try.f135 = some ⟨1, 18, [.t 2, .t 3, .t 4], (tH s135_29)⟩ := by kernel_rfl
theorem v_impl_parts (hl : vs.length = 1) (h : wpV Try.prog (tH s135_29) (postV [.t 2, .t 3, .t 4] RV) (envV vs) M) : VCall Try.prog n_impl_parts vs M RV :=
  vcall_of_wp (fun _ _ _ hl h => acall_of_wp mixed Try.func135 c135 (by kernel_rfl) hl h) hl h
@[go_sem] def l113_0 (_ : Unit) : KL := [kB 4 (.mv (.c (.sl none 0 0 true 0))) [0, 1]]
@[go_sem] def l113_1 (_ : Unit) : KL := [kA 12 (.mv (.t 1)),
  kA 13 (.call (n_impl_in) [(.t 12), (cI 0), (.c (.int .i64 5))]),
  kA 14 (.un .not (.t 13)),
  kA 15 (.mv (.t 14)),
  (⟨(some 16), .mv (.t 0), (some (15, false))⟩, (some [0, 1, 15, 16])),
  (⟨(some 17), .len (.t 16), (some (15, false))⟩, none),
  (⟨(some 18), .call (n_impl_in) [(.t 17), (cI 1), (.c (.int .i64 40))], (some (15, false))⟩, none),
  (⟨(some 19), .un .not (.t 18), (some (15, false))⟩, none),
  kB 20 (.pick (.t 15) (.c (.bool true)) (.t 19)) [0, 1, 20]]
@[go_sem] def l113_2 (_ : Unit) : KL := [kB 4 (.mv (.c (.sl none 0 0 true 0))) [4]]
@[go_sem] def s113_3 (_ : Unit) : IR := (sQ [(kT l113_2), .ret])
@[go_sem] def s113_4 (_ : Unit) : IR := (sQ [(kT l113_1), (.cond (.t 20) (tH s113_3) .skip)])
@[go_sem] def l113_5 (_ : Unit) : KL := [kA 21 (.mv (.t 0)),
  kA 22 (.len (.t 21)),
  kA 23 (.mkc [(.int .i64 0)] 8 (cI 0) (.t 22)),
  kB 5 (.mv (.t 23)) [0, 1, 5]]
@[go_sem] def l113_6 (_ : Unit) : KL := [kA 24 (.mv (.t 0)),
  kA 25 (.len (.t 24)),
  kB 26 (.mv (cI 0)) [1, 5, 24, 25, 26]]
@[go_sem] def l113_7 (_ : Unit) : KL := [kB 27 (.bin .lss (.t 26) (.t 25)) [1, 5, 24, 25, 26, 27]]
@[go_sem] def l113_8 (_ : Unit) : KL := [kA 28 (.mv (.t 26)),
  kA 29 (.iaddr (.t 24) (.t 26) 4),
  kA 30 (.load (.t 29) 4 true),
  kA 7 (.alloc [(.int .i64 0), (.int .i64 0), (.int .i64 0), (.int .i64 0)]),
  kB 6 (.mv (.t 28)) [1, 5, 6, 7, 24, 25, 26, 30],
  (⟨none, .store (.t 7) 4 (.t 30), none⟩, (some [1, 5, 6, 7, 24, 25, 26]))]
@[go_sem] def l113_9 (_ : Unit) : KL := [kA 32 (.faddr (.t 7) 0),
  kA 33 (.load (.t 32) 1 false),
  kA 34 (.call (n_impl_parts) [(.t 33)]),
  kA 31 (.mv (.t 34)),
  kB 35 (.ext (.t 31) 0) [1, 5, 6, 7, 24, 25, 26, 31, 35],
  kA 36 (.ext (.t 31) 1),
  kA 37 (.ext (.t 31) 2),
  kA 8 (.mv (.t 35)),
  kA 9 (.mv (.t 36)),
  kB 10 (.mv (.t 37)) [1, 5, 6, 7, 8, 9, 10, 24, 25, 26]]
@[go_sem] def l113_10 (_ : Unit) : KL := [kA 38 (.faddr (.t 7) 0),
  kA 39 (.load (.t 38) 1 false),
  kA 40 (.call (n_impl_in) [(.t 39), (cI 0), (.c (.int .i64 9))]),
  kB 11 (.mv (.t 40)) [1, 5, 6, 7, 8, 9, 10, 11, 24, 25, 26]]
@[go_sem] def l113_11 (_ : Unit) : KL := [kA 42 (.faddr (.t 7) 0),
  kA 43 (.load (.t 42) 1 false),
  kA 44 (.bin .eql (.t 43) (cI 0)),
  kB 41 (.mv (.t 44)) [1, 5, 6, 7, 8, 9, 10, 11, 24, 25, 26, 41]]
@[go_sem] def l113_12 (_ : Unit) : KL := [kA 45 (.faddr (.t 7) 1),
  kA 46 (.load (.t 45) 1 false),
  kA 47 (.call (n_impl_in) [(.t 46), (.c (.int .i64 (-9999))), (.c (.int .i64 9999))]),
  kA 48 (.mv (.t 47)),
  (⟨(some 49), .faddr (.t 7) 2, (some (48, true))⟩, (some [1, 5, 7, 10, 24, 25, 26, 48, 49])),
  (⟨(some 50), .load (.t 49) 1 false, (some (48, true))⟩, none),
  (⟨(some 51), .bin .eql (.t 50) (cI 0), (some (48, true))⟩, none),
  kA 52 (.pick (.t 48) (.t 51) (.c (.bool false))),
  kA 53 (.mv (.t 52)),
  (⟨(some 54), .faddr (.t 7) 3, (some (53, true))⟩, (some [1, 5, 10, 24, 25, 26, 53, 54])),
  (⟨(some 55), .load (.t 54) 1 false, (some (53, true))⟩, none),
  (⟨(some 56), .bin .eql (.t 55) (cI 0), (some (53, true))⟩, none),
  kA 57 (.pick (.t 53) (.t 56) (.c (.bool false))),
  kB 11 (.mv (.t 57)) [1, 5, 10, 11, 24, 25, 26]]
@[go_sem] def l113_13 (_ : Unit) : KL := [kA 59 (.faddr (.t 7) 0),
  kA 60 (.load (.t 59) 1 false),
  kA 61 (.bin .eql (.t 60) (cI 1)),
  kB 58 (.mv (.t 61)) [1, 5, 6, 7, 8, 9, 10, 11, 24, 25, 26, 58]]
@[go_sem] def l113_14 (_ : Unit) : KL := [kA 62 (.faddr (.t 7) 1),
  kA 63 (.load (.t 62) 1 false),
  kA 64 (.mv (.t 1)),
  kA 65 (.bin .sub (.t 64) (cI 1)),
  kB 66 (.call (n_impl_in) [(.t 63), (cI 0), (.t 65)]) [1, 5, 7, 10, 24, 25, 26, 66],
  kA 67 (.mv (.t 66)),
  (⟨(some 68), .faddr (.t 7) 2, (some (67, true))⟩, none),
  (⟨(some 69), .load (.t 68) 1 false, (some (67, true))⟩, none),
  (⟨(some 70), .bin .eql (.t 69) (cI 0), (some (67, true))⟩, none),
  kB 71 (.pick (.t 67) (.t 70) (.c (.bool false))) [1, 5, 7, 10, 24, 25, 26, 71],
  kA 72 (.mv (.t 71)),
  (⟨(some 73), .faddr (.t 7) 3, (some (72, true))⟩, none),
  (⟨(some 74), .load (.t 73) 1 false, (some (72, true))⟩, none),
  (⟨(some 75), .bin .eql (.t 74) (cI 0), (some (72, true))⟩, none),
  kB 76 (.pick (.t 72) (.t 75) (.c (.bool false))) [1, 5, 10, 24, 25, 26, 76],
  kB 11 (.mv (.t 76)) [1, 5, 10, 11, 24, 25, 26]]
@[go_sem] def l113_15 (_ : Unit) : KL := [kA 78 (.mv (.t 11)),
  kB 77 (.mv (.t 78)) [1, 5, 6, 7, 8, 9, 10, 11, 24, 25, 26, 77]]
@[go_sem] def l113_16 (_ : Unit) : KL := [kA 79 (.faddr (.t 7) 1),
  kA 80 (.load (.t 79) 1 false),
  kA 81 (.bin .eql (.t 80) (cI 0)),
  kA 82 (.mv (.t 81)),
  (⟨(some 83), .faddr (.t 7) 2, (some (82, true))⟩, (some [1, 5, 6, 7, 8, 9, 10, 24, 25, 26, 82, 83])),
  (⟨(some 84), .load (.t 83) 1 false, (some (82, true))⟩, none),
  (⟨(some 85), .mv (.t 6), (some (82, true))⟩, none),
  (⟨(some 86), .bin .sub (.t 85) (cI 1), (some (82, true))⟩, none),
  (⟨(some 87), .call (n_impl_in) [(.t 84), (cI 0), (.t 86)], (some (82, true))⟩, none),
  kB 88 (.pick (.t 82) (.t 87) (.c (.bool false))) [1, 5, 6, 7, 8, 9, 10, 24, 25, 26, 88],
  kA 89 (.mv (.t 88)),
  (⟨(some 90), .faddr (.t 7) 3, (some (89, true))⟩, none),
  (⟨(some 91), .load (.t 90) 1 false, (some (89, true))⟩, none),
  (⟨(some 92), .mv (.t 6), (some (89, true))⟩, none),
  (⟨(some 93), .bin .sub (.t 92) (cI 1), (some (89, true))⟩, (some [1, 5, 7, 8, 9, 10, 24, 25, 26, 89, 91, 93])),
  (⟨(some 94), .call (n_impl_in) [(.t 91), (cI 0), (.t 93)], (some (89, true))⟩, none),
  kA 95 (.pick (.t 89) (.t 94) (.c (.bool false))),
  kA 96 (.mv (.t 95)),
  (⟨(some 97), .mv (.t 5), (some (96, true))⟩, none),
  (⟨(some 98), .faddr (.t 7) 2, (some (96, true))⟩, (some [1, 5, 7, 8, 9, 10, 24, 25, 26, 96, 97, 98])),
  (⟨(some 99), .load (.t 98) 1 false, (some (96, true))⟩, none),
  (⟨(some 100), .iaddr (.t 97) (.t 99) 1, (some (96, true))⟩, none),
  (⟨(some 101), .load (.t 100) 1 false, (some (96, true))⟩, none),
  (⟨(some 102), .mv (.t 9), (some (96, true))⟩, none),
  (⟨(some 103), .bin .eql (.t 101) (.t 102), (some (96, true))⟩, (some [1, 5, 7, 8, 9, 10, 24, 25, 26, 96, 103])),
  kA 104 (.pick (.t 96) (.t 103) (.c (.bool false))),
  kA 105 (.mv (.t 104)),
  (⟨(some 106), .mv (.t 5), (some (105, true))⟩, none),
  (⟨(some 107), .faddr (.t 7) 3, (some (105, true))⟩, none),
  (⟨(some 108), .load (.t 107) 1 false, (some (105, true))⟩, (some [1, 5, 7, 8, 9, 10, 24, 25, 26, 105, 106, 108])),
  (⟨(some 109), .iaddr (.t 106) (.t 108) 1, (some (105, true))⟩, none),
  (⟨(some 110), .load (.t 109) 1 false, (some (105, true))⟩, none),
  (⟨(some 111), .mv (.t 9), (some (105, true))⟩, none),
  (⟨(some 112), .bin .eql (.t 110) (.t 111), (some (105, true))⟩, none),
  kB 113 (.pick (.t 105) (.t 112) (.c (.bool false))) [1, 5, 7, 8, 10, 24, 25, 26, 113],
  kA 114 (.mv (.t 113)),
  (⟨(some 115), .mv (.t 8), (some (114, true))⟩, none),
  (⟨(some 116), .bin .eql (.t 115) (.c (.int .i64 2)), (some (114, true))⟩, none),
  (⟨(some 117), .mv (.t 116), (some (114, true))⟩, none),
  (⟨(some 118), .faddr (.t 7) 2, (some (117, false))⟩, (some [1, 5, 7, 10, 24, 25, 26, 114, 117, 118])),
  (⟨(some 119), .load (.t 118) 1 false, (some (117, false))⟩, none),
  (⟨(some 120), .faddr (.t 7) 3, (some (117, false))⟩, none),
  (⟨(some 121), .load (.t 120) 1 false, (some (117, false))⟩, none),
  (⟨(some 122), .bin .eql (.t 119) (.t 121), (some (117, false))⟩, none),
  (⟨(some 123), .pick (.t 117) (.c (.bool true)) (.t 122), (some (114, true))⟩, (some [1, 5, 10, 24, 25, 26, 114, 123])),
  kA 124 (.pick (.t 114) (.t 123) (.c (.bool false))),
  kB 11 (.mv (.t 124)) [1, 5, 10, 11, 24, 25, 26]]
@[go_sem] def s113_17 (_ : Unit) : IR := (sQ [(kT l113_15), (.cond (.t 77) (kT l113_16) .skip)])
@[go_sem] def s113_18 (_ : Unit) : IR := (sQ [(kT l113_13), (.cond (.t 58) (kT l113_14) (tH s113_17))])
@[go_sem] def s113_19 (_ : Unit) : IR := (sQ [(kT l113_11), (.cond (.t 41) (kT l113_12) (tH s113_18))])
@[go_sem] def s113_20 (_ : Unit) : IR := (.block 2 (tH s113_19))
@[go_sem] def l113_21 (_ : Unit) : KL := [kA 125 (.mv (.t 11)),
  kB 126 (.un .not (.t 125)) [1, 5, 10, 24, 25, 26, 126]]
@[go_sem] def l113_22 (_ : Unit) : KL := [kB 4 (.mv (.c (.sl none 0 0 true 0))) [4]]
@[go_sem] def s113_23 (_ : Unit) : IR := (sQ [(kT l113_22), .ret])
@[go_sem] def s113_24 (_ : Unit) : IR := (sQ [(kT l113_21), (.cond (.t 126) (tH s113_23) .skip)])
@[go_sem] def l113_25 (_ : Unit) : KL := [kA 127 (.mv (.t 5)),
  kA 128 (.mv (.t 10)),
  kA 129 (.bslc 1 1 [(.int .i64 0)] [(0, (.t 128))]),
  kA 130 (.app 1 8 (.t 127) (.t 129)),
  kB 5 (.mv (.t 130)) [1, 5, 24, 25, 26]]
@[go_sem] def s113_26 (_ : Unit) : IR := (sQ [(kT l113_8), (kT l113_9), (kT l113_10), (tH s113_20), (tH s113_24), (kT l113_25)])
@[go_sem] def s113_27 (_ : Unit) : IR := (.block 1 (tH s113_26))
@[go_sem] def l113_28 (_ : Unit) : KL := [kA 131 (.bin .add (.t 26) (cI 1)),
  kB 26 (.mv (.t 131)) [1, 5, 24, 25, 26]]
@[go_sem] def s113_29 (_ : Unit) : IR := (sQ [(kT l113_7), (.cond (.t 27) .skip (.exit 0)), (tH s113_27), (kT l113_28)])
@[go_sem] def s113_30 (_ : Unit) : IR := (.loop (tH s113_29))
@[go_sem] def s113_31 (_ : Unit) : IR := (.block 0 (tH s113_30))
@[go_sem] def s113_32 (_ : Unit) : IR := (sQ [(kT l113_6), (tH s113_31)])
@[go_sem] def l113_33 (_ : Unit) : KL := [kA 132 (.mv (.t 5)),
  kB 4 (.mv (.t 132)) [4]]
@[go_sem] def s113_34 (_ : Unit) : IR := (sQ [(kT l113_0), (tH s113_4), (kT l113_5), (tH s113_32), (kT l113_33), .ret])
theorem c113 : compFn Try.prog [(0, [], [oS [0, 1]]), (1, [], [oN, oN, oN, oN, oS [0, 1, 15, 16], oN, oN, oN, oS [0, 1, 20]]), (2, [], [oS [4]]), (3, [], [oN, oN, oN, oS [0, 1, 5]]), (4, [], [oN, oN, oS [1, 5, 24, 25, 26]]), (5, [], [oS [1, 5, 24, 25, 26, 27]]), (6, [], [oN, oN, oN, oN, oS [1, 5, 6, 7, 24, 25, 26, 30], oS [1, 5, 6, 7, 24, 25, 26]]), (7, [], [oN, oN, oN, oN, oS [1, 5, 6, 7, 24, 25, 26, 31, 35], oN, oN, oN, oN, oS [1, 5, 6, 7, 8, 9, 10, 24, 25, 26]]), (8, [], [oN, oN, oN, oS [1, 5, 6, 7, 8, 9, 10, 11, 24, 25, 26]]), (9, [], [oN, oN, oN, oS [1, 5, 6, 7, 8, 9, 10, 11, 24, 25, 26, 41]]), (10, [], [oN, oN, oN, oN, oS [1, 5, 7, 10, 24, 25, 26, 48, 49], oN, oN, oN, oN, oS [1, 5, 10, 24, 25, 26, 53, 54], oN, oN, oN, oS [1, 5, 10, 11, 24, 25, 26]]), (11, [], [oN, oN, oN, oS [1, 5, 6, 7, 8, 9, 10, 11, 24, 25, 26, 58]]), (12, [], [oN, oN, oN, oN, oS [1, 5, 7, 10, 24, 25, 26, 66], oN, oN, oN, oN, oS [1, 5, 7, 10, 24, 25, 26, 71], oN, oN, oN, oN, oS [1, 5, 10, 24, 25, 26, 76], oS [1, 5, 10, 11, 24, 25, 26]]), (13, [], [oN, oS [1, 5, 6, 7, 8, 9, 10, 11, 24, 25, 26, 77]]), (14, [], [oN, oN, oN, oN, oS [1, 5, 6, 7, 8, 9, 10, 24, 25, 26, 82, 83], oN, oN, oN, oN, oS [1, 5, 6, 7, 8, 9, 10, 24, 25, 26, 88], oN, oN, oN, oN, oS [1, 5, 7, 8, 9, 10, 24, 25, 26, 89, 91, 93], oN, oN, oN, oN, oS [1, 5, 7, 8, 9, 10, 24, 25, 26, 96, 97, 98], oN, oN, oN, oN, oS [1, 5, 7, 8, 9, 10, 24, 25, 26, 96, 103], oN, oN, oN, oN, oS [1, 5, 7, 8, 9, 10, 24, 25, 26, 105, 106, 108], oN, oN, oN, oN, oS [1, 5, 7, 8, 10, 24, 25, 26, 113], oN, oN, oN, oN, oS [1, 5, 7, 10, 24, 25, 26, 114, 117, 118], oN, oN, oN, oN, oS [1, 5, 10, 24, 25, 26, 114, 123], oN, oS [1, 5, 10, 11, 24, 25, 26]]), (15, [], [oN, oS [1, 5, 10, 24, 25, 26, 126]]), (16, [], [oS [4]]), (17, [], [oN, oN, oN, oN, oS [1, 5, 24, 25, 26]]), (18, [], [oN, oS [1, 5, 24, 25, 26]]), (19, [], [oN, oS [4]])] Try.f113 = some ⟨2, 133, [.t 4], (tH s113_34)⟩ := by kernel_rfl
theorem v_impl_kindsOf (hl : vs.length = 2) (h : wpV Try.prog (tH s113_34) (postV [.t 4] RV) (envV vs) M) : VCall Try.prog n_impl_kindsOf vs M RV :=
  vcall_of_wp (fun _ _ _ hl h => acall_of_wp mixed Try.func113 c113 (by kernel_rfl) hl h) hl h
@[go_sem] def l100_0 (_ : Unit) : KL := [kB 4 (.mv (cI 0)) [0, 1]]
@[go_sem] def l100_1 (_ : Unit) : KL := [kA 6 (.mv (.t 0)),
  kA 7 (.mv (.t 1)),
  kA 8 (.call (n_impl_kindsOf) [(.t 6), (.t 7)]),
  kB 5 (.mv (.t 8)) [5]]
@[go_sem] def l100_2 (_ : Unit) : KL := [kA 9 (.mv (.t 5)),
  kB 10 (.eqn false .sl (.t 9)) [5, 10]]
@[go_sem] def l100_3 (_ : Unit) : KL := [kB 4 (.mv (cI 0)) [4]]
@[go_sem] def s100_4 (_ : Unit) : IR := (sQ [(kT l100_3), .ret])
@[go_sem] def s100_5 (_ : Unit) : IR := (sQ [(kT l100_2), (.cond (.t 10) (tH s100_4) .skip)])
@[go_sem] def l100_6 (_ : Unit) : KL := [kA 11 (.mv (.t 5)),
  kA 12 (.mv (.t 5)),
  kA 13 (.len (.t 12)),
  kA 14 (.bin .sub (.t 13) (cI 1)),
  kB 15 (.iaddr (.t 11) (.t 14) 1) [15],
  kA 16 (.load (.t 15) 1 false),
  kB 4 (.mv (.t 16)) [4]]
@[go_sem] def s100_7 (_ : Unit) : IR := (sQ [(kT l100_0), (kT l100_1), (tH s100_5), (kT l100_6), .ret])
theorem c100 : compFn Try.prog [(0, [], [oS [0, 1]]), (1, [], [oN, oN, oN, oS [5]]), (2, [], [oN, oS [5, 10]]), (3, [], [oS [4]]), (4, [], [oN, oN, oN, oN, oS [15], oN, oS [4]])] Try.f100 = some ⟨2, 17, [.t 4], (tH s100_7)⟩ := by kernel_rfl
theorem v_impl_kindOf (hl : vs.length = 2) (h : wpV Try.prog (tH s100_7) (postV [.t 4] RV) (envV vs) M) : VCall Try.prog n_impl_kindOf vs M RV :=
  vcall_of_wp (fun _ _ _ hl h => acall_of_wp mixed Try.func100 c100 (by kernel_rfl) hl h) hl h
@[go_sem] def l76_0 (_ : Unit) : KL := [kA 2 (.box (.t 0)),
  kB 4 (.mv (.c (.bool false))) [1, 2]]
@[go_sem] def l76_1 (_ : Unit) : KL := [kA 7 (.faddr (.t 2) 0),
  kA 8 (.load (.t 7) 1 false),
  kA 9 (.mv (.t 1)),
  kA 10 (.call (n_impl_kindOf) [(.t 8), (.t 9)]),
  kB 11 (.bin .neq (.t 10) (.c (.int .i64 2))) [1, 2, 11],
  kA 12 (.mv (.t 11)),
  (⟨(some 13), .faddr (.t 2) 1, (some (12, false))⟩, none),
  (⟨(some 14), .load (.t 13) 1 false, (some (12, false))⟩, none),
  (⟨(some 15), .len (.t 14), (some (12, false))⟩, none),
  (⟨(some 16), .faddr (.t 2) 2, (some (12, false))⟩, (some [1, 2, 12, 15, 16])),
  (⟨(some 17), .load (.t 16) 1 false, (some (12, false))⟩, none),
  (⟨(some 18), .len (.t 17), (some (12, false))⟩, none),
  (⟨(some 19), .bin .neq (.t 15) (.t 18), (some (12, false))⟩, none),
  kB 20 (.pick (.t 12) (.c (.bool true)) (.t 19)) [1, 2, 20]]
@[go_sem] def l76_2 (_ : Unit) : KL := [kB 4 (.mv (.c (.bool false))) [4]]
@[go_sem] def s76_3 (_ : Unit) : IR := (sQ [(kT l76_2), .ret])
@[go_sem] def s76_4 (_ : Unit) : IR := (sQ [(kT l76_1), (.cond (.t 20) (tH s76_3) .skip)])
@[go_sem] def l76_5 (_ : Unit) : KL := [kA 21 (.faddr (.t 2) 1),
  kA 22 (.load (.t 21) 1 false),
  kA 23 (.len (.t 22)),
  kB 24 (.mv (cI 0)) [1, 2, 22, 23, 24]]
@[go_sem] def l76_6 (_ : Unit) : KL := [kB 25 (.bin .lss (.t 24) (.t 23)) [1, 2, 22, 23, 24, 25]]
@[go_sem] def l76_7 (_ : Unit) : KL := [kA 26 (.mv (.t 24)),
  kA 27 (.iaddr (.t 22) (.t 24) 1),
  kA 28 (.load (.t 27) 1 false),
  kA 5 (.mv (.t 26)),
  kB 6 (.mv (.t 28)) [1, 2, 5, 6, 22, 23, 24]]
@[go_sem] def l76_8 (_ : Unit) : KL := [kA 29 (.mv (.t 6)),
  kA 30 (.mv (.t 1)),
  kA 31 (.bin .sub (.t 30) (cI 1)),
  kA 32 (.call (n_impl_in) [(.t 29), (cI 0), (.t 31)]),
  kB 33 (.un .not (.t 32)) [1, 2, 5, 6, 22, 23, 24, 33],
  kA 34 (.mv (.t 33)),
  (⟨(some 35), .mv (.t 5), (some (34, false))⟩, none),
  (⟨(some 36), .bin .gtr (.t 35) (cI 0), (some (34, false))⟩, none),
  (⟨(some 37), .mv (.t 36), (some (34, false))⟩, none),
  (⟨(some 38), .faddr (.t 2) 1, (some (37, true))⟩, (some [1, 2, 5, 6, 22, 23, 24, 34, 37, 38])),
  (⟨(some 39), .load (.t 38) 1 false, (some (37, true))⟩, none),
  (⟨(some 40), .mv (.t 5), (some (37, true))⟩, none),
  (⟨(some 41), .bin .sub (.t 40) (cI 1), (some (37, true))⟩, none),
  (⟨(some 42), .iaddr (.t 39) (.t 41) 1, (some (37, true))⟩, none),
  (⟨(some 43), .load (.t 42) 1 false, (some (37, true))⟩, (some [1, 2, 5, 6, 22, 23, 24, 34, 37, 43])),
  (⟨(some 44), .mv (.t 6), (some (37, true))⟩, none),
  (⟨(some 45), .bin .geq (.t 43) (.t 44), (some (37, true))⟩, none),
  (⟨(some 46), .pick (.t 37) (.t 45) (.c (.bool false)), (some (34, false))⟩, none),
  kA 47 (.pick (.t 34) (.c (.bool true)) (.t 46)),
  kB 48 (.mv (.t 47)) [1, 2, 5, 22, 23, 24, 48],
  (⟨(some 49), .faddr (.t 2) 2, (some (48, false))⟩, none),
  (⟨(some 50), .load (.t 49) 1 false, (some (48, false))⟩, none),
  (⟨(some 51), .mv (.t 5), (some (48, false))⟩, none),
  (⟨(some 52), .iaddr (.t 50) (.t 51) 1, (some (48, false))⟩, none),
  (⟨(some 53), .load (.t 52) 1 false, (some (48, false))⟩, (some [1, 2, 22, 23, 24, 48, 53])),
  (⟨(some 54), .mv (.t 1), (some (48, false))⟩, none),
  (⟨(some 55), .call (n_impl_kindOf) [(.t 53), (.t 54)], (some (48, false))⟩, none),
  (⟨(some 56), .bin .neq (.t 55) (cI 1), (some (48, false))⟩, none),
  kB 57 (.pick (.t 48) (.c (.bool true)) (.t 56)) [1, 2, 22, 23, 24, 57]]
@[go_sem] def l76_9 (_ : Unit) : KL := [kB 4 (.mv (.c (.bool false))) [4]]
@[go_sem] def s76_10 (_ : Unit) : IR := (sQ [(kT l76_9), .ret])
@[go_sem] def s76_11 (_ : Unit) : IR := (sQ [(kT l76_7), (kT l76_8), (.cond (.t 57) (tH s76_10) .skip)])
@[go_sem] def s76_12 (_ : Unit) : IR := (.block 1 (tH s76_11))
@[go_sem] def l76_13 (_ : Unit) : KL := [kA 58 (.bin .add (.t 24) (cI 1)),
  kB 24 (.mv (.t 58)) [1, 2, 22, 23, 24]]
@[go_sem] def s76_14 (_ : Unit) : IR := (sQ [(kT l76_6), (.cond (.t 25) .skip (.exit 0)), (tH s76_12), (kT l76_13)])
@[go_sem] def s76_15 (_ : Unit) : IR := (.loop (tH s76_14))
@[go_sem] def s76_16 (_ : Unit) : IR := (.block 0 (tH s76_15))
@[go_sem] def s76_17 (_ : Unit) : IR := (sQ [(kT l76_5), (tH s76_16)])
@[go_sem] def l76_18 (_ : Unit) : KL := [kB 4 (.mv (.c (.bool true))) [4]]
@[go_sem] def s76_19 (_ : Unit) : IR := (sQ [(kT l76_0), (tH s76_4), (tH s76_17), (kT l76_18), .ret])
theorem c76 : compFn Try.prog [(0, [], [oN, oS [1, 2]]), (1, [], [oN, oN, oN, oN, oS [1, 2, 11], oN, oN, oN, oN, oS [1, 2, 12, 15, 16], oN, oN, oN, oS [1, 2, 20]]), (2, [], [oS [4]]), (3, [], [oN, oN, oN, oS [1, 2, 22, 23, 24]]), (4, [], [oS [1, 2, 22, 23, 24, 25]]), (5, [], [oN, oN, oN, oN, oS [1, 2, 5, 6, 22, 23, 24]]), (6, [], [oN, oN, oN, oN, oS [1, 2, 5, 6, 22, 23, 24, 33], oN, oN, oN, oN, oS [1, 2, 5, 6, 22, 23, 24, 34, 37, 38], oN, oN, oN, oN, oS [1, 2, 5, 6, 22, 23, 24, 34, 37, 43], oN, oN, oN, oN, oS [1, 2, 5, 22, 23, 24, 48], oN, oN, oN, oN, oS [1, 2, 22, 23, 24, 48, 53], oN, oN, oN, oS [1, 2, 22, 23, 24, 57]]), (7, [], [oS [4]]), (8, [], [oN, oS [1, 2, 22, 23, 24]]), (9, [], [oS [4]])] Try.f76 = some ⟨2, 59, [.t 4], (tH s76_19)⟩ := by kernel_rfl
theorem v_impl_ruleOk (hl : vs.length = 2) (h : wpV Try.prog (tH s76_19) (postV [.t 4] RV) (envV vs) M) : VCall Try.prog n_impl_ruleOk vs M RV :=
  vcall_of_wp (fun _ _ _ hl h => acall_of_wp mixed Try.func76 c76 (by kernel_rfl) hl h) hl h
@[go_sem] def l75_0 (_ : Unit) : KL := [kA 2 (.box (.t 0)),
  kB 3 (.mv (.c (.bool false))) [1, 2]]
@[go_sem] def l75_1 (_ : Unit) : KL := [kA 4 (.load (.t 2) 3 true),
  kA 5 (.faddr (.t 1) 0),
  kA 6 (.load (.t 5) 1 false),
  kA 7 (.len (.t 6)),
  kB 8 (.call (n_impl_ruleOk) [(.t 4), (.t 7)]) [8],
  kA 9 (.un .not (.t 8)),
  kB 3 (.mv (.t 9)) [3]]
@[go_sem] def s75_2 (_ : Unit) : IR := (sQ [(kT l75_0), (kT l75_1), .ret])
theorem c75 : compFn Try.prog [(0, [], [oN, oS [1, 2]]), (1, [], [oN, oN, oN, oN, oS [8], oN, oS [3]])] Try.f75 = some ⟨2, 10, [.t 3], (tH s75_2)⟩ := by kernel_rfl
theorem v_impl_SystemValid_2 (hl : vs.length = 2) (h : wpV Try.prog (tH s75_2) (postV [.t 3] RV) (envV vs) M) : VCall Try.prog n_impl_SystemValid_2 vs M RV :=
  vcall_of_wp (fun _ _ _ hl h => acall_of_wp mixed Try.func75 c75 (by kernel_rfl) hl h) hl h
@[go_sem] def l99_0 (_ : Unit) : KL := [kB 4 (.mv (cI 0)) [0, 1]]
@[go_sem] def l99_1 (_ : Unit) : KL := [kA 6 (.mv (.t 0)),
  kA 7 (.len (.t 6)),
  kB 8 (.mv (cI 0)) [0, 1, 7, 8]]
@[go_sem] def l99_2 (_ : Unit) : KL := [kB 9 (.bin .lss (.t 8) (.t 7)) [0, 1, 7, 8, 9]]
@[go_sem] def l99_3 (_ : Unit) : KL := [kA 10 (.mv (.t 8)),
  kB 5 (.mv (.t 10)) [0, 1, 5, 7, 8]]
@[go_sem] def l99_4 (_ : Unit) : KL := [kA 11 (.mv (.t 1)),
  kA 12 (.mv (.t 0)),
  kA 13 (.mv (.t 5)),
  kA 14 (.iaddr (.t 12) (.t 13) 3),
  kB 15 (.load (.t 14) 3 true) [0, 1, 5, 7, 8, 11, 15],
  kB 16 (.callv (.t 11) [(.t 15)]) [0, 1, 5, 7, 8, 16]]
@[go_sem] def l99_5 (_ : Unit) : KL := [kA 17 (.mv (.t 5)),
  kB 4 (.mv (.t 17)) [4]]
@[go_sem] def s99_6 (_ : Unit) : IR := (sQ [(kT l99_5), .ret])
@[go_sem] def s99_7 (_ : Unit) : IR := (sQ [(kT l99_3), (kT l99_4), (.cond (.t 16) (tH s99_6) .skip)])
@[go_sem] def s99_8 (_ : Unit) : IR := (.block 1 (tH s99_7))
@[go_sem] def l99_9 (_ : Unit) : KL := [kA 18 (.bin .add (.t 8) (cI 1)),
  kB 8 (.mv (.t 18)) [0, 1, 7, 8]]
@[go_sem] def s99_10 (_ : Unit) : IR := (sQ [(kT l99_2), (.cond (.t 9) .skip (.exit 0)), (tH s99_8), (kT l99_9)])
@[go_sem] def s99_11 (_ : Unit) : IR := (.loop (tH s99_10))
@[go_sem] def s99_12 (_ : Unit) : IR := (.block 0 (tH s99_11))
@[go_sem] def s99_13 (_ : Unit) : IR := (sQ [(kT l99_1), (tH s99_12)])
@[go_sem] def l99_14 (_ : Unit) : KL := [kB 4 (.mv (.c (.int .i64 (-1)))) [4]]
@[go_sem] def s99_15 (_ : Unit) : IR := (sQ [(kT l99_0), (tH s99_13), (kT l99_14), .ret])
theorem c99 : compFn Try.prog [(0, [], [oS [0, 1]]), (1, [], [oN, oN, oS [0, 1, 7, 8]]), (2, [], [oS [0, 1, 7, 8, 9]]), (3, [], [oN, oS [0, 1, 5, 7, 8]]), (4, [], [oN, oN, oN, oN, oS [0, 1, 5, 7, 8, 11, 15], oS [0, 1, 5, 7, 8, 16]]), (5, [], [oN, oS [4]]), (6, [], [oN, oS [0, 1, 7, 8]]), (7, [], [oS [4]])] Try.f99 = some ⟨2, 19, [.t 4], (tH s99_15)⟩ := by kernel_rfl
theorem v_slices_IndexFunc_Simpl_Rule_impl_Rule (hl : vs.length = 2) (h : wpV Try.prog (tH s99_15) (postV [.t 4] RV) (envV vs) M) : VCall Try.prog n_slices_IndexFunc_Simpl_Rule_impl_Rule vs M RV :=
  vcall_of_wp (fun _ _ _ hl h => acall_of_wp mixed Try.func99 c99 (by kernel_rfl) hl h) hl h
@[go_sem] def l74_0 (_ : Unit) : KL := [kB 4 (.mv (.c (.bool false))) [0, 1]]
@[go_sem] def l74_1 (_ : Unit) : KL := [kA 5 (.mv (.t 0)),
  kA 6 (.mv (.t 1)),
  kA 7 (.call (n_slices_IndexFunc_Simpl_Rule_impl_Rule) [(.t 5), (.t 6)]),
  kA 8 (.bin .geq (.t 7) (cI 0)),
  kB 4 (.mv (.t 8)) [4]]
@[go_sem] def s74_2 (_ : Unit) : IR := (sQ [(kT l74_0), (kT l74_1), .ret])
theorem c74 : compFn Try.prog [(0, [], [oS [0, 1]]), (1, [], [oN, oN, oN, oN, oS [4]])] Try.f74 = some ⟨2, 9, [.t 4], (tH s74_2)⟩ := by kernel_rfl
theorem v_slices_ContainsFunc_Simpl_Rule_impl_Rule (hl : vs.length = 2) (h : wpV Try.prog (tH s74_2) (postV [.t 4] RV) (envV vs) M) : VCall Try.prog n_slices_ContainsFunc_Simpl_Rule_impl_Rule vs M RV :=
  vcall_of_wp (fun _ _ _ hl h => acall_of_wp mixed Try.func74 c74 (by kernel_rfl) hl h) hl h
@[go_sem] def l27_0 (_ : Unit) : KL := [kA 1 (.box (.t 0)),
  kB 2 (.mv (.c (.bool false))) [1]]
@[go_sem] def l27_1 (_ : Unit) : KL := [kA 3 (.faddr (.t 1) 0),
  kA 4 (.load (.t 3) 1 false),
  kA 5 (.len (.t 4)),
  kA 6 (.call (n_impl_in) [(.t 5), (cI 1), (.c (.int .i64 5))]),
  kB 7 (.un .not (.t 6)) [1, 7],
  kA 8 (.mv (.t 7)),
  (⟨(some 9), .faddr (.t 1) 1, (some (8, false))⟩, none),
  (⟨(some 10), .load (.t 9) 1 false, (some (8, false))⟩, none),
  (⟨(some 11), .len (.t 10), (some (8, false))⟩, none),
  (⟨(some 12), .bin .gtr (.t 11) (.c (.int .i64 8)), (some (8, false))⟩, (some [1, 8, 12])),
  kA 13 (.pick (.t 8) (.c (.bool true)) (.t 12)),
  kA 14 (.mv (.t 13)),
  (⟨(some 15), .faddr (.t 1) 0, (some (14, false))⟩, none),
  (⟨(some 16), .load (.t 15) 1 false, (some (14, false))⟩, none),
  (⟨(some 17), .call (n_slices_ContainsFunc_Simpl_Var_impl_Var) [(.t 16), (.c (.fn (n_impl_SystemValid_1) []))], (some (14, false))⟩, (some [1, 14, 17])),
  kA 18 (.pick (.t 14) (.c (.bool true)) (.t 17)),
  kA 19 (.mv (.t 18)),
  (⟨(some 20), .faddr (.t 1) 0, (some (19, false))⟩, none),
  (⟨(some 21), .load (.t 20) 1 false, (some (19, false))⟩, none),
  (⟨(some 22), .call (n_impl_size) [(.t 21)], (some (19, false))⟩, (some [1, 19, 22])),
  (⟨(some 23), .bin .gtr (.t 22) (.c (.int .i64 400)), (some (19, false))⟩, none),
  kB 24 (.pick (.t 19) (.c (.bool true)) (.t 23)) [1, 24]]
@[go_sem] def l27_2 (_ : Unit) : KL := [kB 2 (.mv (.c (.bool false))) [2]]
@[go_sem] def s27_3 (_ : Unit) : IR := (sQ [(kT l27_2), .ret])
@[go_sem] def s27_4 (_ : Unit) : IR := (sQ [(kT l27_1), (.cond (.t 24) (tH s27_3) .skip)])
@[go_sem] def l27_5 (_ : Unit) : KL := [kA 25 (.faddr (.t 1) 1),
  kA 26 (.load (.t 25) 1 false),
  kA 27 (.mkfn (n_impl_SystemValid_2) [(.t 1)]),
  kA 28 (.call (n_slices_ContainsFunc_Simpl_Rule_impl_Rule) [(.t 26), (.t 27)]),
  kB 29 (.un .not (.t 28)) [29],
  kB 2 (.mv (.t 29)) [2]]
@[go_sem] def s27_6 (_ : Unit) : IR := (sQ [(kT l27_0), (tH s27_4), (kT l27_5), .ret])
theorem c27 : compFn Try.prog [(0, [], [oN, oS [1]]), (1, [], [oN, oN, oN, oN, oS [1, 7], oN, oN, oN, oN, oS [1, 8, 12], oN, oN, oN, oN, oS [1, 14, 17], oN, oN, oN, oN, oS [1, 19, 22], oN, oS [1, 24]]), (2, [], [oS [2]]), (3, [], [oN, oN, oN, oN, oS [29], oS [2]])] Try.f27 = some ⟨1, 30, [.t 2], (tH s27_6)⟩ := by kernel_rfl
theorem v_impl_SystemValid (hl : vs.length = 1) (h : wpV Try.prog (tH s27_6) (postV [.t 2] RV) (envV vs) M) : VCall Try.prog n_impl_SystemValid vs M RV :=
  vcall_of_wp (fun _ _ _ hl h => acall_of_wp mixed Try.func27 c27 (by kernel_rfl) hl h) hl h
@[go_sem] def l59_0 (_ : Unit) : KL := [kA 2 (.box (.t 0)),
  kB 4 (.mv (.c (.bool false))) [1, 2]]
@[go_sem] def l59_1 (_ : Unit) : KL := [kA 7 (.mv (.t 1)),
  kA 8 (.len (.t 7)),
  kA 9 (.faddr (.t 2) 0),
  kA 10 (.load (.t 9) 1 false),
  kB 11 (.len (.t 10)) [1, 2, 8, 11],
  kB 12 (.bin .neq (.t 8) (.t 11)) [1, 2, 12]]
@[go_sem] def l59_2 (_ : Unit) : KL := [kB 4 (.mv (.c (.bool false))) [4]]
@[go_sem] def s59_3 (_ : Unit) : IR := (sQ [(kT l59_2), .ret])
@[go_sem] def s59_4 (_ : Unit) : IR := (sQ [(kT l59_1), (.cond (.t 12) (tH s59_3) .skip)])
@[go_sem] def l59_5 (_ : Unit) : KL := [kA 13 (.faddr (.t 2) 0),
  kA 14 (.load (.t 13) 1 false),
  kA 15 (.len (.t 14)),
  kB 16 (.mv (cI 0)) [1, 14, 15, 16]]
@[go_sem] def l59_6 (_ : Unit) : KL := [kB 17 (.bin .lss (.t 16) (.t 15)) [1, 14, 15, 16, 17]]
@[go_sem] def l59_7 (_ : Unit) : KL := [kA 18 (.mv (.t 16)),
  kA 19 (.iaddr (.t 14) (.t 16) 3),
  kA 20 (.load (.t 19) 3 true),
  kA 6 (.alloc [(.int .i64 0), (.int .i64 0), (.int .i64 0)]),
  kB 5 (.mv (.t 18)) [1, 5, 6, 14, 15, 16, 20],
  (⟨none, .store (.t 6) 3 (.t 20), none⟩, (some [1, 5, 6, 14, 15, 16]))]
@[go_sem] def l59_8 : Nat → GOp
  | 0 => ⟨(some 21), .mv (.t 1), none⟩
  | 1 => ⟨(some 22), .mv (.t 5), none⟩
  | 2 => ⟨(some 23), .iaddr (.t 21) (.t 22) 1, none⟩
  | 3 => ⟨(some 24), .load (.t 23) 1 false, none⟩
  | 4 => ⟨(some 25), .faddr (.t 6) 0, none⟩
  | 5 => ⟨(some 26), .load (.t 25) 1 false, none⟩
  | 6 => ⟨(some 27), .faddr (.t 6) 1, none⟩
  | 7 => ⟨(some 28), .load (.t 27) 1 false, none⟩
  | 8 => ⟨(some 29), .call (n_impl_in) [(.t 24), (.t 26), (.t 28)], none⟩
  | 9 => ⟨(some 30), .un .not (.t 29), none⟩
  | _ => ⟨none, .mkmap, none⟩
@[go_sem] def l59_9 (_ : Unit) : KL := [kB 4 (.mv (.c (.bool false))) [4]]
@[go_sem] def s59_10 (_ : Unit) : IR := (sQ [(kT l59_9), .ret])
@[go_sem] def s59_11 (_ : Unit) : IR := (sQ [(kT l59_7), (.kd (oF l59_8 10) [(0, []), (1, []), (2, []), (3, []), (4, []), (5, []), (6, []), (7, []), (8, []), (9, [])] [1, 14, 15, 16, 30]), (.cond (.t 30) (tH s59_10) .skip)])
@[go_sem] def s59_12 (_ : Unit) : IR := (.block 1 (tH s59_11))
@[go_sem] def l59_13 (_ : Unit) : KL := [kA 31 (.bin .add (.t 16) (cI 1)),
  kB 16 (.mv (.t 31)) [1, 14, 15, 16]]
@[go_sem] def s59_14 (_ : Unit) : IR := (sQ [(kT l59_6), (.cond (.t 17) .skip (.exit 0)), (tH s59_12), (kT l59_13)])
@[go_sem] def s59_15 (_ : Unit) : IR := (.loop (tH s59_14))
@[go_sem] def s59_16 (_ : Unit) : IR := (.block 0 (tH s59_15))
@[go_sem] def s59_17 (_ : Unit) : IR := (sQ [(kT l59_5), (tH s59_16)])
@[go_sem] def l59_18 (_ : Unit) : KL := [kB 4 (.mv (.c (.bool true))) [4]]
@[go_sem] def s59_19 (_ : Unit) : IR := (sQ [(kT l59_0), (tH s59_4), (tH s59_17), (kT l59_18), .ret])
theorem c59 : compFn Try.prog [(0, [], [oN, oS [1, 2]]), (1, [], [oN, oN, oN, oN, oS [1, 2, 8, 11], oS [1, 2, 12]]), (2, [], [oS [4]]), (3, [], [oN, oN, oN, oS [1, 14, 15, 16]]), (4, [], [oS [1, 14, 15, 16, 17]]), (5, [], [oN, oN, oN, oN, oS [1, 5, 6, 14, 15, 16, 20], oS [1, 5, 6, 14, 15, 16]]), (6, [(0, []), (1, []), (2, []), (3, []), (4, []), (5, []), (6, []), (7, []), (8, []), (9, [])], [oS [1, 14, 15, 16, 30]]), (7, [], [oS [4]]), (8, [], [oN, oS [1, 14, 15, 16]]), (9, [], [oS [4]])] Try.f59 = some ⟨2, 32, [.t 4], (tH s59_19)⟩ := by kernel_rfl
theorem v_impl_inRange (hl : vs.length = 2) (h : wpV Try.prog (tH s59_19) (postV [.t 4] RV) (envV vs) M) : VCall Try.prog n_impl_inRange vs M RV :=
  vcall_of_wp (fun _ _ _ hl h => acall_of_wp mixed Try.func59 c59 (by kernel_rfl) hl h) hl h
@[go_sem] def l22_0 (_ : Unit) : KL := [kA 2 (.box (.t 0)),
  kB 4 (.mv (.c (.bool false))) [1, 2]]
@[go_sem] def l22_1 (_ : Unit) : KL := [kA 5 (.load (.t 2) 2 true),
  kA 6 (.call (n_impl_SystemValid) [(.t 5)]),
  kA 7 (.mv (.t 6)),
  (⟨(some 8), .load (.t 2) 2 true, (some (7, true))⟩, none),
  (⟨(some 9), .mv (.t 1), (some (7, true))⟩, (some [7, 8, 9])),
  (⟨(some 10), .call (n_impl_inRange) [(.t 8), (.t 9)], (some (7, true))⟩, none),
  kA 11 (.pick (.t 7) (.t 10) (.c (.bool false))),
  kB 4 (.mv (.t 11)) [4]]
@[go_sem] def s22_2 (_ : Unit) : IR := (sQ [(kT l22_0), (kT l22_1), .ret])
theorem c22 : compFn Try.prog [(0, [], [oN, oS [1, 2]]), (1, [], [oN, oN, oN, oN, oS [7, 8, 9], oN, oN, oS [4]])] Try.f22 = some ⟨2, 12, [.t 4], (tH s22_2)⟩ := by kernel_rfl
theorem v_impl_InRange (hl : vs.length = 2) (h : wpV Try.prog (tH s22_2) (postV [.t 4] RV) (envV vs) M) : VCall Try.prog n_impl_InRange vs M RV :=
  vcall_of_wp (fun _ _ _ hl h => acall_of_wp mixed Try.func22 c22 (by kernel_rfl) hl h) hl h
@[go_sem] def l121_0 (_ : Unit) : KL := [kB 2 (.mv (cI 0)) [0]]
@[go_sem] def l121_1 (_ : Unit) : KL := [kA 3 (.mv (.t 0)),
  kA 4 (.mnx false (.c (.int .i64 9999)) (.t 3)),
  kA 5 (.mnx true (.c (.int .i64 (-9999))) (.t 4)),
  kB 2 (.mv (.t 5)) [2]]
@[go_sem] def s121_2 (_ : Unit) : IR := (sQ [(kT l121_0), (kT l121_1), .ret])
theorem c121 : compFn Try.prog [(0, [], [oS [0]]), (1, [], [oN, oN, oN, oS [2]])] Try.f121 = some ⟨1, 6, [.t 2], (tH s121_2)⟩ := by kernel_rfl
theorem v_impl_held (hl : vs.length = 1) (h : wpV Try.prog (tH s121_2) (postV [.t 2] RV) (envV vs) M) : VCall Try.prog n_impl_held vs M RV :=
  vcall_of_wp (fun _ _ _ hl h => acall_of_wp mixed Try.func121 c121 (by kernel_rfl) hl h) hl h
@[go_sem] def l122_0 (_ : Unit) : KL := [kB 2 (.mv (cI 0)) [0]]
@[go_sem] def l122_1 (_ : Unit) : KL := [kB 3 (.mv (.t 0)) [3]]
@[go_sem] def l122_2 (_ : Unit) : KL := [kB 2 (.mv (cI 1)) [2]]
@[go_sem] def s122_3 (_ : Unit) : IR := (sQ [(kT l122_2), .ret])
@[go_sem] def s122_4 (_ : Unit) : IR := (sQ [(kT l122_1), (.cond (.t 3) (tH s122_3) .skip)])
@[go_sem] def l122_5 (_ : Unit) : KL := [kB 2 (.mv (cI 0)) [2]]
@[go_sem] def s122_6 (_ : Unit) : IR := (sQ [(kT l122_0), (tH s122_4), (kT l122_5), .ret])
theorem c122 : compFn Try.prog [(0, [], [oS [0]]), (1, [], [oS [3]]), (2, [], [oS [2]]), (3, [], [oS [2]])] Try.f122 = some ⟨1, 4, [.t 2], (tH s122_6)⟩ := by kernel_rfl
theorem v_impl_bit (hl : vs.length = 1) (h : wpV Try.prog (tH s122_6) (postV [.t 2] RV) (envV vs) M) : VCall Try.prog n_impl_bit vs M RV :=
  vcall_of_wp (fun _ _ _ hl h => acall_of_wp mixed Try.func122 c122 (by kernel_rfl) hl h) hl h
@[go_sem] def l109_0 (_ : Unit) : KL := [kB 6 (.mv (cI 0)) [0, 1, 2]]
@[go_sem] def l109_1 (_ : Unit) : KL := [kB 7 (.mv (.t 0)) [1, 2, 7]]
@[go_sem] def l109_2 (_ : Unit) : KL := [kA 9 (.bin .eql (.t 7) (.c (.int .i64 2))),
  kB 8 (.mv (.t 9)) [1, 2, 7, 8]]
@[go_sem] def l109_3 (_ : Unit) : KL := [kA 10 (.mv (.t 1)),
  kA 11 (.mv (.t 2)),
  kA 12 (.bin .add (.t 10) (.t 11)),
  kA 13 (.call (n_impl_held) [(.t 12)]),
  kB 6 (.mv (.t 13)) [6]]
@[go_sem] def s109_4 (_ : Unit) : IR := (sQ [(kT l109_3), .ret])
@[go_sem] def l109_5 (_ : Unit) : KL := [kA 15 (.bin .eql (.t 7) (.c (.int .i64 3))),
  kB 14 (.mv (.t 15)) [1, 2, 7, 14]]
@[go_sem] def l109_6 (_ : Unit) : KL := [kA 16 (.mv (.t 1)),
  kA 17 (.mv (.t 2)),
  kA 18 (.bin .sub (.t 16) (.t 17)),
  kA 19 (.call (n_impl_held) [(.t 18)]),
  kB 6 (.mv (.t 19)) [6]]
@[go_sem] def s109_7 (_ : Unit) : IR := (sQ [(kT l109_6), .ret])
@[go_sem] def l109_8 (_ : Unit) : KL := [kA 21 (.bin .eql (.t 7) (.c (.int .i64 4))),
  kB 20 (.mv (.t 21)) [1, 2, 7, 20]]
@[go_sem] def l109_9 (_ : Unit) : KL := [kA 22 (.mv (.t 1)),
  kA 23 (.mv (.t 2)),
  kA 24 (.bin .mul (.t 22) (.t 23)),
  kA 25 (.call (n_impl_held) [(.t 24)]),
  kB 6 (.mv (.t 25)) [6]]
@[go_sem] def s109_10 (_ : Unit) : IR := (sQ [(kT l109_9), .ret])
@[go_sem] def l109_11 (_ : Unit) : KL := [kA 27 (.bin .eql (.t 7) (.c (.int .i64 5))),
  kB 26 (.mv (.t 27)) [1, 2, 7, 26]]
@[go_sem] def l109_12 (_ : Unit) : KL := [kA 28 (.mv (.t 1)),
  kA 29 (.mv (.t 2)),
  kA 30 (.bin .lss (.t 28) (.t 29)),
  kA 31 (.call (n_impl_bit) [(.t 30)]),
  kB 6 (.mv (.t 31)) [6]]
@[go_sem] def s109_13 (_ : Unit) : IR := (sQ [(kT l109_12), .ret])
@[go_sem] def l109_14 (_ : Unit) : KL := [kA 33 (.bin .eql (.t 7) (.c (.int .i64 6))),
  kB 32 (.mv (.t 33)) [1, 2, 7, 32]]
@[go_sem] def l109_15 (_ : Unit) : KL := [kA 34 (.mv (.t 1)),
  kA 35 (.mv (.t 2)),
  kA 36 (.bin .eql (.t 34) (.t 35)),
  kA 37 (.call (n_impl_bit) [(.t 36)]),
  kB 6 (.mv (.t 37)) [6]]
@[go_sem] def s109_16 (_ : Unit) : IR := (sQ [(kT l109_15), .ret])
@[go_sem] def l109_17 (_ : Unit) : KL := [kA 39 (.bin .eql (.t 7) (.c (.int .i64 7))),
  kB 38 (.mv (.t 39)) [1, 2, 7, 38]]
@[go_sem] def l109_18 (_ : Unit) : KL := [kA 40 (.mv (.t 1)),
  kA 41 (.bin .sub (cI 1) (.t 40)),
  kB 6 (.mv (.t 41)) [6]]
@[go_sem] def s109_19 (_ : Unit) : IR := (sQ [(kT l109_18), .ret])
@[go_sem] def l109_20 (_ : Unit) : KL := [kA 43 (.bin .eql (.t 7) (.c (.int .i64 8))),
  kB 42 (.mv (.t 43)) [1, 2, 42]]
@[go_sem] def l109_21 (_ : Unit) : KL := [kA 44 (.mv (.t 1)),
  kA 45 (.mv (.t 2)),
  kA 46 (.mnx false (.t 44) (.t 45)),
  kB 6 (.mv (.t 46)) [6]]
@[go_sem] def s109_22 (_ : Unit) : IR := (sQ [(kT l109_21), .ret])
@[go_sem] def s109_23 (_ : Unit) : IR := (sQ [(kT l109_20), (.cond (.t 42) (tH s109_22) .skip)])
@[go_sem] def s109_24 (_ : Unit) : IR := (sQ [(kT l109_17), (.cond (.t 38) (tH s109_19) (tH s109_23))])
@[go_sem] def s109_25 (_ : Unit) : IR := (sQ [(kT l109_14), (.cond (.t 32) (tH s109_16) (tH s109_24))])
@[go_sem] def s109_26 (_ : Unit) : IR := (sQ [(kT l109_11), (.cond (.t 26) (tH s109_13) (tH s109_25))])
@[go_sem] def s109_27 (_ : Unit) : IR := (sQ [(kT l109_8), (.cond (.t 20) (tH s109_10) (tH s109_26))])
@[go_sem] def s109_28 (_ : Unit) : IR := (sQ [(kT l109_5), (.cond (.t 14) (tH s109_7) (tH s109_27))])
@[go_sem] def s109_29 (_ : Unit) : IR := (sQ [(kT l109_2), (.cond (.t 8) (tH s109_4) (tH s109_28))])
@[go_sem] def s109_30 (_ : Unit) : IR := (.block 0 (tH s109_29))
@[go_sem] def s109_31 (_ : Unit) : IR := (sQ [(kT l109_1), (tH s109_30)])
@[go_sem] def l109_32 (_ : Unit) : KL := [kA 47 (.mv (.t 1)),
  kA 48 (.mv (.t 2)),
  kA 49 (.mnx true (.t 47) (.t 48)),
  kB 6 (.mv (.t 49)) [6]]
@[go_sem] def s109_33 (_ : Unit) : IR := (sQ [(kT l109_0), (tH s109_31), (kT l109_32), .ret])
theorem c109 : compFn Try.prog [(0, [], [oS [0, 1, 2]]), (1, [], [oS [1, 2, 7]]), (2, [], [oN, oS [1, 2, 7, 8]]), (3, [], [oN, oN, oN, oN, oS [6]]), (4, [], [oN, oS [1, 2, 7, 14]]), (5, [], [oN, oN, oN, oN, oS [6]]), (6, [], [oN, oS [1, 2, 7, 20]]), (7, [], [oN, oN, oN, oN, oS [6]]), (8, [], [oN, oS [1, 2, 7, 26]]), (9, [], [oN, oN, oN, oN, oS [6]]), (10, [], [oN, oS [1, 2, 7, 32]]), (11, [], [oN, oN, oN, oN, oS [6]]), (12, [], [oN, oS [1, 2, 7, 38]]), (13, [], [oN, oN, oS [6]]), (14, [], [oN, oS [1, 2, 42]]), (15, [], [oN, oN, oN, oS [6]]), (16, [], [oN, oN, oN, oS [6]])] Try.f109 = some ⟨3, 50, [.t 6], (tH s109_33)⟩ := by kernel_rfl
theorem v_impl_do (hl : vs.length = 3) (h : wpV Try.prog (tH s109_33) (postV [.t 6] RV) (envV vs) M) : VCall Try.prog n_impl_do vs M RV :=
  vcall_of_wp (fun _ _ _ hl h => acall_of_wp mixed Try.func109 c109 (by kernel_rfl) hl h) hl h
@[go_sem] def l90_0 (_ : Unit) : KL := [kB 4 (.mv (cI 0)) [0, 1]]
@[go_sem] def l90_1 (_ : Unit) : KL := [kA 8 (.mv (.t 0)),
  kA 9 (.len (.t 8)),
  kA 10 (.mks [(.int .i64 0)] 8 (.t 9)),
  kB 5 (.mv (.t 10)) [0, 1, 5]]
@[go_sem] def l90_2 (_ : Unit) : KL := [kA 11 (.mv (.t 0)),
  kA 12 (.len (.t 11)),
  kB 13 (.mv (cI 0)) [1, 5, 11, 12, 13]]
@[go_sem] def l90_3 (_ : Unit) : KL := [kB 14 (.bin .lss (.t 13) (.t 12)) [1, 5, 11, 12, 13, 14]]
@[go_sem] def l90_4 (_ : Unit) : KL := [kA 15 (.mv (.t 13)),
  kA 16 (.iaddr (.t 11) (.t 13) 4),
  kA 17 (.load (.t 16) 4 true),
  kA 7 (.alloc [(.int .i64 0), (.int .i64 0), (.int .i64 0), (.int .i64 0)]),
  kB 6 (.mv (.t 15)) [1, 5, 6, 7, 11, 12, 13, 17],
  (⟨none, .store (.t 7) 4 (.t 17), none⟩, (some [1, 5, 6, 7, 11, 12, 13]))]
@[go_sem] def l90_5 (_ : Unit) : KL := [kA 18 (.faddr (.t 7) 0),
  kB 19 (.load (.t 18) 1 false) [1, 5, 6, 7, 11, 12, 13, 19]]
@[go_sem] def l90_6 (_ : Unit) : KL := [kA 37 (.bin .eql (.t 19) (cI 0)),
  kB 36 (.mv (.t 37)) [1, 5, 6, 7, 11, 12, 13, 19, 36]]
@[go_sem] def l90_7 (_ : Unit) : KL := [kA 38 (.mv (.t 5)),
  kA 39 (.mv (.t 6)),
  kA 40 (.faddr (.t 7) 1),
  kA 41 (.load (.t 40) 1 false),
  kB 42 (.iaddr (.t 38) (.t 39) 1) [1, 5, 11, 12, 13, 41, 42],
  (⟨none, .store (.t 42) 1 (.t 41), none⟩, (some [1, 5, 11, 12, 13]))]
@[go_sem] def l90_8 (_ : Unit) : KL := [kA 44 (.bin .eql (.t 19) (cI 1)),
  kB 43 (.mv (.t 44)) [1, 5, 6, 7, 11, 12, 13, 43]]
@[go_sem] def l90_9 (_ : Unit) : KL := [kA 45 (.mv (.t 5)),
  kA 46 (.mv (.t 6)),
  kA 47 (.mv (.t 1)),
  kA 48 (.faddr (.t 7) 1),
  kB 49 (.load (.t 48) 1 false) [1, 5, 11, 12, 13, 45, 46, 47, 49],
  kA 50 (.iaddr (.t 47) (.t 49) 1),
  kA 51 (.load (.t 50) 1 false),
  kA 52 (.iaddr (.t 45) (.t 46) 1),
  (⟨none, .store (.t 52) 1 (.t 51), none⟩, (some [1, 5, 11, 12, 13]))]
@[go_sem] def l90_10 : Nat → GOp
  | 0 => ⟨(some 20), .mv (.t 5), none⟩
  | 1 => ⟨(some 21), .mv (.t 6), none⟩
  | 2 => ⟨(some 22), .faddr (.t 7) 0, none⟩
  | 3 => ⟨(some 23), .load (.t 22) 1 false, none⟩
  | 4 => ⟨(some 24), .mv (.t 5), none⟩
  | 5 => ⟨(some 25), .faddr (.t 7) 2, none⟩
  | 6 => ⟨(some 26), .load (.t 25) 1 false, none⟩
  | 7 => ⟨(some 27), .iaddr (.t 24) (.t 26) 1, none⟩
  | 8 => ⟨(some 28), .load (.t 27) 1 false, none⟩
  | 9 => ⟨(some 29), .mv (.t 5), none⟩
  | 10 => ⟨(some 30), .faddr (.t 7) 3, none⟩
  | 11 => ⟨(some 31), .load (.t 30) 1 false, none⟩
  | 12 => ⟨(some 32), .iaddr (.t 29) (.t 31) 1, none⟩
  | 13 => ⟨(some 33), .load (.t 32) 1 false, none⟩
  | 14 => ⟨(some 34), .call (n_impl_do) [(.t 23), (.t 28), (.t 33)], none⟩
  | 15 => ⟨(some 35), .iaddr (.t 20) (.t 21) 1, none⟩
  | 16 => ⟨none, .store (.t 35) 1 (.t 34), none⟩
  | _ => ⟨none, .mkmap, none⟩
@[go_sem] def s90_11 (_ : Unit) : IR := (sQ [(kT l90_8), (.cond (.t 43) (kT l90_9) (.kd (oF l90_10 17) [(0, []), (1, []), (2, []), (3, []), (4, []), (5, []), (6, []), (7, []), (8, []), (9, []), (10, []), (11, []), (12, []), (13, []), (14, []), (15, []), (16, [])] [1, 5, 11, 12, 13]))])
@[go_sem] def s90_12 (_ : Unit) : IR := (sQ [(kT l90_6), (.cond (.t 36) (kT l90_7) (tH s90_11))])
@[go_sem] def s90_13 (_ : Unit) : IR := (.block 2 (tH s90_12))
@[go_sem] def s90_14 (_ : Unit) : IR := (sQ [(kT l90_4), (kT l90_5), (tH s90_13)])
@[go_sem] def s90_15 (_ : Unit) : IR := (.block 1 (tH s90_14))
@[go_sem] def l90_16 (_ : Unit) : KL := [kA 53 (.bin .add (.t 13) (cI 1)),
  kB 13 (.mv (.t 53)) [1, 5, 11, 12, 13]]
@[go_sem] def s90_17 (_ : Unit) : IR := (sQ [(kT l90_3), (.cond (.t 14) .skip (.exit 0)), (tH s90_15), (kT l90_16)])
@[go_sem] def s90_18 (_ : Unit) : IR := (.loop (tH s90_17))
@[go_sem] def s90_19 (_ : Unit) : IR := (.block 0 (tH s90_18))
@[go_sem] def s90_20 (_ : Unit) : IR := (sQ [(kT l90_2), (tH s90_19)])
@[go_sem] def l90_21 (_ : Unit) : KL := [kA 54 (.mv (.t 5)),
  kA 55 (.mv (.t 5)),
  kA 56 (.len (.t 55)),
  kA 57 (.bin .sub (.t 56) (cI 1)),
  kB 58 (.iaddr (.t 54) (.t 57) 1) [58],
  kA 59 (.load (.t 58) 1 false),
  kB 4 (.mv (.t 59)) [4]]
@[go_sem] def s90_22 (_ : Unit) : IR := (sQ [(kT l90_0), (kT l90_1), (tH s90_20), (kT l90_21), .ret])
theorem c90 : compFn Try.prog [(0, [], [oS [0, 1]]), (1, [], [oN, oN, oN, oS [0, 1, 5]]), (2, [], [oN, oN, oS [1, 5, 11, 12, 13]]), (3, [], [oS [1, 5, 11, 12, 13, 14]]), (4, [], [oN, oN, oN, oN, oS [1, 5, 6, 7, 11, 12, 13, 17], oS [1, 5, 6, 7, 11, 12, 13]]), (5, [], [oN, oS [1, 5, 6, 7, 11, 12, 13, 19]]), (7, [], [oN, oS [1, 5, 6, 7, 11, 12, 13, 19, 36]]), (8, [], [oN, oN, oN, oN, oS [1, 5, 11, 12, 13, 41, 42], oS [1, 5, 11, 12, 13]]), (9, [], [oN, oS [1, 5, 6, 7, 11, 12, 13, 43]]), (10, [], [oN, oN, oN, oN, oS [1, 5, 11, 12, 13, 45, 46, 47, 49], oN, oN, oN, oS [1, 5, 11, 12, 13]]), (6, [(0, []), (1, []), (2, []), (3, []), (4, []), (5, []), (6, []), (7, []), (8, []), (9, []), (10, []), (11, []), (12, []), (13, []), (14, []), (15, []), (16, [])], [oS [1, 5, 11, 12, 13]]), (11, [], [oN, oS [1, 5, 11, 12, 13]]), (12, [], [oN, oN, oN, oN, oS [58], oN, oS [4]])] Try.f90 = some ⟨2, 60, [.t 4], (tH s90_22)⟩ := by kernel_rfl
theorem v_impl_eval (hl : vs.length = 2) (h : wpV Try.prog (tH s90_22) (postV [.t 4] RV) (envV vs) M) : VCall Try.prog n_impl_eval vs M RV :=
  vcall_of_wp (fun _ _ _ hl h => acall_of_wp mixed Try.func90 c90 (by kernel_rfl) hl h) hl h
@[go_sem] def l57_0 (_ : Unit) : KL := [kB 2 (.mv (.c (.sl none 0 0 true 0))) [0]]
@[go_sem] def l57_1 (_ : Unit) : KL := [kA 4 (.mv (.t 0)),
  kA 5 (.len (.t 4)),
  kB 6 (.bin .eql (.t 5) (cI 0)) [0, 6]]
@[go_sem] def l57_2 (_ : Unit) : KL := [kB 2 (.mv (.c (.sl none 0 0 true 0))) [2]]
@[go_sem] def s57_3 (_ : Unit) : IR := (sQ [(kT l57_2), .ret])
@[go_sem] def s57_4 (_ : Unit) : IR := (sQ [(kT l57_1), (.cond (.t 6) (tH s57_3) .skip)])
@[go_sem] def l57_5 (_ : Unit) : KL := [kA 7 (.mv (.t 0)),
  kA 8 (.len (.t 7)),
  kA 9 (.mks [(.int .i64 0)] 8 (.t 8)),
  kB 3 (.mv (.t 9)) [0, 3]]
@[go_sem] def l57_6 (_ : Unit) : KL := [kA 10 (.mv (.t 3)),
  kA 11 (.mv (.t 0)),
  kB 12 (.copy 1 (.t 10) (.t 11)) [3]]
@[go_sem] def l57_7 (_ : Unit) : KL := [kA 13 (.mv (.t 3)),
  kB 2 (.mv (.t 13)) [2]]
@[go_sem] def s57_8 (_ : Unit) : IR := (sQ [(kT l57_0), (tH s57_4), (kT l57_5), (kT l57_6), (kT l57_7), .ret])
theorem c57 : compFn Try.prog [(0, [], [oS [0]]), (1, [], [oN, oN, oS [0, 6]]), (2, [], [oS [2]]), (3, [], [oN, oN, oN, oS [0, 3]]), (4, [], [oN, oN, oS [3]]), (5, [], [oN, oS [2]])] Try.f57 = some ⟨1, 14, [.t 2], (tH s57_8)⟩ := by kernel_rfl
theorem v_impl_clone_int (hl : vs.length = 1) (h : wpV Try.prog (tH s57_8) (postV [.t 2] RV) (envV vs) M) : VCall Try.prog n_impl_clone_int vs M RV :=
  vcall_of_wp (fun _ _ _ hl h => acall_of_wp mixed Try.func57 c57 (by kernel_rfl) hl h) hl h
@[go_sem] def l54_0 (_ : Unit) : KL := [kA 3 (.box (.t 0)),
  kA 6 (.mv (.c (.sl none 0 0 true 0))),
  kB 7 (.mv (.c (.bool false))) [1, 2, 3]]
@[go_sem] def l54_1 (_ : Unit) : KL := [kA 12 (.faddr (.t 3) 1),
  kA 13 (.load (.t 12) 1 false),
  kA 14 (.mv (.t 2)),
  kA 15 (.iaddr (.t 13) (.t 14) 3),
  kB 16 (.load (.t 15) 3 true) [1, 3, 16],
  kA 8 (.alloc [(.sl none 0 0 true 0), (.sl none 0 0 true 0), (.sl none 0 0 true 0)]),
  (⟨none, .store (.t 8) 3 (.t 16), none⟩, (some [1, 3, 8]))]
@[go_sem] def l54_2 (_ : Unit) : KL := [kA 17 (.faddr (.t 8) 0),
  kA 18 (.load (.t 17) 1 false),
  kA 19 (.mv (.t 1)),
  kA 20 (.call (n_impl_eval) [(.t 18), (.t 19)]),
  kB 21 (.bin .eql (.t 20) (cI 0)) [1, 3, 8, 21]]
@[go_sem] def l54_3 (_ : Unit) : KL := [kA 6 (.mv (.c (.sl none 0 0 true 0))),
  kB 7 (.mv (.c (.bool false))) [6, 7]]
@[go_sem] def s54_4 (_ : Unit) : IR := (sQ [(kT l54_3), .ret])
@[go_sem] def s54_5 (_ : Unit) : IR := (sQ [(kT l54_2), (.cond (.t 21) (tH s54_4) .skip)])
@[go_sem] def l54_6 (_ : Unit) : KL := [kA 22 (.mv (.t 1)),
  kA 23 (.call (n_impl_clone_int) [(.t 22)]),
  kB 9 (.mv (.t 23)) [1, 3, 8, 9]]
@[go_sem] def l54_7 (_ : Unit) : KL := [kA 24 (.faddr (.t 8) 1),
  kA 25 (.load (.t 24) 1 false),
  kA 26 (.len (.t 25)),
  kB 27 (.mv (cI 0)) [1, 3, 8, 9, 25, 26, 27]]
@[go_sem] def l54_8 (_ : Unit) : KL := [kB 28 (.bin .lss (.t 27) (.t 26)) [1, 3, 8, 9, 25, 26, 27, 28]]
@[go_sem] def l54_9 (_ : Unit) : KL := [kA 29 (.mv (.t 27)),
  kA 30 (.iaddr (.t 25) (.t 27) 1),
  kA 31 (.load (.t 30) 1 false),
  kA 10 (.mv (.t 29)),
  kB 11 (.mv (.t 31)) [1, 3, 8, 9, 10, 11, 25, 26, 27]]
@[go_sem] def l54_10 (_ : Unit) : KL := [kA 32 (.mv (.t 9)),
  kA 33 (.mv (.t 11)),
  kA 34 (.faddr (.t 8) 2),
  kA 35 (.load (.t 34) 1 false),
  kB 36 (.mv (.t 10)) [1, 3, 8, 9, 25, 26, 27, 32, 33, 35, 36],
  kA 37 (.iaddr (.t 35) (.t 36) 1),
  kA 38 (.load (.t 37) 1 false),
  kA 39 (.mv (.t 1)),
  kA 40 (.call (n_impl_eval) [(.t 38), (.t 39)]),
  kB 41 (.iaddr (.t 32) (.t 33) 1) [1, 3, 8, 9, 25, 26, 27, 40, 41],
  (⟨none, .store (.t 41) 1 (.t 40), none⟩, (some [1, 3, 8, 9, 25, 26, 27]))]
@[go_sem] def s54_11 (_ : Unit) : IR := (sQ [(kT l54_9), (kT l54_10)])
@[go_sem] def s54_12 (_ : Unit) : IR := (.block 1 (tH s54_11))
@[go_sem] def l54_13 (_ : Unit) : KL := [kA 42 (.bin .add (.t 27) (cI 1)),
  kB 27 (.mv (.t 42)) [1, 3, 8, 9, 25, 26, 27]]
@[go_sem] def s54_14 (_ : Unit) : IR := (sQ [(kT l54_8), (.cond (.t 28) .skip (.exit 0)), (tH s54_12), (kT l54_13)])
@[go_sem] def s54_15 (_ : Unit) : IR := (.loop (tH s54_14))
@[go_sem] def s54_16 (_ : Unit) : IR := (.block 0 (tH s54_15))
@[go_sem] def s54_17 (_ : Unit) : IR := (sQ [(kT l54_7), (tH s54_16)])
@[go_sem] def l54_18 (_ : Unit) : KL := [kA 43 (.load (.t 3) 2 true),
  kA 44 (.mv (.t 9)),
  kA 45 (.call (n_impl_inRange) [(.t 43), (.t 44)]),
  kB 46 (.un .not (.t 45)) [9, 46]]
@[go_sem] def l54_19 (_ : Unit) : KL := [kA 6 (.mv (.c (.sl none 0 0 true 0))),
  kB 7 (.mv (.c (.bool false))) [6, 7]]
@[go_sem] def s54_20 (_ : Unit) : IR := (sQ [(kT l54_19), .ret])
@[go_sem] def s54_21 (_ : Unit) : IR := (sQ [(kT l54_18), (.cond (.t 46) (tH s54_20) .skip)])
@[go_sem] def l54_22 (_ : Unit) : KL := [kA 47 (.mv (.t 9)),
  kA 6 (.mv (.t 47)),
  kB 7 (.mv (.c (.bool true))) [6, 7]]
@[go_sem] def s54_23 (_ : Unit) : IR := (sQ [(kT l54_0), (kT l54_1), (tH s54_5), (kT l54_6), (tH s54_17), (tH s54_21), (kT l54_22), .ret])
theorem c54 : compFn Try.prog [(0, [], [oN, oN, oS [1, 2, 3]]), (1, [], [oN, oN, oN, oN, oS [1, 3, 16], oN, oS [1, 3, 8]]), (2, [], [oN, oN, oN, oN, oS [1, 3, 8, 21]]), (3, [], [oN, oS [6, 7]]), (4, [], [oN, oN, oS [1, 3, 8, 9]]), (5, [], [oN, oN, oN, oS [1, 3, 8, 9, 25, 26, 27]]), (6, [], [oS [1, 3, 8, 9, 25, 26, 27, 28]]), (7, [], [oN, oN, oN, oN, oS [1, 3, 8, 9, 10, 11, 25, 26, 27]]), (8, [], [oN, oN, oN, oN, oS [1, 3, 8, 9, 25, 26, 27, 32, 33, 35, 36], oN, oN, oN, oN, oS [1, 3, 8, 9, 25, 26, 27, 40, 41], oS [1, 3, 8, 9, 25, 26, 27]]), (9, [], [oN, oS [1, 3, 8, 9, 25, 26, 27]]), (10, [], [oN, oN, oN, oS [9, 46]]), (11, [], [oN, oS [6, 7]]), (12, [], [oN, oN, oS [6, 7]])] Try.f54 = some ⟨3, 48, [.t 6, .t 7], (tH s54_23)⟩ := by kernel_rfl
theorem v_impl_use (hl : vs.length = 3) (h : wpV Try.prog (tH s54_23) (postV [.t 6, .t 7] RV) (envV vs) M) : VCall Try.prog n_impl_use vs M RV :=
  vcall_of_wp (fun _ _ _ hl h => acall_of_wp mixed Try.func54 c54 (by kernel_rfl) hl h) hl h
@[go_sem] def l19_0 (_ : Unit) : KL := [kA 3 (.box (.t 0)),
  kA 6 (.mv (.c (.sl none 0 0 true 0))),
  kB 7 (.mv (.c (.bool false))) [1, 2, 3]]
@[go_sem] def l19_1 (_ : Unit) : KL := [kA 8 (.load (.t 3) 2 true),
  kA 9 (.mv (.t 1)),
  kA 10 (.call (n_impl_InRange) [(.t 8), (.t 9)]),
  kA 11 (.un .not (.t 10)),
  kB 12 (.mv (.t 11)) [1, 2, 3, 12],
  (⟨(some 13), .mv (.t 2), (some (12, false))⟩, none),
  (⟨(some 14), .faddr (.t 3) 1, (some (12, false))⟩, none),
  (⟨(some 15), .load (.t 14) 1 false, (some (12, false))⟩, none),
  (⟨(some 16), .len (.t 15), (some (12, false))⟩, none),
  (⟨(some 17), .bin .sub (.t 16) (cI 1), (some (12, false))⟩, (some [1, 2, 3, 12, 13, 17])),
  (⟨(some 18), .call (n_impl_in) [(.t 13), (cI 0), (.t 17)], (some (12, false))⟩, none),
  (⟨(some 19), .un .not (.t 18), (some (12, false))⟩, none),
  kB 20 (.pick (.t 12) (.c (.bool true)) (.t 19)) [1, 2, 3, 20]]
@[go_sem] def l19_2 (_ : Unit) : KL := [kA 6 (.mv (.c (.sl none 0 0 true 0))),
  kB 7 (.mv (.c (.bool false))) [6, 7]]
@[go_sem] def s19_3 (_ : Unit) : IR := (sQ [(kT l19_2), .ret])
@[go_sem] def s19_4 (_ : Unit) : IR := (sQ [(kT l19_1), (.cond (.t 20) (tH s19_3) .skip)])
@[go_sem] def l19_5 (_ : Unit) : KL := [kA 21 (.load (.t 3) 2 true),
  kA 22 (.mv (.t 1)),
  kA 23 (.mv (.t 2)),
  kA 24 (.call (n_impl_use) [(.t 21), (.t 22), (.t 23)]),
  kB 25 (.ext (.t 24) 0) [24, 25],
  kA 26 (.ext (.t 24) 1),
  kA 6 (.mv (.t 25)),
  kB 7 (.mv (.t 26)) [6, 7]]
@[go_sem] def s19_6 (_ : Unit) : IR := (sQ [(kT l19_0), (tH s19_4), (kT l19_5), .ret])
theorem c19 : compFn Try.prog [(0, [], [oN, oN, oS [1, 2, 3]]), (1, [], [oN, oN, oN, oN, oS [1, 2, 3, 12], oN, oN, oN, oN, oS [1, 2, 3, 12, 13, 17], oN, oN, oS [1, 2, 3, 20]]), (2, [], [oN, oS [6, 7]]), (3, [], [oN, oN, oN, oN, oS [24, 25], oN, oN, oS [6, 7]])] Try.f19 = some ⟨3, 27, [.t 6, .t 7], (tH s19_6)⟩ := by kernel_rfl
theorem v_impl_Use (hl : vs.length = 3) (h : wpV Try.prog (tH s19_6) (postV [.t 6, .t 7] RV) (envV vs) M) : VCall Try.prog n_impl_Use vs M RV :=
  vcall_of_wp (fun _ _ _ hl h => acall_of_wp mixed Try.func19 c19 (by kernel_rfl) hl h) hl h
@[go_sem] def l77_0 (_ : Unit) : KL := [kA 1 (.box (.t 0)),
  kB 2 (.mv (.c (.bool false))) [1]]
@[go_sem] def l77_1 (_ : Unit) : KL := [kA 3 (.faddr (.t 1) 0),
  kA 4 (.load (.t 3) 1 false),
  kA 5 (.call (n_spec_l1In) [(.t 4), (.c (.int .i64 (-9999))), (.c (.int .i64 9999))]),
  kA 6 (.mv (.t 5)),
  (⟨(some 7), .faddr (.t 1) 1, (some (6, true))⟩, (some [1, 6, 7])),
  (⟨(some 8), .load (.t 7) 1 false, (some (6, true))⟩, none),
  (⟨(some 9), .faddr (.t 1) 0, (some (6, true))⟩, none),
  (⟨(some 10), .load (.t 9) 1 false, (some (6, true))⟩, none),
  (⟨(some 11), .call (n_spec_l1In) [(.t 8), (.t 10), (.c (.int .i64 9999))], (some (6, true))⟩, none),
  kB 12 (.pick (.t 6) (.t 11) (.c (.bool false))) [1, 12],
  kA 13 (.mv (.t 12)),
  (⟨(some 14), .faddr (.t 1) 1, (some (13, true))⟩, none),
  (⟨(some 15), .load (.t 14) 1 false, (some (13, true))⟩, none),
  (⟨(some 16), .faddr (.t 1) 0, (some (13, true))⟩, none),
  (⟨(some 17), .load (.t 16) 1 false, (some (13, true))⟩, (some [1, 13, 15, 17])),
  (⟨(some 18), .bin .sub (.t 15) (.t 17), (some (13, true))⟩, none),
  (⟨(some 19), .bin .lss (.t 18) (.c (.int .i64 20)), (some (13, true))⟩, none),
  kA 20 (.pick (.t 13) (.t 19) (.c (.bool false))),
  kA 21 (.mv (.t 20)),
  (⟨(some 22), .faddr (.t 1) 2, (some (21, true))⟩, (some [1, 21, 22])),
  (⟨(some 23), .load (.t 22) 1 false, (some (21, true))⟩, none),
  (⟨(some 24), .faddr (.t 1) 0, (some (21, true))⟩, none),
  (⟨(some 25), .load (.t 24) 1 false, (some (21, true))⟩, none),
  (⟨(some 26), .faddr (.t 1) 1, (some (21, true))⟩, none),
  (⟨(some 27), .load (.t 26) 1 false, (some (21, true))⟩, (some [21, 23, 25, 27])),
  (⟨(some 28), .call (n_spec_l1In) [(.t 23), (.t 25), (.t 27)], (some (21, true))⟩, none),
  kA 29 (.pick (.t 21) (.t 28) (.c (.bool false))),
  kB 2 (.mv (.t 29)) [2]]
@[go_sem] def s77_2 (_ : Unit) : IR := (sQ [(kT l77_0), (kT l77_1), .ret])
theorem c77 : compFn Try.prog [(0, [], [oN, oS [1]]), (1, [], [oN, oN, oN, oN, oS [1, 6, 7], oN, oN, oN, oN, oS [1, 12], oN, oN, oN, oN, oS [1, 13, 15, 17], oN, oN, oN, oN, oS [1, 21, 22], oN, oN, oN, oN, oS [21, 23, 25, 27], oN, oN, oS [2]])] Try.f77 = some ⟨1, 30, [.t 2], (tH s77_2)⟩ := by kernel_rfl
theorem v_spec_l2Var (hl : vs.length = 1) (h : wpV Try.prog (tH s77_2) (postV [.t 2] RV) (envV vs) M) : VCall Try.prog n_spec_l2Var vs M RV :=
  vcall_of_wp (fun _ _ _ hl h => acall_of_wp mixed Try.func77 c77 (by kernel_rfl) hl h) hl h
@[go_sem] def l101_0 (_ : Unit) : KL := [kB 6 (.mv (.c (.bool false))) [0, 1, 2]]
@[go_sem] def l101_1 (_ : Unit) : KL := [kA 8 (.mv (.t 0)),
  kA 9 (.mv (.t 1)),
  kA 10 (.call (n_spec_KindsOf) [(.t 8), (.t 9)]),
  kB 7 (.mv (.t 10)) [2, 7]]
@[go_sem] def l101_2 (_ : Unit) : KL := [kA 11 (.mv (.t 7)),
  kA 12 (.len (.t 11)),
  kA 13 (.bin .gtr (.t 12) (cI 0)),
  kA 14 (.mv (.t 13)),
  (⟨(some 15), .mv (.t 7), (some (14, true))⟩, (some [2, 7, 14, 15])),
  (⟨(some 16), .mv (.t 7), (some (14, true))⟩, none),
  (⟨(some 17), .len (.t 16), (some (14, true))⟩, none),
  (⟨(some 18), .bin .sub (.t 17) (cI 1), (some (14, true))⟩, none),
  (⟨(some 19), .iaddr (.t 15) (.t 18) 1, (some (14, true))⟩, none),
  (⟨(some 20), .load (.t 19) 1 false, (some (14, true))⟩, (some [2, 14, 20])),
  (⟨(some 21), .mv (.t 2), (some (14, true))⟩, none),
  (⟨(some 22), .bin .eql (.t 20) (.t 21), (some (14, true))⟩, none),
  kA 23 (.pick (.t 14) (.t 22) (.c (.bool false))),
  kB 6 (.mv (.t 23)) [6]]
@[go_sem] def s101_3 (_ : Unit) : IR := (sQ [(kT l101_0), (kT l101_1), (kT l101_2), .ret])
theorem c101 : compFn Try.prog [(0, [], [oS [0, 1, 2]]), (1, [], [oN, oN, oN, oS [2, 7]]), (2, [], [oN, oN, oN, oN, oS [2, 7, 14, 15], oN, oN, oN, oN, oS [2, 14, 20], oN, oN, oN, oS [6]])] Try.f101 = some ⟨3, 24, [.t 6], (tH s101_3)⟩ := by kernel_rfl
theorem v_spec_l2Is (hl : vs.length = 3) (h : wpV Try.prog (tH s101_3) (postV [.t 6] RV) (envV vs) M) : VCall Try.prog n_spec_l2Is vs M RV :=
  vcall_of_wp (fun _ _ _ hl h => acall_of_wp mixed Try.func101 c101 (by kernel_rfl) hl h) hl h
@[go_sem] def l78_0 (_ : Unit) : KL := [kA 2 (.box (.t 0)),
  kB 4 (.mv (.c (.bool false))) [1, 2]]
@[go_sem] def l78_1 (_ : Unit) : KL := [kA 6 (.faddr (.t 2) 0),
  kA 7 (.load (.t 6) 1 false),
  kA 8 (.mv (.t 1)),
  kA 9 (.call (n_spec_l2Is) [(.t 7), (.t 8), (.c (.int .i64 2))]),
  kB 10 (.un .not (.t 9)) [1, 2, 10],
  kA 11 (.mv (.t 10)),
  (⟨(some 12), .faddr (.t 2) 1, (some (11, false))⟩, none),
  (⟨(some 13), .load (.t 12) 1 false, (some (11, false))⟩, none),
  (⟨(some 14), .len (.t 13), (some (11, false))⟩, none),
  (⟨(some 15), .faddr (.t 2) 2, (some (11, false))⟩, (some [1, 2, 11, 14, 15])),
  (⟨(some 16), .load (.t 15) 1 false, (some (11, false))⟩, none),
  (⟨(some 17), .len (.t 16), (some (11, false))⟩, none),
  (⟨(some 18), .bin .neq (.t 14) (.t 17), (some (11, false))⟩, none),
  kA 19 (.pick (.t 11) (.c (.bool true)) (.t 18)),
  kB 20 (.mv (.t 19)) [1, 2, 20],
  (⟨(some 21), .faddr (.t 2) 1, (some (20, false))⟩, none),
  (⟨(some 22), .load (.t 21) 1 false, (some (20, false))⟩, none),
  (⟨(some 23), .len (.t 22), (some (20, false))⟩, none),
  (⟨(some 24), .mv (.t 1), (some (20, false))⟩, none),
  (⟨(some 25), .bin .gtr (.t 23) (.t 24), (some (20, false))⟩, (some [1, 2, 20, 25])),
  kB 26 (.pick (.t 20) (.c (.bool true)) (.t 25)) [1, 2, 26]]
@[go_sem] def l78_2 (_ : Unit) : KL := [kB 4 (.mv (.c (.bool false))) [4]]
@[go_sem] def s78_3 (_ : Unit) : IR := (sQ [(kT l78_2), .ret])
@[go_sem] def s78_4 (_ : Unit) : IR := (sQ [(kT l78_1), (.cond (.t 26) (tH s78_3) .skip)])
@[go_sem] def l78_5 (_ : Unit) : KL := [kB 5 (.mv (cI 0)) [1, 2, 5]]
@[go_sem] def l78_6 (_ : Unit) : KL := [kA 27 (.mv (.t 5)),
  kA 28 (.faddr (.t 2) 1),
  kA 29 (.load (.t 28) 1 false),
  kA 30 (.len (.t 29)),
  kB 31 (.bin .lss (.t 27) (.t 30)) [1, 2, 5, 31]]
@[go_sem] def s78_7 (_ : Unit) : IR := (sQ [(kT l78_6), (.cond (.t 31) .skip (.exit 0))])
@[go_sem] def l78_8 : Nat → GOp
  | 0 => ⟨(some 34), .faddr (.t 2) 1, none⟩
  | 1 => ⟨(some 35), .load (.t 34) 1 false, none⟩
  | 2 => ⟨(some 36), .mv (.t 5), none⟩
  | 3 => ⟨(some 37), .iaddr (.t 35) (.t 36) 1, none⟩
  | 4 => ⟨(some 38), .load (.t 37) 1 false, none⟩
  | 5 => ⟨(some 39), .mv (.t 1), none⟩
  | 6 => ⟨(some 40), .bin .sub (.t 39) (cI 1), none⟩
  | 7 => ⟨(some 41), .call (n_spec_l1In) [(.t 38), (cI 0), (.t 40)], none⟩
  | 8 => ⟨(some 42), .un .not (.t 41), none⟩
  | 9 => ⟨(some 43), .mv (.t 42), none⟩
  | 10 => ⟨(some 44), .mv (.t 5), (some (43, false))⟩
  | 11 => ⟨(some 45), .bin .gtr (.t 44) (cI 0), (some (43, false))⟩
  | 12 => ⟨(some 46), .mv (.t 45), (some (43, false))⟩
  | 13 => ⟨(some 47), .faddr (.t 2) 1, (some (46, true))⟩
  | 14 => ⟨(some 48), .load (.t 47) 1 false, (some (46, true))⟩
  | 15 => ⟨(some 49), .mv (.t 5), (some (46, true))⟩
  | 16 => ⟨(some 50), .iaddr (.t 48) (.t 49) 1, (some (46, true))⟩
  | 17 => ⟨(some 51), .load (.t 50) 1 false, (some (46, true))⟩
  | 18 => ⟨(some 52), .faddr (.t 2) 1, (some (46, true))⟩
  | 19 => ⟨(some 53), .load (.t 52) 1 false, (some (46, true))⟩
  | 20 => ⟨(some 54), .mv (.t 5), (some (46, true))⟩
  | 21 => ⟨(some 55), .bin .sub (.t 54) (cI 1), (some (46, true))⟩
  | 22 => ⟨(some 56), .iaddr (.t 53) (.t 55) 1, (some (46, true))⟩
  | 23 => ⟨(some 57), .load (.t 56) 1 false, (some (46, true))⟩
  | 24 => ⟨(some 58), .bin .leq (.t 51) (.t 57), (some (46, true))⟩
  | 25 => ⟨(some 59), .pick (.t 46) (.t 58) (.c (.bool false)), (some (43, false))⟩
  | 26 => ⟨(some 60), .pick (.t 43) (.c (.bool true)) (.t 59), none⟩
  | 27 => ⟨(some 61), .mv (.t 60), none⟩
  | 28 => ⟨(some 62), .faddr (.t 2) 2, (some (61, false))⟩
  | 29 => ⟨(some 63), .load (.t 62) 1 false, (some (61, false))⟩
  | 30 => ⟨(some 64), .mv (.t 5), (some (61, false))⟩
  | 31 => ⟨(some 65), .iaddr (.t 63) (.t 64) 1, (some (61, false))⟩
  | 32 => ⟨(some 66), .load (.t 65) 1 false, (some (61, false))⟩
  | 33 => ⟨(some 67), .mv (.t 1), (some (61, false))⟩
  | 34 => ⟨(some 68), .call (n_spec_l2Is) [(.t 66), (.t 67), (cI 1)], (some (61, false))⟩
  | 35 => ⟨(some 69), .un .not (.t 68), (some (61, false))⟩
  | 36 => ⟨(some 70), .pick (.t 61) (.c (.bool true)) (.t 69), none⟩
  | _ => ⟨none, .mkmap, none⟩
@[go_sem] def l78_9 (_ : Unit) : KL := [kB 4 (.mv (.c (.bool false))) [4]]
@[go_sem] def s78_10 (_ : Unit) : IR := (sQ [(kT l78_9), .ret])
@[go_sem] def s78_11 (_ : Unit) : IR := (sQ [(.kd (oF l78_8 37) [(0, []), (1, []), (2, []), (3, []), (4, []), (5, []), (6, []), (7, []), (8, []), (9, []), (10, []), (11, []), (12, []), (13, []), (14, []), (15, []), (16, []), (17, []), (18, []), (19, []), (20, []), (21, []), (22, []), (23, []), (24, []), (25, []), (26, []), (27, []), (28, []), (29, []), (30, []), (31, []), (32, []), (33, []), (34, []), (35, []), (36, [])] [1, 2, 5, 70]), (.cond (.t 70) (tH s78_10) .skip)])
@[go_sem] def s78_12 (_ : Unit) : IR := (.block 1 (tH s78_11))
@[go_sem] def l78_13 (_ : Unit) : KL := [kA 32 (.mv (.t 5)),
  kA 33 (.bin .add (.t 32) (cI 1)),
  kB 5 (.mv (.t 33)) [1, 2, 5]]
@[go_sem] def s78_14 (_ : Unit) : IR := (sQ [(tH s78_7), (tH s78_12), (kT l78_13)])
@[go_sem] def s78_15 (_ : Unit) : IR := (.loop (tH s78_14))
@[go_sem] def s78_16 (_ : Unit) : IR := (.block 0 (tH s78_15))
@[go_sem] def s78_17 (_ : Unit) : IR := (sQ [(kT l78_5), (tH s78_16)])
@[go_sem] def l78_18 (_ : Unit) : KL := [kB 4 (.mv (.c (.bool true))) [4]]
@[go_sem] def s78_19 (_ : Unit) : IR := (sQ [(kT l78_0), (tH s78_4), (tH s78_17), (kT l78_18), .ret])
theorem c78 : compFn Try.prog [(0, [], [oN, oS [1, 2]]), (1, [], [oN, oN, oN, oN, oS [1, 2, 10], oN, oN, oN, oN, oS [1, 2, 11, 14, 15], oN, oN, oN, oN, oS [1, 2, 20], oN, oN, oN, oN, oS [1, 2, 20, 25], oS [1, 2, 26]]), (2, [], [oS [4]]), (3, [], [oS [1, 2, 5]]), (4, [], [oN, oN, oN, oN, oS [1, 2, 5, 31]]), (6, [(0, []), (1, []), (2, []), (3, []), (4, []), (5, []), (6, []), (7, []), (8, []), (9, []), (10, []), (11, []), (12, []), (13, []), (14, []), (15, []), (16, []), (17, []), (18, []), (19, []), (20, []), (21, []), (22, []), (23, []), (24, []), (25, []), (26, []), (27, []), (28, []), (29, []), (30, []), (31, []), (32, []), (33, []), (34, []), (35, []), (36, [])], [oS [1, 2, 5, 70]]), (7, [], [oS [4]]), (5, [], [oN, oN, oS [1, 2, 5]]), (8, [], [oS [4]])] Try.f78 = some ⟨2, 71, [.t 4], (tH s78_19)⟩ := by kernel_rfl
theorem v_spec_l2Rule (hl : vs.length = 2) (h : wpV Try.prog (tH s78_19) (postV [.t 4] RV) (envV vs) M) : VCall Try.prog n_spec_l2Rule vs M RV :=
  vcall_of_wp (fun _ _ _ hl h => acall_of_wp mixed Try.func78 c78 (by kernel_rfl) hl h) hl h
@[go_sem] def l28_0 (_ : Unit) : KL := [kA 1 (.box (.t 0)),
  kB 2 (.mv (.c (.bool false))) [1]]
@[go_sem] def l28_1 (_ : Unit) : KL := [kA 6 (.faddr (.t 1) 0),
  kA 7 (.load (.t 6) 1 false),
  kA 8 (.len (.t 7)),
  kA 9 (.call (n_spec_l1In) [(.t 8), (cI 1), (.c (.int .i64 5))]),
  kB 10 (.un .not (.t 9)) [1, 10],
  kA 11 (.mv (.t 10)),
  (⟨(some 12), .faddr (.t 1) 1, (some (11, false))⟩, none),
  (⟨(some 13), .load (.t 12) 1 false, (some (11, false))⟩, none),
  (⟨(some 14), .len (.t 13), (some (11, false))⟩, none),
  (⟨(some 15), .bin .gtr (.t 14) (.c (.int .i64 8)), (some (11, false))⟩, (some [1, 11, 15])),
  kB 16 (.pick (.t 11) (.c (.bool true)) (.t 15)) [1, 16]]
@[go_sem] def l28_2 (_ : Unit) : KL := [kB 2 (.mv (.c (.bool false))) [2]]
@[go_sem] def s28_3 (_ : Unit) : IR := (sQ [(kT l28_2), .ret])
@[go_sem] def s28_4 (_ : Unit) : IR := (sQ [(kT l28_1), (.cond (.t 16) (tH s28_3) .skip)])
@[go_sem] def l28_5 (_ : Unit) : KL := [kB 3 (.mv (cI 1)) [1, 3]]
@[go_sem] def l28_6 (_ : Unit) : KL := [kB 4 (.mv (cI 0)) [1, 3, 4]]
@[go_sem] def l28_7 (_ : Unit) : KL := [kA 17 (.mv (.t 4)),
  kA 18 (.faddr (.t 1) 0),
  kA 19 (.load (.t 18) 1 false),
  kA 20 (.len (.t 19)),
  kB 21 (.bin .lss (.t 17) (.t 20)) [1, 3, 4, 21]]
@[go_sem] def s28_8 (_ : Unit) : IR := (sQ [(kT l28_7), (.cond (.t 21) .skip (.exit 0))])
@[go_sem] def l28_9 (_ : Unit) : KL := [kA 24 (.faddr (.t 1) 0),
  kA 25 (.load (.t 24) 1 false),
  kA 26 (.mv (.t 4)),
  kA 27 (.iaddr (.t 25) (.t 26) 3),
  kB 28 (.load (.t 27) 3 true) [1, 3, 4, 28],
  kA 29 (.call (n_spec_l2Var) [(.t 28)]),
  kB 30 (.un .not (.t 29)) [1, 3, 4, 30]]
@[go_sem] def l28_10 (_ : Unit) : KL := [kB 2 (.mv (.c (.bool false))) [2]]
@[go_sem] def s28_11 (_ : Unit) : IR := (sQ [(kT l28_10), .ret])
@[go_sem] def s28_12 (_ : Unit) : IR := (sQ [(kT l28_9), (.cond (.t 30) (tH s28_11) .skip)])
@[go_sem] def l28_13 : Nat → GOp
  | 0 => ⟨(some 31), .mv (.t 3), none⟩
  | 1 => ⟨(some 32), .faddr (.t 1) 0, none⟩
  | 2 => ⟨(some 33), .load (.t 32) 1 false, none⟩
  | 3 => ⟨(some 34), .mv (.t 4), none⟩
  | 4 => ⟨(some 35), .iaddr (.t 33) (.t 34) 3, none⟩
  | 5 => ⟨(some 36), .faddr (.t 35) 1, none⟩
  | 6 => ⟨(some 37), .load (.t 36) 1 false, none⟩
  | 7 => ⟨(some 38), .faddr (.t 1) 0, none⟩
  | 8 => ⟨(some 39), .load (.t 38) 1 false, none⟩
  | 9 => ⟨(some 40), .mv (.t 4), none⟩
  | 10 => ⟨(some 41), .iaddr (.t 39) (.t 40) 3, none⟩
  | 11 => ⟨(some 42), .faddr (.t 41) 0, none⟩
  | 12 => ⟨(some 43), .load (.t 42) 1 false, none⟩
  | 13 => ⟨(some 44), .bin .sub (.t 37) (.t 43), none⟩
  | 14 => ⟨(some 45), .bin .add (.t 44) (cI 1), none⟩
  | 15 => ⟨(some 46), .bin .mul (.t 31) (.t 45), none⟩
  | 16 => ⟨(some 3), .mv (.t 46), none⟩
  | _ => ⟨none, .mkmap, none⟩
@[go_sem] def s28_14 (_ : Unit) : IR := (sQ [(tH s28_12), (.kd (oF l28_13 17) [(0, []), (1, []), (2, []), (3, []), (4, []), (5, []), (6, []), (7, []), (8, []), (9, []), (10, []), (11, []), (12, []), (13, []), (14, []), (15, []), (16, [])] [1, 3, 4])])
@[go_sem] def s28_15 (_ : Unit) : IR := (.block 1 (tH s28_14))
@[go_sem] def l28_16 (_ : Unit) : KL := [kA 22 (.mv (.t 4)),
  kA 23 (.bin .add (.t 22) (cI 1)),
  kB 4 (.mv (.t 23)) [1, 3, 4]]
@[go_sem] def s28_17 (_ : Unit) : IR := (sQ [(tH s28_8), (tH s28_15), (kT l28_16)])
@[go_sem] def s28_18 (_ : Unit) : IR := (.loop (tH s28_17))
@[go_sem] def s28_19 (_ : Unit) : IR := (.block 0 (tH s28_18))
@[go_sem] def s28_20 (_ : Unit) : IR := (sQ [(kT l28_6), (tH s28_19)])
@[go_sem] def l28_21 (_ : Unit) : KL := [kB 5 (.mv (cI 0)) [1, 3, 5]]
@[go_sem] def l28_22 (_ : Unit) : KL := [kA 47 (.mv (.t 5)),
  kA 48 (.faddr (.t 1) 1),
  kA 49 (.load (.t 48) 1 false),
  kA 50 (.len (.t 49)),
  kB 51 (.bin .lss (.t 47) (.t 50)) [1, 3, 5, 51]]
@[go_sem] def s28_23 (_ : Unit) : IR := (sQ [(kT l28_22), (.cond (.t 51) .skip (.exit 2))])
@[go_sem] def l28_24 : Nat → GOp
  | 0 => ⟨(some 54), .faddr (.t 1) 1, none⟩
  | 1 => ⟨(some 55), .load (.t 54) 1 false, none⟩
  | 2 => ⟨(some 56), .mv (.t 5), none⟩
  | 3 => ⟨(some 57), .iaddr (.t 55) (.t 56) 3, none⟩
  | 4 => ⟨(some 58), .load (.t 57) 3 true, none⟩
  | 5 => ⟨(some 59), .faddr (.t 1) 0, none⟩
  | 6 => ⟨(some 60), .load (.t 59) 1 false, none⟩
  | 7 => ⟨(some 61), .len (.t 60), none⟩
  | 8 => ⟨(some 62), .call (n_spec_l2Rule) [(.t 58), (.t 61)], none⟩
  | 9 => ⟨(some 63), .un .not (.t 62), none⟩
  | _ => ⟨none, .mkmap, none⟩
@[go_sem] def l28_25 (_ : Unit) : KL := [kB 2 (.mv (.c (.bool false))) [2]]
@[go_sem] def s28_26 (_ : Unit) : IR := (sQ [(kT l28_25), .ret])
@[go_sem] def s28_27 (_ : Unit) : IR := (sQ [(.kd (oF l28_24 10) [(0, []), (1, []), (2, []), (3, []), (4, []), (5, []), (6, []), (7, []), (8, []), (9, [])] [1, 3, 5, 63]), (.cond (.t 63) (tH s28_26) .skip)])
@[go_sem] def s28_28 (_ : Unit) : IR := (.block 3 (tH s28_27))
@[go_sem] def l28_29 (_ : Unit) : KL := [kA 52 (.mv (.t 5)),
  kA 53 (.bin .add (.t 52) (cI 1)),
  kB 5 (.mv (.t 53)) [1, 3, 5]]
@[go_sem] def s28_30 (_ : Unit) : IR := (sQ [(tH s28_23), (tH s28_28), (kT l28_29)])
@[go_sem] def s28_31 (_ : Unit) : IR := (.loop (tH s28_30))
@[go_sem] def s28_32 (_ : Unit) : IR := (.block 2 (tH s28_31))
@[go_sem] def s28_33 (_ : Unit) : IR := (sQ [(kT l28_21), (tH s28_32)])
@[go_sem] def l28_34 (_ : Unit) : KL := [kA 64 (.mv (.t 3)),
  kA 65 (.bin .leq (.t 64) (.c (.int .i64 400))),
  kB 2 (.mv (.t 65)) [2]]
@[go_sem] def s28_35 (_ : Unit) : IR := (sQ [(kT l28_0), (tH s28_4), (kT l28_5), (tH s28_20), (tH s28_33), (kT l28_34), .ret])
theorem c28 : compFn Try.prog [(0, [], [oN, oS [1]]), (1, [], [oN, oN, oN, oN, oS [1, 10], oN, oN, oN, oN, oS [1, 11, 15], oS [1, 16]]), (2, [], [oS [2]]), (3, [], [oS [1, 3]]), (4, [], [oS [1, 3, 4]]), (5, [], [oN, oN, oN, oN, oS [1, 3, 4, 21]]), (7, [], [oN, oN, oN, oN, oS [1, 3, 4, 28], oN, oS [1, 3, 4, 30]]), (8, [], [oS [2]]), (9, [(0, []), (1, []), (2, []), (3, []), (4, []), (5, []), (6, []), (7, []), (8, []), (9, []), (10, []), (11, []), (12, []), (13, []), (14, []), (15, []), (16, [])], [oS [1, 3, 4]]), (6, [], [oN, oN, oS [1, 3, 4]]), (10, [], [oS [1, 3, 5]]), (11, [], [oN, oN, oN, oN, oS [1, 3, 5, 51]]), (13, [(0, []), (1, []), (2, []), (3, []), (4, []), (5, []), (6, []), (7, []), (8, []), (9, [])], [oS [1, 3, 5, 63]]), (14, [], [oS [2]]), (12, [], [oN, oN, oS [1, 3, 5]]), (15, [], [oN, oN, oS [2]])] Try.f28 = some ⟨1, 66, [.t 2], (tH s28_35)⟩ := by kernel_rfl
theorem v_spec_SystemValid (hl : vs.length = 1) (h : wpV Try.prog (tH s28_35) (postV [.t 2] RV) (envV vs) M) : VCall Try.prog n_spec_SystemValid vs M RV :=
  vcall_of_wp (fun _ _ _ hl h => acall_of_wp mixed Try.func28 c28 (by kernel_rfl) hl h) hl h
@[go_sem] def l64_0 (_ : Unit) : KL := [kA 2 (.box (.t 0)),
  kB 4 (.mv (.c (.bool false))) [1, 2]]
@[go_sem] def l64_1 (_ : Unit) : KL := [kA 6 (.mv (.t 1)),
  kA 7 (.len (.t 6)),
  kA 8 (.faddr (.t 2) 0),
  kA 9 (.load (.t 8) 1 false),
  kB 10 (.len (.t 9)) [1, 2, 7, 10],
  kB 11 (.bin .neq (.t 7) (.t 10)) [1, 2, 11]]
@[go_sem] def l64_2 (_ : Unit) : KL := [kB 4 (.mv (.c (.bool false))) [4]]
@[go_sem] def s64_3 (_ : Unit) : IR := (sQ [(kT l64_2), .ret])
@[go_sem] def s64_4 (_ : Unit) : IR := (sQ [(kT l64_1), (.cond (.t 11) (tH s64_3) .skip)])
@[go_sem] def l64_5 (_ : Unit) : KL := [kB 5 (.mv (cI 0)) [1, 2, 5]]
@[go_sem] def l64_6 (_ : Unit) : KL := [kA 12 (.mv (.t 5)),
  kA 13 (.mv (.t 1)),
  kA 14 (.len (.t 13)),
  kB 15 (.bin .lss (.t 12) (.t 14)) [1, 2, 5, 15]]
@[go_sem] def s64_7 (_ : Unit) : IR := (sQ [(kT l64_6), (.cond (.t 15) .skip (.exit 0))])
@[go_sem] def l64_8 : Nat → GOp
  | 0 => ⟨(some 18), .mv (.t 1), none⟩
  | 1 => ⟨(some 19), .mv (.t 5), none⟩
  | 2 => ⟨(some 20), .iaddr (.t 18) (.t 19) 1, none⟩
  | 3 => ⟨(some 21), .load (.t 20) 1 false, none⟩
  | 4 => ⟨(some 22), .faddr (.t 2) 0, none⟩
  | 5 => ⟨(some 23), .load (.t 22) 1 false, none⟩
  | 6 => ⟨(some 24), .mv (.t 5), none⟩
  | 7 => ⟨(some 25), .iaddr (.t 23) (.t 24) 3, none⟩
  | 8 => ⟨(some 26), .faddr (.t 25) 0, none⟩
  | 9 => ⟨(some 27), .load (.t 26) 1 false, none⟩
  | 10 => ⟨(some 28), .faddr (.t 2) 0, none⟩
  | 11 => ⟨(some 29), .load (.t 28) 1 false, none⟩
  | 12 => ⟨(some 30), .mv (.t 5), none⟩
  | 13 => ⟨(some 31), .iaddr (.t 29) (.t 30) 3, none⟩
  | 14 => ⟨(some 32), .faddr (.t 31) 1, none⟩
  | 15 => ⟨(some 33), .load (.t 32) 1 false, none⟩
  | 16 => ⟨(some 34), .call (n_spec_l1In) [(.t 21), (.t 27), (.t 33)], none⟩
  | 17 => ⟨(some 35), .un .not (.t 34), none⟩
  | _ => ⟨none, .mkmap, none⟩
@[go_sem] def l64_9 (_ : Unit) : KL := [kB 4 (.mv (.c (.bool false))) [4]]
@[go_sem] def s64_10 (_ : Unit) : IR := (sQ [(kT l64_9), .ret])
@[go_sem] def s64_11 (_ : Unit) : IR := (sQ [(.kd (oF l64_8 18) [(0, []), (1, []), (2, []), (3, []), (4, []), (5, []), (6, []), (7, []), (8, []), (9, []), (10, []), (11, []), (12, []), (13, []), (14, []), (15, []), (16, []), (17, [])] [1, 2, 5, 35]), (.cond (.t 35) (tH s64_10) .skip)])
@[go_sem] def s64_12 (_ : Unit) : IR := (.block 1 (tH s64_11))
@[go_sem] def l64_13 (_ : Unit) : KL := [kA 16 (.mv (.t 5)),
  kA 17 (.bin .add (.t 16) (cI 1)),
  kB 5 (.mv (.t 17)) [1, 2, 5]]
@[go_sem] def s64_14 (_ : Unit) : IR := (sQ [(tH s64_7), (tH s64_12), (kT l64_13)])
@[go_sem] def s64_15 (_ : Unit) : IR := (.loop (tH s64_14))
@[go_sem] def s64_16 (_ : Unit) : IR := (.block 0 (tH s64_15))
@[go_sem] def s64_17 (_ : Unit) : IR := (sQ [(kT l64_5), (tH s64_16)])
@[go_sem] def l64_18 (_ : Unit) : KL := [kB 4 (.mv (.c (.bool true))) [4]]
@[go_sem] def s64_19 (_ : Unit) : IR := (sQ [(kT l64_0), (tH s64_4), (tH s64_17), (kT l64_18), .ret])
theorem c64 : compFn Try.prog [(0, [], [oN, oS [1, 2]]), (1, [], [oN, oN, oN, oN, oS [1, 2, 7, 10], oS [1, 2, 11]]), (2, [], [oS [4]]), (3, [], [oS [1, 2, 5]]), (4, [], [oN, oN, oN, oS [1, 2, 5, 15]]), (6, [(0, []), (1, []), (2, []), (3, []), (4, []), (5, []), (6, []), (7, []), (8, []), (9, []), (10, []), (11, []), (12, []), (13, []), (14, []), (15, []), (16, []), (17, [])], [oS [1, 2, 5, 35]]), (7, [], [oS [4]]), (5, [], [oN, oN, oS [1, 2, 5]]), (8, [], [oS [4]])] Try.f64 = some ⟨2, 36, [.t 4], (tH s64_19)⟩ := by kernel_rfl
theorem v_spec_l2In (hl : vs.length = 2) (h : wpV Try.prog (tH s64_19) (postV [.t 4] RV) (envV vs) M) : VCall Try.prog n_spec_l2In vs M RV :=
  vcall_of_wp (fun _ _ _ hl h => acall_of_wp mixed Try.func64 c64 (by kernel_rfl) hl h) hl h
@[go_sem] def l55_0 (_ : Unit) : KL := [kA 2 (.box (.t 0)),
  kB 4 (.mv (.c (.bool false))) [1, 2]]
@[go_sem] def l55_1 (_ : Unit) : KL := [kA 5 (.load (.t 2) 2 true),
  kA 6 (.call (n_spec_SystemValid) [(.t 5)]),
  kA 7 (.mv (.t 6)),
  (⟨(some 8), .load (.t 2) 2 true, (some (7, true))⟩, none),
  (⟨(some 9), .mv (.t 1), (some (7, true))⟩, (some [7, 8, 9])),
  (⟨(some 10), .call (n_spec_l2In) [(.t 8), (.t 9)], (some (7, true))⟩, none),
  kA 11 (.pick (.t 7) (.t 10) (.c (.bool false))),
  kB 4 (.mv (.t 11)) [4]]
@[go_sem] def s55_2 (_ : Unit) : IR := (sQ [(kT l55_0), (kT l55_1), .ret])
theorem c55 : compFn Try.prog [(0, [], [oN, oS [1, 2]]), (1, [], [oN, oN, oN, oN, oS [7, 8, 9], oN, oN, oS [4]])] Try.f55 = some ⟨2, 12, [.t 4], (tH s55_2)⟩ := by kernel_rfl
theorem v_spec_InRange (hl : vs.length = 2) (h : wpV Try.prog (tH s55_2) (postV [.t 4] RV) (envV vs) M) : VCall Try.prog n_spec_InRange vs M RV :=
  vcall_of_wp (fun _ _ _ hl h => acall_of_wp mixed Try.func55 c55 (by kernel_rfl) hl h) hl h
@[go_sem] def l143_0 (_ : Unit) : KL := [kB 2 (.mv (cI 0)) [0]]
@[go_sem] def l143_1 (_ : Unit) : KL := [kA 3 (.mv (.t 0)),
  kB 4 (.bin .gtr (.t 3) (.c (.int .i64 9999))) [0, 4]]
@[go_sem] def l143_2 (_ : Unit) : KL := [kB 2 (.mv (.c (.int .i64 9999))) [2]]
@[go_sem] def s143_3 (_ : Unit) : IR := (sQ [(kT l143_2), .ret])
@[go_sem] def s143_4 (_ : Unit) : IR := (sQ [(kT l143_1), (.cond (.t 4) (tH s143_3) .skip)])
@[go_sem] def l143_5 (_ : Unit) : KL := [kA 5 (.mv (.t 0)),
  kB 6 (.bin .lss (.t 5) (.c (.int .i64 (-9999)))) [0, 6]]
@[go_sem] def l143_6 (_ : Unit) : KL := [kB 2 (.mv (.c (.int .i64 (-9999)))) [2]]
@[go_sem] def s143_7 (_ : Unit) : IR := (sQ [(kT l143_6), .ret])
@[go_sem] def s143_8 (_ : Unit) : IR := (sQ [(kT l143_5), (.cond (.t 6) (tH s143_7) .skip)])
@[go_sem] def l143_9 (_ : Unit) : KL := [kA 7 (.mv (.t 0)),
  kB 2 (.mv (.t 7)) [2]]
@[go_sem] def s143_10 (_ : Unit) : IR := (sQ [(kT l143_0), (tH s143_4), (tH s143_8), (kT l143_9), .ret])
theorem c143 : compFn Try.prog [(0, [], [oS [0]]), (1, [], [oN, oS [0, 4]]), (2, [], [oS [2]]), (3, [], [oN, oS [0, 6]]), (4, [], [oS [2]]), (5, [], [oN, oS [2]])] Try.f143 = some ⟨1, 8, [.t 2], (tH s143_10)⟩ := by kernel_rfl
theorem v_spec_l1Held (hl : vs.length = 1) (h : wpV Try.prog (tH s143_10) (postV [.t 2] RV) (envV vs) M) : VCall Try.prog n_spec_l1Held vs M RV :=
  vcall_of_wp (fun _ _ _ hl h => acall_of_wp mixed Try.func143 c143 (by kernel_rfl) hl h) hl h
@[go_sem] def l144_0 (_ : Unit) : KL := [kB 2 (.mv (cI 0)) [0]]
@[go_sem] def l144_1 (_ : Unit) : KL := [kB 3 (.mv (.t 0)) [3]]
@[go_sem] def l144_2 (_ : Unit) : KL := [kB 2 (.mv (cI 1)) [2]]
@[go_sem] def s144_3 (_ : Unit) : IR := (sQ [(kT l144_2), .ret])
@[go_sem] def s144_4 (_ : Unit) : IR := (sQ [(kT l144_1), (.cond (.t 3) (tH s144_3) .skip)])
@[go_sem] def l144_5 (_ : Unit) : KL := [kB 2 (.mv (cI 0)) [2]]
@[go_sem] def s144_6 (_ : Unit) : IR := (sQ [(kT l144_0), (tH s144_4), (kT l144_5), .ret])
theorem c144 : compFn Try.prog [(0, [], [oS [0]]), (1, [], [oS [3]]), (2, [], [oS [2]]), (3, [], [oS [2]])] Try.f144 = some ⟨1, 4, [.t 2], (tH s144_6)⟩ := by kernel_rfl
theorem v_spec_l1Truth (hl : vs.length = 1) (h : wpV Try.prog (tH s144_6) (postV [.t 2] RV) (envV vs) M) : VCall Try.prog n_spec_l1Truth vs M RV :=
  vcall_of_wp (fun _ _ _ hl h => acall_of_wp mixed Try.func144 c144 (by kernel_rfl) hl h) hl h
@[go_sem] def l123_0 (_ : Unit) : KL := [kB 6 (.mv (cI 0)) [0, 1, 2]]
@[go_sem] def l123_1 (_ : Unit) : KL := [kA 7 (.mv (.t 0)),
  kB 8 (.bin .eql (.t 7) (.c (.int .i64 2))) [0, 1, 2, 8]]
@[go_sem] def l123_2 (_ : Unit) : KL := [kA 9 (.mv (.t 1)),
  kA 10 (.mv (.t 2)),
  kA 11 (.bin .add (.t 9) (.t 10)),
  kA 12 (.call (n_spec_l1Held) [(.t 11)]),
  kB 6 (.mv (.t 12)) [6]]
@[go_sem] def s123_3 (_ : Unit) : IR := (sQ [(kT l123_2), .ret])
@[go_sem] def s123_4 (_ : Unit) : IR := (sQ [(kT l123_1), (.cond (.t 8) (tH s123_3) .skip)])
@[go_sem] def l123_5 (_ : Unit) : KL := [kA 13 (.mv (.t 0)),
  kB 14 (.bin .eql (.t 13) (.c (.int .i64 3))) [0, 1, 2, 14]]
@[go_sem] def l123_6 (_ : Unit) : KL := [kA 15 (.mv (.t 1)),
  kA 16 (.mv (.t 2)),
  kA 17 (.bin .sub (.t 15) (.t 16)),
  kA 18 (.call (n_spec_l1Held) [(.t 17)]),
  kB 6 (.mv (.t 18)) [6]]
@[go_sem] def s123_7 (_ : Unit) : IR := (sQ [(kT l123_6), .ret])
@[go_sem] def s123_8 (_ : Unit) : IR := (sQ [(kT l123_5), (.cond (.t 14) (tH s123_7) .skip)])
@[go_sem] def l123_9 (_ : Unit) : KL := [kA 19 (.mv (.t 0)),
  kB 20 (.bin .eql (.t 19) (.c (.int .i64 4))) [0, 1, 2, 20]]
@[go_sem] def l123_10 (_ : Unit) : KL := [kA 21 (.mv (.t 1)),
  kA 22 (.mv (.t 2)),
  kA 23 (.bin .mul (.t 21) (.t 22)),
  kA 24 (.call (n_spec_l1Held) [(.t 23)]),
  kB 6 (.mv (.t 24)) [6]]
@[go_sem] def s123_11 (_ : Unit) : IR := (sQ [(kT l123_10), .ret])
@[go_sem] def s123_12 (_ : Unit) : IR := (sQ [(kT l123_9), (.cond (.t 20) (tH s123_11) .skip)])
@[go_sem] def l123_13 (_ : Unit) : KL := [kA 25 (.mv (.t 0)),
  kB 26 (.bin .eql (.t 25) (.c (.int .i64 5))) [0, 1, 2, 26]]
@[go_sem] def l123_14 (_ : Unit) : KL := [kA 27 (.mv (.t 1)),
  kA 28 (.mv (.t 2)),
  kA 29 (.bin .lss (.t 27) (.t 28)),
  kA 30 (.call (n_spec_l1Truth) [(.t 29)]),
  kB 6 (.mv (.t 30)) [6]]
@[go_sem] def s123_15 (_ : Unit) : IR := (sQ [(kT l123_14), .ret])
@[go_sem] def s123_16 (_ : Unit) : IR := (sQ [(kT l123_13), (.cond (.t 26) (tH s123_15) .skip)])
@[go_sem] def l123_17 (_ : Unit) : KL := [kA 31 (.mv (.t 0)),
  kB 32 (.bin .eql (.t 31) (.c (.int .i64 6))) [0, 1, 2, 32]]
@[go_sem] def l123_18 (_ : Unit) : KL := [kA 33 (.mv (.t 1)),
  kA 34 (.mv (.t 2)),
  kA 35 (.bin .eql (.t 33) (.t 34)),
  kA 36 (.call (n_spec_l1Truth) [(.t 35)]),
  kB 6 (.mv (.t 36)) [6]]
@[go_sem] def s123_19 (_ : Unit) : IR := (sQ [(kT l123_18), .ret])
@[go_sem] def s123_20 (_ : Unit) : IR := (sQ [(kT l123_17), (.cond (.t 32) (tH s123_19) .skip)])
@[go_sem] def l123_21 (_ : Unit) : KL := [kA 37 (.mv (.t 0)),
  kB 38 (.bin .eql (.t 37) (.c (.int .i64 7))) [0, 1, 2, 38]]
@[go_sem] def l123_22 (_ : Unit) : KL := [kA 39 (.mv (.t 1)),
  kA 40 (.bin .sub (cI 1) (.t 39)),
  kB 6 (.mv (.t 40)) [6]]
@[go_sem] def s123_23 (_ : Unit) : IR := (sQ [(kT l123_22), .ret])
@[go_sem] def s123_24 (_ : Unit) : IR := (sQ [(kT l123_21), (.cond (.t 38) (tH s123_23) .skip)])
@[go_sem] def l123_25 (_ : Unit) : KL := [kA 41 (.mv (.t 0)),
  kB 42 (.bin .eql (.t 41) (.c (.int .i64 8))) [1, 2, 42]]
@[go_sem] def l123_26 (_ : Unit) : KL := [kA 43 (.mv (.t 1)),
  kA 44 (.mv (.t 2)),
  kA 45 (.bin .mul (.t 43) (.t 44)),
  kB 6 (.mv (.t 45)) [6]]
@[go_sem] def s123_27 (_ : Unit) : IR := (sQ [(kT l123_26), .ret])
@[go_sem] def s123_28 (_ : Unit) : IR := (sQ [(kT l123_25), (.cond (.t 42) (tH s123_27) .skip)])
@[go_sem] def l123_29 (_ : Unit) : KL := [kA 46 (.mv (.t 1)),
  kA 47 (.mv (.t 2)),
  kA 48 (.bin .add (.t 46) (.t 47)),
  kA 49 (.bin .gtr (.t 48) (cI 0)),
  kB 50 (.call (n_spec_l1Truth) [(.t 49)]) [50],
  kB 6 (.mv (.t 50)) [6]]
@[go_sem] def s123_30 (_ : Unit) : IR := (sQ [(kT l123_0), (tH s123_4), (tH s123_8), (tH s123_12), (tH s123_16), (tH s123_20), (tH s123_24), (tH s123_28), (kT l123_29), .ret])
theorem c123 : compFn Try.prog [(0, [], [oS [0, 1, 2]]), (1, [], [oN, oS [0, 1, 2, 8]]), (2, [], [oN, oN, oN, oN, oS [6]]), (3, [], [oN, oS [0, 1, 2, 14]]), (4, [], [oN, oN, oN, oN, oS [6]]), (5, [], [oN, oS [0, 1, 2, 20]]), (6, [], [oN, oN, oN, oN, oS [6]]), (7, [], [oN, oS [0, 1, 2, 26]]), (8, [], [oN, oN, oN, oN, oS [6]]), (9, [], [oN, oS [0, 1, 2, 32]]), (10, [], [oN, oN, oN, oN, oS [6]]), (11, [], [oN, oS [0, 1, 2, 38]]), (12, [], [oN, oN, oS [6]]), (13, [], [oN, oS [1, 2, 42]]), (14, [], [oN, oN, oN, oS [6]]), (15, [], [oN, oN, oN, oN, oS [50], oS [6]])] Try.f123 = some ⟨3, 51, [.t 6], (tH s123_30)⟩ := by kernel_rfl
theorem v_spec_l1Do (hl : vs.length = 3) (h : wpV Try.prog (tH s123_30) (postV [.t 6] RV) (envV vs) M) : VCall Try.prog n_spec_l1Do vs M RV :=
  vcall_of_wp (fun _ _ _ hl h => acall_of_wp mixed Try.func123 c123 (by kernel_rfl) hl h) hl h
@[go_sem] def l110_0 (_ : Unit) : KL := [kB 4 (.mv (.c (.sl none 0 0 true 0))) [0, 1]]
@[go_sem] def l110_1 (_ : Unit) : KL := [kA 8 (.bslc 1 0 [(.int .i64 0)] []),
  kB 5 (.mv (.t 8)) [0, 1, 5]]
@[go_sem] def l110_2 (_ : Unit) : KL := [kB 6 (.mv (cI 0)) [0, 1, 5, 6]]
@[go_sem] def l110_3 (_ : Unit) : KL := [kA 9 (.mv (.t 6)),
  kA 10 (.mv (.t 0)),
  kA 11 (.len (.t 10)),
  kB 12 (.bin .lss (.t 9) (.t 11)) [0, 1, 5, 6, 12]]
@[go_sem] def s110_4 (_ : Unit) : IR := (sQ [(kT l110_3), (.cond (.t 12) .skip (.exit 0))])
@[go_sem] def l110_5 (_ : Unit) : KL := [kA 15 (.mv (.t 0)),
  kA 16 (.mv (.t 6)),
  kA 17 (.iaddr (.t 15) (.t 16) 4),
  kA 18 (.load (.t 17) 4 true),
  kB 7 (.alloc [(.int .i64 0), (.int .i64 0), (.int .i64 0), (.int .i64 0)]) [0, 1, 5, 6, 7, 18],
  (⟨none, .store (.t 7) 4 (.t 18), none⟩, (some [0, 1, 5, 6, 7]))]
@[go_sem] def l110_6 (_ : Unit) : KL := [kA 19 (.faddr (.t 7) 0),
  kA 20 (.load (.t 19) 1 false),
  kB 21 (.bin .eql (.t 20) (cI 0)) [0, 1, 5, 6, 7, 21]]
@[go_sem] def l110_7 (_ : Unit) : KL := [kA 22 (.mv (.t 5)),
  kA 23 (.faddr (.t 7) 1),
  kA 24 (.load (.t 23) 1 false),
  kA 25 (.bslc 1 1 [(.int .i64 0)] [(0, (.t 24))]),
  kB 26 (.app 1 8 (.t 22) (.t 25)) [0, 1, 6, 26],
  kB 5 (.mv (.t 26)) [0, 1, 5, 6]]
@[go_sem] def l110_8 (_ : Unit) : KL := [kA 27 (.faddr (.t 7) 0),
  kA 28 (.load (.t 27) 1 false),
  kB 29 (.bin .eql (.t 28) (cI 1)) [0, 1, 5, 6, 7, 29]]
@[go_sem] def l110_9 (_ : Unit) : KL := [kA 30 (.mv (.t 5)),
  kA 31 (.mv (.t 1)),
  kA 32 (.faddr (.t 7) 1),
  kA 33 (.load (.t 32) 1 false),
  kB 34 (.iaddr (.t 31) (.t 33) 1) [0, 1, 6, 30, 34],
  kA 35 (.load (.t 34) 1 false),
  kA 36 (.bslc 1 1 [(.int .i64 0)] [(0, (.t 35))]),
  kA 37 (.app 1 8 (.t 30) (.t 36)),
  kB 5 (.mv (.t 37)) [0, 1, 5, 6]]
@[go_sem] def l110_10 : Nat → GOp
  | 0 => ⟨(some 38), .mv (.t 5), none⟩
  | 1 => ⟨(some 39), .faddr (.t 7) 0, none⟩
  | 2 => ⟨(some 40), .load (.t 39) 1 false, none⟩
  | 3 => ⟨(some 41), .mv (.t 5), none⟩
  | 4 => ⟨(some 42), .faddr (.t 7) 2, none⟩
  | 5 => ⟨(some 43), .load (.t 42) 1 false, none⟩
  | 6 => ⟨(some 44), .iaddr (.t 41) (.t 43) 1, none⟩
  | 7 => ⟨(some 45), .load (.t 44) 1 false, none⟩
  | 8 => ⟨(some 46), .mv (.t 5), none⟩
  | 9 => ⟨(some 47), .faddr (.t 7) 3, none⟩
  | 10 => ⟨(some 48), .load (.t 47) 1 false, none⟩
  | 11 => ⟨(some 49), .iaddr (.t 46) (.t 48) 1, none⟩
  | 12 => ⟨(some 50), .load (.t 49) 1 false, none⟩
  | 13 => ⟨(some 51), .call (n_spec_l1Do) [(.t 40), (.t 45), (.t 50)], none⟩
  | 14 => ⟨(some 52), .bslc 1 1 [(.int .i64 0)] [(0, (.t 51))], none⟩
  | 15 => ⟨(some 53), .app 1 8 (.t 38) (.t 52), none⟩
  | 16 => ⟨(some 5), .mv (.t 53), none⟩
  | _ => ⟨none, .mkmap, none⟩
@[go_sem] def s110_11 (_ : Unit) : IR := (sQ [(kT l110_8), (.cond (.t 29) (kT l110_9) (.kd (oF l110_10 17) [(0, []), (1, []), (2, []), (3, []), (4, []), (5, []), (6, []), (7, []), (8, []), (9, []), (10, []), (11, []), (12, []), (13, []), (14, []), (15, []), (16, [])] [0, 1, 5, 6]))])
@[go_sem] def s110_12 (_ : Unit) : IR := (sQ [(kT l110_5), (kT l110_6), (.cond (.t 21) (kT l110_7) (tH s110_11))])
@[go_sem] def s110_13 (_ : Unit) : IR := (.block 1 (tH s110_12))
@[go_sem] def l110_14 (_ : Unit) : KL := [kA 13 (.mv (.t 6)),
  kA 14 (.bin .add (.t 13) (cI 1)),
  kB 6 (.mv (.t 14)) [0, 1, 5, 6]]
@[go_sem] def s110_15 (_ : Unit) : IR := (sQ [(tH s110_4), (tH s110_13), (kT l110_14)])
@[go_sem] def s110_16 (_ : Unit) : IR := (.loop (tH s110_15))
@[go_sem] def s110_17 (_ : Unit) : IR := (.block 0 (tH s110_16))
@[go_sem] def s110_18 (_ : Unit) : IR := (sQ [(kT l110_2), (tH s110_17)])
@[go_sem] def l110_19 (_ : Unit) : KL := [kA 54 (.mv (.t 5)),
  kB 4 (.mv (.t 54)) [4]]
@[go_sem] def s110_20 (_ : Unit) : IR := (sQ [(kT l110_0), (kT l110_1), (tH s110_18), (kT l110_19), .ret])
theorem c110 : compFn Try.prog [(0, [], [oS [0, 1]]), (1, [], [oN, oS [0, 1, 5]]), (2, [], [oS [0, 1, 5, 6]]), (3, [], [oN, oN, oN, oS [0, 1, 5, 6, 12]]), (5, [], [oN, oN, oN, oN, oS [0, 1, 5, 6, 7, 18], oS [0, 1, 5, 6, 7]]), (6, [], [oN, oN, oS [0, 1, 5, 6, 7, 21]]), (7, [], [oN, oN, oN, oN, oS [0, 1, 6, 26], oS [0, 1, 5, 6]]), (8, [], [oN, oN, oS [0, 1, 5, 6, 7, 29]]), (9, [], [oN, oN, oN, oN, oS [0, 1, 6, 30, 34], oN, oN, oN, oS [0, 1, 5, 6]]), (10, [(0, []), (1, []), (2, []), (3, []), (4, []), (5, []), (6, []), (7, []), (8, []), (9, []), (10, []), (11, []), (12, []), (13, []), (14, []), (15, []), (16, [])], [oS [0, 1, 5, 6]]), (4, [], [oN, oN, oS [0, 1, 5, 6]]), (11, [], [oN, oS [4]])] Try.f110 = some ⟨2, 55, [.t 4], (tH s110_20)⟩ := by kernel_rfl
theorem v_spec_l1Values (hl : vs.length = 2) (h : wpV Try.prog (tH s110_20) (postV [.t 4] RV) (envV vs) M) : VCall Try.prog n_spec_l1Values vs M RV :=
  vcall_of_wp (fun _ _ _ hl h => acall_of_wp mixed Try.func110 c110 (by kernel_rfl) hl h) hl h
@[go_sem] def l91_0 (_ : Unit) : KL := [kB 4 (.mv (cI 0)) [0, 1]]
@[go_sem] def l91_1 (_ : Unit) : KL := [kA 5 (.mv (.t 0)),
  kA 6 (.mv (.t 1)),
  kA 7 (.call (n_spec_l1Values) [(.t 5), (.t 6)]),
  kA 8 (.mv (.t 0)),
  kB 9 (.len (.t 8)) [7, 9],
  kA 10 (.bin .sub (.t 9) (cI 1)),
  kA 11 (.iaddr (.t 7) (.t 10) 1),
  kA 12 (.load (.t 11) 1 false),
  kB 4 (.mv (.t 12)) [4]]
@[go_sem] def s91_2 (_ : Unit) : IR := (sQ [(kT l91_0), (kT l91_1), .ret])
theorem c91 : compFn Try.prog [(0, [], [oS [0, 1]]), (1, [], [oN, oN, oN, oN, oS [7, 9], oN, oN, oN, oS [4]])] Try.f91 = some ⟨2, 13, [.t 4], (tH s91_2)⟩ := by kernel_rfl
theorem v_spec_l2Last (hl : vs.length = 2) (h : wpV Try.prog (tH s91_2) (postV [.t 4] RV) (envV vs) M) : VCall Try.prog n_spec_l2Last vs M RV :=
  vcall_of_wp (fun _ _ _ hl h => acall_of_wp mixed Try.func91 c91 (by kernel_rfl) hl h) hl h
@[go_sem] def l56_0 (_ : Unit) : KL := [kA 3 (.box (.t 0)),
  kB 6 (.mv (.c (.sl none 0 0 true 0))) [1, 2, 3]]
@[go_sem] def l56_1 (_ : Unit) : KL := [kA 11 (.faddr (.t 3) 1),
  kA 12 (.load (.t 11) 1 false),
  kA 13 (.mv (.t 2)),
  kA 14 (.iaddr (.t 12) (.t 13) 3),
  kB 15 (.load (.t 14) 3 true) [1, 3, 15],
  kA 7 (.alloc [(.sl none 0 0 true 0), (.sl none 0 0 true 0), (.sl none 0 0 true 0)]),
  (⟨none, .store (.t 7) 3 (.t 15), none⟩, (some [1, 3, 7]))]
@[go_sem] def l56_2 (_ : Unit) : KL := [kA 16 (.faddr (.t 7) 0),
  kA 17 (.load (.t 16) 1 false),
  kA 18 (.mv (.t 1)),
  kA 19 (.call (n_spec_l2Last) [(.t 17), (.t 18)]),
  kB 20 (.bin .eql (.t 19) (cI 0)) [1, 3, 7, 20]]
@[go_sem] def l56_3 (_ : Unit) : KL := [kB 6 (.mv (.c (.sl none 0 0 true 0))) [6]]
@[go_sem] def s56_4 (_ : Unit) : IR := (sQ [(kT l56_3), .ret])
@[go_sem] def s56_5 (_ : Unit) : IR := (sQ [(kT l56_2), (.cond (.t 20) (tH s56_4) .skip)])
@[go_sem] def l56_6 (_ : Unit) : KL := [kA 21 (.bslc 1 0 [(.int .i64 0)] []),
  kB 8 (.mv (.t 21)) [1, 3, 7, 8]]
@[go_sem] def l56_7 (_ : Unit) : KL := [kB 9 (.mv (cI 0)) [1, 3, 7, 8, 9]]
@[go_sem] def l56_8 (_ : Unit) : KL := [kA 22 (.mv (.t 9)),
  kA 23 (.mv (.t 1)),
  kA 24 (.len (.t 23)),
  kB 25 (.bin .lss (.t 22) (.t 24)) [1, 3, 7, 8, 9, 25]]
@[go_sem] def s56_9 (_ : Unit) : IR := (sQ [(kT l56_8), (.cond (.t 25) .skip (.exit 0))])
@[go_sem] def l56_10 (_ : Unit) : KL := [kA 28 (.mv (.t 8)),
  kA 29 (.mv (.t 1)),
  kA 30 (.mv (.t 9)),
  kA 31 (.iaddr (.t 29) (.t 30) 1),
  kB 32 (.load (.t 31) 1 false) [1, 3, 7, 9, 28, 32],
  kA 33 (.bslc 1 1 [(.int .i64 0)] [(0, (.t 32))]),
  kA 34 (.app 1 8 (.t 28) (.t 33)),
  kB 8 (.mv (.t 34)) [1, 3, 7, 8, 9]]
@[go_sem] def s56_11 (_ : Unit) : IR := (.block 1 (kT l56_10))
@[go_sem] def l56_12 (_ : Unit) : KL := [kA 26 (.mv (.t 9)),
  kA 27 (.bin .add (.t 26) (cI 1)),
  kB 9 (.mv (.t 27)) [1, 3, 7, 8, 9]]
@[go_sem] def s56_13 (_ : Unit) : IR := (sQ [(tH s56_9), (tH s56_11), (kT l56_12)])
@[go_sem] def s56_14 (_ : Unit) : IR := (.loop (tH s56_13))
@[go_sem] def s56_15 (_ : Unit) : IR := (.block 0 (tH s56_14))
@[go_sem] def s56_16 (_ : Unit) : IR := (sQ [(kT l56_7), (tH s56_15)])
@[go_sem] def l56_17 (_ : Unit) : KL := [kB 10 (.mv (cI 0)) [1, 3, 7, 8, 10]]
@[go_sem] def l56_18 (_ : Unit) : KL := [kA 35 (.mv (.t 10)),
  kA 36 (.faddr (.t 7) 1),
  kA 37 (.load (.t 36) 1 false),
  kA 38 (.len (.t 37)),
  kB 39 (.bin .lss (.t 35) (.t 38)) [1, 3, 7, 8, 10, 39]]
@[go_sem] def s56_19 (_ : Unit) : IR := (sQ [(kT l56_18), (.cond (.t 39) .skip (.exit 2))])
@[go_sem] def l56_20 : Nat → GOp
  | 0 => ⟨(some 42), .mv (.t 8), none⟩
  | 1 => ⟨(some 43), .faddr (.t 7) 1, none⟩
  | 2 => ⟨(some 44), .load (.t 43) 1 false, none⟩
  | 3 => ⟨(some 45), .mv (.t 10), none⟩
  | 4 => ⟨(some 46), .iaddr (.t 44) (.t 45) 1, none⟩
  | 5 => ⟨(some 47), .load (.t 46) 1 false, none⟩
  | 6 => ⟨(some 48), .faddr (.t 7) 2, none⟩
  | 7 => ⟨(some 49), .load (.t 48) 1 false, none⟩
  | 8 => ⟨(some 50), .mv (.t 10), none⟩
  | 9 => ⟨(some 51), .iaddr (.t 49) (.t 50) 1, none⟩
  | 10 => ⟨(some 52), .load (.t 51) 1 false, none⟩
  | 11 => ⟨(some 53), .mv (.t 1), none⟩
  | 12 => ⟨(some 54), .call (n_spec_l2Last) [(.t 52), (.t 53)], none⟩
  | 13 => ⟨(some 55), .iaddr (.t 42) (.t 47) 1, none⟩
  | 14 => ⟨none, .store (.t 55) 1 (.t 54), none⟩
  | _ => ⟨none, .mkmap, none⟩
@[go_sem] def s56_21 (_ : Unit) : IR := (.block 3 (.kd (oF l56_20 15) [(0, []), (1, []), (2, []), (3, []), (4, []), (5, []), (6, []), (7, []), (8, []), (9, []), (10, []), (11, []), (12, [2, 5]), (13, []), (14, [])] [1, 3, 7, 8, 10]))
@[go_sem] def l56_22 (_ : Unit) : KL := [kA 40 (.mv (.t 10)),
  kA 41 (.bin .add (.t 40) (cI 1)),
  kB 10 (.mv (.t 41)) [1, 3, 7, 8, 10]]
@[go_sem] def s56_23 (_ : Unit) : IR := (sQ [(tH s56_19), (tH s56_21), (kT l56_22)])
@[go_sem] def s56_24 (_ : Unit) : IR := (.loop (tH s56_23))
@[go_sem] def s56_25 (_ : Unit) : IR := (.block 2 (tH s56_24))
@[go_sem] def s56_26 (_ : Unit) : IR := (sQ [(kT l56_17), (tH s56_25)])
@[go_sem] def l56_27 (_ : Unit) : KL := [kA 56 (.load (.t 3) 2 true),
  kA 57 (.mv (.t 8)),
  kA 58 (.call (n_spec_l2In) [(.t 56), (.t 57)]),
  kB 59 (.un .not (.t 58)) [8, 59]]
@[go_sem] def l56_28 (_ : Unit) : KL := [kB 6 (.mv (.c (.sl none 0 0 true 0))) [6]]
@[go_sem] def s56_29 (_ : Unit) : IR := (sQ [(kT l56_28), .ret])
@[go_sem] def s56_30 (_ : Unit) : IR := (sQ [(kT l56_27), (.cond (.t 59) (tH s56_29) .skip)])
@[go_sem] def l56_31 (_ : Unit) : KL := [kA 60 (.mv (.t 8)),
  kB 6 (.mv (.t 60)) [6]]
@[go_sem] def s56_32 (_ : Unit) : IR := (sQ [(kT l56_0), (kT l56_1), (tH s56_5), (kT l56_6), (tH s56_16), (tH s56_26), (tH s56_30), (kT l56_31), .ret])
theorem c56 : compFn Try.prog [(0, [], [oN, oS [1, 2, 3]]), (1, [], [oN, oN, oN, oN, oS [1, 3, 15], oN, oS [1, 3, 7]]), (2, [], [oN, oN, oN, oN, oS [1, 3, 7, 20]]), (3, [], [oS [6]]), (4, [], [oN, oS [1, 3, 7, 8]]), (5, [], [oS [1, 3, 7, 8, 9]]), (6, [], [oN, oN, oN, oS [1, 3, 7, 8, 9, 25]]), (8, [], [oN, oN, oN, oN, oS [1, 3, 7, 9, 28, 32], oN, oN, oS [1, 3, 7, 8, 9]]), (7, [], [oN, oN, oS [1, 3, 7, 8, 9]]), (9, [], [oS [1, 3, 7, 8, 10]]), (10, [], [oN, oN, oN, oN, oS [1, 3, 7, 8, 10, 39]]), (12, [(0, []), (1, []), (2, []), (3, []), (4, []), (5, []), (6, []), (7, []), (8, []), (9, []), (10, []), (11, []), (12, [2, 5]), (13, []), (14, [])], [oS [1, 3, 7, 8, 10]]), (11, [], [oN, oN, oS [1, 3, 7, 8, 10]]), (13, [], [oN, oN, oN, oS [8, 59]]), (14, [], [oS [6]]), (15, [], [oN, oS [6]])] Try.f56 = some ⟨3, 61, [.t 6], (tH s56_32)⟩ := by kernel_rfl
theorem v_spec_l2Use (hl : vs.length = 3) (h : wpV Try.prog (tH s56_32) (postV [.t 6] RV) (envV vs) M) : VCall Try.prog n_spec_l2Use vs M RV :=
  vcall_of_wp (fun _ _ _ hl h => acall_of_wp mixed Try.func56 c56 (by kernel_rfl) hl h) hl h
@[go_sem] def l20_0 (_ : Unit) : KL := [kA 3 (.box (.t 0)),
  kA 6 (.mv (.c (.sl none 0 0 true 0))),
  kB 7 (.mv (.c (.bool false))) [1, 2, 3]]
@[go_sem] def l20_1 (_ : Unit) : KL := [kA 9 (.load (.t 3) 2 true),
  kA 10 (.mv (.t 1)),
  kA 11 (.call (n_spec_InRange) [(.t 9), (.t 10)]),
  kA 12 (.un .not (.t 11)),
  kB 13 (.mv (.t 12)) [1, 2, 3, 13],
  (⟨(some 14), .mv (.t 2), (some (13, false))⟩, none),
  (⟨(some 15), .faddr (.t 3) 1, (some (13, false))⟩, none),
  (⟨(some 16), .load (.t 15) 1 false, (some (13, false))⟩, none),
  (⟨(some 17), .len (.t 16), (some (13, false))⟩, none),
  (⟨(some 18), .bin .sub (.t 17) (cI 1), (some (13, false))⟩, (some [1, 2, 3, 13, 14, 18])),
  (⟨(some 19), .call (n_spec_l1In) [(.t 14), (cI 0), (.t 18)], (some (13, false))⟩, none),
  (⟨(some 20), .un .not (.t 19), (some (13, false))⟩, none),
  kB 21 (.pick (.t 13) (.c (.bool true)) (.t 20)) [1, 2, 3, 21]]
@[go_sem] def l20_2 (_ : Unit) : KL := [kA 6 (.mv (.c (.sl none 0 0 true 0))),
  kB 7 (.mv (.c (.bool false))) [6, 7]]
@[go_sem] def s20_3 (_ : Unit) : IR := (sQ [(kT l20_2), .ret])
@[go_sem] def s20_4 (_ : Unit) : IR := (sQ [(kT l20_1), (.cond (.t 21) (tH s20_3) .skip)])
@[go_sem] def l20_5 (_ : Unit) : KL := [kA 22 (.load (.t 3) 2 true),
  kA 23 (.mv (.t 1)),
  kA 24 (.mv (.t 2)),
  kA 25 (.call (n_spec_l2Use) [(.t 22), (.t 23), (.t 24)]),
  kB 8 (.mv (.t 25)) [8]]
@[go_sem] def l20_6 (_ : Unit) : KL := [kA 26 (.mv (.t 8)),
  kA 27 (.mv (.t 8)),
  kA 28 (.len (.t 27)),
  kA 29 (.bin .gtr (.t 28) (cI 0)),
  kB 6 (.mv (.t 26)) [6, 29],
  kB 7 (.mv (.t 29)) [6, 7]]
@[go_sem] def s20_7 (_ : Unit) : IR := (sQ [(kT l20_0), (tH s20_4), (kT l20_5), (kT l20_6), .ret])
theorem c20 : compFn Try.prog [(0, [], [oN, oN, oS [1, 2, 3]]), (1, [], [oN, oN, oN, oN, oS [1, 2, 3, 13], oN, oN, oN, oN, oS [1, 2, 3, 13, 14, 18], oN, oN, oS [1, 2, 3, 21]]), (2, [], [oN, oS [6, 7]]), (3, [], [oN, oN, oN, oN, oS [8]]), (4, [], [oN, oN, oN, oN, oS [6, 29], oS [6, 7]])] Try.f20 = some ⟨3, 30, [.t 6, .t 7], (tH s20_7)⟩ := by kernel_rfl
theorem v_spec_Use (hl : vs.length = 3) (h : wpV Try.prog (tH s20_7) (postV [.t 6, .t 7] RV) (envV vs) M) : VCall Try.prog n_spec_Use vs M RV :=
  vcall_of_wp (fun _ _ _ hl h => acall_of_wp mixed Try.func20 c20 (by kernel_rfl) hl h) hl h
@[go_sem] def l9_0 (_ : Unit) : KL := [kB 4 (.mv (.c (.bool false))) [0, 1]]
@[go_sem] def l9_1 (_ : Unit) : KL := [kA 7 (.mv (.t 0)),
  kA 8 (.len (.t 7)),
  kA 9 (.mv (.t 1)),
  kA 10 (.len (.t 9)),
  kB 11 (.bin .neq (.t 8) (.t 10)) [0, 1, 11]]
@[go_sem] def l9_2 (_ : Unit) : KL := [kB 4 (.mv (.c (.bool false))) [4]]
@[go_sem] def s9_3 (_ : Unit) : IR := (sQ [(kT l9_2), .ret])
@[go_sem] def s9_4 (_ : Unit) : IR := (sQ [(kT l9_1), (.cond (.t 11) (tH s9_3) .skip)])
@[go_sem] def l9_5 (_ : Unit) : KL := [kA 12 (.mv (.t 0)),
  kA 13 (.len (.t 12)),
  kB 14 (.mv (cI 0)) [1, 12, 13, 14]]
@[go_sem] def l9_6 (_ : Unit) : KL := [kB 15 (.bin .lss (.t 14) (.t 13)) [1, 12, 13, 14, 15]]
@[go_sem] def l9_7 (_ : Unit) : KL := [kA 16 (.mv (.t 14)),
  kA 17 (.iaddr (.t 12) (.t 14) 1),
  kA 18 (.load (.t 17) 1 false),
  kA 5 (.mv (.t 16)),
  kB 6 (.mv (.t 18)) [1, 5, 6, 12, 13, 14]]
@[go_sem] def l9_8 (_ : Unit) : KL := [kA 19 (.mv (.t 1)),
  kA 20 (.mv (.t 5)),
  kA 21 (.iaddr (.t 19) (.t 20) 1),
  kA 22 (.load (.t 21) 1 false),
  kB 23 (.mv (.t 6)) [1, 12, 13, 14, 22, 23],
  kB 24 (.bin .neq (.t 22) (.t 23)) [1, 12, 13, 14, 24]]
@[go_sem] def l9_9 (_ : Unit) : KL := [kB 4 (.mv (.c (.bool false))) [4]]
@[go_sem] def s9_10 (_ : Unit) : IR := (sQ [(kT l9_9), .ret])
@[go_sem] def s9_11 (_ : Unit) : IR := (sQ [(kT l9_7), (kT l9_8), (.cond (.t 24) (tH s9_10) .skip)])
@[go_sem] def s9_12 (_ : Unit) : IR := (.block 1 (tH s9_11))
@[go_sem] def l9_13 (_ : Unit) : KL := [kA 25 (.bin .add (.t 14) (cI 1)),
  kB 14 (.mv (.t 25)) [1, 12, 13, 14]]
@[go_sem] def s9_14 (_ : Unit) : IR := (sQ [(kT l9_6), (.cond (.t 15) .skip (.exit 0)), (tH s9_12), (kT l9_13)])
@[go_sem] def s9_15 (_ : Unit) : IR := (.loop (tH s9_14))
@[go_sem] def s9_16 (_ : Unit) : IR := (.block 0 (tH s9_15))
@[go_sem] def s9_17 (_ : Unit) : IR := (sQ [(kT l9_5), (tH s9_16)])
@[go_sem] def l9_18 (_ : Unit) : KL := [kB 4 (.mv (.c (.bool true))) [4]]
@[go_sem] def s9_19 (_ : Unit) : IR := (sQ [(kT l9_0), (tH s9_4), (tH s9_17), (kT l9_18), .ret])
theorem c9 : compFn Try.prog [(0, [], [oS [0, 1]]), (1, [], [oN, oN, oN, oN, oS [0, 1, 11]]), (2, [], [oS [4]]), (3, [], [oN, oN, oS [1, 12, 13, 14]]), (4, [], [oS [1, 12, 13, 14, 15]]), (5, [], [oN, oN, oN, oN, oS [1, 5, 6, 12, 13, 14]]), (6, [], [oN, oN, oN, oN, oS [1, 12, 13, 14, 22, 23], oS [1, 12, 13, 14, 24]]), (7, [], [oS [4]]), (8, [], [oN, oS [1, 12, 13, 14]]), (9, [], [oS [4]])] Try.f9 = some ⟨2, 26, [.t 4], (tH s9_19)⟩ := by kernel_rfl
theorem v_laws_wcInts (hl : vs.length = 2) (h : wpV Try.prog (tH s9_19) (postV [.t 4] RV) (envV vs) M) : VCall Try.prog n_laws_wcInts vs M RV :=
  vcall_of_wp (fun _ _ _ hl h => acall_of_wp mixed Try.func9 c9 (by kernel_rfl) hl h) hl h
@[go_sem] def l92_0 (_ : Unit) : KL := [kB 4 (.mv (.c (.sl none 0 0 true 0))) [0, 1]]
@[go_sem] def l92_1 (_ : Unit) : KL := [kA 12 (.mv (.t 0)),
  kA 13 (.len (.t 12)),
  kA 14 (.mks [(.bool false)] 1 (.t 13)),
  kB 5 (.mv (.t 14)) [0, 1, 5]]
@[go_sem] def l92_2 (_ : Unit) : KL := [kA 15 (.mv (.t 1)),
  kA 16 (.mks [(.bool false)] 1 (.t 15)),
  kB 6 (.mv (.t 16)) [0, 5, 6]]
@[go_sem] def l92_3 (_ : Unit) : KL := [kA 17 (.mv (.t 5)),
  kA 18 (.mv (.t 0)),
  kA 19 (.len (.t 18)),
  kA 20 (.bin .sub (.t 19) (cI 1)),
  kB 21 (.iaddr (.t 17) (.t 20) 1) [0, 5, 6, 21],
  (⟨none, .store (.t 21) 1 (.c (.bool true)), none⟩, (some [0, 5, 6]))]
@[go_sem] def l92_4 (_ : Unit) : KL := [kA 22 (.mv (.t 0)),
  kA 23 (.len (.t 22)),
  kA 24 (.bin .sub (.t 23) (cI 1)),
  kB 7 (.mv (.t 24)) [0, 5, 6, 7]]
@[go_sem] def l92_5 (_ : Unit) : KL := [kA 25 (.mv (.t 7)),
  kB 26 (.bin .geq (.t 25) (cI 0)) [0, 5, 6, 7, 26]]
@[go_sem] def s92_6 (_ : Unit) : IR := (sQ [(kT l92_5), (.cond (.t 26) .skip (.exit 0))])
@[go_sem] def l92_7 (_ : Unit) : KL := [kA 29 (.mv (.t 0)),
  kA 30 (.mv (.t 7)),
  kA 31 (.iaddr (.t 29) (.t 30) 4),
  kA 32 (.load (.t 31) 4 true),
  kB 8 (.alloc [(.int .i64 0), (.int .i64 0), (.int .i64 0), (.int .i64 0)]) [0, 5, 6, 7, 8, 32],
  (⟨none, .store (.t 8) 4 (.t 32), none⟩, (some [0, 5, 6, 7, 8]))]
@[go_sem] def l92_8 (_ : Unit) : KL := [kA 42 (.mv (.t 5)),
  kA 43 (.mv (.t 7)),
  kA 44 (.iaddr (.t 42) (.t 43) 1),
  kA 45 (.load (.t 44) 1 false),
  kB 46 (.un .not (.t 45)) [0, 5, 6, 7, 8, 46],
  kA 47 (.mv (.t 46)),
  (⟨(some 48), .faddr (.t 8) 0, (some (47, false))⟩, none),
  (⟨(some 49), .load (.t 48) 1 false, (some (47, false))⟩, none),
  (⟨(some 50), .bin .eql (.t 49) (cI 0), (some (47, false))⟩, none),
  kB 51 (.pick (.t 47) (.c (.bool true)) (.t 50)) [0, 5, 6, 7, 8, 51],
  kB 41 (.mv (.t 51)) [0, 5, 6, 7, 8, 41]]
@[go_sem] def l92_9 (_ : Unit) : KL := [kA 53 (.faddr (.t 8) 0),
  kA 54 (.load (.t 53) 1 false),
  kA 55 (.bin .eql (.t 54) (cI 1)),
  kB 52 (.mv (.t 55)) [0, 5, 6, 7, 8, 52]]
@[go_sem] def l92_10 (_ : Unit) : KL := [kA 56 (.mv (.t 6)),
  kA 57 (.faddr (.t 8) 1),
  kA 58 (.load (.t 57) 1 false),
  kA 59 (.iaddr (.t 56) (.t 58) 1),
  (⟨none, .store (.t 59) 1 (.c (.bool true)), none⟩, (some [0, 5, 6, 7]))]
@[go_sem] def l92_11 : Nat → GOp
  | 0 => ⟨(some 33), .mv (.t 5), none⟩
  | 1 => ⟨(some 34), .faddr (.t 8) 2, none⟩
  | 2 => ⟨(some 35), .load (.t 34) 1 false, none⟩
  | 3 => ⟨(some 36), .mv (.t 5), none⟩
  | 4 => ⟨(some 37), .faddr (.t 8) 3, none⟩
  | 5 => ⟨(some 38), .load (.t 37) 1 false, none⟩
  | 6 => ⟨(some 39), .iaddr (.t 33) (.t 35) 1, none⟩
  | 7 => ⟨none, .store (.t 39) 1 (.c (.bool true)), none⟩
  | 8 => ⟨(some 40), .iaddr (.t 36) (.t 38) 1, none⟩
  | 9 => ⟨none, .store (.t 40) 1 (.c (.bool true)), none⟩
  | _ => ⟨none, .mkmap, none⟩
@[go_sem] def s92_12 (_ : Unit) : IR := (sQ [(kT l92_9), (.cond (.t 52) (kT l92_10) (.kd (oF l92_11 10) [(0, []), (1, []), (2, []), (3, []), (4, []), (5, []), (6, []), (7, [5]), (8, []), (9, [])] [0, 5, 6, 7]))])
@[go_sem] def s92_13 (_ : Unit) : IR := (sQ [(kT l92_8), (.cond (.t 41) .skip (tH s92_12))])
@[go_sem] def s92_14 (_ : Unit) : IR := (.block 2 (tH s92_13))
@[go_sem] def s92_15 (_ : Unit) : IR := (sQ [(kT l92_7), (tH s92_14)])
@[go_sem] def s92_16 (_ : Unit) : IR := (.block 1 (tH s92_15))
@[go_sem] def l92_17 (_ : Unit) : KL := [kA 27 (.mv (.t 7)),
  kA 28 (.bin .sub (.t 27) (cI 1)),
  kB 7 (.mv (.t 28)) [0, 5, 6, 7]]
@[go_sem] def s92_18 (_ : Unit) : IR := (sQ [(tH s92_6), (tH s92_16), (kT l92_17)])
@[go_sem] def s92_19 (_ : Unit) : IR := (.loop (tH s92_18))
@[go_sem] def s92_20 (_ : Unit) : IR := (.block 0 (tH s92_19))
@[go_sem] def s92_21 (_ : Unit) : IR := (sQ [(kT l92_4), (tH s92_20)])
@[go_sem] def l92_22 (_ : Unit) : KL := [kB 9 (.mv (.c (.sl none 0 0 true 0))) [6, 9]]
@[go_sem] def l92_23 (_ : Unit) : KL := [kA 60 (.mv (.t 6)),
  kA 61 (.len (.t 60)),
  kB 62 (.mv (cI 0)) [9, 60, 61, 62]]
@[go_sem] def l92_24 (_ : Unit) : KL := [kB 63 (.bin .lss (.t 62) (.t 61)) [9, 60, 61, 62, 63]]
@[go_sem] def l92_25 (_ : Unit) : KL := [kA 64 (.mv (.t 62)),
  kA 65 (.iaddr (.t 60) (.t 62) 1),
  kA 66 (.load (.t 65) 1 false),
  kA 10 (.mv (.t 64)),
  kB 11 (.mv (.t 66)) [9, 10, 11, 60, 61, 62]]
@[go_sem] def l92_26 (_ : Unit) : KL := [kB 67 (.mv (.t 11)) [9, 10, 60, 61, 62, 67]]
@[go_sem] def l92_27 (_ : Unit) : KL := [kA 68 (.mv (.t 9)),
  kA 69 (.mv (.t 10)),
  kA 70 (.bslc 1 1 [(.int .i64 0)] [(0, (.t 69))]),
  kA 71 (.app 1 8 (.t 68) (.t 70)),
  kB 9 (.mv (.t 71)) [9, 60, 61, 62]]
@[go_sem] def s92_28 (_ : Unit) : IR := (sQ [(kT l92_25), (kT l92_26), (.cond (.t 67) (kT l92_27) .skip)])
@[go_sem] def s92_29 (_ : Unit) : IR := (.block 4 (tH s92_28))
@[go_sem] def l92_30 (_ : Unit) : KL := [kA 72 (.bin .add (.t 62) (cI 1)),
  kB 62 (.mv (.t 72)) [9, 60, 61, 62]]
@[go_sem] def s92_31 (_ : Unit) : IR := (sQ [(kT l92_24), (.cond (.t 63) .skip (.exit 3)), (tH s92_29), (kT l92_30)])
@[go_sem] def s92_32 (_ : Unit) : IR := (.loop (tH s92_31))
@[go_sem] def s92_33 (_ : Unit) : IR := (.block 3 (tH s92_32))
@[go_sem] def s92_34 (_ : Unit) : IR := (sQ [(kT l92_23), (tH s92_33)])
@[go_sem] def l92_35 (_ : Unit) : KL := [kA 73 (.mv (.t 9)),
  kA 74 (.call (n_impl_clone_int) [(.t 73)]),
  kB 4 (.mv (.t 74)) [4]]
@[go_sem] def s92_36 (_ : Unit) : IR := (sQ [(kT l92_0), (kT l92_1), (kT l92_2), (kT l92_3), (tH s92_21), (kT l92_22), (tH s92_34), (kT l92_35), .ret])
theorem c92 : compFn Try.prog [(0, [], [oS [0, 1]]), (1, [], [oN, oN, oN, oS [0, 1, 5]]), (2, [], [oN, oN, oS [0, 5, 6]]), (3, [], [oN, oN, oN, oN, oS [0, 5, 6, 21], oS [0, 5, 6]]), (4, [], [oN, oN, oN, oS [0, 5, 6, 7]]), (5, [], [oN, oS [0, 5, 6, 7, 26]]), (7, [], [oN, oN, oN, oN, oS [0, 5, 6, 7, 8, 32], oS [0, 5, 6, 7, 8]]), (9, [], [oN, oN, oN, oN, oS [0, 5, 6, 7, 8, 46], oN, oN, oN, oN, oS [0, 5, 6, 7, 8, 51], oS [0, 5, 6, 7, 8, 41]]), (10, [], [oN, oN, oN, oS [0, 5, 6, 7, 8, 52]]), (11, [], [oN, oN, oN, oN, oS [0, 5, 6, 7]]), (8, [(0, []), (1, []), (2, []), (3, []), (4, []), (5, []), (6, []), (7, [5]), (8, []), (9, [])], [oS [0, 5, 6, 7]]), (6, [], [oN, oN, oS [0, 5, 6, 7]]), (12, [], [oS [6, 9]]), (13, [], [oN, oN, oS [9, 60, 61, 62]]), (14, [], [oS [9, 60, 61, 62, 63]]), (15, [], [oN, oN, oN, oN, oS [9, 10, 11, 60, 61, 62]]), (16, [], [oS [9, 10, 60, 61, 62, 67]]), (17, [], [oN, oN, oN, oN, oS [9, 60, 61, 62]]), (18, [], [oN, oS [9, 60, 61, 62]]), (19, [], [oN, oN, oS [4]])] Try.f92 = some ⟨2, 75, [.t 4], (tH s92_36)⟩ := by kernel_rfl
theorem v_impl_usedBy (hl : vs.length = 2) (h : wpV Try.prog (tH s92_36) (postV [.t 4] RV) (envV vs) M) : VCall Try.prog n_impl_usedBy vs M RV :=
  vcall_of_wp (fun _ _ _ hl h => acall_of_wp mixed Try.func92 c92 (by kernel_rfl) hl h) hl h
@[go_sem] def l133_0 (_ : Unit) : KL := [kB 2 (.mv (cI 0)) [0, 2]]
@[go_sem] def l133_1 (_ : Unit) : KL := [kA 3 (.mv (.t 0)),
  kB 4 (.bin .geq (.t 3) (.c (.int .u32 65536))) [0, 2, 4]]
@[go_sem] def l133_2 (_ : Unit) : KL := [kA 5 (.mv (.t 0)),
  kA 6 (.bin .shr (.t 5) (.c (.int .u64 16))),
  kB 0 (.mv (.t 6)) [0]]
@[go_sem] def l133_3 (_ : Unit) : KL := [kB 2 (.mv (.c (.int .i64 16))) [0, 2]]
@[go_sem] def s133_4 (_ : Unit) : IR := (sQ [(kT l133_2), (kT l133_3)])
@[go_sem] def s133_5 (_ : Unit) : IR := (sQ [(kT l133_1), (.cond (.t 4) (tH s133_4) .skip)])
@[go_sem] def l133_6 (_ : Unit) : KL := [kA 7 (.mv (.t 0)),
  kB 8 (.bin .geq (.t 7) (.c (.int .u32 256))) [0, 2, 8]]
@[go_sem] def l133_7 (_ : Unit) : KL := [kA 9 (.mv (.t 0)),
  kA 10 (.bin .shr (.t 9) (.c (.int .u64 8))),
  kB 0 (.mv (.t 10)) [0, 2]]
@[go_sem] def l133_8 (_ : Unit) : KL := [kA 11 (.mv (.t 2)),
  kA 12 (.bin .add (.t 11) (.c (.int .i64 8))),
  kB 2 (.mv (.t 12)) [0, 2]]
@[go_sem] def s133_9 (_ : Unit) : IR := (sQ [(kT l133_7), (kT l133_8)])
@[go_sem] def s133_10 (_ : Unit) : IR := (sQ [(kT l133_6), (.cond (.t 8) (tH s133_9) .skip)])
@[go_sem] def l133_11 (_ : Unit) : KL := [kA 13 (.mv (.t 2)),
  kA 14 (.mv (.t 0)),
  kA 15 (.cvi .u8 (.t 14)),
  kA 16 (.sidx (.c (.str ⟨#[0, 1, 2, 2, 3, 3, 3, 3, 4, 4, 4, 4, 4, 4, 4, 4, 5, 5, 5, 5, 5, 5, 5, 5, 5, 5, 5, 5, 5, 5, 5, 5, 6, 6, 6, 6, 6, 6, 6, 6, 6, 6, 6, 6, 6, 6, 6, 6, 6, 6, 6, 6, 6, 6, 6, 6, 6, 6, 6, 6, 6, 6, 6, 6, 7, 7, 7, 7, 7, 7, 7, 7, 7, 7, 7, 7, 7, 7, 7, 7, 7, 7, 7, 7, 7, 7, 7, 7, 7, 7, 7, 7, 7, 7, 7, 7, 7, 7, 7, 7, 7, 7, 7, 7, 7, 7, 7, 7, 7, 7, 7, 7, 7, 7, 7, 7, 7, 7, 7, 7, 7, 7, 7, 7, 7, 7, 7, 7, 8, 8, 8, 8, 8, 8, 8, 8, 8, 8, 8, 8, 8, 8, 8, 8, 8, 8, 8, 8, 8, 8, 8, 8, 8, 8, 8, 8, 8, 8, 8, 8, 8, 8, 8, 8, 8, 8, 8, 8, 8, 8, 8, 8, 8, 8, 8, 8, 8, 8, 8, 8, 8, 8, 8, 8, 8, 8, 8, 8, 8, 8, 8, 8, 8, 8, 8, 8, 8, 8, 8, 8, 8, 8, 8, 8, 8, 8, 8, 8, 8, 8, 8, 8, 8, 8, 8, 8, 8, 8, 8, 8, 8, 8, 8, 8, 8, 8, 8, 8, 8, 8, 8, 8, 8, 8, 8, 8, 8, 8, 8, 8, 8, 8, 8, 8, 8, 8, 8, 8, 8, 8, 8, 8, 8, 8, 8, 8]⟩)) (.t 15)),
  kB 17 (.cvi .i64 (.t 16)) [13, 17],
  kA 18 (.bin .add (.t 13) (.t 17)),
  kB 2 (.mv (.t 18)) [2]]
@[go_sem] def s133_12 (_ : Unit) : IR := (sQ [(kT l133_0), (tH s133_5), (tH s133_10), (kT l133_11), .ret])
@[go_sem] def l134_0 (_ : Unit) : KL := [kB 2 (.mv (cI 0)) [0, 2]]
@[go_sem] def l134_1 (_ : Unit) : KL := [kA 3 (.mv (.t 0)),
  kB 4 (.bin .geq (.t 3) (.c (.int .u64 4294967296))) [0, 2, 4]]
@[go_sem] def l134_2 (_ : Unit) : KL := [kA 5 (.mv (.t 0)),
  kA 6 (.bin .shr (.t 5) (.c (.int .u64 32))),
  kB 0 (.mv (.t 6)) [0]]
@[go_sem] def l134_3 (_ : Unit) : KL := [kB 2 (.mv (.c (.int .i64 32))) [0, 2]]
@[go_sem] def s134_4 (_ : Unit) : IR := (sQ [(kT l134_2), (kT l134_3)])
@[go_sem] def s134_5 (_ : Unit) : IR := (sQ [(kT l134_1), (.cond (.t 4) (tH s134_4) .skip)])
@[go_sem] def l134_6 (_ : Unit) : KL := [kA 7 (.mv (.t 0)),
  kB 8 (.bin .geq (.t 7) (.c (.int .u64 65536))) [0, 2, 8]]
@[go_sem] def l134_7 (_ : Unit) : KL := [kA 9 (.mv (.t 0)),
  kA 10 (.bin .shr (.t 9) (.c (.int .u64 16))),
  kB 0 (.mv (.t 10)) [0, 2]]
@[go_sem] def l134_8 (_ : Unit) : KL := [kA 11 (.mv (.t 2)),
  kA 12 (.bin .add (.t 11) (.c (.int .i64 16))),
  kB 2 (.mv (.t 12)) [0, 2]]
@[go_sem] def s134_9 (_ : Unit) : IR := (sQ [(kT l134_7), (kT l134_8)])
@[go_sem] def s134_10 (_ : Unit) : IR := (sQ [(kT l134_6), (.cond (.t 8) (tH s134_9) .skip)])
@[go_sem] def l134_11 (_ : Unit) : KL := [kA 13 (.mv (.t 0)),
  kB 14 (.bin .geq (.t 13) (.c (.int .u64 256))) [0, 2, 14]]
@[go_sem] def l134_12 (_ : Unit) : KL := [kA 15 (.mv (.t 0)),
  kA 16 (.bin .shr (.t 15) (.c (.int .u64 8))),
  kB 0 (.mv (.t 16)) [0, 2]]
@[go_sem] def l134_13 (_ : Unit) : KL := [kA 17 (.mv (.t 2)),
  kA 18 (.bin .add (.t 17) (.c (.int .i64 8))),
  kB 2 (.mv (.t 18)) [0, 2]]
@[go_sem] def s134_14 (_ : Unit) : IR := (sQ [(kT l134_12), (kT l134_13)])
@[go_sem] def s134_15 (_ : Unit) : IR := (sQ [(kT l134_11), (.cond (.t 14) (tH s134_14) .skip)])
@[go_sem] def l134_16 (_ : Unit) : KL := [kA 19 (.mv (.t 2)),
  kA 20 (.mv (.t 0)),
  kA 21 (.cvi .u8 (.t 20)),
  kA 22 (.sidx (.c (.str ⟨#[0, 1, 2, 2, 3, 3, 3, 3, 4, 4, 4, 4, 4, 4, 4, 4, 5, 5, 5, 5, 5, 5, 5, 5, 5, 5, 5, 5, 5, 5, 5, 5, 6, 6, 6, 6, 6, 6, 6, 6, 6, 6, 6, 6, 6, 6, 6, 6, 6, 6, 6, 6, 6, 6, 6, 6, 6, 6, 6, 6, 6, 6, 6, 6, 7, 7, 7, 7, 7, 7, 7, 7, 7, 7, 7, 7, 7, 7, 7, 7, 7, 7, 7, 7, 7, 7, 7, 7, 7, 7, 7, 7, 7, 7, 7, 7, 7, 7, 7, 7, 7, 7, 7, 7, 7, 7, 7, 7, 7, 7, 7, 7, 7, 7, 7, 7, 7, 7, 7, 7, 7, 7, 7, 7, 7, 7, 7, 7, 8, 8, 8, 8, 8, 8, 8, 8, 8, 8, 8, 8, 8, 8, 8, 8, 8, 8, 8, 8, 8, 8, 8, 8, 8, 8, 8, 8, 8, 8, 8, 8, 8, 8, 8, 8, 8, 8, 8, 8, 8, 8, 8, 8, 8, 8, 8, 8, 8, 8, 8, 8, 8, 8, 8, 8, 8, 8, 8, 8, 8, 8, 8, 8, 8, 8, 8, 8, 8, 8, 8, 8, 8, 8, 8, 8, 8, 8, 8, 8, 8, 8, 8, 8, 8, 8, 8, 8, 8, 8, 8, 8, 8, 8, 8, 8, 8, 8, 8, 8, 8, 8, 8, 8, 8, 8, 8, 8, 8, 8, 8, 8, 8, 8, 8, 8, 8, 8, 8, 8, 8, 8, 8, 8, 8, 8, 8, 8]⟩)) (.t 21)),
  kB 23 (.cvi .i64 (.t 22)) [19, 23],
  kA 24 (.bin .add (.t 19) (.t 23)),
  kB 2 (.mv (.t 24)) [2]]
@[go_sem] def s134_17 (_ : Unit) : IR := (sQ [(kT l134_0), (tH s134_5), (tH s134_10), (tH s134_15), (kT l134_16), .ret])
@[go_sem] def l112_0 (_ : Unit) : KL := [kB 2 (.mv (cI 0)) [0]]
@[go_sem] def l112_1 (_ : Unit) : KL := [kA 3 (.mv (.t 0)),
  kA 4 (.cvi .u32 (.t 3)),
  kA 5 (.call (n_math_bits_Len32) [(.t 4)]),
  kB 2 (.mv (.t 5)) [2]]
@[go_sem] def s112_2 (_ : Unit) : IR := (sQ [(kT l112_1), .ret])
@[go_sem] def l112_3 (_ : Unit) : KL := [kA 6 (.mv (.t 0)),
  kA 7 (.call (n_math_bits_Len64) [(.t 6)]),
  kB 2 (.mv (.t 7)) [2]]
@[go_sem] def s112_4 (_ : Unit) : IR := (sQ [(kT l112_0), (.cond (.c (.bool false)) (tH s112_2) .skip), (kT l112_3), .ret])
@[go_sem] def l137_0 (_ : Unit) : KL := [kB 2 (.mv (.c (.bool false))) [0]]
@[go_sem] def l137_1 (_ : Unit) : KL := [kA 3 (.mv (.t 0)),
  kA 4 (.mv (.t 0)),
  kA 5 (.bin .neq (.t 3) (.t 4)),
  kB 2 (.mv (.t 5)) [2]]
@[go_sem] def s137_2 (_ : Unit) : IR := (sQ [(kT l137_0), (kT l137_1), .ret])
@[go_sem] def l130_0 (_ : Unit) : KL := [kB 4 (.mv (.c (.bool false))) [0, 1]]
@[go_sem] def l130_1 (_ : Unit) : KL := [kA 5 (.mv (.t 0)),
  kA 6 (.call (n_cmp_isNaN_int) [(.t 5)]),
  kA 7 (.mv (.t 6)),
  (⟨(some 8), .mv (.t 1), (some (7, true))⟩, none),
  (⟨(some 9), .call (n_cmp_isNaN_int) [(.t 8)], (some (7, true))⟩, (some [0, 1, 7, 9])),
  (⟨(some 10), .un .not (.t 9), (some (7, true))⟩, none),
  kA 11 (.pick (.t 7) (.t 10) (.c (.bool false))),
  kA 12 (.mv (.t 11)),
  (⟨(some 13), .mv (.t 0), (some (12, false))⟩, none),
  (⟨(some 14), .mv (.t 1), (some (12, false))⟩, (some [12, 13, 14])),
  (⟨(some 15), .bin .lss (.t 13) (.t 14), (some (12, false))⟩, none),
  kA 16 (.pick (.t 12) (.c (.bool true)) (.t 15)),
  kB 4 (.mv (.t 16)) [4]]
@[go_sem] def s130_2 (_ : Unit) : IR := (sQ [(kT l130_0), (kT l130_1), .ret])
@[go_sem] def l124_0 (_ : Unit) : KL := [kA 8 (.mv (.t 1)),
  kA 9 (.bin .add (.t 8) (cI 1)),
  kB 6 (.mv (.t 9)) [0, 1, 2, 6]]
@[go_sem] def l124_1 (_ : Unit) : KL := [kA 10 (.mv (.t 6)),
  kA 11 (.mv (.t 2)),
  kB 12 (.bin .lss (.t 10) (.t 11)) [0, 1, 2, 6, 12]]
@[go_sem] def s124_2 (_ : Unit) : IR := (sQ [(kT l124_1), (.cond (.t 12) .skip (.exit 0))])
@[go_sem] def l124_3 (_ : Unit) : KL := [kA 15 (.mv (.t 6)),
  kB 7 (.mv (.t 15)) [0, 1, 2, 6, 7]]
@[go_sem] def l124_4 : Nat → GOp
  | 0 => ⟨(some 16), .mv (.t 7), none⟩
  | 1 => ⟨(some 17), .mv (.t 1), none⟩
  | 2 => ⟨(some 18), .bin .gtr (.t 16) (.t 17), none⟩
  | 3 => ⟨(some 19), .mv (.t 18), none⟩
  | 4 => ⟨(some 20), .mv (.t 0), (some (19, true))⟩
  | 5 => ⟨(some 21), .mv (.t 7), (some (19, true))⟩
  | 6 => ⟨(some 22), .iaddr (.t 20) (.t 21) 1, (some (19, true))⟩
  | 7 => ⟨(some 23), .load (.t 22) 1 false, (some (19, true))⟩
  | 8 => ⟨(some 24), .mv (.t 0), (some (19, true))⟩
  | 9 => ⟨(some 25), .mv (.t 7), (some (19, true))⟩
  | 10 => ⟨(some 26), .bin .sub (.t 25) (cI 1), (some (19, true))⟩
  | 11 => ⟨(some 27), .iaddr (.t 24) (.t 26) 1, (some (19, true))⟩
  | 12 => ⟨(some 28), .load (.t 27) 1 false, (some (19, true))⟩
  | 13 => ⟨(some 29), .call (n_cmp_Less_int) [(.t 23), (.t 28)], (some (19, true))⟩
  | 14 => ⟨(some 30), .pick (.t 19) (.t 29) (.c (.bool false)), none⟩
  | _ => ⟨none, .mkmap, none⟩
@[go_sem] def s124_5 (_ : Unit) : IR := (sQ [(.kd (oF l124_4 15) [(0, []), (1, []), (2, []), (3, []), (4, []), (5, []), (6, []), (7, []), (8, []), (9, []), (10, []), (11, []), (12, []), (13, []), (14, [])] [0, 1, 2, 6, 7, 30]), (.cond (.t 30) .skip (.exit 2))])
@[go_sem] def l124_6 : Nat → GOp
  | 0 => ⟨(some 33), .mv (.t 0), none⟩
  | 1 => ⟨(some 34), .mv (.t 7), none⟩
  | 2 => ⟨(some 35), .mv (.t 0), none⟩
  | 3 => ⟨(some 36), .mv (.t 7), none⟩
  | 4 => ⟨(some 37), .bin .sub (.t 36) (cI 1), none⟩
  | 5 => ⟨(some 38), .mv (.t 0), none⟩
  | 6 => ⟨(some 39), .mv (.t 7), none⟩
  | 7 => ⟨(some 40), .bin .sub (.t 39) (cI 1), none⟩
  | 8 => ⟨(some 41), .iaddr (.t 38) (.t 40) 1, none⟩
  | 9 => ⟨(some 42), .load (.t 41) 1 false, none⟩
  | 10 => ⟨(some 43), .mv (.t 0), none⟩
  | 11 => ⟨(some 44), .mv (.t 7), none⟩
  | 12 => ⟨(some 45), .iaddr (.t 43) (.t 44) 1, none⟩
  | 13 => ⟨(some 46), .load (.t 45) 1 false, none⟩
  | 14 => ⟨(some 47), .iaddr (.t 33) (.t 34) 1, none⟩
  | 15 => ⟨none, .store (.t 47) 1 (.t 42), none⟩
  | 16 => ⟨(some 48), .iaddr (.t 35) (.t 37) 1, none⟩
  | 17 => ⟨none, .store (.t 48) 1 (.t 46), none⟩
  | _ => ⟨none, .mkmap, none⟩
@[go_sem] def s124_7 (_ : Unit) : IR := (.block 3 (.kd (oF l124_6 18) [(0, []), (1, []), (2, []), (3, []), (4, []), (5, []), (6, []), (7, []), (8, []), (9, []), (10, []), (11, []), (12, []), (13, []), (14, []), (15, []), (16, []), (17, [])] [0, 1, 2, 6, 7]))
@[go_sem] def l124_8 (_ : Unit) : KL := [kA 31 (.mv (.t 7)),
  kA 32 (.bin .sub (.t 31) (cI 1)),
  kB 7 (.mv (.t 32)) [0, 1, 2, 6, 7]]
@[go_sem] def s124_9 (_ : Unit) : IR := (sQ [(tH s124_5), (tH s124_7), (kT l124_8)])
@[go_sem] def s124_10 (_ : Unit) : IR := (.loop (tH s124_9))
@[go_sem] def s124_11 (_ : Unit) : IR := (.block 2 (tH s124_10))
@[go_sem] def s124_12 (_ : Unit) : IR := (sQ [(kT l124_3), (tH s124_11)])
@[go_sem] def s124_13 (_ : Unit) : IR := (.block 1 (tH s124_12))
@[go_sem] def l124_14 (_ : Unit) : KL := [kA 13 (.mv (.t 6)),
  kA 14 (.bin .add (.t 13) (cI 1)),
  kB 6 (.mv (.t 14)) [0, 1, 2, 6]]
@[go_sem] def s124_15 (_ : Unit) : IR := (sQ [(tH s124_2), (tH s124_13), (kT l124_14)])
@[go_sem] def s124_16 (_ : Unit) : IR := (.loop (tH s124_15))
@[go_sem] def s124_17 (_ : Unit) : IR := (.block 0 (tH s124_16))
@[go_sem] def s124_18 (_ : Unit) : IR := (sQ [(kT l124_0), (tH s124_17)])
@[go_sem] def l145_0 (_ : Unit) : KL := [kA 10 (.mv (.t 1)),
  kB 8 (.mv (.t 10)) [0, 2, 3, 8]]
@[go_sem] def l145_1 (_ : Unit) : KL := [kA 11 (.mv (.t 8)),
  kA 12 (.bin .mul (.c (.int .i64 2)) (.t 11)),
  kA 13 (.bin .add (.t 12) (cI 1)),
  kB 9 (.mv (.t 13)) [0, 2, 3, 8, 9]]
@[go_sem] def l145_2 (_ : Unit) : KL := [kA 14 (.mv (.t 9)),
  kA 15 (.mv (.t 2)),
  kB 16 (.bin .geq (.t 14) (.t 15)) [0, 2, 3, 8, 9, 16]]
@[go_sem] def s145_3 (_ : Unit) : IR := (sQ [(kT l145_2), (.cond (.t 16) (.exit 0) .skip)])
@[go_sem] def l145_4 : Nat → GOp
  | 0 => ⟨(some 17), .mv (.t 9), none⟩
  | 1 => ⟨(some 18), .bin .add (.t 17) (cI 1), none⟩
  | 2 => ⟨(some 19), .mv (.t 2), none⟩
  | 3 => ⟨(some 20), .bin .lss (.t 18) (.t 19), none⟩
  | 4 => ⟨(some 21), .mv (.t 20), none⟩
  | 5 => ⟨(some 22), .mv (.t 0), (some (21, true))⟩
  | 6 => ⟨(some 23), .mv (.t 3), (some (21, true))⟩
  | 7 => ⟨(some 24), .mv (.t 9), (some (21, true))⟩
  | 8 => ⟨(some 25), .bin .add (.t 23) (.t 24), (some (21, true))⟩
  | 9 => ⟨(some 26), .iaddr (.t 22) (.t 25) 1, (some (21, true))⟩
  | 10 => ⟨(some 27), .load (.t 26) 1 false, (some (21, true))⟩
  | 11 => ⟨(some 28), .mv (.t 0), (some (21, true))⟩
  | 12 => ⟨(some 29), .mv (.t 3), (some (21, true))⟩
  | 13 => ⟨(some 30), .mv (.t 9), (some (21, true))⟩
  | 14 => ⟨(some 31), .bin .add (.t 29) (.t 30), (some (21, true))⟩
  | 15 => ⟨(some 32), .bin .add (.t 31) (cI 1), (some (21, true))⟩
  | 16 => ⟨(some 33), .iaddr (.t 28) (.t 32) 1, (some (21, true))⟩
  | 17 => ⟨(some 34), .load (.t 33) 1 false, (some (21, true))⟩
  | 18 => ⟨(some 35), .call (n_cmp_Less_int) [(.t 27), (.t 34)], (some (21, true))⟩
  | 19 => ⟨(some 36), .pick (.t 21) (.t 35) (.c (.bool false)), none⟩
  | _ => ⟨none, .mkmap, none⟩
@[go_sem] def l145_5 (_ : Unit) : KL := [kA 37 (.mv (.t 9)),
  kA 38 (.bin .add (.t 37) (cI 1)),
  kB 9 (.mv (.t 38)) [0, 2, 3, 8, 9]]
@[go_sem] def s145_6 (_ : Unit) : IR := (sQ [(.kd (oF l145_4 20) [(0, []), (1, []), (2, []), (3, []), (4, []), (5, []), (6, []), (7, []), (8, []), (9, []), (10, []), (11, []), (12, []), (13, []), (14, []), (15, []), (16, []), (17, []), (18, []), (19, [])] [0, 2, 3, 8, 9, 36]), (.cond (.t 36) (kT l145_5) .skip)])
@[go_sem] def l145_7 : Nat → GOp
  | 0 => ⟨(some 39), .mv (.t 0), none⟩
  | 1 => ⟨(some 40), .mv (.t 3), none⟩
  | 2 => ⟨(some 41), .mv (.t 8), none⟩
  | 3 => ⟨(some 42), .bin .add (.t 40) (.t 41), none⟩
  | 4 => ⟨(some 43), .iaddr (.t 39) (.t 42) 1, none⟩
  | 5 => ⟨(some 44), .load (.t 43) 1 false, none⟩
  | 6 => ⟨(some 45), .mv (.t 0), none⟩
  | 7 => ⟨(some 46), .mv (.t 3), none⟩
  | 8 => ⟨(some 47), .mv (.t 9), none⟩
  | 9 => ⟨(some 48), .bin .add (.t 46) (.t 47), none⟩
  | 10 => ⟨(some 49), .iaddr (.t 45) (.t 48) 1, none⟩
  | 11 => ⟨(some 50), .load (.t 49) 1 false, none⟩
  | 12 => ⟨(some 51), .call (n_cmp_Less_int) [(.t 44), (.t 50)], none⟩
  | 13 => ⟨(some 52), .un .not (.t 51), none⟩
  | _ => ⟨none, .mkmap, none⟩
@[go_sem] def s145_8 (_ : Unit) : IR := (sQ [(.kd (oF l145_7 14) [(0, []), (1, []), (2, []), (3, []), (4, []), (5, []), (6, []), (7, []), (8, []), (9, []), (10, []), (11, []), (12, []), (13, [])] [0, 2, 3, 8, 9, 52]), (.cond (.t 52) .ret .skip)])
@[go_sem] def l145_9 : Nat → GOp
  | 0 => ⟨(some 53), .mv (.t 0), none⟩
  | 1 => ⟨(some 54), .mv (.t 3), none⟩
  | 2 => ⟨(some 55), .mv (.t 8), none⟩
  | 3 => ⟨(some 56), .bin .add (.t 54) (.t 55), none⟩
  | 4 => ⟨(some 57), .mv (.t 0), none⟩
  | 5 => ⟨(some 58), .mv (.t 3), none⟩
  | 6 => ⟨(some 59), .mv (.t 9), none⟩
  | 7 => ⟨(some 60), .bin .add (.t 58) (.t 59), none⟩
  | 8 => ⟨(some 61), .mv (.t 0), none⟩
  | 9 => ⟨(some 62), .mv (.t 3), none⟩
  | 10 => ⟨(some 63), .mv (.t 9), none⟩
  | 11 => ⟨(some 64), .bin .add (.t 62) (.t 63), none⟩
  | 12 => ⟨(some 65), .iaddr (.t 61) (.t 64) 1, none⟩
  | 13 => ⟨(some 66), .load (.t 65) 1 false, none⟩
  | 14 => ⟨(some 67), .mv (.t 0), none⟩
  | 15 => ⟨(some 68), .mv (.t 3), none⟩
  | 16 => ⟨(some 69), .mv (.t 8), none⟩
  | 17 => ⟨(some 70), .bin .add (.t 68) (.t 69), none⟩
  | 18 => ⟨(some 71), .iaddr (.t 67) (.t 70) 1, none⟩
  | 19 => ⟨(some 72), .load (.t 71) 1 false, none⟩
  | 20 => ⟨(some 73), .iaddr (.t 53) (.t 56) 1, none⟩
  | 21 => ⟨none, .store (.t 73) 1 (.t 66), none⟩
  | 22 => ⟨(some 74), .iaddr (.t 57) (.t 60) 1, none⟩
  | 23 => ⟨none, .store (.t 74) 1 (.t 72), none⟩
  | _ => ⟨none, .mkmap, none⟩
@[go_sem] def l145_10 (_ : Unit) : KL := [kA 75 (.mv (.t 9)),
  kB 8 (.mv (.t 75)) [0, 2, 3, 8]]
@[go_sem] def s145_11 (_ : Unit) : IR := (sQ [(kT l145_1), (tH s145_3), (tH s145_6), (tH s145_8), (.kd (oF l145_9 24) [(0, []), (1, []), (2, []), (3, []), (4, []), (5, []), (6, []), (7, []), (8, []), (9, []), (10, []), (11, []), (12, []), (13, []), (14, []), (15, []), (16, []), (17, []), (18, []), (19, []), (20, []), (21, []), (22, []), (23, [])] [0, 2, 3, 9]), (kT l145_10)])
@[go_sem] def s145_12 (_ : Unit) : IR := (.block 1 (tH s145_11))
@[go_sem] def s145_13 (_ : Unit) : IR := (.loop (tH s145_12))
@[go_sem] def s145_14 (_ : Unit) : IR := (.block 0 (tH s145_13))
@[go_sem] def s145_15 (_ : Unit) : IR := (sQ [(kT l145_0), (tH s145_14)])
@[go_sem] def l125_0 (_ : Unit) : KL := [kA 11 (.mv (.t 1)),
  kB 6 (.mv (.t 11)) [0, 1, 2, 6]]
@[go_sem] def l125_1 (_ : Unit) : KL := [kB 7 (.mv (cI 0)) [0, 1, 2, 6, 7]]
@[go_sem] def l125_2 (_ : Unit) : KL := [kA 12 (.mv (.t 2)),
  kA 13 (.mv (.t 1)),
  kA 14 (.bin .sub (.t 12) (.t 13)),
  kB 8 (.mv (.t 14)) [0, 6, 7, 8]]
@[go_sem] def l125_3 (_ : Unit) : KL := [kA 15 (.mv (.t 8)),
  kA 16 (.bin .sub (.t 15) (cI 1)),
  kA 17 (.bin .quo (.t 16) (.c (.int .i64 2))),
  kB 9 (.mv (.t 17)) [0, 6, 7, 8, 9]]
@[go_sem] def l125_4 (_ : Unit) : KL := [kA 18 (.mv (.t 9)),
  kB 19 (.bin .geq (.t 18) (cI 0)) [0, 6, 7, 8, 9, 19]]
@[go_sem] def s125_5 (_ : Unit) : IR := (sQ [(kT l125_4), (.cond (.t 19) .skip (.exit 0))])
@[go_sem] def l125_6 (_ : Unit) : KL := [kA 22 (.mv (.t 0)),
  kA 23 (.mv (.t 9)),
  kA 24 (.mv (.t 8)),
  kA 25 (.mv (.t 6)),
  kB 26 (.call (n_slices_siftDownOrdered_int) [(.t 22), (.t 23), (.t 24), (.t 25)]) [0, 6, 7, 8, 9]]
@[go_sem] def s125_7 (_ : Unit) : IR := (.block 1 (kT l125_6))
@[go_sem] def l125_8 (_ : Unit) : KL := [kA 20 (.mv (.t 9)),
  kA 21 (.bin .sub (.t 20) (cI 1)),
  kB 9 (.mv (.t 21)) [0, 6, 7, 8, 9]]
@[go_sem] def s125_9 (_ : Unit) : IR := (sQ [(tH s125_5), (tH s125_7), (kT l125_8)])
@[go_sem] def s125_10 (_ : Unit) : IR := (.loop (tH s125_9))
@[go_sem] def s125_11 (_ : Unit) : IR := (.block 0 (tH s125_10))
@[go_sem] def s125_12 (_ : Unit) : IR := (sQ [(kT l125_3), (tH s125_11)])
@[go_sem] def l125_13 (_ : Unit) : KL := [kA 27 (.mv (.t 8)),
  kA 28 (.bin .sub (.t 27) (cI 1)),
  kB 10 (.mv (.t 28)) [0, 6, 7, 10]]
@[go_sem] def l125_14 (_ : Unit) : KL := [kA 29 (.mv (.t 10)),
  kB 30 (.bin .geq (.t 29) (cI 0)) [0, 6, 7, 10, 30]]
@[go_sem] def s125_15 (_ : Unit) : IR := (sQ [(kT l125_14), (.cond (.t 30) .skip (.exit 2))])
@[go_sem] def l125_16 : Nat → GOp
  | 0 => ⟨(some 33), .mv (.t 0), none⟩
  | 1 => ⟨(some 34), .mv (.t 6), none⟩
  | 2 => ⟨(some 35), .mv (.t 0), none⟩
  | 3 => ⟨(some 36), .mv (.t 6), none⟩
  | 4 => ⟨(some 37), .mv (.t 10), none⟩
  | 5 => ⟨(some 38), .bin .add (.t 36) (.t 37), none⟩
  | 6 => ⟨(some 39), .mv (.t 0), none⟩
  | 7 => ⟨(some 40), .mv (.t 6), none⟩
  | 8 => ⟨(some 41), .mv (.t 10), none⟩
  | 9 => ⟨(some 42), .bin .add (.t 40) (.t 41), none⟩
  | 10 => ⟨(some 43), .iaddr (.t 39) (.t 42) 1, none⟩
  | 11 => ⟨(some 44), .load (.t 43) 1 false, none⟩
  | 12 => ⟨(some 45), .mv (.t 0), none⟩
  | 13 => ⟨(some 46), .mv (.t 6), none⟩
  | 14 => ⟨(some 47), .iaddr (.t 45) (.t 46) 1, none⟩
  | 15 => ⟨(some 48), .load (.t 47) 1 false, none⟩
  | 16 => ⟨(some 49), .iaddr (.t 33) (.t 34) 1, none⟩
  | 17 => ⟨none, .store (.t 49) 1 (.t 44), none⟩
  | 18 => ⟨(some 50), .iaddr (.t 35) (.t 38) 1, none⟩
  | 19 => ⟨none, .store (.t 50) 1 (.t 48), none⟩
  | _ => ⟨none, .mkmap, none⟩
@[go_sem] def l125_17 (_ : Unit) : KL := [kA 51 (.mv (.t 0)),
  kA 52 (.mv (.t 7)),
  kA 53 (.mv (.t 10)),
  kA 54 (.mv (.t 6)),
  kB 55 (.call (n_slices_siftDownOrdered_int) [(.t 51), (.t 52), (.t 53), (.t 54)]) [0, 6, 7, 10]]
@[go_sem] def s125_18 (_ : Unit) : IR := (sQ [(.kd (oF l125_16 20) [(0, []), (1, []), (2, []), (3, []), (4, []), (5, []), (6, []), (7, []), (8, []), (9, []), (10, []), (11, []), (12, []), (13, []), (14, []), (15, []), (16, []), (17, []), (18, []), (19, [])] [0, 6, 7, 10]), (kT l125_17)])
@[go_sem] def s125_19 (_ : Unit) : IR := (.block 3 (tH s125_18))
@[go_sem] def l125_20 (_ : Unit) : KL := [kA 31 (.mv (.t 10)),
  kA 32 (.bin .sub (.t 31) (cI 1)),
  kB 10 (.mv (.t 32)) [0, 6, 7, 10]]
@[go_sem] def s125_21 (_ : Unit) : IR := (sQ [(tH s125_15), (tH s125_19), (kT l125_20)])
@[go_sem] def s125_22 (_ : Unit) : IR := (.loop (tH s125_21))
@[go_sem] def s125_23 (_ : Unit) : IR := (.block 2 (tH s125_22))
@[go_sem] def s125_24 (_ : Unit) : IR := (sQ [(kT l125_0), (kT l125_1), (kT l125_2), (tH s125_12), (kT l125_13), (tH s125_23)])
@[go_sem] def l146_0 (_ : Unit) : KL := [kB 2 (.mv (.c (.int .u64 0))) [0]]
@[go_sem] def l146_1 (_ : Unit) : KL := [kA 3 (.mv (.t 0)),
  kA 4 (.cvi .u64 (.t 3)),
  kA 5 (.call (n_math_bits_Len) [(.t 4)]),
  kA 6 (.bin .shl (.c (.int .u64 1)) (.t 5)),
  kB 2 (.mv (.t 6)) [2]]
@[go_sem] def s146_2 (_ : Unit) : IR := (sQ [(kT l146_0), (kT l146_1), .ret])
@[go_sem] def l147_0 (_ : Unit) : KL := [kB 2 (.mv (.c (.int .u64 0))) [0]]
@[go_sem] def l147_1 : Nat → GOp
  | 0 => ⟨(some 3), .mv (.t 0), none⟩
  | 1 => ⟨(some 4), .nilck (.t 3), none⟩
  | 2 => ⟨(some 5), .load (.t 4) 1 false, none⟩
  | 3 => ⟨(some 6), .mv (.t 0), none⟩
  | 4 => ⟨(some 7), .nilck (.t 6), none⟩
  | 5 => ⟨(some 8), .load (.t 7) 1 false, none⟩
  | 6 => ⟨(some 9), .bin .shl (.t 8) (.c (.int .u64 13)), none⟩
  | 7 => ⟨(some 10), .bin .xor (.t 5) (.t 9), none⟩
  | 8 => ⟨(some 11), .nilck (.t 3), none⟩
  | 9 => ⟨none, .store (.t 11) 1 (.t 10), none⟩
  | _ => ⟨none, .mkmap, none⟩
@[go_sem] def l147_2 : Nat → GOp
  | 0 => ⟨(some 12), .mv (.t 0), none⟩
  | 1 => ⟨(some 13), .nilck (.t 12), none⟩
  | 2 => ⟨(some 14), .load (.t 13) 1 false, none⟩
  | 3 => ⟨(some 15), .mv (.t 0), none⟩
  | 4 => ⟨(some 16), .nilck (.t 15), none⟩
  | 5 => ⟨(some 17), .load (.t 16) 1 false, none⟩
  | 6 => ⟨(some 18), .bin .shr (.t 17) (.c (.int .u64 7)), none⟩
  | 7 => ⟨(some 19), .bin .xor (.t 14) (.t 18), none⟩
  | 8 => ⟨(some 20), .nilck (.t 12), none⟩
  | 9 => ⟨none, .store (.t 20) 1 (.t 19), none⟩
  | _ => ⟨none, .mkmap, none⟩
@[go_sem] def l147_3 : Nat → GOp
  | 0 => ⟨(some 21), .mv (.t 0), none⟩
  | 1 => ⟨(some 22), .nilck (.t 21), none⟩
  | 2 => ⟨(some 23), .load (.t 22) 1 false, none⟩
  | 3 => ⟨(some 24), .mv (.t 0), none⟩
  | 4 => ⟨(some 25), .nilck (.t 24), none⟩
  | 5 => ⟨(some 26), .load (.t 25) 1 false, none⟩
  | 6 => ⟨(some 27), .bin .shl (.t 26) (.c (.int .u64 17)), none⟩
  | 7 => ⟨(some 28), .bin .xor (.t 23) (.t 27), none⟩
  | 8 => ⟨(some 29), .nilck (.t 21), none⟩
  | 9 => ⟨none, .store (.t 29) 1 (.t 28), none⟩
  | _ => ⟨none, .mkmap, none⟩
@[go_sem] def l147_4 (_ : Unit) : KL := [kA 30 (.mv (.t 0)),
  kA 31 (.nilck (.t 30)),
  kA 32 (.load (.t 31) 1 false),
  kB 2 (.mv (.t 32)) [2]]
@[go_sem] def s147_5 (_ : Unit) : IR := (sQ [(kT l147_0), (.kd (oF l147_1 10) [(0, []), (1, []), (2, []), (3, []), (4, []), (5, []), (6, []), (7, []), (8, []), (9, [])] [0]), (.kd (oF l147_2 10) [(0, []), (1, []), (2, []), (3, []), (4, []), (5, []), (6, []), (7, []), (8, []), (9, [])] [0]), (.kd (oF l147_3 10) [(0, []), (1, []), (2, []), (3, []), (4, []), (5, []), (6, []), (7, []), (8, []), (9, [])] [0]), (kT l147_4), .ret])
@[go_sem] def l126_0 (_ : Unit) : KL := [kA 11 (.mv (.t 2)),
  kA 12 (.mv (.t 1)),
  kA 13 (.bin .sub (.t 11) (.t 12)),
  kB 6 (.mv (.t 13)) [0, 1, 6]]
@[go_sem] def l126_1 (_ : Unit) : KL := [kA 14 (.mv (.t 6)),
  kB 15 (.bin .geq (.t 14) (.c (.int .i64 8))) [0, 1, 6, 15]]
@[go_sem] def l126_2 (_ : Unit) : KL := [kA 16 (.mv (.t 6)),
  kA 17 (.cvi .u64 (.t 16)),
  kA 7 (.alloc [(.int .u64 0)]),
  (⟨none, .store (.t 7) 1 (.t 17), none⟩, (some [0, 1, 6, 7]))]
@[go_sem] def l126_3 (_ : Unit) : KL := [kA 18 (.mv (.t 6)),
  kA 19 (.call (n_slices_nextPowerOfTwo) [(.t 18)]),
  kB 8 (.mv (.t 19)) [0, 1, 6, 7, 8]]
@[go_sem] def l126_4 (_ : Unit) : KL := [kA 20 (.mv (.t 1)),
  kA 21 (.mv (.t 6)),
  kA 22 (.bin .quo (.t 21) (.c (.int .i64 4))),
  kA 23 (.bin .mul (.t 22) (.c (.int .i64 2))),
  kB 24 (.bin .add (.t 20) (.t 23)) [0, 1, 6, 7, 8, 24],
  kA 25 (.bin .sub (.t 24) (cI 1)),
  kB 9 (.mv (.t 25)) [0, 1, 6, 7, 8, 9]]
@[go_sem] def l126_5 (_ : Unit) : KL := [kA 26 (.mv (.t 9)),
  kA 27 (.mv (.t 1)),
  kA 28 (.mv (.t 6)),
  kA 29 (.bin .quo (.t 28) (.c (.int .i64 4))),
  kB 30 (.bin .mul (.t 29) (.c (.int .i64 2))) [0, 1, 6, 7, 8, 9, 26, 27, 30],
  kA 31 (.bin .add (.t 27) (.t 30)),
  kA 32 (.bin .add (.t 31) (cI 1)),
  kB 33 (.bin .leq (.t 26) (.t 32)) [0, 1, 6, 7, 8, 9, 33]]
@[go_sem] def s126_6 (_ : Unit) : IR := (sQ [(kT l126_5), (.cond (.t 33) .skip (.exit 0))])
@[go_sem] def l126_7 (_ : Unit) : KL := [kA 36 (.call (n_slices_xorshift_Next) [(.t 7)]),
  kA 37 (.mv (.t 8)),
  kA 38 (.bin .sub (.t 37) (.c (.int .u64 1))),
  kA 39 (.bin .and (.t 36) (.t 38)),
  kB 40 (.cvi .i64 (.t 39)) [0, 1, 6, 7, 8, 9, 40],
  kB 10 (.mv (.t 40)) [0, 1, 6, 7, 8, 9, 10]]
@[go_sem] def l126_8 (_ : Unit) : KL := [kA 41 (.mv (.t 10)),
  kA 42 (.mv (.t 6)),
  kB 43 (.bin .geq (.t 41) (.t 42)) [0, 1, 6, 7, 8, 9, 10, 43]]
@[go_sem] def l126_9 (_ : Unit) : KL := [kA 44 (.mv (.t 10)),
  kA 45 (.mv (.t 6)),
  kA 46 (.bin .sub (.t 44) (.t 45)),
  kB 10 (.mv (.t 46)) [0, 1, 6, 7, 8, 9, 10]]
@[go_sem] def s126_10 (_ : Unit) : IR := (sQ [(kT l126_8), (.cond (.t 43) (kT l126_9) .skip)])
@[go_sem] def l126_11 : Nat → GOp
  | 0 => ⟨(some 47), .mv (.t 0), none⟩
  | 1 => ⟨(some 48), .mv (.t 9), none⟩
  | 2 => ⟨(some 49), .mv (.t 0), none⟩
  | 3 => ⟨(some 50), .mv (.t 1), none⟩
  | 4 => ⟨(some 51), .mv (.t 10), none⟩
  | 5 => ⟨(some 52), .bin .add (.t 50) (.t 51), none⟩
  | 6 => ⟨(some 53), .mv (.t 0), none⟩
  | 7 => ⟨(some 54), .mv (.t 1), none⟩
  | 8 => ⟨(some 55), .mv (.t 10), none⟩
  | 9 => ⟨(some 56), .bin .add (.t 54) (.t 55), none⟩
  | 10 => ⟨(some 57), .iaddr (.t 53) (.t 56) 1, none⟩
  | 11 => ⟨(some 58), .load (.t 57) 1 false, none⟩
  | 12 => ⟨(some 59), .mv (.t 0), none⟩
  | 13 => ⟨(some 60), .mv (.t 9), none⟩
  | 14 => ⟨(some 61), .iaddr (.t 59) (.t 60) 1, none⟩
  | 15 => ⟨(some 62), .load (.t 61) 1 false, none⟩
  | 16 => ⟨(some 63), .iaddr (.t 47) (.t 48) 1, none⟩
  | 17 => ⟨none, .store (.t 63) 1 (.t 58), none⟩
  | 18 => ⟨(some 64), .iaddr (.t 49) (.t 52) 1, none⟩
  | 19 => ⟨none, .store (.t 64) 1 (.t 62), none⟩
  | _ => ⟨none, .mkmap, none⟩
@[go_sem] def s126_12 (_ : Unit) : IR := (sQ [(kT l126_7), (tH s126_10), (.kd (oF l126_11 20) [(0, []), (1, []), (2, []), (3, []), (4, []), (5, []), (6, []), (7, []), (8, []), (9, []), (10, []), (11, []), (12, []), (13, []), (14, []), (15, []), (16, []), (17, []), (18, []), (19, [])] [0, 1, 6, 7, 8, 9])])
@[go_sem] def s126_13 (_ : Unit) : IR := (.block 1 (tH s126_12))
@[go_sem] def l126_14 (_ : Unit) : KL := [kA 34 (.mv (.t 9)),
  kA 35 (.bin .add (.t 34) (cI 1)),
  kB 9 (.mv (.t 35)) [0, 1, 6, 7, 8, 9]]
@[go_sem] def s126_15 (_ : Unit) : IR := (sQ [(tH s126_6), (tH s126_13), (kT l126_14)])
@[go_sem] def s126_16 (_ : Unit) : IR := (.loop (tH s126_15))
@[go_sem] def s126_17 (_ : Unit) : IR := (.block 0 (tH s126_16))
@[go_sem] def s126_18 (_ : Unit) : IR := (sQ [(kT l126_2), (kT l126_3), (kT l126_4), (tH s126_17)])
@[go_sem] def s126_19 (_ : Unit) : IR := (sQ [(kT l126_0), (kT l126_1), (.cond (.t 15) (tH s126_18) .skip)])
@[go_sem] def l156_0 (_ : Unit) : KL := [kA 8 (.mv (cI 0)),
  kB 9 (.mv (cI 0)) [0, 1, 2, 3]]
@[go_sem] def l156_1 : Nat → GOp
  | 0 => ⟨(some 10), .mv (.t 0), none⟩
  | 1 => ⟨(some 11), .mv (.t 2), none⟩
  | 2 => ⟨(some 12), .iaddr (.t 10) (.t 11) 1, none⟩
  | 3 => ⟨(some 13), .load (.t 12) 1 false, none⟩
  | 4 => ⟨(some 14), .mv (.t 0), none⟩
  | 5 => ⟨(some 15), .mv (.t 1), none⟩
  | 6 => ⟨(some 16), .iaddr (.t 14) (.t 15) 1, none⟩
  | 7 => ⟨(some 17), .load (.t 16) 1 false, none⟩
  | 8 => ⟨(some 18), .call (n_cmp_Less_int) [(.t 13), (.t 17)], none⟩
  | _ => ⟨none, .mkmap, none⟩
@[go_sem] def l156_2 (_ : Unit) : KL := [kA 19 (.mv (.t 3)),
  kA 20 (.nilck (.t 19)),
  kA 21 (.load (.t 20) 1 false),
  kA 22 (.bin .add (.t 21) (cI 1)),
  kB 23 (.nilck (.t 19)) [1, 2, 22, 23],
  (⟨none, .store (.t 23) 1 (.t 22), none⟩, (some [1, 2]))]
@[go_sem] def l156_3 (_ : Unit) : KL := [kA 24 (.mv (.t 2)),
  kA 25 (.mv (.t 1)),
  kA 8 (.mv (.t 24)),
  kB 9 (.mv (.t 25)) [8, 9]]
@[go_sem] def s156_4 (_ : Unit) : IR := (sQ [(kT l156_2), (kT l156_3), .ret])
@[go_sem] def s156_5 (_ : Unit) : IR := (sQ [(.kd (oF l156_1 9) [(0, []), (1, []), (2, []), (3, []), (4, []), (5, []), (6, []), (7, []), (8, [])] [1, 2, 3, 18]), (.cond (.t 18) (tH s156_4) .skip)])
@[go_sem] def l156_6 (_ : Unit) : KL := [kA 26 (.mv (.t 1)),
  kA 27 (.mv (.t 2)),
  kA 8 (.mv (.t 26)),
  kB 9 (.mv (.t 27)) [8, 9]]
@[go_sem] def s156_7 (_ : Unit) : IR := (sQ [(kT l156_0), (tH s156_5), (kT l156_6), .ret])
@[go_sem] def l149_0 (_ : Unit) : KL := [kB 10 (.mv (cI 0)) [0, 1, 2, 3, 4]]
@[go_sem] def l149_1 (_ : Unit) : KL := [kA 12 (.mv (.t 0)),
  kA 13 (.mv (.t 1)),
  kA 14 (.mv (.t 2)),
  kA 15 (.mv (.t 4)),
  kB 16 (.call (n_slices_order2Ordered_int) [(.t 12), (.t 13), (.t 14), (.t 15)]) [0, 3, 4, 16],
  kA 11 (.mv (.t 16)),
  kA 17 (.ext (.t 11) 0),
  kA 18 (.ext (.t 11) 1),
  kA 1 (.mv (.t 17)),
  kB 2 (.mv (.t 18)) [0, 1, 2, 3, 4]]
@[go_sem] def l149_2 (_ : Unit) : KL := [kA 20 (.mv (.t 0)),
  kA 21 (.mv (.t 2)),
  kA 22 (.mv (.t 3)),
  kA 23 (.mv (.t 4)),
  kB 24 (.call (n_slices_order2Ordered_int) [(.t 20), (.t 21), (.t 22), (.t 23)]) [0, 1, 4, 24],
  kA 19 (.mv (.t 24)),
  kA 25 (.ext (.t 19) 0),
  kA 26 (.ext (.t 19) 1),
  kA 2 (.mv (.t 25)),
  kB 3 (.mv (.t 26)) [0, 1, 2, 4]]
@[go_sem] def l149_3 (_ : Unit) : KL := [kA 28 (.mv (.t 0)),
  kA 29 (.mv (.t 1)),
  kA 30 (.mv (.t 2)),
  kA 31 (.mv (.t 4)),
  kB 32 (.call (n_slices_order2Ordered_int) [(.t 28), (.t 29), (.t 30), (.t 31)]) [32],
  kA 27 (.mv (.t 32)),
  kA 33 (.ext (.t 27) 0),
  kA 34 (.ext (.t 27) 1),
  kA 1 (.mv (.t 33)),
  kB 2 (.mv (.t 34)) [2]]
@[go_sem] def l149_4 (_ : Unit) : KL := [kA 35 (.mv (.t 2)),
  kB 10 (.mv (.t 35)) [10]]
@[go_sem] def s149_5 (_ : Unit) : IR := (sQ [(kT l149_0), (kT l149_1), (kT l149_2), (kT l149_3), (kT l149_4), .ret])
@[go_sem] def l148_0 (_ : Unit) : KL := [kB 6 (.mv (cI 0)) [0, 1, 2]]
@[go_sem] def l148_1 (_ : Unit) : KL := [kA 7 (.mv (.t 0)),
  kA 8 (.mv (.t 1)),
  kA 9 (.bin .sub (.t 8) (cI 1)),
  kA 10 (.mv (.t 1)),
  kB 11 (.mv (.t 1)) [2, 7, 9, 10, 11],
  kA 12 (.bin .add (.t 11) (cI 1)),
  kA 13 (.mv (.t 2)),
  kA 14 (.call (n_slices_medianOrdered_int) [(.t 7), (.t 9), (.t 10), (.t 12), (.t 13)]),
  kB 6 (.mv (.t 14)) [6]]
@[go_sem] def s148_2 (_ : Unit) : IR := (sQ [(kT l148_0), (kT l148_1), .ret])
@[go_sem] def l127_0 (_ : Unit) : KL := [kA 6 (.mv (cI 0)),
  kB 7 (.mv (cI 0)) [0, 1, 2]]
@[go_sem] def l127_1 (_ : Unit) : KL := [kA 13 (.mv (.t 2)),
  kA 14 (.mv (.t 1)),
  kA 15 (.bin .sub (.t 13) (.t 14)),
  kB 8 (.mv (.t 15)) [0, 1, 8]]
@[go_sem] def l127_2 (_ : Unit) : KL := [kB 9 (.alloc [(.int .i64 0)]) [0, 1, 8, 9]]
@[go_sem] def l127_3 (_ : Unit) : KL := [kA 16 (.mv (.t 1)),
  kA 17 (.mv (.t 8)),
  kA 18 (.bin .quo (.t 17) (.c (.int .i64 4))),
  kA 19 (.bin .mul (.t 18) (cI 1)),
  kB 20 (.bin .add (.t 16) (.t 19)) [0, 1, 8, 9, 20],
  kB 10 (.mv (.t 20)) [0, 1, 8, 9, 10]]
@[go_sem] def l127_4 (_ : Unit) : KL := [kA 21 (.mv (.t 1)),
  kA 22 (.mv (.t 8)),
  kA 23 (.bin .quo (.t 22) (.c (.int .i64 4))),
  kA 24 (.bin .mul (.t 23) (.c (.int .i64 2))),
  kB 25 (.bin .add (.t 21) (.t 24)) [0, 1, 8, 9, 10, 25],
  kB 11 (.mv (.t 25)) [0, 1, 8, 9, 10, 11]]
@[go_sem] def l127_5 (_ : Unit) : KL := [kA 26 (.mv (.t 1)),
  kA 27 (.mv (.t 8)),
  kA 28 (.bin .quo (.t 27) (.c (.int .i64 4))),
  kA 29 (.bin .mul (.t 28) (.c (.int .i64 3))),
  kB 30 (.bin .add (.t 26) (.t 29)) [0, 8, 9, 10, 11, 30],
  kB 12 (.mv (.t 30)) [0, 8, 9, 10, 11, 12]]
@[go_sem] def l127_6 (_ : Unit) : KL := [kA 31 (.mv (.t 8)),
  kB 32 (.bin .geq (.t 31) (.c (.int .i64 8))) [0, 8, 9, 10, 11, 12, 32]]
@[go_sem] def l127_7 (_ : Unit) : KL := [kA 33 (.mv (.t 8)),
  kB 34 (.bin .geq (.t 33) (.c (.int .i64 50))) [0, 9, 10, 11, 12, 34]]
@[go_sem] def l127_8 (_ : Unit) : KL := [kA 35 (.mv (.t 0)),
  kA 36 (.mv (.t 10)),
  kA 37 (.call (n_slices_medianAdjacentOrdered_int) [(.t 35), (.t 36), (.t 9)]),
  kB 10 (.mv (.t 37)) [0, 9, 10, 11, 12]]
@[go_sem] def l127_9 (_ : Unit) : KL := [kA 38 (.mv (.t 0)),
  kA 39 (.mv (.t 11)),
  kA 40 (.call (n_slices_medianAdjacentOrdered_int) [(.t 38), (.t 39), (.t 9)]),
  kB 11 (.mv (.t 40)) [0, 9, 10, 11, 12]]
@[go_sem] def l127_10 (_ : Unit) : KL := [kA 41 (.mv (.t 0)),
  kA 42 (.mv (.t 12)),
  kA 43 (.call (n_slices_medianAdjacentOrdered_int) [(.t 41), (.t 42), (.t 9)]),
  kB 12 (.mv (.t 43)) [0, 9, 10, 11, 12]]
@[go_sem] def s127_11 (_ : Unit) : IR := (sQ [(kT l127_8), (kT l127_9), (kT l127_10)])
@[go_sem] def s127_12 (_ : Unit) : IR := (sQ [(kT l127_7), (.cond (.t 34) (tH s127_11) .skip)])
@[go_sem] def l127_13 (_ : Unit) : KL := [kA 44 (.mv (.t 0)),
  kA 45 (.mv (.t 10)),
  kA 46 (.mv (.t 11)),
  kA 47 (.mv (.t 12)),
  kB 48 (.call (n_slices_medianOrdered_int) [(.t 44), (.t 45), (.t 46), (.t 47), (.t 9)]) [9, 48],
  kB 11 (.mv (.t 48)) [9, 11]]
@[go_sem] def s127_14 (_ : Unit) : IR := (sQ [(tH s127_12), (kT l127_13)])
@[go_sem] def s127_15 (_ : Unit) : IR := (sQ [(kT l127_6), (.cond (.t 32) (tH s127_14) .skip)])
@[go_sem] def l127_16 (_ : Unit) : KL := [kB 49 (.load (.t 9) 1 false) [11, 49]]
@[go_sem] def l127_17 (_ : Unit) : KL := [kA 52 (.bin .eql (.t 49) (cI 0)),
  kB 51 (.mv (.t 52)) [11, 49, 51]]
@[go_sem] def l127_18 (_ : Unit) : KL := [kA 53 (.mv (.t 11)),
  kA 6 (.mv (.t 53)),
  kB 7 (.mv (cI 1)) [6, 7]]
@[go_sem] def s127_19 (_ : Unit) : IR := (sQ [(kT l127_18), .ret])
@[go_sem] def l127_20 (_ : Unit) : KL := [kA 55 (.bin .eql (.t 49) (.c (.int .i64 12))),
  kB 54 (.mv (.t 55)) [11, 54]]
@[go_sem] def l127_21 (_ : Unit) : KL := [kA 56 (.mv (.t 11)),
  kA 6 (.mv (.t 56)),
  kB 7 (.mv (.c (.int .i64 2))) [6, 7]]
@[go_sem] def s127_22 (_ : Unit) : IR := (sQ [(kT l127_21), .ret])
@[go_sem] def l127_23 (_ : Unit) : KL := [kA 50 (.mv (.t 11)),
  kA 6 (.mv (.t 50)),
  kB 7 (.mv (cI 0)) [6, 7]]
@[go_sem] def s127_24 (_ : Unit) : IR := (sQ [(kT l127_23), .ret])
@[go_sem] def s127_25 (_ : Unit) : IR := (sQ [(kT l127_20), (.cond (.t 54) (tH s127_22) (tH s127_24))])
@[go_sem] def s127_26 (_ : Unit) : IR := (sQ [(kT l127_17), (.cond (.t 51) (tH s127_19) (tH s127_25))])
@[go_sem] def s127_27 (_ : Unit) : IR := (.block 0 (tH s127_26))
@[go_sem] def s127_28 (_ : Unit) : IR := (sQ [(kT l127_0), (kT l127_1), (kT l127_2), (kT l127_3), (kT l127_4), (kT l127_5), (tH s127_15), (kT l127_16), (tH s127_27)])
@[go_sem] def l128_0 (_ : Unit) : KL := [kA 8 (.mv (.t 1)),
  kB 6 (.mv (.t 8)) [0, 2, 6]]
@[go_sem] def l128_1 (_ : Unit) : KL := [kA 9 (.mv (.t 2)),
  kA 10 (.bin .sub (.t 9) (cI 1)),
  kB 7 (.mv (.t 10)) [0, 6, 7]]
@[go_sem] def l128_2 (_ : Unit) : KL := [kA 11 (.mv (.t 6)),
  kA 12 (.mv (.t 7)),
  kB 13 (.bin .lss (.t 11) (.t 12)) [0, 6, 7, 13]]
@[go_sem] def s128_3 (_ : Unit) : IR := (sQ [(kT l128_2), (.cond (.t 13) .skip (.exit 0))])
@[go_sem] def l128_4 : Nat → GOp
  | 0 => ⟨(some 14), .mv (.t 0), none⟩
  | 1 => ⟨(some 15), .mv (.t 6), none⟩
  | 2 => ⟨(some 16), .mv (.t 0), none⟩
  | 3 => ⟨(some 17), .mv (.t 7), none⟩
  | 4 => ⟨(some 18), .mv (.t 0), none⟩
  | 5 => ⟨(some 19), .mv (.t 7), none⟩
  | 6 => ⟨(some 20), .iaddr (.t 18) (.t 19) 1, none⟩
  | 7 => ⟨(some 21), .load (.t 20) 1 false, none⟩
  | 8 => ⟨(some 22), .mv (.t 0), none⟩
  | 9 => ⟨(some 23), .mv (.t 6), none⟩
  | 10 => ⟨(some 24), .iaddr (.t 22) (.t 23) 1, none⟩
  | 11 => ⟨(some 25), .load (.t 24) 1 false, none⟩
  | 12 => ⟨(some 26), .iaddr (.t 14) (.t 15) 1, none⟩
  | 13 => ⟨none, .store (.t 26) 1 (.t 21), none⟩
  | 14 => ⟨(some 27), .iaddr (.t 16) (.t 17) 1, none⟩
  | 15 => ⟨none, .store (.t 27) 1 (.t 25), none⟩
  | _ => ⟨none, .mkmap, none⟩
@[go_sem] def l128_5 (_ : Unit) : KL := [kA 28 (.mv (.t 6)),
  kA 29 (.bin .add (.t 28) (cI 1)),
  kB 6 (.mv (.t 29)) [0, 6, 7]]
@[go_sem] def l128_6 (_ : Unit) : KL := [kA 30 (.mv (.t 7)),
  kA 31 (.bin .sub (.t 30) (cI 1)),
  kB 7 (.mv (.t 31)) [0, 6, 7]]
@[go_sem] def s128_7 (_ : Unit) : IR := (sQ [(.kd (oF l128_4 16) [(0, []), (1, []), (2, []), (3, []), (4, []), (5, []), (6, []), (7, []), (8, []), (9, []), (10, []), (11, []), (12, []), (13, []), (14, []), (15, [])] [0, 6, 7]), (kT l128_5), (kT l128_6)])
@[go_sem] def s128_8 (_ : Unit) : IR := (.block 1 (tH s128_7))
@[go_sem] def s128_9 (_ : Unit) : IR := (sQ [(tH s128_3), (tH s128_8)])
@[go_sem] def s128_10 (_ : Unit) : IR := (.loop (tH s128_9))
@[go_sem] def s128_11 (_ : Unit) : IR := (.block 0 (tH s128_10))
@[go_sem] def s128_12 (_ : Unit) : IR := (sQ [(kT l128_0), (kT l128_1), (tH s128_11)])
end Go.M2
