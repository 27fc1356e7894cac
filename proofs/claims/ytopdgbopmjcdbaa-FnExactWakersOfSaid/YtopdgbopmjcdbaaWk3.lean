/- The plain law of systems: expressions, their kinds and values. No program in sight. -/
import Derived.Test.YtopdgbopmjcdbaaWk2
import Derived.Test.YtopdgbopmjcdbaaProg
import Derived.KernelRfl
set_option linter.unusedVariables false
set_option linter.unusedSimpArgs false
set_option maxRecDepth 10000
set_option maxHeartbeats 4000000
namespace Go.M2
structure TermS where
  op : Int
  n : Int
  a : Int
  b : Int
structure VarS where
  low : Int
  high : Int
  first : Int
structure RuleS where
  when_ : List TermS
  sets : List Int
  terms : List (List TermS)
structure SysS where
  vars : List VarS
  rules : List RuleS
def ix (l : List Int) (i : Int) : Int := l.getD i.toNat 0
theorem ix_eq {l : List Int} {i : Int} (h0 : 0 ≤ i) (h1 : i < (l.length : Int)) : ∃ h : i.toNat < l.length, ix l i = l[i.toNat] := by
  have h : i.toNat < l.length := by omega
  exact ⟨h, by simp [ix, List.getD, h]⟩
def wantK (op : Int) : Int := if 7 ≤ op then 2 else 1
def kind1 (vars : Int) (t : TermS) (ks : List Int) : Int :=
  if t.op = 0 then (if -9999 ≤ t.n ∧ t.n ≤ 9999 ∧ t.a = 0 ∧ t.b = 0 then 1 else 0)
  else if t.op = 1 then (if 0 ≤ t.n ∧ t.n < vars ∧ t.a = 0 ∧ t.b = 0 then 1 else 0)
  else if 2 ≤ t.op ∧ t.op ≤ 9 ∧ t.n = 0 ∧ (0 ≤ t.a ∧ t.a < (ks.length : Int)) ∧ (0 ≤ t.b ∧ t.b < (ks.length : Int)) ∧ ix ks t.a = wantK t.op ∧ ix ks t.b = wantK t.op ∧ (t.op = 7 → t.a = t.b) then (if 5 ≤ t.op then 2 else 1)
  else 0
def kindsGo (vars : Int) : List TermS → List Int → Option (List Int)
  | [], ks => some ks
  | t :: r, ks => if kind1 vars t ks = 0 then none else kindsGo vars r (ks ++ [kind1 vars t ks])
def kindsF (vars : Int) (l : List TermS) : Option (List Int) := if 0 ≤ vars ∧ vars ≤ 5 ∧ 1 ≤ l.length ∧ l.length ≤ 40 then kindsGo vars l [] else none
theorem kindsGo_append {vars : Int} : ∀ (a b : List TermS) (ks : List Int), kindsGo vars (a ++ b) ks = (kindsGo vars a ks).bind (kindsGo vars b)
  | [], b, ks => rfl
  | t :: r, b, ks => by
    simp only [List.cons_append, kindsGo]
    split
    · rfl
    · exact kindsGo_append r b _
theorem kindsGo_len {vars : Int} : ∀ {a : List TermS} {ks r : List Int}, kindsGo vars a ks = some r → r.length = ks.length + a.length ∧ r.take ks.length = ks
  | [], ks, r, h => by simp [kindsGo] at h; subst h; simp
  | t :: a, ks, r, h => by
    simp only [kindsGo] at h
    split at h
    · cases h
    · obtain ⟨h1, h2⟩ := kindsGo_len h
      simp at h1 h2
      refine ⟨by simp; omega, ?_⟩
      have := congrArg (List.take ks.length) h2
      rw [List.take_take] at this
      simpa [Nat.min_eq_left (Nat.le_succ _)] using this
theorem kindsGo_take {vars : Int} {l : List TermS} {i : Nat} (h : i < l.length) {ks : List Int} (hk : kindsGo vars (l.take i) [] = some ks) :
    kindsGo vars (l.take (i + 1)) [] = if kind1 vars l[i] ks = 0 then none else some (ks ++ [kind1 vars l[i] ks]) := by
  rw [List.take_succ_eq_append_getElem h, kindsGo_append, hk]
  rfl
theorem kindsGo_none {vars : Int} {l : List TermS} {i : Nat} (hk : kindsGo vars (l.take i) [] = none) : kindsGo vars l [] = none := by
  rw [← List.take_append_drop i l, kindsGo_append, hk]; rfl
theorem kindsGo_at {vars : Int} {l : List TermS} {ks : List Int} (h : kindsGo vars l [] = some ks) : ks.length = l.length ∧ ∀ i (hi : i < l.length) (hk : i < ks.length), kind1 vars l[i] (ks.take i) = ks[i] ∧ ks[i] ≠ 0 := by
  have hl := (kindsGo_len h).1
  simp at hl
  refine ⟨hl, fun i hi hk => ?_⟩
  have h1 : kindsGo vars (l.take (i + 1) ++ l.drop (i + 1)) [] = some ks := by rw [List.take_append_drop]; exact h
  rw [kindsGo_append] at h1
  cases h2 : kindsGo vars (l.take (i + 1)) [] with
  | none => rw [h2] at h1; cases h1
  | some ks1 =>
    rw [h2] at h1
    have h3 := kindsGo_len (show kindsGo vars (l.drop (i + 1)) ks1 = some ks from h1)
    have h4 := kindsGo_len h2
    simp at h4
    rw [List.take_succ_eq_append_getElem hi, kindsGo_append] at h2
    cases h5 : kindsGo vars (l.take i) [] with
    | none => rw [h5] at h2; cases h2
    | some ks0 =>
      rw [h5] at h2
      simp only [Option.bind_some, kindsGo] at h2
      split at h2
      · cases h2
      · rename_i h6
        cases h2
        have h7 := (kindsGo_len h5).1
        simp at h7
        have h8 : ks0.length = i := by omega
        have h9 : ks.take (i + 1) = ks0 ++ [kind1 vars l[i] ks0] := by
          have := h3.2
          rw [List.length_append] at this
          simpa [h8] using this
        have h10 : ks.take i = ks0 := by
          have := congrArg (List.take i) h9
          rw [List.take_take, Nat.min_eq_left (Nat.le_succ _)] at this
          rw [this, List.take_append_of_le_length (by omega), List.take_of_length_le (by omega)]
        have h11 : ks[i] = kind1 vars l[i] ks0 := by
          have : (ks.take (i + 1))[i]? = some ks[i] := by rw [List.getElem?_take]; simp [hk]
          rw [h9, List.getElem?_append_right (by omega)] at this
          simp [h8] at this
          exact this.symm
        rw [h10, h11]
        exact ⟨rfl, h6⟩
def heldF (n : Int) : Int := if 9999 < n then 9999 else if n < -9999 then -9999 else n
def do1 (op a b : Int) : Int :=
  if op = 2 then heldF (a + b) else if op = 3 then heldF (a - b) else if op = 4 then heldF (a * b) else
  if op = 5 then (if a < b then 1 else 0) else if op = 6 then (if a = b then 1 else 0) else if op = 7 then 1 - a else
  if op = 8 then min a b else max a b
def val1 (state : List Int) (t : TermS) (vs : List Int) : Int := if t.op = 0 then t.n else if t.op = 1 then ix state t.n else do1 t.op (ix vs t.a) (ix vs t.b)
def valsF (state : List Int) (l : List TermS) : List Int := l.foldl (fun vs t => vs ++ [val1 state t vs]) []
theorem valsF_snoc (state : List Int) (l : List TermS) (t : TermS) : valsF state (l ++ [t]) = valsF state l ++ [val1 state t (valsF state l)] := by
  simp [valsF, List.foldl_append]
theorem valsF_len (state : List Int) (l : List TermS) : (valsF state l).length = l.length := by
  have : ∀ (l : List TermS) (vs : List Int), (l.foldl (fun vs t => vs ++ [val1 state t vs]) vs).length = vs.length + l.length := by
    intro l
    induction l with
    | nil => intro vs; simp
    | cons t l ih => intro vs; simp only [List.foldl_cons, ih]; simp; omega
  simpa [valsF] using this l []
def evalF (l : List TermS) (state : List Int) : Int := (valsF state l).getLastD 0
def stOk (state : List Int) : Prop := ∀ x ∈ state, -9999 ≤ x ∧ x ≤ 9999
theorem heldF_in (n : Int) : -9999 ≤ heldF n ∧ heldF n ≤ 9999 := by unfold heldF; split <;> (try split) <;> omega
theorem vals_ok {state : List Int} {vars : Int} (hs : stOk state) (hv : vars ≤ (state.length : Int)) : ∀ (n : Nat) {l : List TermS} {ks : List Int}, l.length = n → kindsGo vars l [] = some ks → ∀ i (hi : i < (valsF state l).length) (hk : i < ks.length),
    -9999 ≤ (valsF state l)[i] ∧ (valsF state l)[i] ≤ 9999 ∧ (ks[i] = 2 → 0 ≤ (valsF state l)[i] ∧ (valsF state l)[i] ≤ 1) := by
  intro n
  induction n with
  | zero => intro l ks hl hk i hi; rw [valsF_len] at hi; omega
  | succ n ih =>
    intro l ks hl hk i hi hik
    obtain ⟨l0, t, rfl⟩ : ∃ l0 t, l = l0 ++ [t] := by
      refine ⟨l.dropLast, l.getLast (by intro e; subst e; simp at hl), ?_⟩
      exact (List.dropLast_concat_getLast _).symm
    have hl0 : l0.length = n := by simp at hl; exact hl
    rw [kindsGo_append] at hk
    cases h0 : kindsGo vars l0 [] with
    | none => rw [h0] at hk; cases hk
    | some ks0 =>
      rw [h0] at hk
      simp only [Option.bind_some, kindsGo] at hk
      split at hk
      · cases hk
      · rename_i hne
        cases hk
        have hk0 := (kindsGo_len h0).1
        simp at hk0
        have hlen := valsF_len state l0
        have IH := ih hl0 h0
        have get : ∀ j (hj : j < l0.length), (valsF state (l0 ++ [t]))[j]'(by rw [valsF_len]; simp; omega) = (valsF state l0)[j]'(by omega) := by
          intro j hj
          simp only [valsF_snoc]
          rw [List.getElem_append_left]
        by_cases hi2 : i < l0.length
        · rw [get i hi2, List.getElem_append_left (by omega)]
          exact IH i (by omega) (by omega)
        · have hieq : i = l0.length := by rw [valsF_len] at hi; simp at hi; omega
          subst hieq
          have e1 : (valsF state (l0 ++ [t]))[l0.length]'hi = val1 state t (valsF state l0) := by
            simp only [valsF_snoc]
            rw [List.getElem_append_right (by omega)]
            simp [hlen]
          have e2 : (ks0 ++ [kind1 vars t ks0])[l0.length]'hik = kind1 vars t ks0 := by
            rw [List.getElem_append_right (by omega)]
            simp [hk0]
          rw [e1, e2]
          clear e1 e2 get
          unfold kind1 at hne ⊢
          unfold val1
          by_cases c0 : t.op = 0
          · rw [if_pos c0] at hne ⊢
            rw [if_pos c0]
            split at hne
            · rename_i hc; rw [if_pos hc]; exact ⟨hc.1, hc.2.1, fun h => by omega⟩
            · exact absurd rfl hne
          · rw [if_neg c0] at hne ⊢
            rw [if_neg c0]
            by_cases c1 : t.op = 1
            · rw [if_pos c1] at hne ⊢
              rw [if_pos c1]
              split at hne
              · rename_i hc; rw [if_pos hc]
                obtain ⟨hh, e⟩ := ix_eq (l := state) hc.1 (by omega)
                rw [e]
                have := hs _ (List.getElem_mem hh)
                exact ⟨this.1, this.2, fun h => by omega⟩
              · exact absurd rfl hne
            · rw [if_neg c1] at hne ⊢
              rw [if_neg c1]
              split at hne
              · rename_i hc
                rw [if_pos hc]
                obtain ⟨q1, q2, q3, q4, q5, q6, q7, q8⟩ := hc
                obtain ⟨ha, ea⟩ := ix_eq (l := valsF state l0) (i := t.a) q4.1 (by omega)
                obtain ⟨hb, eb⟩ := ix_eq (l := valsF state l0) (i := t.b) q5.1 (by omega)
                obtain ⟨ha', ea'⟩ := ix_eq (l := ks0) (i := t.a) q4.1 q4.2
                obtain ⟨hb', eb'⟩ := ix_eq (l := ks0) (i := t.b) q5.1 q5.2
                have A := IH t.a.toNat ha ha'
                have B := IH t.b.toNat hb hb'
                rw [← ea, ← ea'] at A
                rw [← eb, ← eb'] at B
                rw [q6] at A
                rw [q7] at B
                generalize ix (valsF state l0) t.a = x at *
                generalize ix (valsF state l0) t.b = y at *
                unfold do1
                by_cases d2 : t.op = 2
                · rw [if_pos d2]; have := heldF_in (x + y); refine ⟨this.1, this.2, fun h => ?_⟩; rw [if_neg (by omega)] at h; omega
                · rw [if_neg d2]
                  by_cases d3 : t.op = 3
                  · rw [if_pos d3]; have := heldF_in (x - y); refine ⟨this.1, this.2, fun h => ?_⟩; rw [if_neg (by omega)] at h; omega
                  · rw [if_neg d3]
                    by_cases d4 : t.op = 4
                    · rw [if_pos d4]; have := heldF_in (x * y); refine ⟨this.1, this.2, fun h => ?_⟩; rw [if_neg (by omega)] at h; omega
                    · rw [if_neg d4]
                      by_cases d5 : t.op = 5
                      · rw [if_pos d5]; split <;> omega
                      · rw [if_neg d5]
                        by_cases d6 : t.op = 6
                        · rw [if_pos d6]; split <;> omega
                        · rw [if_neg d6]
                          have h7 : (7 : Int) ≤ t.op := by omega
                          unfold wantK at A B
                          rw [if_pos h7] at A B
                          have A2 := A.2.2 rfl
                          have B2 := B.2.2 rfl
                          by_cases d7 : t.op = 7
                          · rw [if_pos d7]; omega
                          · rw [if_neg d7]; split <;> omega
              · exact absurd rfl hne
def kindIs (vars kind : Int) (ts : List TermS) : Bool := match kindsF vars ts with
  | some ks => ks.getLastD 0 == kind
  | none => false
theorem kindsF_some {vars : Int} {ts : List TermS} {ks : List Int} (h : kindsF vars ts = some ks) : 0 ≤ vars ∧ vars ≤ 5 ∧ 1 ≤ ts.length ∧ ts.length ≤ 40 ∧ kindsGo vars ts [] = some ks ∧ ks.length = ts.length := by
  unfold kindsF at h
  split at h
  · rename_i hc
    exact ⟨hc.1, hc.2.1, hc.2.2.1, hc.2.2.2, h, by have := (kindsGo_len h).1; simpa using this⟩
  · cases h
theorem getLastD_eq {l : List Int} (h : 0 < l.length) : l.getLastD 0 = l[l.length - 1]'(by omega) := by
  cases l with
  | nil => simp at h
  | cons a t =>
    rw [List.getLastD_eq_getLast?, List.getLast?_eq_getElem?]
    simp
def VarOk (v : VarS) : Prop := (-9999 ≤ v.low ∧ v.low ≤ 9999) ∧ (v.low ≤ v.high ∧ v.high ≤ 9999) ∧ v.high - v.low < 20 ∧ (v.low ≤ v.first ∧ v.first ≤ v.high)
instance (v : VarS) : Decidable (VarOk v) := by unfold VarOk; infer_instance
def SetsOk (vars : Int) (r : RuleS) : Prop := ∀ i (h : i < r.sets.length), (0 ≤ r.sets[i] ∧ r.sets[i] < vars) ∧ (∀ h0 : 0 < i, r.sets[i - 1]'(by omega) < r.sets[i]) ∧ (∀ h2 : i < r.terms.length, kindIs vars 1 r.terms[i] = true)
def RuleOk (vars : Int) (r : RuleS) : Prop := kindIs vars 2 r.when_ = true ∧ r.sets.length = r.terms.length ∧ SetsOk vars r
def sizeF (vs : List VarS) : Int := vs.foldl (fun n v => n * (v.high - v.low + 1)) 1
structure SysOk (s : SysS) : Prop where
  v1 : 1 ≤ s.vars.length
  v5 : s.vars.length ≤ 5
  r8 : s.rules.length ≤ 8
  vars : ∀ v ∈ s.vars, VarOk v
  rules : ∀ r ∈ s.rules, RuleOk (s.vars.length : Int) r
  size : sizeF s.vars ≤ 400
theorem sizeF_snoc (vs : List VarS) (v : VarS) : sizeF (vs ++ [v]) = sizeF vs * (v.high - v.low + 1) := by simp [sizeF, List.foldl_append]
theorem sizeF_bd : ∀ (n : Nat) (vs : List VarS), vs.length = n → (∀ v ∈ vs, VarOk v) → 1 ≤ sizeF vs ∧ sizeF vs ≤ 20 ^ vs.length := by
  intro n
  induction n with
  | zero => intro vs h _; have : vs = [] := List.eq_nil_of_length_eq_zero h; subst this; simp [sizeF]
  | succ n ih =>
    intro vs h hv
    obtain ⟨l0, t, rfl⟩ : ∃ l0 t, vs = l0 ++ [t] := ⟨vs.dropLast, vs.getLast (by intro e; subst e; simp at h), (List.dropLast_concat_getLast _).symm⟩
    have h0 := ih l0 (by simp at h; exact h) (fun v hv' => hv v (List.mem_append_left _ hv'))
    have ht := hv t (List.mem_append_right _ (List.mem_singleton.2 rfl))
    unfold VarOk at ht
    rw [sizeF_snoc, List.length_append, List.length_singleton, Int.pow_succ]
    generalize sizeF l0 = x at *
    generalize (20 : Int) ^ l0.length = y at *
    refine ⟨?_, ?_⟩
    · have : 1 * 1 ≤ x * (t.high - t.low + 1) := Int.mul_le_mul h0.1 (by omega) (by omega) (by omega)
      omega
    · exact Int.mul_le_mul h0.2 (by omega) (by omega) (by omega)
theorem sizeF_take {vs : List VarS} {i : Nat} (h : i < vs.length) : sizeF (vs.take (i + 1)) = sizeF (vs.take i) * (vs[i].high - vs[i].low + 1) := by
  rw [List.take_succ_eq_append_getElem h, sizeF_snoc]
theorem sizeF_take_bd {vs : List VarS} (h5 : vs.length ≤ 5) {i : Nat} (h : ∀ j (hj : j < vs.length), j < i → VarOk vs[j]) : 1 ≤ sizeF (vs.take i) ∧ sizeF (vs.take i) ≤ 3200000 := by
  have h1 := sizeF_bd _ (vs.take i) rfl (fun v hv => by
    obtain ⟨j, hj, rfl⟩ := List.getElem_of_mem hv
    simp at hj
    rw [List.getElem_take]
    exact h j (by omega) (by omega))
  refine ⟨h1.1, Int.le_trans h1.2 ?_⟩
  have h2 : (vs.take i).length ≤ 5 := by simp; omega
  have : ∀ m : Nat, m ≤ 5 → (20 : Int) ^ m ≤ 3200000 := by
    intro m hm
    match m, hm with
    | 0, _ => decide
    | 1, _ => decide
    | 2, _ => decide
    | 3, _ => decide
    | 4, _ => decide
    | 5, _ => decide
  exact this _ h2
end Go.M2

namespace Go.M2
def firstF (s : SysS) : List Int := s.vars.map (·.first)
def StIn (vars : List VarS) (st : List Int) : Prop := st.length = vars.length ∧ ∀ i (h : i < vars.length) (h2 : i < st.length), vars[i].low ≤ st[i] ∧ st[i] ≤ vars[i].high
noncomputable def inB (vars : List VarS) (st : List Int) : Bool := @decide (StIn vars st) (Classical.propDecidable _)
theorem StIn.ok {s : SysS} (hs : SysOk s) {st : List Int} (h : StIn s.vars st) : stOk st := by
  intro x hx
  obtain ⟨i, hi, rfl⟩ := List.getElem_of_mem hx
  have h1 := h.2 i (by rw [← h.1]; exact hi) hi
  have h2 := hs.vars _ (List.getElem_mem (by rw [← h.1]; exact hi : i < s.vars.length))
  unfold VarOk at h2
  omega
def setsF (st : List Int) (terms : List (List TermS)) (sets : List Int) : Nat → List Int
  | 0 => st
  | n + 1 => (setsF st terms sets n).set (sets.getD n 0).toNat (evalF (terms.getD n []) st)
noncomputable def useR (vars : List VarS) (r : RuleS) (st : List Int) : Option (List Int) :=
  if evalF r.when_ st = 0 then none else if inB vars (setsF st r.terms r.sets r.sets.length) then some (setsF st r.terms r.sets r.sets.length) else none
def lessF : List Int → List Int → Bool
  | [], [] => false
  | [], _ :: _ => true
  | _ :: _, [] => false
  | a :: s, b :: t => if a = b then lessF s t else decide (a < b)
def putF : List (List Int) → List Int → List (List Int)
  | [], x => [x]
  | y :: t, x => if y = x then y :: t else if lessF x y then x :: y :: t else y :: putF t x
noncomputable def nextGo (vars : List VarS) (st : List Int) : List RuleS → List (List Int) → List (List Int)
  | [], l => l
  | r :: t, l => nextGo vars st t (match useR vars r st with | some x => putF l x | none => l)
noncomputable def nextF (s : SysS) (st : List Int) : List (List Int) := nextGo s.vars st s.rules []
def span1 (v : VarS) : Int := v.high - v.low + 1
def numGo : List VarS → List Int → Int → Int
  | v :: vs, x :: xs, n => numGo vs xs (n * span1 v + x - v.low)
  | _, _, n => n
def numF (vars : List VarS) (st : List Int) : Int := numGo vars st 0
def qGo : List VarS → Int → Int
  | [], n => n
  | v :: vs, n => qGo vs n / span1 v
def stGo : List VarS → Int → List Int
  | [], _ => []
  | v :: vs, n => (v.low + qGo vs n % span1 v) :: stGo vs n
noncomputable def rowF (s : SysS) (n : Nat) : List Int := (nextF s (stGo s.vars n)).map (numF s.vars)
noncomputable def tabF (s : SysS) : List (List Int) := (List.range (sizeF s.vars).toNat).map (rowF s)
end Go.M2

namespace Go.M2
open Go.Proofs
variable {M : MH} {vs : List V} {RV : V → MH → Prop}
theorem mixed : Try.prog.follows .mixedOrders = true := by kernel_rfl
def n_laws_szVarS : Nat := 34
def n_laws_szTermS : Nat := 115
def n_laws_szIntS : Nat := 55
def n_laws_szTermSS : Nat := 116
def n_laws_szRule : Nat := 74
def n_laws_szRuleS : Nat := 35
def n_laws_szSystem : Nat := 8
def n_laws_toVar : Nat := 81
def n_laws_toVarS : Nat := 45
def n_laws_toTerm : Nat := 143
def n_laws_toTermS : Nat := 120
def n_laws_toIntS : Nat := 11
def n_laws_toTermSS : Nat := 121
def n_laws_toRule : Nat := 82
def n_laws_toRuleS : Nat := 46
def n_laws_toSystem : Nat := 10
def n_spec_l1In : Nat := 64
def n_spec_l2Var : Nat := 100
def n_spec_l1One : Nat := 169
def n_spec_l1Kind : Nat := 152
def n_spec_KindsOf : Nat := 140
def n_spec_l2Is : Nat := 133
def n_spec_l2Rule : Nat := 101
def n_spec_SystemValid : Nat := 63
def n_spec_TermsValid : Nat := 110
def n_spec_l1Needed : Nat := 111
def n_spec_UsedBy : Nat := 70
def n_spec_l2Has : Nat := 69
def n_spec_TouchedBy : Nat := 29
def n_spec_l26Meet : Nat := 102
def n_spec_l26Wakers : Nat := 72
def n_spec_WakersOf : Nat := 32
def n_impl_in : Nat := 67
def n_slices_IndexFunc_Simpl_Var_impl_Var : Nat := 134
def n_slices_ContainsFunc_Simpl_Var_impl_Var : Nat := 103
def n_impl_varOk : Nat := 105
def n_impl_SystemValid_1 : Nat := 104
def n_impl_size : Nat := 84
def n_impl_parts : Nat := 168
def n_impl_kindsOf : Nat := 149
def n_impl_kindOf : Nat := 136
def n_impl_ruleOk : Nat := 108
def n_impl_SystemValid_2 : Nat := 107
def n_slices_IndexFunc_Simpl_Rule_impl_Rule : Nat := 135
def n_slices_ContainsFunc_Simpl_Rule_impl_Rule : Nat := 106
def n_impl_SystemValid : Nat := 66
def n_impl_clone_int : Nat := 60
def n_impl_usedBy : Nat := 112
def n_math_bits_Len32 : Nat := 162
def n_math_bits_Len64 : Nat := 163
def n_math_bits_Len : Nat := 142
def n_cmp_isNaN_int : Nat := 175
def n_cmp_Less_int : Nat := 159
def n_slices_insertionSortOrdered_int : Nat := 153
def n_slices_siftDownOrdered_int : Nat := 170
def n_slices_heapSortOrdered_int : Nat := 154
def n_slices_nextPowerOfTwo : Nat := 171
def n_slices_xorshift_Next : Nat := 172
def n_slices_breakPatternsOrdered_int : Nat := 155
def n_slices_order2Ordered_int : Nat := 178
def n_slices_medianOrdered_int : Nat := 174
def n_slices_medianAdjacentOrdered_int : Nat := 173
def n_slices_choosePivotOrdered_int : Nat := 156
def n_slices_reverseRangeOrdered_int : Nat := 157
def n_slices_partialInsertionSortOrdered_int : Nat := 158
def n_slices_partitionEqualOrdered_int : Nat := 160
def n_slices_partitionOrdered_int : Nat := 161
def n_slices_pdqsortOrdered_int : Nat := 141
def n_slices_Sort_Sint_int : Nat := 113
def n_slices_Compact_Sint_int : Nat := 114
def n_impl_touchedBy : Nat := 71
def n_slices_Index_Sint_int : Nat := 151
def n_slices_Contains_Sint_int : Nat := 139
def n_impl_meets_1 : Nat := 138
def n_slices_IndexFunc_Sint_int : Nat := 150
def n_slices_ContainsFunc_Sint_int : Nat := 137
def n_impl_meets : Nat := 109
def n_impl_wakersOf : Nat := 73
def n_impl_WakersOf : Nat := 33
def n_laws_eqIntS : Nat := 15
def n_laws_eqVar : Nat := 93
def n_laws_eqVarS : Nat := 50
def n_laws_eqTerm : Nat := 146
def n_laws_eqTermS : Nat := 127
def n_laws_eqTermSS : Nat := 128
def n_laws_eqRule : Nat := 94
def n_laws_eqRuleS : Nat := 51
def n_laws_eqSystem : Nat := 14
def n_laws_markVarS : Nat := 52
def n_laws_markTermS : Nat := 95
def n_laws_markIntS : Nat := 17
def n_laws_markTermSS : Nat := 96
def n_laws_markRuleS : Nat := 53
def n_laws_markSystem : Nat := 16
def n_laws_heldIntS : Nat := 31
def n_laws_FnExactWakersOf : Nat := 7
@[go_sem] def l34_0 (_ : Unit) : KL := [kB 4 (.mv (cI 0)) [0, 1]]
@[go_sem] def l34_1 (_ : Unit) : KL := [kA 5 (.mv (.t 1)),
  kA 6 (.mv (.t 0)),
  kA 7 (.len (.t 6)),
  kA 8 (.bin .sub (.t 5) (.t 7)),
  kB 1 (.mv (.t 8)) [1]]
@[go_sem] def l34_2 (_ : Unit) : KL := [kA 9 (.mv (.t 1)),
  kB 10 (.bin .lss (.t 9) (cI 0)) [1, 10]]
@[go_sem] def l34_3 (_ : Unit) : KL := [kB 4 (.mv (.c (.int .i64 (-1)))) [4]]
@[go_sem] def s34_4 (_ : Unit) : IR := (sQ [(kT l34_3), .ret])
@[go_sem] def s34_5 (_ : Unit) : IR := (sQ [(kT l34_2), (.cond (.t 10) (tH s34_4) .skip)])
@[go_sem] def l34_6 (_ : Unit) : KL := [kA 11 (.mv (.t 1)),
  kB 4 (.mv (.t 11)) [4]]
@[go_sem] def s34_7 (_ : Unit) : IR := (sQ [(kT l34_0), (kT l34_1), (tH s34_5), (kT l34_6), .ret])
theorem c34 : compFn Try.prog [(0, [], [oS [0, 1]]), (1, [], [oN, oN, oN, oN, oS [1]]), (2, [], [oN, oS [1, 10]]), (3, [], [oS [4]]), (4, [], [oN, oS [4]])] Try.f34 = some ⟨2, 12, [.t 4], (tH s34_7)⟩ := by kernel_rfl
theorem v_laws_szVarS (hl : vs.length = 2) (h : wpV Try.prog (tH s34_7) (postV [.t 4] RV) (envV vs) M) : VCall Try.prog n_laws_szVarS vs M RV :=
  vcall_of_wp (fun _ _ _ hl h => acall_of_wp mixed Try.func34 c34 (by kernel_rfl) hl h) hl h
@[go_sem] def l115_0 (_ : Unit) : KL := [kB 4 (.mv (cI 0)) [0, 1]]
@[go_sem] def l115_1 (_ : Unit) : KL := [kA 5 (.mv (.t 1)),
  kA 6 (.mv (.t 0)),
  kA 7 (.len (.t 6)),
  kA 8 (.bin .sub (.t 5) (.t 7)),
  kB 1 (.mv (.t 8)) [1]]
@[go_sem] def l115_2 (_ : Unit) : KL := [kA 9 (.mv (.t 1)),
  kB 10 (.bin .lss (.t 9) (cI 0)) [1, 10]]
@[go_sem] def l115_3 (_ : Unit) : KL := [kB 4 (.mv (.c (.int .i64 (-1)))) [4]]
@[go_sem] def s115_4 (_ : Unit) : IR := (sQ [(kT l115_3), .ret])
@[go_sem] def s115_5 (_ : Unit) : IR := (sQ [(kT l115_2), (.cond (.t 10) (tH s115_4) .skip)])
@[go_sem] def l115_6 (_ : Unit) : KL := [kA 11 (.mv (.t 1)),
  kB 4 (.mv (.t 11)) [4]]
@[go_sem] def s115_7 (_ : Unit) : IR := (sQ [(kT l115_0), (kT l115_1), (tH s115_5), (kT l115_6), .ret])
theorem c115 : compFn Try.prog [(0, [], [oS [0, 1]]), (1, [], [oN, oN, oN, oN, oS [1]]), (2, [], [oN, oS [1, 10]]), (3, [], [oS [4]]), (4, [], [oN, oS [4]])] Try.f115 = some ⟨2, 12, [.t 4], (tH s115_7)⟩ := by kernel_rfl
theorem v_laws_szTermS (hl : vs.length = 2) (h : wpV Try.prog (tH s115_7) (postV [.t 4] RV) (envV vs) M) : VCall Try.prog n_laws_szTermS vs M RV :=
  vcall_of_wp (fun _ _ _ hl h => acall_of_wp mixed Try.func115 c115 (by kernel_rfl) hl h) hl h
@[go_sem] def l55_0 (_ : Unit) : KL := [kB 4 (.mv (cI 0)) [0, 1]]
@[go_sem] def l55_1 (_ : Unit) : KL := [kA 5 (.mv (.t 1)),
  kA 6 (.mv (.t 0)),
  kA 7 (.len (.t 6)),
  kA 8 (.bin .sub (.t 5) (.t 7)),
  kB 1 (.mv (.t 8)) [1]]
@[go_sem] def l55_2 (_ : Unit) : KL := [kA 9 (.mv (.t 1)),
  kB 10 (.bin .lss (.t 9) (cI 0)) [1, 10]]
@[go_sem] def l55_3 (_ : Unit) : KL := [kB 4 (.mv (.c (.int .i64 (-1)))) [4]]
@[go_sem] def s55_4 (_ : Unit) : IR := (sQ [(kT l55_3), .ret])
@[go_sem] def s55_5 (_ : Unit) : IR := (sQ [(kT l55_2), (.cond (.t 10) (tH s55_4) .skip)])
@[go_sem] def l55_6 (_ : Unit) : KL := [kA 11 (.mv (.t 1)),
  kB 4 (.mv (.t 11)) [4]]
@[go_sem] def s55_7 (_ : Unit) : IR := (sQ [(kT l55_0), (kT l55_1), (tH s55_5), (kT l55_6), .ret])
theorem c55 : compFn Try.prog [(0, [], [oS [0, 1]]), (1, [], [oN, oN, oN, oN, oS [1]]), (2, [], [oN, oS [1, 10]]), (3, [], [oS [4]]), (4, [], [oN, oS [4]])] Try.f55 = some ⟨2, 12, [.t 4], (tH s55_7)⟩ := by kernel_rfl
theorem v_laws_szIntS (hl : vs.length = 2) (h : wpV Try.prog (tH s55_7) (postV [.t 4] RV) (envV vs) M) : VCall Try.prog n_laws_szIntS vs M RV :=
  vcall_of_wp (fun _ _ _ hl h => acall_of_wp mixed Try.func55 c55 (by kernel_rfl) hl h) hl h
@[go_sem] def l116_0 (_ : Unit) : KL := [kB 4 (.mv (cI 0)) [0, 1]]
@[go_sem] def l116_1 (_ : Unit) : KL := [kA 6 (.mv (.t 1)),
  kA 7 (.mv (.t 0)),
  kA 8 (.len (.t 7)),
  kA 9 (.bin .sub (.t 6) (.t 8)),
  kB 1 (.mv (.t 9)) [0, 1]]
@[go_sem] def l116_2 (_ : Unit) : KL := [kA 10 (.mv (.t 1)),
  kB 11 (.bin .lss (.t 10) (cI 0)) [0, 1, 11]]
@[go_sem] def l116_3 (_ : Unit) : KL := [kB 4 (.mv (.c (.int .i64 (-1)))) [4]]
@[go_sem] def s116_4 (_ : Unit) : IR := (sQ [(kT l116_3), .ret])
@[go_sem] def s116_5 (_ : Unit) : IR := (sQ [(kT l116_2), (.cond (.t 11) (tH s116_4) .skip)])
@[go_sem] def l116_6 (_ : Unit) : KL := [kB 5 (.mv (cI 0)) [0, 1, 5]]
@[go_sem] def l116_7 (_ : Unit) : KL := [kA 12 (.mv (.t 5)),
  kA 13 (.mv (.t 0)),
  kA 14 (.len (.t 13)),
  kB 15 (.bin .lss (.t 12) (.t 14)) [0, 1, 5, 15]]
@[go_sem] def s116_8 (_ : Unit) : IR := (sQ [(kT l116_7), (.cond (.t 15) .skip (.exit 0))])
@[go_sem] def l116_9 (_ : Unit) : KL := [kA 18 (.mv (.t 0)),
  kA 19 (.mv (.t 5)),
  kA 20 (.iaddr (.t 18) (.t 19) 1),
  kA 21 (.load (.t 20) 1 false),
  kB 22 (.mv (.t 1)) [0, 5, 21, 22],
  kA 23 (.call (n_laws_szTermS) [(.t 21), (.t 22)]),
  kB 1 (.mv (.t 23)) [0, 1, 5]]
@[go_sem] def l116_10 (_ : Unit) : KL := [kA 24 (.mv (.t 1)),
  kB 25 (.bin .lss (.t 24) (cI 0)) [0, 1, 5, 25]]
@[go_sem] def l116_11 (_ : Unit) : KL := [kB 4 (.mv (.c (.int .i64 (-1)))) [4]]
@[go_sem] def s116_12 (_ : Unit) : IR := (sQ [(kT l116_11), .ret])
@[go_sem] def s116_13 (_ : Unit) : IR := (sQ [(kT l116_9), (kT l116_10), (.cond (.t 25) (tH s116_12) .skip)])
@[go_sem] def s116_14 (_ : Unit) : IR := (.block 1 (tH s116_13))
@[go_sem] def l116_15 (_ : Unit) : KL := [kA 16 (.mv (.t 5)),
  kA 17 (.bin .add (.t 16) (cI 1)),
  kB 5 (.mv (.t 17)) [0, 1, 5]]
@[go_sem] def s116_16 (_ : Unit) : IR := (sQ [(tH s116_8), (tH s116_14), (kT l116_15)])
@[go_sem] def s116_17 (_ : Unit) : IR := (.loop (tH s116_16))
@[go_sem] def s116_18 (_ : Unit) : IR := (.block 0 (tH s116_17))
@[go_sem] def s116_19 (_ : Unit) : IR := (sQ [(kT l116_6), (tH s116_18)])
@[go_sem] def l116_20 (_ : Unit) : KL := [kA 26 (.mv (.t 1)),
  kB 4 (.mv (.t 26)) [4]]
@[go_sem] def s116_21 (_ : Unit) : IR := (sQ [(kT l116_0), (kT l116_1), (tH s116_5), (tH s116_19), (kT l116_20), .ret])
theorem c116 : compFn Try.prog [(0, [], [oS [0, 1]]), (1, [], [oN, oN, oN, oN, oS [0, 1]]), (2, [], [oN, oS [0, 1, 11]]), (3, [], [oS [4]]), (4, [], [oS [0, 1, 5]]), (5, [], [oN, oN, oN, oS [0, 1, 5, 15]]), (7, [], [oN, oN, oN, oN, oS [0, 5, 21, 22], oN, oS [0, 1, 5]]), (8, [], [oN, oS [0, 1, 5, 25]]), (9, [], [oS [4]]), (6, [], [oN, oN, oS [0, 1, 5]]), (10, [], [oN, oS [4]])] Try.f116 = some ⟨2, 27, [.t 4], (tH s116_21)⟩ := by kernel_rfl
theorem v_laws_szTermSS (hl : vs.length = 2) (h : wpV Try.prog (tH s116_21) (postV [.t 4] RV) (envV vs) M) : VCall Try.prog n_laws_szTermSS vs M RV :=
  vcall_of_wp (fun _ _ _ hl h => acall_of_wp mixed Try.func116 c116 (by kernel_rfl) hl h) hl h
@[go_sem] def l74_0 (_ : Unit) : KL := [kA 2 (.box (.t 0)),
  kB 4 (.mv (cI 0)) [1, 2]]
@[go_sem] def l74_1 (_ : Unit) : KL := [kA 5 (.faddr (.t 2) 0),
  kA 6 (.load (.t 5) 1 false),
  kA 7 (.mv (.t 1)),
  kA 8 (.call (n_laws_szTermS) [(.t 6), (.t 7)]),
  kB 1 (.mv (.t 8)) [1, 2]]
@[go_sem] def l74_2 (_ : Unit) : KL := [kA 9 (.mv (.t 1)),
  kB 10 (.bin .lss (.t 9) (cI 0)) [1, 2, 10]]
@[go_sem] def l74_3 (_ : Unit) : KL := [kB 4 (.mv (.c (.int .i64 (-1)))) [4]]
@[go_sem] def s74_4 (_ : Unit) : IR := (sQ [(kT l74_3), .ret])
@[go_sem] def s74_5 (_ : Unit) : IR := (sQ [(kT l74_2), (.cond (.t 10) (tH s74_4) .skip)])
@[go_sem] def l74_6 (_ : Unit) : KL := [kA 11 (.faddr (.t 2) 1),
  kA 12 (.load (.t 11) 1 false),
  kA 13 (.mv (.t 1)),
  kA 14 (.call (n_laws_szIntS) [(.t 12), (.t 13)]),
  kB 1 (.mv (.t 14)) [1, 2]]
@[go_sem] def l74_7 (_ : Unit) : KL := [kA 15 (.mv (.t 1)),
  kB 16 (.bin .lss (.t 15) (cI 0)) [1, 2, 16]]
@[go_sem] def l74_8 (_ : Unit) : KL := [kB 4 (.mv (.c (.int .i64 (-1)))) [4]]
@[go_sem] def s74_9 (_ : Unit) : IR := (sQ [(kT l74_8), .ret])
@[go_sem] def s74_10 (_ : Unit) : IR := (sQ [(kT l74_7), (.cond (.t 16) (tH s74_9) .skip)])
@[go_sem] def l74_11 (_ : Unit) : KL := [kA 17 (.faddr (.t 2) 2),
  kA 18 (.load (.t 17) 1 false),
  kA 19 (.mv (.t 1)),
  kA 20 (.call (n_laws_szTermSS) [(.t 18), (.t 19)]),
  kB 1 (.mv (.t 20)) [1]]
@[go_sem] def l74_12 (_ : Unit) : KL := [kA 21 (.mv (.t 1)),
  kB 22 (.bin .lss (.t 21) (cI 0)) [1, 22]]
@[go_sem] def l74_13 (_ : Unit) : KL := [kB 4 (.mv (.c (.int .i64 (-1)))) [4]]
@[go_sem] def s74_14 (_ : Unit) : IR := (sQ [(kT l74_13), .ret])
@[go_sem] def s74_15 (_ : Unit) : IR := (sQ [(kT l74_12), (.cond (.t 22) (tH s74_14) .skip)])
@[go_sem] def l74_16 (_ : Unit) : KL := [kA 23 (.mv (.t 1)),
  kB 4 (.mv (.t 23)) [4]]
@[go_sem] def s74_17 (_ : Unit) : IR := (sQ [(kT l74_0), (kT l74_1), (tH s74_5), (kT l74_6), (tH s74_10), (kT l74_11), (tH s74_15), (kT l74_16), .ret])
theorem c74 : compFn Try.prog [(0, [], [oN, oS [1, 2]]), (1, [], [oN, oN, oN, oN, oS [1, 2]]), (2, [], [oN, oS [1, 2, 10]]), (3, [], [oS [4]]), (4, [], [oN, oN, oN, oN, oS [1, 2]]), (5, [], [oN, oS [1, 2, 16]]), (6, [], [oS [4]]), (7, [], [oN, oN, oN, oN, oS [1]]), (8, [], [oN, oS [1, 22]]), (9, [], [oS [4]]), (10, [], [oN, oS [4]])] Try.f74 = some ⟨2, 24, [.t 4], (tH s74_17)⟩ := by kernel_rfl
theorem v_laws_szRule (hl : vs.length = 2) (h : wpV Try.prog (tH s74_17) (postV [.t 4] RV) (envV vs) M) : VCall Try.prog n_laws_szRule vs M RV :=
  vcall_of_wp (fun _ _ _ hl h => acall_of_wp mixed Try.func74 c74 (by kernel_rfl) hl h) hl h
@[go_sem] def l35_0 (_ : Unit) : KL := [kB 4 (.mv (cI 0)) [0, 1]]
@[go_sem] def l35_1 (_ : Unit) : KL := [kA 6 (.mv (.t 1)),
  kA 7 (.mv (.t 0)),
  kA 8 (.len (.t 7)),
  kA 9 (.bin .sub (.t 6) (.t 8)),
  kB 1 (.mv (.t 9)) [0, 1]]
@[go_sem] def l35_2 (_ : Unit) : KL := [kA 10 (.mv (.t 1)),
  kB 11 (.bin .lss (.t 10) (cI 0)) [0, 1, 11]]
@[go_sem] def l35_3 (_ : Unit) : KL := [kB 4 (.mv (.c (.int .i64 (-1)))) [4]]
@[go_sem] def s35_4 (_ : Unit) : IR := (sQ [(kT l35_3), .ret])
@[go_sem] def s35_5 (_ : Unit) : IR := (sQ [(kT l35_2), (.cond (.t 11) (tH s35_4) .skip)])
@[go_sem] def l35_6 (_ : Unit) : KL := [kB 5 (.mv (cI 0)) [0, 1, 5]]
@[go_sem] def l35_7 (_ : Unit) : KL := [kA 12 (.mv (.t 5)),
  kA 13 (.mv (.t 0)),
  kA 14 (.len (.t 13)),
  kB 15 (.bin .lss (.t 12) (.t 14)) [0, 1, 5, 15]]
@[go_sem] def s35_8 (_ : Unit) : IR := (sQ [(kT l35_7), (.cond (.t 15) .skip (.exit 0))])
@[go_sem] def l35_9 (_ : Unit) : KL := [kA 18 (.mv (.t 0)),
  kA 19 (.mv (.t 5)),
  kA 20 (.iaddr (.t 18) (.t 19) 3),
  kA 21 (.load (.t 20) 3 true),
  kB 22 (.mv (.t 1)) [0, 5, 21, 22],
  kA 23 (.call (n_laws_szRule) [(.t 21), (.t 22)]),
  kB 1 (.mv (.t 23)) [0, 1, 5]]
@[go_sem] def l35_10 (_ : Unit) : KL := [kA 24 (.mv (.t 1)),
  kB 25 (.bin .lss (.t 24) (cI 0)) [0, 1, 5, 25]]
@[go_sem] def l35_11 (_ : Unit) : KL := [kB 4 (.mv (.c (.int .i64 (-1)))) [4]]
@[go_sem] def s35_12 (_ : Unit) : IR := (sQ [(kT l35_11), .ret])
@[go_sem] def s35_13 (_ : Unit) : IR := (sQ [(kT l35_9), (kT l35_10), (.cond (.t 25) (tH s35_12) .skip)])
@[go_sem] def s35_14 (_ : Unit) : IR := (.block 1 (tH s35_13))
@[go_sem] def l35_15 (_ : Unit) : KL := [kA 16 (.mv (.t 5)),
  kA 17 (.bin .add (.t 16) (cI 1)),
  kB 5 (.mv (.t 17)) [0, 1, 5]]
@[go_sem] def s35_16 (_ : Unit) : IR := (sQ [(tH s35_8), (tH s35_14), (kT l35_15)])
@[go_sem] def s35_17 (_ : Unit) : IR := (.loop (tH s35_16))
@[go_sem] def s35_18 (_ : Unit) : IR := (.block 0 (tH s35_17))
@[go_sem] def s35_19 (_ : Unit) : IR := (sQ [(kT l35_6), (tH s35_18)])
@[go_sem] def l35_20 (_ : Unit) : KL := [kA 26 (.mv (.t 1)),
  kB 4 (.mv (.t 26)) [4]]
@[go_sem] def s35_21 (_ : Unit) : IR := (sQ [(kT l35_0), (kT l35_1), (tH s35_5), (tH s35_19), (kT l35_20), .ret])
theorem c35 : compFn Try.prog [(0, [], [oS [0, 1]]), (1, [], [oN, oN, oN, oN, oS [0, 1]]), (2, [], [oN, oS [0, 1, 11]]), (3, [], [oS [4]]), (4, [], [oS [0, 1, 5]]), (5, [], [oN, oN, oN, oS [0, 1, 5, 15]]), (7, [], [oN, oN, oN, oN, oS [0, 5, 21, 22], oN, oS [0, 1, 5]]), (8, [], [oN, oS [0, 1, 5, 25]]), (9, [], [oS [4]]), (6, [], [oN, oN, oS [0, 1, 5]]), (10, [], [oN, oS [4]])] Try.f35 = some ⟨2, 27, [.t 4], (tH s35_21)⟩ := by kernel_rfl
theorem v_laws_szRuleS (hl : vs.length = 2) (h : wpV Try.prog (tH s35_21) (postV [.t 4] RV) (envV vs) M) : VCall Try.prog n_laws_szRuleS vs M RV :=
  vcall_of_wp (fun _ _ _ hl h => acall_of_wp mixed Try.func35 c35 (by kernel_rfl) hl h) hl h
@[go_sem] def l8_0 (_ : Unit) : KL := [kA 2 (.box (.t 0)),
  kB 4 (.mv (cI 0)) [1, 2]]
@[go_sem] def l8_1 (_ : Unit) : KL := [kA 5 (.faddr (.t 2) 0),
  kA 6 (.load (.t 5) 1 false),
  kA 7 (.mv (.t 1)),
  kA 8 (.call (n_laws_szVarS) [(.t 6), (.t 7)]),
  kB 1 (.mv (.t 8)) [1, 2]]
@[go_sem] def l8_2 (_ : Unit) : KL := [kA 9 (.mv (.t 1)),
  kB 10 (.bin .lss (.t 9) (cI 0)) [1, 2, 10]]
@[go_sem] def l8_3 (_ : Unit) : KL := [kB 4 (.mv (.c (.int .i64 (-1)))) [4]]
@[go_sem] def s8_4 (_ : Unit) : IR := (sQ [(kT l8_3), .ret])
@[go_sem] def s8_5 (_ : Unit) : IR := (sQ [(kT l8_2), (.cond (.t 10) (tH s8_4) .skip)])
@[go_sem] def l8_6 (_ : Unit) : KL := [kA 11 (.faddr (.t 2) 1),
  kA 12 (.load (.t 11) 1 false),
  kA 13 (.mv (.t 1)),
  kA 14 (.call (n_laws_szRuleS) [(.t 12), (.t 13)]),
  kB 1 (.mv (.t 14)) [1]]
@[go_sem] def l8_7 (_ : Unit) : KL := [kA 15 (.mv (.t 1)),
  kB 16 (.bin .lss (.t 15) (cI 0)) [1, 16]]
@[go_sem] def l8_8 (_ : Unit) : KL := [kB 4 (.mv (.c (.int .i64 (-1)))) [4]]
@[go_sem] def s8_9 (_ : Unit) : IR := (sQ [(kT l8_8), .ret])
@[go_sem] def s8_10 (_ : Unit) : IR := (sQ [(kT l8_7), (.cond (.t 16) (tH s8_9) .skip)])
@[go_sem] def l8_11 (_ : Unit) : KL := [kA 17 (.mv (.t 1)),
  kB 4 (.mv (.t 17)) [4]]
@[go_sem] def s8_12 (_ : Unit) : IR := (sQ [(kT l8_0), (kT l8_1), (tH s8_5), (kT l8_6), (tH s8_10), (kT l8_11), .ret])
theorem c8 : compFn Try.prog [(0, [], [oN, oS [1, 2]]), (1, [], [oN, oN, oN, oN, oS [1, 2]]), (2, [], [oN, oS [1, 2, 10]]), (3, [], [oS [4]]), (4, [], [oN, oN, oN, oN, oS [1]]), (5, [], [oN, oS [1, 16]]), (6, [], [oS [4]]), (7, [], [oN, oS [4]])] Try.f8 = some ⟨2, 18, [.t 4], (tH s8_12)⟩ := by kernel_rfl
theorem v_laws_szSystem (hl : vs.length = 2) (h : wpV Try.prog (tH s8_12) (postV [.t 4] RV) (envV vs) M) : VCall Try.prog n_laws_szSystem vs M RV :=
  vcall_of_wp (fun _ _ _ hl h => acall_of_wp mixed Try.func8 c8 (by kernel_rfl) hl h) hl h
@[go_sem] def l81_0 (_ : Unit) : KL := [kA 1 (.box (.t 0)),
  kB 2 (.alloc [(.int .i64 0), (.int .i64 0), (.int .i64 0)]) [1, 2]]
@[go_sem] def l81_1 (_ : Unit) : KL := [kB 3 (.alloc [(.int .i64 0), (.int .i64 0), (.int .i64 0)]) [1, 2, 3]]
@[go_sem] def l81_2 (_ : Unit) : KL := [kA 4 (.faddr (.t 1) 0),
  kA 5 (.load (.t 4) 1 false),
  kA 6 (.faddr (.t 3) 0),
  (⟨none, .store (.t 6) 1 (.t 5), none⟩, (some [1, 2, 3]))]
@[go_sem] def l81_3 (_ : Unit) : KL := [kA 7 (.faddr (.t 1) 1),
  kA 8 (.load (.t 7) 1 false),
  kA 9 (.faddr (.t 3) 1),
  (⟨none, .store (.t 9) 1 (.t 8), none⟩, (some [1, 2, 3]))]
@[go_sem] def l81_4 (_ : Unit) : KL := [kA 10 (.faddr (.t 1) 2),
  kA 11 (.load (.t 10) 1 false),
  kA 12 (.faddr (.t 3) 2),
  (⟨none, .store (.t 12) 1 (.t 11), none⟩, (some [2, 3]))]
@[go_sem] def l81_5 (_ : Unit) : KL := [kA 13 (.load (.t 3) 3 true),
  (⟨none, .store (.t 2) 3 (.t 13), none⟩, (some [2]))]
@[go_sem] def s81_6 (_ : Unit) : IR := (sQ [(kT l81_0), (kT l81_1), (kT l81_2), (kT l81_3), (kT l81_4), (kT l81_5), .ret])
theorem c81 : compFn Try.prog [(0, [], [oN, oS [1, 2]]), (1, [], [oS [1, 2, 3]]), (2, [], [oN, oN, oN, oS [1, 2, 3]]), (3, [], [oN, oN, oN, oS [1, 2, 3]]), (4, [], [oN, oN, oN, oS [2, 3]]), (5, [], [oN, oS [2]])] Try.f81 = some ⟨1, 14, [.c 2 3 true], (tH s81_6)⟩ := by kernel_rfl
theorem v_laws_toVar (hl : vs.length = 1) (h : wpV Try.prog (tH s81_6) (postV [.c 2 3 true] RV) (envV vs) M) : VCall Try.prog n_laws_toVar vs M RV :=
  vcall_of_wp (fun _ _ _ hl h => acall_of_wp mixed Try.func81 c81 (by kernel_rfl) hl h) hl h
@[go_sem] def l45_0 (_ : Unit) : KL := [kB 2 (.mv (.c (.sl none 0 0 true 0))) [0]]
@[go_sem] def l45_1 (_ : Unit) : KL := [kA 5 (.mv (.t 0)),
  kA 6 (.len (.t 5)),
  kA 7 (.mks [(.int .i64 0), (.int .i64 0), (.int .i64 0)] 24 (.t 6)),
  kB 3 (.mv (.t 7)) [0, 3]]
@[go_sem] def l45_2 (_ : Unit) : KL := [kB 4 (.mv (cI 0)) [0, 3, 4]]
@[go_sem] def l45_3 (_ : Unit) : KL := [kA 8 (.mv (.t 4)),
  kA 9 (.mv (.t 0)),
  kA 10 (.len (.t 9)),
  kB 11 (.bin .lss (.t 8) (.t 10)) [0, 3, 4, 11]]
@[go_sem] def s45_4 (_ : Unit) : IR := (sQ [(kT l45_3), (.cond (.t 11) .skip (.exit 0))])
@[go_sem] def l45_5 (_ : Unit) : KL := [kA 14 (.mv (.t 3)),
  kA 15 (.mv (.t 4)),
  kA 16 (.mv (.t 0)),
  kA 17 (.mv (.t 4)),
  kB 18 (.iaddr (.t 16) (.t 17) 3) [0, 3, 4, 14, 15, 18],
  kA 19 (.load (.t 18) 3 true),
  kA 20 (.call (n_laws_toVar) [(.t 19)]),
  kA 21 (.iaddr (.t 14) (.t 15) 3),
  (⟨none, .store (.t 21) 3 (.t 20), none⟩, (some [0, 3, 4]))]
@[go_sem] def s45_6 (_ : Unit) : IR := (.block 1 (kT l45_5))
@[go_sem] def l45_7 (_ : Unit) : KL := [kA 12 (.mv (.t 4)),
  kA 13 (.bin .add (.t 12) (cI 1)),
  kB 4 (.mv (.t 13)) [0, 3, 4]]
@[go_sem] def s45_8 (_ : Unit) : IR := (sQ [(tH s45_4), (tH s45_6), (kT l45_7)])
@[go_sem] def s45_9 (_ : Unit) : IR := (.loop (tH s45_8))
@[go_sem] def s45_10 (_ : Unit) : IR := (.block 0 (tH s45_9))
@[go_sem] def s45_11 (_ : Unit) : IR := (sQ [(kT l45_2), (tH s45_10)])
@[go_sem] def l45_12 (_ : Unit) : KL := [kA 22 (.mv (.t 3)),
  kB 2 (.mv (.t 22)) [2]]
@[go_sem] def s45_13 (_ : Unit) : IR := (sQ [(kT l45_0), (kT l45_1), (tH s45_11), (kT l45_12), .ret])
theorem c45 : compFn Try.prog [(0, [], [oS [0]]), (1, [], [oN, oN, oN, oS [0, 3]]), (2, [], [oS [0, 3, 4]]), (3, [], [oN, oN, oN, oS [0, 3, 4, 11]]), (5, [], [oN, oN, oN, oN, oS [0, 3, 4, 14, 15, 18], oN, oN, oN, oS [0, 3, 4]]), (4, [], [oN, oN, oS [0, 3, 4]]), (6, [], [oN, oS [2]])] Try.f45 = some ⟨1, 23, [.t 2], (tH s45_13)⟩ := by kernel_rfl
theorem v_laws_toVarS (hl : vs.length = 1) (h : wpV Try.prog (tH s45_13) (postV [.t 2] RV) (envV vs) M) : VCall Try.prog n_laws_toVarS vs M RV :=
  vcall_of_wp (fun _ _ _ hl h => acall_of_wp mixed Try.func45 c45 (by kernel_rfl) hl h) hl h
@[go_sem] def l143_0 (_ : Unit) : KL := [kA 1 (.box (.t 0)),
  kB 2 (.alloc [(.int .i64 0), (.int .i64 0), (.int .i64 0), (.int .i64 0)]) [1, 2]]
@[go_sem] def l143_1 (_ : Unit) : KL := [kB 3 (.alloc [(.int .i64 0), (.int .i64 0), (.int .i64 0), (.int .i64 0)]) [1, 2, 3]]
@[go_sem] def l143_2 (_ : Unit) : KL := [kA 4 (.faddr (.t 1) 0),
  kA 5 (.load (.t 4) 1 false),
  kA 6 (.faddr (.t 3) 0),
  (⟨none, .store (.t 6) 1 (.t 5), none⟩, (some [1, 2, 3]))]
@[go_sem] def l143_3 (_ : Unit) : KL := [kA 7 (.faddr (.t 1) 1),
  kA 8 (.load (.t 7) 1 false),
  kA 9 (.faddr (.t 3) 1),
  (⟨none, .store (.t 9) 1 (.t 8), none⟩, (some [1, 2, 3]))]
@[go_sem] def l143_4 (_ : Unit) : KL := [kA 10 (.faddr (.t 1) 2),
  kA 11 (.load (.t 10) 1 false),
  kA 12 (.faddr (.t 3) 2),
  (⟨none, .store (.t 12) 1 (.t 11), none⟩, (some [1, 2, 3]))]
@[go_sem] def l143_5 (_ : Unit) : KL := [kA 13 (.faddr (.t 1) 3),
  kA 14 (.load (.t 13) 1 false),
  kA 15 (.faddr (.t 3) 3),
  (⟨none, .store (.t 15) 1 (.t 14), none⟩, (some [2, 3]))]
@[go_sem] def l143_6 (_ : Unit) : KL := [kA 16 (.load (.t 3) 4 true),
  (⟨none, .store (.t 2) 4 (.t 16), none⟩, (some [2]))]
@[go_sem] def s143_7 (_ : Unit) : IR := (sQ [(kT l143_0), (kT l143_1), (kT l143_2), (kT l143_3), (kT l143_4), (kT l143_5), (kT l143_6), .ret])
theorem c143 : compFn Try.prog [(0, [], [oN, oS [1, 2]]), (1, [], [oS [1, 2, 3]]), (2, [], [oN, oN, oN, oS [1, 2, 3]]), (3, [], [oN, oN, oN, oS [1, 2, 3]]), (4, [], [oN, oN, oN, oS [1, 2, 3]]), (5, [], [oN, oN, oN, oS [2, 3]]), (6, [], [oN, oS [2]])] Try.f143 = some ⟨1, 17, [.c 2 4 true], (tH s143_7)⟩ := by kernel_rfl
theorem v_laws_toTerm (hl : vs.length = 1) (h : wpV Try.prog (tH s143_7) (postV [.c 2 4 true] RV) (envV vs) M) : VCall Try.prog n_laws_toTerm vs M RV :=
  vcall_of_wp (fun _ _ _ hl h => acall_of_wp mixed Try.func143 c143 (by kernel_rfl) hl h) hl h
@[go_sem] def l120_0 (_ : Unit) : KL := [kB 2 (.mv (.c (.sl none 0 0 true 0))) [0]]
@[go_sem] def l120_1 (_ : Unit) : KL := [kA 5 (.mv (.t 0)),
  kA 6 (.len (.t 5)),
  kA 7 (.mks [(.int .i64 0), (.int .i64 0), (.int .i64 0), (.int .i64 0)] 32 (.t 6)),
  kB 3 (.mv (.t 7)) [0, 3]]
@[go_sem] def l120_2 (_ : Unit) : KL := [kB 4 (.mv (cI 0)) [0, 3, 4]]
@[go_sem] def l120_3 (_ : Unit) : KL := [kA 8 (.mv (.t 4)),
  kA 9 (.mv (.t 0)),
  kA 10 (.len (.t 9)),
  kB 11 (.bin .lss (.t 8) (.t 10)) [0, 3, 4, 11]]
@[go_sem] def s120_4 (_ : Unit) : IR := (sQ [(kT l120_3), (.cond (.t 11) .skip (.exit 0))])
@[go_sem] def l120_5 (_ : Unit) : KL := [kA 14 (.mv (.t 3)),
  kA 15 (.mv (.t 4)),
  kA 16 (.mv (.t 0)),
  kA 17 (.mv (.t 4)),
  kB 18 (.iaddr (.t 16) (.t 17) 4) [0, 3, 4, 14, 15, 18],
  kA 19 (.load (.t 18) 4 true),
  kA 20 (.call (n_laws_toTerm) [(.t 19)]),
  kA 21 (.iaddr (.t 14) (.t 15) 4),
  (⟨none, .store (.t 21) 4 (.t 20), none⟩, (some [0, 3, 4]))]
@[go_sem] def s120_6 (_ : Unit) : IR := (.block 1 (kT l120_5))
@[go_sem] def l120_7 (_ : Unit) : KL := [kA 12 (.mv (.t 4)),
  kA 13 (.bin .add (.t 12) (cI 1)),
  kB 4 (.mv (.t 13)) [0, 3, 4]]
@[go_sem] def s120_8 (_ : Unit) : IR := (sQ [(tH s120_4), (tH s120_6), (kT l120_7)])
@[go_sem] def s120_9 (_ : Unit) : IR := (.loop (tH s120_8))
@[go_sem] def s120_10 (_ : Unit) : IR := (.block 0 (tH s120_9))
@[go_sem] def s120_11 (_ : Unit) : IR := (sQ [(kT l120_2), (tH s120_10)])
@[go_sem] def l120_12 (_ : Unit) : KL := [kA 22 (.mv (.t 3)),
  kB 2 (.mv (.t 22)) [2]]
@[go_sem] def s120_13 (_ : Unit) : IR := (sQ [(kT l120_0), (kT l120_1), (tH s120_11), (kT l120_12), .ret])
theorem c120 : compFn Try.prog [(0, [], [oS [0]]), (1, [], [oN, oN, oN, oS [0, 3]]), (2, [], [oS [0, 3, 4]]), (3, [], [oN, oN, oN, oS [0, 3, 4, 11]]), (5, [], [oN, oN, oN, oN, oS [0, 3, 4, 14, 15, 18], oN, oN, oN, oS [0, 3, 4]]), (4, [], [oN, oN, oS [0, 3, 4]]), (6, [], [oN, oS [2]])] Try.f120 = some ⟨1, 23, [.t 2], (tH s120_13)⟩ := by kernel_rfl
theorem v_laws_toTermS (hl : vs.length = 1) (h : wpV Try.prog (tH s120_13) (postV [.t 2] RV) (envV vs) M) : VCall Try.prog n_laws_toTermS vs M RV :=
  vcall_of_wp (fun _ _ _ hl h => acall_of_wp mixed Try.func120 c120 (by kernel_rfl) hl h) hl h
@[go_sem] def l11_0 (_ : Unit) : KL := [kB 2 (.mv (.c (.sl none 0 0 true 0))) [0]]
@[go_sem] def l11_1 (_ : Unit) : KL := [kA 5 (.mv (.t 0)),
  kA 6 (.len (.t 5)),
  kA 7 (.mks [(.int .i64 0)] 8 (.t 6)),
  kB 3 (.mv (.t 7)) [0, 3]]
@[go_sem] def l11_2 (_ : Unit) : KL := [kB 4 (.mv (cI 0)) [0, 3, 4]]
@[go_sem] def l11_3 (_ : Unit) : KL := [kA 8 (.mv (.t 4)),
  kA 9 (.mv (.t 0)),
  kA 10 (.len (.t 9)),
  kB 11 (.bin .lss (.t 8) (.t 10)) [0, 3, 4, 11]]
@[go_sem] def s11_4 (_ : Unit) : IR := (sQ [(kT l11_3), (.cond (.t 11) .skip (.exit 0))])
@[go_sem] def l11_5 (_ : Unit) : KL := [kA 14 (.mv (.t 3)),
  kA 15 (.mv (.t 4)),
  kA 16 (.mv (.t 0)),
  kA 17 (.mv (.t 4)),
  kB 18 (.iaddr (.t 16) (.t 17) 1) [0, 3, 4, 14, 15, 18],
  kA 19 (.load (.t 18) 1 false),
  kA 20 (.iaddr (.t 14) (.t 15) 1),
  (⟨none, .store (.t 20) 1 (.t 19), none⟩, (some [0, 3, 4]))]
@[go_sem] def s11_6 (_ : Unit) : IR := (.block 1 (kT l11_5))
@[go_sem] def l11_7 (_ : Unit) : KL := [kA 12 (.mv (.t 4)),
  kA 13 (.bin .add (.t 12) (cI 1)),
  kB 4 (.mv (.t 13)) [0, 3, 4]]
@[go_sem] def s11_8 (_ : Unit) : IR := (sQ [(tH s11_4), (tH s11_6), (kT l11_7)])
@[go_sem] def s11_9 (_ : Unit) : IR := (.loop (tH s11_8))
@[go_sem] def s11_10 (_ : Unit) : IR := (.block 0 (tH s11_9))
@[go_sem] def s11_11 (_ : Unit) : IR := (sQ [(kT l11_2), (tH s11_10)])
@[go_sem] def l11_12 (_ : Unit) : KL := [kA 21 (.mv (.t 3)),
  kB 2 (.mv (.t 21)) [2]]
@[go_sem] def s11_13 (_ : Unit) : IR := (sQ [(kT l11_0), (kT l11_1), (tH s11_11), (kT l11_12), .ret])
theorem c11 : compFn Try.prog [(0, [], [oS [0]]), (1, [], [oN, oN, oN, oS [0, 3]]), (2, [], [oS [0, 3, 4]]), (3, [], [oN, oN, oN, oS [0, 3, 4, 11]]), (5, [], [oN, oN, oN, oN, oS [0, 3, 4, 14, 15, 18], oN, oN, oS [0, 3, 4]]), (4, [], [oN, oN, oS [0, 3, 4]]), (6, [], [oN, oS [2]])] Try.f11 = some ⟨1, 22, [.t 2], (tH s11_13)⟩ := by kernel_rfl
theorem v_laws_toIntS (hl : vs.length = 1) (h : wpV Try.prog (tH s11_13) (postV [.t 2] RV) (envV vs) M) : VCall Try.prog n_laws_toIntS vs M RV :=
  vcall_of_wp (fun _ _ _ hl h => acall_of_wp mixed Try.func11 c11 (by kernel_rfl) hl h) hl h
@[go_sem] def l121_0 (_ : Unit) : KL := [kB 2 (.mv (.c (.sl none 0 0 true 0))) [0]]
@[go_sem] def l121_1 (_ : Unit) : KL := [kA 5 (.mv (.t 0)),
  kA 6 (.len (.t 5)),
  kA 7 (.mks [(.sl none 0 0 true 0)] 24 (.t 6)),
  kB 3 (.mv (.t 7)) [0, 3]]
@[go_sem] def l121_2 (_ : Unit) : KL := [kB 4 (.mv (cI 0)) [0, 3, 4]]
@[go_sem] def l121_3 (_ : Unit) : KL := [kA 8 (.mv (.t 4)),
  kA 9 (.mv (.t 0)),
  kA 10 (.len (.t 9)),
  kB 11 (.bin .lss (.t 8) (.t 10)) [0, 3, 4, 11]]
@[go_sem] def s121_4 (_ : Unit) : IR := (sQ [(kT l121_3), (.cond (.t 11) .skip (.exit 0))])
@[go_sem] def l121_5 (_ : Unit) : KL := [kA 14 (.mv (.t 3)),
  kA 15 (.mv (.t 4)),
  kA 16 (.mv (.t 0)),
  kA 17 (.mv (.t 4)),
  kB 18 (.iaddr (.t 16) (.t 17) 1) [0, 3, 4, 14, 15, 18],
  kA 19 (.load (.t 18) 1 false),
  kA 20 (.call (n_laws_toTermS) [(.t 19)]),
  kA 21 (.iaddr (.t 14) (.t 15) 1),
  (⟨none, .store (.t 21) 1 (.t 20), none⟩, (some [0, 3, 4]))]
@[go_sem] def s121_6 (_ : Unit) : IR := (.block 1 (kT l121_5))
@[go_sem] def l121_7 (_ : Unit) : KL := [kA 12 (.mv (.t 4)),
  kA 13 (.bin .add (.t 12) (cI 1)),
  kB 4 (.mv (.t 13)) [0, 3, 4]]
@[go_sem] def s121_8 (_ : Unit) : IR := (sQ [(tH s121_4), (tH s121_6), (kT l121_7)])
@[go_sem] def s121_9 (_ : Unit) : IR := (.loop (tH s121_8))
@[go_sem] def s121_10 (_ : Unit) : IR := (.block 0 (tH s121_9))
@[go_sem] def s121_11 (_ : Unit) : IR := (sQ [(kT l121_2), (tH s121_10)])
@[go_sem] def l121_12 (_ : Unit) : KL := [kA 22 (.mv (.t 3)),
  kB 2 (.mv (.t 22)) [2]]
@[go_sem] def s121_13 (_ : Unit) : IR := (sQ [(kT l121_0), (kT l121_1), (tH s121_11), (kT l121_12), .ret])
theorem c121 : compFn Try.prog [(0, [], [oS [0]]), (1, [], [oN, oN, oN, oS [0, 3]]), (2, [], [oS [0, 3, 4]]), (3, [], [oN, oN, oN, oS [0, 3, 4, 11]]), (5, [], [oN, oN, oN, oN, oS [0, 3, 4, 14, 15, 18], oN, oN, oN, oS [0, 3, 4]]), (4, [], [oN, oN, oS [0, 3, 4]]), (6, [], [oN, oS [2]])] Try.f121 = some ⟨1, 23, [.t 2], (tH s121_13)⟩ := by kernel_rfl
theorem v_laws_toTermSS (hl : vs.length = 1) (h : wpV Try.prog (tH s121_13) (postV [.t 2] RV) (envV vs) M) : VCall Try.prog n_laws_toTermSS vs M RV :=
  vcall_of_wp (fun _ _ _ hl h => acall_of_wp mixed Try.func121 c121 (by kernel_rfl) hl h) hl h
@[go_sem] def l82_0 (_ : Unit) : KL := [kA 1 (.box (.t 0)),
  kB 2 (.alloc [(.sl none 0 0 true 0), (.sl none 0 0 true 0), (.sl none 0 0 true 0)]) [1, 2]]
@[go_sem] def l82_1 (_ : Unit) : KL := [kB 3 (.alloc [(.sl none 0 0 true 0), (.sl none 0 0 true 0), (.sl none 0 0 true 0)]) [1, 2, 3]]
@[go_sem] def l82_2 (_ : Unit) : KL := [kA 4 (.faddr (.t 1) 0),
  kA 5 (.load (.t 4) 1 false),
  kA 6 (.call (n_laws_toTermS) [(.t 5)]),
  kA 7 (.faddr (.t 3) 0),
  (⟨none, .store (.t 7) 1 (.t 6), none⟩, (some [1, 2, 3]))]
@[go_sem] def l82_3 (_ : Unit) : KL := [kA 8 (.faddr (.t 1) 1),
  kA 9 (.load (.t 8) 1 false),
  kA 10 (.call (n_laws_toIntS) [(.t 9)]),
  kA 11 (.faddr (.t 3) 1),
  (⟨none, .store (.t 11) 1 (.t 10), none⟩, (some [1, 2, 3]))]
@[go_sem] def l82_4 (_ : Unit) : KL := [kA 12 (.faddr (.t 1) 2),
  kA 13 (.load (.t 12) 1 false),
  kA 14 (.call (n_laws_toTermSS) [(.t 13)]),
  kA 15 (.faddr (.t 3) 2),
  (⟨none, .store (.t 15) 1 (.t 14), none⟩, (some [2, 3]))]
@[go_sem] def l82_5 (_ : Unit) : KL := [kA 16 (.load (.t 3) 3 true),
  (⟨none, .store (.t 2) 3 (.t 16), none⟩, (some [2]))]
@[go_sem] def s82_6 (_ : Unit) : IR := (sQ [(kT l82_0), (kT l82_1), (kT l82_2), (kT l82_3), (kT l82_4), (kT l82_5), .ret])
theorem c82 : compFn Try.prog [(0, [], [oN, oS [1, 2]]), (1, [], [oS [1, 2, 3]]), (2, [], [oN, oN, oN, oN, oS [1, 2, 3]]), (3, [], [oN, oN, oN, oN, oS [1, 2, 3]]), (4, [], [oN, oN, oN, oN, oS [2, 3]]), (5, [], [oN, oS [2]])] Try.f82 = some ⟨1, 17, [.c 2 3 true], (tH s82_6)⟩ := by kernel_rfl
theorem v_laws_toRule (hl : vs.length = 1) (h : wpV Try.prog (tH s82_6) (postV [.c 2 3 true] RV) (envV vs) M) : VCall Try.prog n_laws_toRule vs M RV :=
  vcall_of_wp (fun _ _ _ hl h => acall_of_wp mixed Try.func82 c82 (by kernel_rfl) hl h) hl h
@[go_sem] def l46_0 (_ : Unit) : KL := [kB 2 (.mv (.c (.sl none 0 0 true 0))) [0]]
@[go_sem] def l46_1 (_ : Unit) : KL := [kA 5 (.mv (.t 0)),
  kA 6 (.len (.t 5)),
  kA 7 (.mks [(.sl none 0 0 true 0), (.sl none 0 0 true 0), (.sl none 0 0 true 0)] 72 (.t 6)),
  kB 3 (.mv (.t 7)) [0, 3]]
@[go_sem] def l46_2 (_ : Unit) : KL := [kB 4 (.mv (cI 0)) [0, 3, 4]]
@[go_sem] def l46_3 (_ : Unit) : KL := [kA 8 (.mv (.t 4)),
  kA 9 (.mv (.t 0)),
  kA 10 (.len (.t 9)),
  kB 11 (.bin .lss (.t 8) (.t 10)) [0, 3, 4, 11]]
@[go_sem] def s46_4 (_ : Unit) : IR := (sQ [(kT l46_3), (.cond (.t 11) .skip (.exit 0))])
@[go_sem] def l46_5 (_ : Unit) : KL := [kA 14 (.mv (.t 3)),
  kA 15 (.mv (.t 4)),
  kA 16 (.mv (.t 0)),
  kA 17 (.mv (.t 4)),
  kB 18 (.iaddr (.t 16) (.t 17) 3) [0, 3, 4, 14, 15, 18],
  kA 19 (.load (.t 18) 3 true),
  kA 20 (.call (n_laws_toRule) [(.t 19)]),
  kA 21 (.iaddr (.t 14) (.t 15) 3),
  (⟨none, .store (.t 21) 3 (.t 20), none⟩, (some [0, 3, 4]))]
@[go_sem] def s46_6 (_ : Unit) : IR := (.block 1 (kT l46_5))
@[go_sem] def l46_7 (_ : Unit) : KL := [kA 12 (.mv (.t 4)),
  kA 13 (.bin .add (.t 12) (cI 1)),
  kB 4 (.mv (.t 13)) [0, 3, 4]]
@[go_sem] def s46_8 (_ : Unit) : IR := (sQ [(tH s46_4), (tH s46_6), (kT l46_7)])
@[go_sem] def s46_9 (_ : Unit) : IR := (.loop (tH s46_8))
@[go_sem] def s46_10 (_ : Unit) : IR := (.block 0 (tH s46_9))
@[go_sem] def s46_11 (_ : Unit) : IR := (sQ [(kT l46_2), (tH s46_10)])
@[go_sem] def l46_12 (_ : Unit) : KL := [kA 22 (.mv (.t 3)),
  kB 2 (.mv (.t 22)) [2]]
@[go_sem] def s46_13 (_ : Unit) : IR := (sQ [(kT l46_0), (kT l46_1), (tH s46_11), (kT l46_12), .ret])
theorem c46 : compFn Try.prog [(0, [], [oS [0]]), (1, [], [oN, oN, oN, oS [0, 3]]), (2, [], [oS [0, 3, 4]]), (3, [], [oN, oN, oN, oS [0, 3, 4, 11]]), (5, [], [oN, oN, oN, oN, oS [0, 3, 4, 14, 15, 18], oN, oN, oN, oS [0, 3, 4]]), (4, [], [oN, oN, oS [0, 3, 4]]), (6, [], [oN, oS [2]])] Try.f46 = some ⟨1, 23, [.t 2], (tH s46_13)⟩ := by kernel_rfl
theorem v_laws_toRuleS (hl : vs.length = 1) (h : wpV Try.prog (tH s46_13) (postV [.t 2] RV) (envV vs) M) : VCall Try.prog n_laws_toRuleS vs M RV :=
  vcall_of_wp (fun _ _ _ hl h => acall_of_wp mixed Try.func46 c46 (by kernel_rfl) hl h) hl h
@[go_sem] def l10_0 (_ : Unit) : KL := [kA 1 (.box (.t 0)),
  kB 2 (.alloc [(.sl none 0 0 true 0), (.sl none 0 0 true 0)]) [1, 2]]
@[go_sem] def l10_1 (_ : Unit) : KL := [kB 3 (.alloc [(.sl none 0 0 true 0), (.sl none 0 0 true 0)]) [1, 2, 3]]
@[go_sem] def l10_2 (_ : Unit) : KL := [kA 4 (.faddr (.t 1) 0),
  kA 5 (.load (.t 4) 1 false),
  kA 6 (.call (n_laws_toVarS) [(.t 5)]),
  kA 7 (.faddr (.t 3) 0),
  (⟨none, .store (.t 7) 1 (.t 6), none⟩, (some [1, 2, 3]))]
@[go_sem] def l10_3 (_ : Unit) : KL := [kA 8 (.faddr (.t 1) 1),
  kA 9 (.load (.t 8) 1 false),
  kA 10 (.call (n_laws_toRuleS) [(.t 9)]),
  kA 11 (.faddr (.t 3) 1),
  (⟨none, .store (.t 11) 1 (.t 10), none⟩, (some [2, 3]))]
@[go_sem] def l10_4 (_ : Unit) : KL := [kA 12 (.load (.t 3) 2 true),
  (⟨none, .store (.t 2) 2 (.t 12), none⟩, (some [2]))]
@[go_sem] def s10_5 (_ : Unit) : IR := (sQ [(kT l10_0), (kT l10_1), (kT l10_2), (kT l10_3), (kT l10_4), .ret])
theorem c10 : compFn Try.prog [(0, [], [oN, oS [1, 2]]), (1, [], [oS [1, 2, 3]]), (2, [], [oN, oN, oN, oN, oS [1, 2, 3]]), (3, [], [oN, oN, oN, oN, oS [2, 3]]), (4, [], [oN, oS [2]])] Try.f10 = some ⟨1, 13, [.c 2 2 true], (tH s10_5)⟩ := by kernel_rfl
theorem v_laws_toSystem (hl : vs.length = 1) (h : wpV Try.prog (tH s10_5) (postV [.c 2 2 true] RV) (envV vs) M) : VCall Try.prog n_laws_toSystem vs M RV :=
  vcall_of_wp (fun _ _ _ hl h => acall_of_wp mixed Try.func10 c10 (by kernel_rfl) hl h) hl h
@[go_sem] def l64_0 (_ : Unit) : KL := [kB 6 (.mv (.c (.bool false))) [0, 1, 2]]
@[go_sem] def l64_1 (_ : Unit) : KL := [kA 7 (.mv (.t 0)),
  kA 8 (.mv (.t 1)),
  kA 9 (.bin .geq (.t 7) (.t 8)),
  kA 10 (.mv (.t 9)),
  (⟨(some 11), .mv (.t 0), (some (10, true))⟩, (some [2, 10, 11])),
  (⟨(some 12), .mv (.t 2), (some (10, true))⟩, none),
  (⟨(some 13), .bin .leq (.t 11) (.t 12), (some (10, true))⟩, none),
  kA 14 (.pick (.t 10) (.t 13) (.c (.bool false))),
  kB 6 (.mv (.t 14)) [6]]
@[go_sem] def s64_2 (_ : Unit) : IR := (sQ [(kT l64_0), (kT l64_1), .ret])
theorem c64 : compFn Try.prog [(0, [], [oS [0, 1, 2]]), (1, [], [oN, oN, oN, oN, oS [2, 10, 11], oN, oN, oN, oS [6]])] Try.f64 = some ⟨3, 15, [.t 6], (tH s64_2)⟩ := by kernel_rfl
theorem v_spec_l1In (hl : vs.length = 3) (h : wpV Try.prog (tH s64_2) (postV [.t 6] RV) (envV vs) M) : VCall Try.prog n_spec_l1In vs M RV :=
  vcall_of_wp (fun _ _ _ hl h => acall_of_wp mixed Try.func64 c64 (by kernel_rfl) hl h) hl h
@[go_sem] def l100_0 (_ : Unit) : KL := [kA 1 (.box (.t 0)),
  kB 2 (.mv (.c (.bool false))) [1]]
@[go_sem] def l100_1 (_ : Unit) : KL := [kA 3 (.faddr (.t 1) 0),
  kA 4 (.load (.t 3) 1 false),
  kA 5 (.call (n_spec_l1In) [(.t 4), (.c (.int .i64 (-9999))), (.c (.int .i64 9999))]),
  kA 6 (.mv (.t 5)),
  (⟨(some 7), .faddr (.t 1) 1, (some (6, true))⟩, (some [1, 6, 7])),
  (⟨(some 8), .load (.t 7) 1 false, (some (6, true))⟩, none),
  (⟨(some 9), .faddr (.t 1) 0, (some (6, true))⟩, none),
  (⟨(some 10), .load (.t 9) 1 false, (some (6, true))⟩, none),
  (⟨(some 11), .call (n_spec_l1In) [(.t 8), (.t 10), (.c (.int .i64 9999))], (some (6, true))⟩, none),
  kB 12 (.pick (.t 6) (.t 11) (.c (.bool false))) [1, 12],
  kA 13 (.mv (.t 12)),
  (⟨(some 14), .faddr (.t 1) 1, (some (13, true))⟩, none),
  (⟨(some 15), .load (.t 14) 1 false, (some (13, true))⟩, none),
  (⟨(some 16), .faddr (.t 1) 0, (some (13, true))⟩, none),
  (⟨(some 17), .load (.t 16) 1 false, (some (13, true))⟩, (some [1, 13, 15, 17])),
  (⟨(some 18), .bin .sub (.t 15) (.t 17), (some (13, true))⟩, none),
  (⟨(some 19), .bin .lss (.t 18) (.c (.int .i64 20)), (some (13, true))⟩, none),
  kA 20 (.pick (.t 13) (.t 19) (.c (.bool false))),
  kA 21 (.mv (.t 20)),
  (⟨(some 22), .faddr (.t 1) 2, (some (21, true))⟩, (some [1, 21, 22])),
  (⟨(some 23), .load (.t 22) 1 false, (some (21, true))⟩, none),
  (⟨(some 24), .faddr (.t 1) 0, (some (21, true))⟩, none),
  (⟨(some 25), .load (.t 24) 1 false, (some (21, true))⟩, none),
  (⟨(some 26), .faddr (.t 1) 1, (some (21, true))⟩, none),
  (⟨(some 27), .load (.t 26) 1 false, (some (21, true))⟩, (some [21, 23, 25, 27])),
  (⟨(some 28), .call (n_spec_l1In) [(.t 23), (.t 25), (.t 27)], (some (21, true))⟩, none),
  kA 29 (.pick (.t 21) (.t 28) (.c (.bool false))),
  kB 2 (.mv (.t 29)) [2]]
@[go_sem] def s100_2 (_ : Unit) : IR := (sQ [(kT l100_0), (kT l100_1), .ret])
theorem c100 : compFn Try.prog [(0, [], [oN, oS [1]]), (1, [], [oN, oN, oN, oN, oS [1, 6, 7], oN, oN, oN, oN, oS [1, 12], oN, oN, oN, oN, oS [1, 13, 15, 17], oN, oN, oN, oN, oS [1, 21, 22], oN, oN, oN, oN, oS [21, 23, 25, 27], oN, oN, oS [2]])] Try.f100 = some ⟨1, 30, [.t 2], (tH s100_2)⟩ := by kernel_rfl
theorem v_spec_l2Var (hl : vs.length = 1) (h : wpV Try.prog (tH s100_2) (postV [.t 2] RV) (envV vs) M) : VCall Try.prog n_spec_l2Var vs M RV :=
  vcall_of_wp (fun _ _ _ hl h => acall_of_wp mixed Try.func100 c100 (by kernel_rfl) hl h) hl h
@[go_sem] def l169_0 (_ : Unit) : KL := [kB 2 (.mv (.c (.bool false))) [0]]
@[go_sem] def l169_1 (_ : Unit) : KL := [kA 3 (.mv (.t 0)),
  kA 4 (.bin .eql (.t 3) (.c (.int .i64 7))),
  kB 2 (.mv (.t 4)) [2]]
@[go_sem] def s169_2 (_ : Unit) : IR := (sQ [(kT l169_0), (kT l169_1), .ret])
theorem c169 : compFn Try.prog [(0, [], [oS [0]]), (1, [], [oN, oN, oS [2]])] Try.f169 = some ⟨1, 5, [.t 2], (tH s169_2)⟩ := by kernel_rfl
theorem v_spec_l1One (hl : vs.length = 1) (h : wpV Try.prog (tH s169_2) (postV [.t 2] RV) (envV vs) M) : VCall Try.prog n_spec_l1One vs M RV :=
  vcall_of_wp (fun _ _ _ hl h => acall_of_wp mixed Try.func169 c169 (by kernel_rfl) hl h) hl h
@[go_sem] def l152_0 (_ : Unit) : KL := [kA 3 (.box (.t 0)),
  kB 6 (.mv (cI 0)) [1, 2, 3]]
@[go_sem] def l152_1 (_ : Unit) : KL := [kA 8 (.faddr (.t 3) 0),
  kA 9 (.load (.t 8) 1 false),
  kA 10 (.bin .eql (.t 9) (cI 0)),
  kA 11 (.mv (.t 10)),
  (⟨(some 12), .faddr (.t 3) 1, (some (11, true))⟩, (some [1, 2, 3, 11, 12])),
  (⟨(some 13), .load (.t 12) 1 false, (some (11, true))⟩, none),
  (⟨(some 14), .call (n_spec_l1In) [(.t 13), (.c (.int .i64 (-9999))), (.c (.int .i64 9999))], (some (11, true))⟩, none),
  kA 15 (.pick (.t 11) (.t 14) (.c (.bool false))),
  kA 16 (.mv (.t 15)),
  (⟨(some 17), .faddr (.t 3) 2, (some (16, true))⟩, (some [1, 2, 3, 16, 17])),
  (⟨(some 18), .load (.t 17) 1 false, (some (16, true))⟩, none),
  (⟨(some 19), .bin .eql (.t 18) (cI 0), (some (16, true))⟩, none),
  kA 20 (.pick (.t 16) (.t 19) (.c (.bool false))),
  kA 21 (.mv (.t 20)),
  (⟨(some 22), .faddr (.t 3) 3, (some (21, true))⟩, (some [1, 2, 3, 21, 22])),
  (⟨(some 23), .load (.t 22) 1 false, (some (21, true))⟩, none),
  (⟨(some 24), .bin .eql (.t 23) (cI 0), (some (21, true))⟩, none),
  kB 25 (.pick (.t 21) (.t 24) (.c (.bool false))) [1, 2, 3, 25]]
@[go_sem] def l152_2 (_ : Unit) : KL := [kB 6 (.mv (cI 1)) [6]]
@[go_sem] def s152_3 (_ : Unit) : IR := (sQ [(kT l152_2), .ret])
@[go_sem] def s152_4 (_ : Unit) : IR := (sQ [(kT l152_1), (.cond (.t 25) (tH s152_3) .skip)])
@[go_sem] def l152_5 (_ : Unit) : KL := [kA 26 (.faddr (.t 3) 0),
  kA 27 (.load (.t 26) 1 false),
  kA 28 (.bin .eql (.t 27) (cI 1)),
  kA 29 (.mv (.t 28)),
  (⟨(some 30), .faddr (.t 3) 1, (some (29, true))⟩, (some [1, 2, 3, 29, 30])),
  (⟨(some 31), .load (.t 30) 1 false, (some (29, true))⟩, none),
  (⟨(some 32), .mv (.t 2), (some (29, true))⟩, none),
  (⟨(some 33), .bin .sub (.t 32) (cI 1), (some (29, true))⟩, none),
  (⟨(some 34), .call (n_spec_l1In) [(.t 31), (cI 0), (.t 33)], (some (29, true))⟩, none),
  kB 35 (.pick (.t 29) (.t 34) (.c (.bool false))) [1, 3, 35],
  kA 36 (.mv (.t 35)),
  (⟨(some 37), .faddr (.t 3) 2, (some (36, true))⟩, none),
  (⟨(some 38), .load (.t 37) 1 false, (some (36, true))⟩, none),
  (⟨(some 39), .bin .eql (.t 38) (cI 0), (some (36, true))⟩, none),
  kB 40 (.pick (.t 36) (.t 39) (.c (.bool false))) [1, 3, 40],
  kA 41 (.mv (.t 40)),
  (⟨(some 42), .faddr (.t 3) 3, (some (41, true))⟩, none),
  (⟨(some 43), .load (.t 42) 1 false, (some (41, true))⟩, none),
  (⟨(some 44), .bin .eql (.t 43) (cI 0), (some (41, true))⟩, none),
  kB 45 (.pick (.t 41) (.t 44) (.c (.bool false))) [1, 3, 45]]
@[go_sem] def l152_6 (_ : Unit) : KL := [kB 6 (.mv (cI 1)) [6]]
@[go_sem] def s152_7 (_ : Unit) : IR := (sQ [(kT l152_6), .ret])
@[go_sem] def s152_8 (_ : Unit) : IR := (sQ [(kT l152_5), (.cond (.t 45) (tH s152_7) .skip)])
@[go_sem] def l152_9 (_ : Unit) : KL := [kA 46 (.faddr (.t 3) 0),
  kA 47 (.load (.t 46) 1 false),
  kA 48 (.call (n_spec_l1In) [(.t 47), (.c (.int .i64 2)), (.c (.int .i64 9))]),
  kA 49 (.un .not (.t 48)),
  kB 50 (.mv (.t 49)) [1, 3, 50],
  (⟨(some 51), .faddr (.t 3) 1, (some (50, false))⟩, none),
  (⟨(some 52), .load (.t 51) 1 false, (some (50, false))⟩, none),
  (⟨(some 53), .bin .neq (.t 52) (cI 0), (some (50, false))⟩, none),
  kA 54 (.pick (.t 50) (.c (.bool true)) (.t 53)),
  kB 55 (.mv (.t 54)) [1, 3, 55],
  (⟨(some 56), .faddr (.t 3) 2, (some (55, false))⟩, none),
  (⟨(some 57), .load (.t 56) 1 false, (some (55, false))⟩, none),
  (⟨(some 58), .mv (.t 1), (some (55, false))⟩, none),
  (⟨(some 59), .len (.t 58), (some (55, false))⟩, none),
  (⟨(some 60), .bin .sub (.t 59) (cI 1), (some (55, false))⟩, (some [1, 3, 55, 57, 60])),
  (⟨(some 61), .call (n_spec_l1In) [(.t 57), (cI 0), (.t 60)], (some (55, false))⟩, none),
  (⟨(some 62), .un .not (.t 61), (some (55, false))⟩, none),
  kA 63 (.pick (.t 55) (.c (.bool true)) (.t 62)),
  kA 64 (.mv (.t 63)),
  (⟨(some 65), .faddr (.t 3) 3, (some (64, false))⟩, (some [1, 3, 64, 65])),
  (⟨(some 66), .load (.t 65) 1 false, (some (64, false))⟩, none),
  (⟨(some 67), .mv (.t 1), (some (64, false))⟩, none),
  (⟨(some 68), .len (.t 67), (some (64, false))⟩, none),
  (⟨(some 69), .bin .sub (.t 68) (cI 1), (some (64, false))⟩, none),
  (⟨(some 70), .call (n_spec_l1In) [(.t 66), (cI 0), (.t 69)], (some (64, false))⟩, (some [1, 3, 64, 70])),
  (⟨(some 71), .un .not (.t 70), (some (64, false))⟩, none),
  kB 72 (.pick (.t 64) (.c (.bool true)) (.t 71)) [1, 3, 72]]
@[go_sem] def l152_10 (_ : Unit) : KL := [kB 6 (.mv (cI 0)) [6]]
@[go_sem] def s152_11 (_ : Unit) : IR := (sQ [(kT l152_10), .ret])
@[go_sem] def s152_12 (_ : Unit) : IR := (sQ [(kT l152_9), (.cond (.t 72) (tH s152_11) .skip)])
@[go_sem] def l152_13 (_ : Unit) : KL := [kB 7 (.mv (cI 1)) [1, 3, 7]]
@[go_sem] def l152_14 (_ : Unit) : KL := [kA 73 (.faddr (.t 3) 0),
  kA 74 (.load (.t 73) 1 false),
  kB 75 (.bin .geq (.t 74) (.c (.int .i64 7))) [1, 3, 7, 75]]
@[go_sem] def l152_15 (_ : Unit) : KL := [kB 7 (.mv (.c (.int .i64 2))) [1, 3, 7]]
@[go_sem] def s152_16 (_ : Unit) : IR := (sQ [(kT l152_14), (.cond (.t 75) (kT l152_15) .skip)])
@[go_sem] def l152_17 (_ : Unit) : KL := [kA 76 (.mv (.t 1)),
  kA 77 (.faddr (.t 3) 2),
  kA 78 (.load (.t 77) 1 false),
  kA 79 (.iaddr (.t 76) (.t 78) 1),
  kB 80 (.load (.t 79) 1 false) [1, 3, 7, 80],
  kA 81 (.mv (.t 7)),
  kA 82 (.bin .neq (.t 80) (.t 81)),
  kA 83 (.mv (.t 82)),
  (⟨(some 84), .mv (.t 1), (some (83, false))⟩, none),
  (⟨(some 85), .faddr (.t 3) 3, (some (83, false))⟩, (some [3, 7, 83, 84, 85])),
  (⟨(some 86), .load (.t 85) 1 false, (some (83, false))⟩, none),
  (⟨(some 87), .iaddr (.t 84) (.t 86) 1, (some (83, false))⟩, none),
  (⟨(some 88), .load (.t 87) 1 false, (some (83, false))⟩, none),
  (⟨(some 89), .mv (.t 7), (some (83, false))⟩, none),
  (⟨(some 90), .bin .neq (.t 88) (.t 89), (some (83, false))⟩, (some [3, 83, 90])),
  kA 91 (.pick (.t 83) (.c (.bool true)) (.t 90)),
  kA 92 (.mv (.t 91)),
  (⟨(some 93), .faddr (.t 3) 0, (some (92, false))⟩, none),
  (⟨(some 94), .load (.t 93) 1 false, (some (92, false))⟩, none),
  (⟨(some 95), .call (n_spec_l1One) [(.t 94)], (some (92, false))⟩, (some [3, 92, 95])),
  (⟨(some 96), .mv (.t 95), (some (92, false))⟩, none),
  (⟨(some 97), .faddr (.t 3) 3, (some (96, true))⟩, none),
  (⟨(some 98), .load (.t 97) 1 false, (some (96, true))⟩, none),
  (⟨(some 99), .faddr (.t 3) 2, (some (96, true))⟩, none),
  (⟨(some 100), .load (.t 99) 1 false, (some (96, true))⟩, (some [3, 92, 96, 98, 100])),
  (⟨(some 101), .bin .neq (.t 98) (.t 100), (some (96, true))⟩, none),
  (⟨(some 102), .pick (.t 96) (.t 101) (.c (.bool false)), (some (92, false))⟩, none),
  kB 103 (.pick (.t 92) (.c (.bool true)) (.t 102)) [3, 103]]
@[go_sem] def l152_18 (_ : Unit) : KL := [kB 6 (.mv (cI 0)) [6]]
@[go_sem] def s152_19 (_ : Unit) : IR := (sQ [(kT l152_18), .ret])
@[go_sem] def s152_20 (_ : Unit) : IR := (sQ [(kT l152_17), (.cond (.t 103) (tH s152_19) .skip)])
@[go_sem] def l152_21 (_ : Unit) : KL := [kA 104 (.faddr (.t 3) 0),
  kA 105 (.load (.t 104) 1 false),
  kB 106 (.bin .geq (.t 105) (.c (.int .i64 5))) [106]]
@[go_sem] def l152_22 (_ : Unit) : KL := [kB 6 (.mv (.c (.int .i64 2))) [6]]
@[go_sem] def s152_23 (_ : Unit) : IR := (sQ [(kT l152_22), .ret])
@[go_sem] def s152_24 (_ : Unit) : IR := (sQ [(kT l152_21), (.cond (.t 106) (tH s152_23) .skip)])
@[go_sem] def l152_25 (_ : Unit) : KL := [kB 6 (.mv (cI 1)) [6]]
@[go_sem] def s152_26 (_ : Unit) : IR := (sQ [(kT l152_0), (tH s152_4), (tH s152_8), (tH s152_12), (kT l152_13), (tH s152_16), (tH s152_20), (tH s152_24), (kT l152_25), .ret])
theorem c152 : compFn Try.prog [(0, [], [oN, oS [1, 2, 3]]), (1, [], [oN, oN, oN, oN, oS [1, 2, 3, 11, 12], oN, oN, oN, oN, oS [1, 2, 3, 16, 17], oN, oN, oN, oN, oS [1, 2, 3, 21, 22], oN, oN, oS [1, 2, 3, 25]]), (2, [], [oS [6]]), (3, [], [oN, oN, oN, oN, oS [1, 2, 3, 29, 30], oN, oN, oN, oN, oS [1, 3, 35], oN, oN, oN, oN, oS [1, 3, 40], oN, oN, oN, oN, oS [1, 3, 45]]), (4, [], [oS [6]]), (5, [], [oN, oN, oN, oN, oS [1, 3, 50], oN, oN, oN, oN, oS [1, 3, 55], oN, oN, oN, oN, oS [1, 3, 55, 57, 60], oN, oN, oN, oN, oS [1, 3, 64, 65], oN, oN, oN, oN, oS [1, 3, 64, 70], oN, oS [1, 3, 72]]), (6, [], [oS [6]]), (7, [], [oS [1, 3, 7]]), (8, [], [oN, oN, oS [1, 3, 7, 75]]), (9, [], [oS [1, 3, 7]]), (10, [], [oN, oN, oN, oN, oS [1, 3, 7, 80], oN, oN, oN, oN, oS [3, 7, 83, 84, 85], oN, oN, oN, oN, oS [3, 83, 90], oN, oN, oN, oN, oS [3, 92, 95], oN, oN, oN, oN, oS [3, 92, 96, 98, 100], oN, oN, oS [3, 103]]), (11, [], [oS [6]]), (12, [], [oN, oN, oS [106]]), (13, [], [oS [6]]), (14, [], [oS [6]])] Try.f152 = some ⟨3, 107, [.t 6], (tH s152_26)⟩ := by kernel_rfl
theorem v_spec_l1Kind (hl : vs.length = 3) (h : wpV Try.prog (tH s152_26) (postV [.t 6] RV) (envV vs) M) : VCall Try.prog n_spec_l1Kind vs M RV :=
  vcall_of_wp (fun _ _ _ hl h => acall_of_wp mixed Try.func152 c152 (by kernel_rfl) hl h) hl h
@[go_sem] def l140_0 (_ : Unit) : KL := [kB 4 (.mv (.c (.sl none 0 0 true 0))) [0, 1]]
@[go_sem] def l140_1 (_ : Unit) : KL := [kA 8 (.mv (.t 1)),
  kA 9 (.call (n_spec_l1In) [(.t 8), (cI 0), (.c (.int .i64 5))]),
  kA 10 (.un .not (.t 9)),
  kA 11 (.mv (.t 10)),
  (⟨(some 12), .mv (.t 0), (some (11, false))⟩, (some [0, 1, 11, 12])),
  (⟨(some 13), .len (.t 12), (some (11, false))⟩, none),
  (⟨(some 14), .call (n_spec_l1In) [(.t 13), (cI 1), (.c (.int .i64 40))], (some (11, false))⟩, none),
  (⟨(some 15), .un .not (.t 14), (some (11, false))⟩, none),
  kB 16 (.pick (.t 11) (.c (.bool true)) (.t 15)) [0, 1, 16]]
@[go_sem] def l140_2 (_ : Unit) : KL := [kB 4 (.mv (.c (.sl none 0 0 true 0))) [4]]
@[go_sem] def s140_3 (_ : Unit) : IR := (sQ [(kT l140_2), .ret])
@[go_sem] def s140_4 (_ : Unit) : IR := (sQ [(kT l140_1), (.cond (.t 16) (tH s140_3) .skip)])
@[go_sem] def l140_5 (_ : Unit) : KL := [kA 17 (.bslc 1 0 [(.int .i64 0)] []),
  kB 5 (.mv (.t 17)) [0, 1, 5]]
@[go_sem] def l140_6 (_ : Unit) : KL := [kB 6 (.mv (cI 0)) [0, 1, 5, 6]]
@[go_sem] def l140_7 (_ : Unit) : KL := [kA 18 (.mv (.t 6)),
  kA 19 (.mv (.t 0)),
  kA 20 (.len (.t 19)),
  kB 21 (.bin .lss (.t 18) (.t 20)) [0, 1, 5, 6, 21]]
@[go_sem] def s140_8 (_ : Unit) : IR := (sQ [(kT l140_7), (.cond (.t 21) .skip (.exit 0))])
@[go_sem] def l140_9 (_ : Unit) : KL := [kA 24 (.mv (.t 0)),
  kA 25 (.mv (.t 6)),
  kA 26 (.iaddr (.t 24) (.t 25) 4),
  kA 27 (.load (.t 26) 4 true),
  kB 28 (.mv (.t 5)) [0, 1, 5, 6, 27, 28],
  kA 29 (.mv (.t 1)),
  kA 30 (.call (n_spec_l1Kind) [(.t 27), (.t 28), (.t 29)]),
  kB 7 (.mv (.t 30)) [0, 1, 5, 6, 7]]
@[go_sem] def l140_10 (_ : Unit) : KL := [kA 31 (.mv (.t 7)),
  kB 32 (.bin .eql (.t 31) (cI 0)) [0, 1, 5, 6, 7, 32]]
@[go_sem] def l140_11 (_ : Unit) : KL := [kB 4 (.mv (.c (.sl none 0 0 true 0))) [4]]
@[go_sem] def s140_12 (_ : Unit) : IR := (sQ [(kT l140_11), .ret])
@[go_sem] def s140_13 (_ : Unit) : IR := (sQ [(kT l140_10), (.cond (.t 32) (tH s140_12) .skip)])
@[go_sem] def l140_14 (_ : Unit) : KL := [kA 33 (.mv (.t 5)),
  kA 34 (.mv (.t 7)),
  kA 35 (.bslc 1 1 [(.int .i64 0)] [(0, (.t 34))]),
  kA 36 (.app 1 8 (.t 33) (.t 35)),
  kB 5 (.mv (.t 36)) [0, 1, 5, 6]]
@[go_sem] def s140_15 (_ : Unit) : IR := (sQ [(kT l140_9), (tH s140_13), (kT l140_14)])
@[go_sem] def s140_16 (_ : Unit) : IR := (.block 1 (tH s140_15))
@[go_sem] def l140_17 (_ : Unit) : KL := [kA 22 (.mv (.t 6)),
  kA 23 (.bin .add (.t 22) (cI 1)),
  kB 6 (.mv (.t 23)) [0, 1, 5, 6]]
@[go_sem] def s140_18 (_ : Unit) : IR := (sQ [(tH s140_8), (tH s140_16), (kT l140_17)])
@[go_sem] def s140_19 (_ : Unit) : IR := (.loop (tH s140_18))
@[go_sem] def s140_20 (_ : Unit) : IR := (.block 0 (tH s140_19))
@[go_sem] def s140_21 (_ : Unit) : IR := (sQ [(kT l140_6), (tH s140_20)])
@[go_sem] def l140_22 (_ : Unit) : KL := [kA 37 (.mv (.t 5)),
  kB 4 (.mv (.t 37)) [4]]
@[go_sem] def s140_23 (_ : Unit) : IR := (sQ [(kT l140_0), (tH s140_4), (kT l140_5), (tH s140_21), (kT l140_22), .ret])
theorem c140 : compFn Try.prog [(0, [], [oS [0, 1]]), (1, [], [oN, oN, oN, oN, oS [0, 1, 11, 12], oN, oN, oN, oS [0, 1, 16]]), (2, [], [oS [4]]), (3, [], [oN, oS [0, 1, 5]]), (4, [], [oS [0, 1, 5, 6]]), (5, [], [oN, oN, oN, oS [0, 1, 5, 6, 21]]), (7, [], [oN, oN, oN, oN, oS [0, 1, 5, 6, 27, 28], oN, oN, oS [0, 1, 5, 6, 7]]), (8, [], [oN, oS [0, 1, 5, 6, 7, 32]]), (9, [], [oS [4]]), (10, [], [oN, oN, oN, oN, oS [0, 1, 5, 6]]), (6, [], [oN, oN, oS [0, 1, 5, 6]]), (11, [], [oN, oS [4]])] Try.f140 = some ⟨2, 38, [.t 4], (tH s140_23)⟩ := by kernel_rfl
theorem v_spec_KindsOf (hl : vs.length = 2) (h : wpV Try.prog (tH s140_23) (postV [.t 4] RV) (envV vs) M) : VCall Try.prog n_spec_KindsOf vs M RV :=
  vcall_of_wp (fun _ _ _ hl h => acall_of_wp mixed Try.func140 c140 (by kernel_rfl) hl h) hl h
@[go_sem] def l133_0 (_ : Unit) : KL := [kB 6 (.mv (.c (.bool false))) [0, 1, 2]]
@[go_sem] def l133_1 (_ : Unit) : KL := [kA 8 (.mv (.t 0)),
  kA 9 (.mv (.t 1)),
  kA 10 (.call (n_spec_KindsOf) [(.t 8), (.t 9)]),
  kB 7 (.mv (.t 10)) [2, 7]]
@[go_sem] def l133_2 (_ : Unit) : KL := [kA 11 (.mv (.t 7)),
  kA 12 (.len (.t 11)),
  kA 13 (.bin .gtr (.t 12) (cI 0)),
  kA 14 (.mv (.t 13)),
  (⟨(some 15), .mv (.t 7), (some (14, true))⟩, (some [2, 7, 14, 15])),
  (⟨(some 16), .mv (.t 7), (some (14, true))⟩, none),
  (⟨(some 17), .len (.t 16), (some (14, true))⟩, none),
  (⟨(some 18), .bin .sub (.t 17) (cI 1), (some (14, true))⟩, none),
  (⟨(some 19), .iaddr (.t 15) (.t 18) 1, (some (14, true))⟩, none),
  (⟨(some 20), .load (.t 19) 1 false, (some (14, true))⟩, (some [2, 14, 20])),
  (⟨(some 21), .mv (.t 2), (some (14, true))⟩, none),
  (⟨(some 22), .bin .eql (.t 20) (.t 21), (some (14, true))⟩, none),
  kA 23 (.pick (.t 14) (.t 22) (.c (.bool false))),
  kB 6 (.mv (.t 23)) [6]]
@[go_sem] def s133_3 (_ : Unit) : IR := (sQ [(kT l133_0), (kT l133_1), (kT l133_2), .ret])
theorem c133 : compFn Try.prog [(0, [], [oS [0, 1, 2]]), (1, [], [oN, oN, oN, oS [2, 7]]), (2, [], [oN, oN, oN, oN, oS [2, 7, 14, 15], oN, oN, oN, oN, oS [2, 14, 20], oN, oN, oN, oS [6]])] Try.f133 = some ⟨3, 24, [.t 6], (tH s133_3)⟩ := by kernel_rfl
theorem v_spec_l2Is (hl : vs.length = 3) (h : wpV Try.prog (tH s133_3) (postV [.t 6] RV) (envV vs) M) : VCall Try.prog n_spec_l2Is vs M RV :=
  vcall_of_wp (fun _ _ _ hl h => acall_of_wp mixed Try.func133 c133 (by kernel_rfl) hl h) hl h
@[go_sem] def l101_0 (_ : Unit) : KL := [kA 2 (.box (.t 0)),
  kB 4 (.mv (.c (.bool false))) [1, 2]]
@[go_sem] def l101_1 (_ : Unit) : KL := [kA 6 (.faddr (.t 2) 0),
  kA 7 (.load (.t 6) 1 false),
  kA 8 (.mv (.t 1)),
  kA 9 (.call (n_spec_l2Is) [(.t 7), (.t 8), (.c (.int .i64 2))]),
  kB 10 (.un .not (.t 9)) [1, 2, 10],
  kA 11 (.mv (.t 10)),
  (⟨(some 12), .faddr (.t 2) 1, (some (11, false))⟩, none),
  (⟨(some 13), .load (.t 12) 1 false, (some (11, false))⟩, none),
  (⟨(some 14), .len (.t 13), (some (11, false))⟩, none),
  (⟨(some 15), .faddr (.t 2) 2, (some (11, false))⟩, (some [1, 2, 11, 14, 15])),
  (⟨(some 16), .load (.t 15) 1 false, (some (11, false))⟩, none),
  (⟨(some 17), .len (.t 16), (some (11, false))⟩, none),
  (⟨(some 18), .bin .neq (.t 14) (.t 17), (some (11, false))⟩, none),
  kA 19 (.pick (.t 11) (.c (.bool true)) (.t 18)),
  kB 20 (.mv (.t 19)) [1, 2, 20],
  (⟨(some 21), .faddr (.t 2) 1, (some (20, false))⟩, none),
  (⟨(some 22), .load (.t 21) 1 false, (some (20, false))⟩, none),
  (⟨(some 23), .len (.t 22), (some (20, false))⟩, none),
  (⟨(some 24), .mv (.t 1), (some (20, false))⟩, none),
  (⟨(some 25), .bin .gtr (.t 23) (.t 24), (some (20, false))⟩, (some [1, 2, 20, 25])),
  kB 26 (.pick (.t 20) (.c (.bool true)) (.t 25)) [1, 2, 26]]
@[go_sem] def l101_2 (_ : Unit) : KL := [kB 4 (.mv (.c (.bool false))) [4]]
@[go_sem] def s101_3 (_ : Unit) : IR := (sQ [(kT l101_2), .ret])
@[go_sem] def s101_4 (_ : Unit) : IR := (sQ [(kT l101_1), (.cond (.t 26) (tH s101_3) .skip)])
@[go_sem] def l101_5 (_ : Unit) : KL := [kB 5 (.mv (cI 0)) [1, 2, 5]]
@[go_sem] def l101_6 (_ : Unit) : KL := [kA 27 (.mv (.t 5)),
  kA 28 (.faddr (.t 2) 1),
  kA 29 (.load (.t 28) 1 false),
  kA 30 (.len (.t 29)),
  kB 31 (.bin .lss (.t 27) (.t 30)) [1, 2, 5, 31]]
@[go_sem] def s101_7 (_ : Unit) : IR := (sQ [(kT l101_6), (.cond (.t 31) .skip (.exit 0))])
@[go_sem] def l101_8 : Nat → GOp
  | 0 => ⟨(some 34), .faddr (.t 2) 1, none⟩
  | 1 => ⟨(some 35), .load (.t 34) 1 false, none⟩
  | 2 => ⟨(some 36), .mv (.t 5), none⟩
  | 3 => ⟨(some 37), .iaddr (.t 35) (.t 36) 1, none⟩
  | 4 => ⟨(some 38), .load (.t 37) 1 false, none⟩
  | 5 => ⟨(some 39), .mv (.t 1), none⟩
  | 6 => ⟨(some 40), .bin .sub (.t 39) (cI 1), none⟩
  | 7 => ⟨(some 41), .call (n_spec_l1In) [(.t 38), (cI 0), (.t 40)], none⟩
  | 8 => ⟨(some 42), .un .not (.t 41), none⟩
  | 9 => ⟨(some 43), .mv (.t 42), none⟩
  | 10 => ⟨(some 44), .mv (.t 5), (some (43, false))⟩
  | 11 => ⟨(some 45), .bin .gtr (.t 44) (cI 0), (some (43, false))⟩
  | 12 => ⟨(some 46), .mv (.t 45), (some (43, false))⟩
  | 13 => ⟨(some 47), .faddr (.t 2) 1, (some (46, true))⟩
  | 14 => ⟨(some 48), .load (.t 47) 1 false, (some (46, true))⟩
  | 15 => ⟨(some 49), .mv (.t 5), (some (46, true))⟩
  | 16 => ⟨(some 50), .iaddr (.t 48) (.t 49) 1, (some (46, true))⟩
  | 17 => ⟨(some 51), .load (.t 50) 1 false, (some (46, true))⟩
  | 18 => ⟨(some 52), .faddr (.t 2) 1, (some (46, true))⟩
  | 19 => ⟨(some 53), .load (.t 52) 1 false, (some (46, true))⟩
  | 20 => ⟨(some 54), .mv (.t 5), (some (46, true))⟩
  | 21 => ⟨(some 55), .bin .sub (.t 54) (cI 1), (some (46, true))⟩
  | 22 => ⟨(some 56), .iaddr (.t 53) (.t 55) 1, (some (46, true))⟩
  | 23 => ⟨(some 57), .load (.t 56) 1 false, (some (46, true))⟩
  | 24 => ⟨(some 58), .bin .leq (.t 51) (.t 57), (some (46, true))⟩
  | 25 => ⟨(some 59), .pick (.t 46) (.t 58) (.c (.bool false)), (some (43, false))⟩
  | 26 => ⟨(some 60), .pick (.t 43) (.c (.bool true)) (.t 59), none⟩
  | 27 => ⟨(some 61), .mv (.t 60), none⟩
  | 28 => ⟨(some 62), .faddr (.t 2) 2, (some (61, false))⟩
  | 29 => ⟨(some 63), .load (.t 62) 1 false, (some (61, false))⟩
  | 30 => ⟨(some 64), .mv (.t 5), (some (61, false))⟩
  | 31 => ⟨(some 65), .iaddr (.t 63) (.t 64) 1, (some (61, false))⟩
  | 32 => ⟨(some 66), .load (.t 65) 1 false, (some (61, false))⟩
  | 33 => ⟨(some 67), .mv (.t 1), (some (61, false))⟩
  | 34 => ⟨(some 68), .call (n_spec_l2Is) [(.t 66), (.t 67), (cI 1)], (some (61, false))⟩
  | 35 => ⟨(some 69), .un .not (.t 68), (some (61, false))⟩
  | 36 => ⟨(some 70), .pick (.t 61) (.c (.bool true)) (.t 69), none⟩
  | _ => ⟨none, .mkmap, none⟩
@[go_sem] def l101_9 (_ : Unit) : KL := [kB 4 (.mv (.c (.bool false))) [4]]
@[go_sem] def s101_10 (_ : Unit) : IR := (sQ [(kT l101_9), .ret])
@[go_sem] def s101_11 (_ : Unit) : IR := (sQ [(.kd (oF l101_8 37) [(0, []), (1, []), (2, []), (3, []), (4, []), (5, []), (6, []), (7, []), (8, []), (9, []), (10, []), (11, []), (12, []), (13, []), (14, []), (15, []), (16, []), (17, []), (18, []), (19, []), (20, []), (21, []), (22, []), (23, []), (24, []), (25, []), (26, []), (27, []), (28, []), (29, []), (30, []), (31, []), (32, []), (33, []), (34, []), (35, []), (36, [])] [1, 2, 5, 70]), (.cond (.t 70) (tH s101_10) .skip)])
@[go_sem] def s101_12 (_ : Unit) : IR := (.block 1 (tH s101_11))
@[go_sem] def l101_13 (_ : Unit) : KL := [kA 32 (.mv (.t 5)),
  kA 33 (.bin .add (.t 32) (cI 1)),
  kB 5 (.mv (.t 33)) [1, 2, 5]]
@[go_sem] def s101_14 (_ : Unit) : IR := (sQ [(tH s101_7), (tH s101_12), (kT l101_13)])
@[go_sem] def s101_15 (_ : Unit) : IR := (.loop (tH s101_14))
@[go_sem] def s101_16 (_ : Unit) : IR := (.block 0 (tH s101_15))
@[go_sem] def s101_17 (_ : Unit) : IR := (sQ [(kT l101_5), (tH s101_16)])
@[go_sem] def l101_18 (_ : Unit) : KL := [kB 4 (.mv (.c (.bool true))) [4]]
@[go_sem] def s101_19 (_ : Unit) : IR := (sQ [(kT l101_0), (tH s101_4), (tH s101_17), (kT l101_18), .ret])
theorem c101 : compFn Try.prog [(0, [], [oN, oS [1, 2]]), (1, [], [oN, oN, oN, oN, oS [1, 2, 10], oN, oN, oN, oN, oS [1, 2, 11, 14, 15], oN, oN, oN, oN, oS [1, 2, 20], oN, oN, oN, oN, oS [1, 2, 20, 25], oS [1, 2, 26]]), (2, [], [oS [4]]), (3, [], [oS [1, 2, 5]]), (4, [], [oN, oN, oN, oN, oS [1, 2, 5, 31]]), (6, [(0, []), (1, []), (2, []), (3, []), (4, []), (5, []), (6, []), (7, []), (8, []), (9, []), (10, []), (11, []), (12, []), (13, []), (14, []), (15, []), (16, []), (17, []), (18, []), (19, []), (20, []), (21, []), (22, []), (23, []), (24, []), (25, []), (26, []), (27, []), (28, []), (29, []), (30, []), (31, []), (32, []), (33, []), (34, []), (35, []), (36, [])], [oS [1, 2, 5, 70]]), (7, [], [oS [4]]), (5, [], [oN, oN, oS [1, 2, 5]]), (8, [], [oS [4]])] Try.f101 = some ⟨2, 71, [.t 4], (tH s101_19)⟩ := by kernel_rfl
theorem v_spec_l2Rule (hl : vs.length = 2) (h : wpV Try.prog (tH s101_19) (postV [.t 4] RV) (envV vs) M) : VCall Try.prog n_spec_l2Rule vs M RV :=
  vcall_of_wp (fun _ _ _ hl h => acall_of_wp mixed Try.func101 c101 (by kernel_rfl) hl h) hl h
@[go_sem] def l63_0 (_ : Unit) : KL := [kA 1 (.box (.t 0)),
  kB 2 (.mv (.c (.bool false))) [1]]
@[go_sem] def l63_1 (_ : Unit) : KL := [kA 6 (.faddr (.t 1) 0),
  kA 7 (.load (.t 6) 1 false),
  kA 8 (.len (.t 7)),
  kA 9 (.call (n_spec_l1In) [(.t 8), (cI 1), (.c (.int .i64 5))]),
  kB 10 (.un .not (.t 9)) [1, 10],
  kA 11 (.mv (.t 10)),
  (⟨(some 12), .faddr (.t 1) 1, (some (11, false))⟩, none),
  (⟨(some 13), .load (.t 12) 1 false, (some (11, false))⟩, none),
  (⟨(some 14), .len (.t 13), (some (11, false))⟩, none),
  (⟨(some 15), .bin .gtr (.t 14) (.c (.int .i64 8)), (some (11, false))⟩, (some [1, 11, 15])),
  kB 16 (.pick (.t 11) (.c (.bool true)) (.t 15)) [1, 16]]
@[go_sem] def l63_2 (_ : Unit) : KL := [kB 2 (.mv (.c (.bool false))) [2]]
@[go_sem] def s63_3 (_ : Unit) : IR := (sQ [(kT l63_2), .ret])
@[go_sem] def s63_4 (_ : Unit) : IR := (sQ [(kT l63_1), (.cond (.t 16) (tH s63_3) .skip)])
@[go_sem] def l63_5 (_ : Unit) : KL := [kB 3 (.mv (cI 1)) [1, 3]]
@[go_sem] def l63_6 (_ : Unit) : KL := [kB 4 (.mv (cI 0)) [1, 3, 4]]
@[go_sem] def l63_7 (_ : Unit) : KL := [kA 17 (.mv (.t 4)),
  kA 18 (.faddr (.t 1) 0),
  kA 19 (.load (.t 18) 1 false),
  kA 20 (.len (.t 19)),
  kB 21 (.bin .lss (.t 17) (.t 20)) [1, 3, 4, 21]]
@[go_sem] def s63_8 (_ : Unit) : IR := (sQ [(kT l63_7), (.cond (.t 21) .skip (.exit 0))])
@[go_sem] def l63_9 (_ : Unit) : KL := [kA 24 (.faddr (.t 1) 0),
  kA 25 (.load (.t 24) 1 false),
  kA 26 (.mv (.t 4)),
  kA 27 (.iaddr (.t 25) (.t 26) 3),
  kB 28 (.load (.t 27) 3 true) [1, 3, 4, 28],
  kA 29 (.call (n_spec_l2Var) [(.t 28)]),
  kB 30 (.un .not (.t 29)) [1, 3, 4, 30]]
@[go_sem] def l63_10 (_ : Unit) : KL := [kB 2 (.mv (.c (.bool false))) [2]]
@[go_sem] def s63_11 (_ : Unit) : IR := (sQ [(kT l63_10), .ret])
@[go_sem] def s63_12 (_ : Unit) : IR := (sQ [(kT l63_9), (.cond (.t 30) (tH s63_11) .skip)])
@[go_sem] def l63_13 : Nat → GOp
  | 0 => ⟨(some 31), .mv (.t 3), none⟩
  | 1 => ⟨(some 32), .faddr (.t 1) 0, none⟩
  | 2 => ⟨(some 33), .load (.t 32) 1 false, none⟩
  | 3 => ⟨(some 34), .mv (.t 4), none⟩
  | 4 => ⟨(some 35), .iaddr (.t 33) (.t 34) 3, none⟩
  | 5 => ⟨(some 36), .faddr (.t 35) 1, none⟩
  | 6 => ⟨(some 37), .load (.t 36) 1 false, none⟩
  | 7 => ⟨(some 38), .faddr (.t 1) 0, none⟩
  | 8 => ⟨(some 39), .load (.t 38) 1 false, none⟩
  | 9 => ⟨(some 40), .mv (.t 4), none⟩
  | 10 => ⟨(some 41), .iaddr (.t 39) (.t 40) 3, none⟩
  | 11 => ⟨(some 42), .faddr (.t 41) 0, none⟩
  | 12 => ⟨(some 43), .load (.t 42) 1 false, none⟩
  | 13 => ⟨(some 44), .bin .sub (.t 37) (.t 43), none⟩
  | 14 => ⟨(some 45), .bin .add (.t 44) (cI 1), none⟩
  | 15 => ⟨(some 46), .bin .mul (.t 31) (.t 45), none⟩
  | 16 => ⟨(some 3), .mv (.t 46), none⟩
  | _ => ⟨none, .mkmap, none⟩
@[go_sem] def s63_14 (_ : Unit) : IR := (sQ [(tH s63_12), (.kd (oF l63_13 17) [(0, []), (1, []), (2, []), (3, []), (4, []), (5, []), (6, []), (7, []), (8, []), (9, []), (10, []), (11, []), (12, []), (13, []), (14, []), (15, []), (16, [])] [1, 3, 4])])
@[go_sem] def s63_15 (_ : Unit) : IR := (.block 1 (tH s63_14))
@[go_sem] def l63_16 (_ : Unit) : KL := [kA 22 (.mv (.t 4)),
  kA 23 (.bin .add (.t 22) (cI 1)),
  kB 4 (.mv (.t 23)) [1, 3, 4]]
@[go_sem] def s63_17 (_ : Unit) : IR := (sQ [(tH s63_8), (tH s63_15), (kT l63_16)])
@[go_sem] def s63_18 (_ : Unit) : IR := (.loop (tH s63_17))
@[go_sem] def s63_19 (_ : Unit) : IR := (.block 0 (tH s63_18))
@[go_sem] def s63_20 (_ : Unit) : IR := (sQ [(kT l63_6), (tH s63_19)])
@[go_sem] def l63_21 (_ : Unit) : KL := [kB 5 (.mv (cI 0)) [1, 3, 5]]
@[go_sem] def l63_22 (_ : Unit) : KL := [kA 47 (.mv (.t 5)),
  kA 48 (.faddr (.t 1) 1),
  kA 49 (.load (.t 48) 1 false),
  kA 50 (.len (.t 49)),
  kB 51 (.bin .lss (.t 47) (.t 50)) [1, 3, 5, 51]]
@[go_sem] def s63_23 (_ : Unit) : IR := (sQ [(kT l63_22), (.cond (.t 51) .skip (.exit 2))])
@[go_sem] def l63_24 : Nat → GOp
  | 0 => ⟨(some 54), .faddr (.t 1) 1, none⟩
  | 1 => ⟨(some 55), .load (.t 54) 1 false, none⟩
  | 2 => ⟨(some 56), .mv (.t 5), none⟩
  | 3 => ⟨(some 57), .iaddr (.t 55) (.t 56) 3, none⟩
  | 4 => ⟨(some 58), .load (.t 57) 3 true, none⟩
  | 5 => ⟨(some 59), .faddr (.t 1) 0, none⟩
  | 6 => ⟨(some 60), .load (.t 59) 1 false, none⟩
  | 7 => ⟨(some 61), .len (.t 60), none⟩
  | 8 => ⟨(some 62), .call (n_spec_l2Rule) [(.t 58), (.t 61)], none⟩
  | 9 => ⟨(some 63), .un .not (.t 62), none⟩
  | _ => ⟨none, .mkmap, none⟩
@[go_sem] def l63_25 (_ : Unit) : KL := [kB 2 (.mv (.c (.bool false))) [2]]
@[go_sem] def s63_26 (_ : Unit) : IR := (sQ [(kT l63_25), .ret])
@[go_sem] def s63_27 (_ : Unit) : IR := (sQ [(.kd (oF l63_24 10) [(0, []), (1, []), (2, []), (3, []), (4, []), (5, []), (6, []), (7, []), (8, []), (9, [])] [1, 3, 5, 63]), (.cond (.t 63) (tH s63_26) .skip)])
@[go_sem] def s63_28 (_ : Unit) : IR := (.block 3 (tH s63_27))
@[go_sem] def l63_29 (_ : Unit) : KL := [kA 52 (.mv (.t 5)),
  kA 53 (.bin .add (.t 52) (cI 1)),
  kB 5 (.mv (.t 53)) [1, 3, 5]]
@[go_sem] def s63_30 (_ : Unit) : IR := (sQ [(tH s63_23), (tH s63_28), (kT l63_29)])
@[go_sem] def s63_31 (_ : Unit) : IR := (.loop (tH s63_30))
@[go_sem] def s63_32 (_ : Unit) : IR := (.block 2 (tH s63_31))
@[go_sem] def s63_33 (_ : Unit) : IR := (sQ [(kT l63_21), (tH s63_32)])
@[go_sem] def l63_34 (_ : Unit) : KL := [kA 64 (.mv (.t 3)),
  kA 65 (.bin .leq (.t 64) (.c (.int .i64 400))),
  kB 2 (.mv (.t 65)) [2]]
@[go_sem] def s63_35 (_ : Unit) : IR := (sQ [(kT l63_0), (tH s63_4), (kT l63_5), (tH s63_20), (tH s63_33), (kT l63_34), .ret])
theorem c63 : compFn Try.prog [(0, [], [oN, oS [1]]), (1, [], [oN, oN, oN, oN, oS [1, 10], oN, oN, oN, oN, oS [1, 11, 15], oS [1, 16]]), (2, [], [oS [2]]), (3, [], [oS [1, 3]]), (4, [], [oS [1, 3, 4]]), (5, [], [oN, oN, oN, oN, oS [1, 3, 4, 21]]), (7, [], [oN, oN, oN, oN, oS [1, 3, 4, 28], oN, oS [1, 3, 4, 30]]), (8, [], [oS [2]]), (9, [(0, []), (1, []), (2, []), (3, []), (4, []), (5, []), (6, []), (7, []), (8, []), (9, []), (10, []), (11, []), (12, []), (13, []), (14, []), (15, []), (16, [])], [oS [1, 3, 4]]), (6, [], [oN, oN, oS [1, 3, 4]]), (10, [], [oS [1, 3, 5]]), (11, [], [oN, oN, oN, oN, oS [1, 3, 5, 51]]), (13, [(0, []), (1, []), (2, []), (3, []), (4, []), (5, []), (6, []), (7, []), (8, []), (9, [])], [oS [1, 3, 5, 63]]), (14, [], [oS [2]]), (12, [], [oN, oN, oS [1, 3, 5]]), (15, [], [oN, oN, oS [2]])] Try.f63 = some ⟨1, 66, [.t 2], (tH s63_35)⟩ := by kernel_rfl
theorem v_spec_SystemValid (hl : vs.length = 1) (h : wpV Try.prog (tH s63_35) (postV [.t 2] RV) (envV vs) M) : VCall Try.prog n_spec_SystemValid vs M RV :=
  vcall_of_wp (fun _ _ _ hl h => acall_of_wp mixed Try.func63 c63 (by kernel_rfl) hl h) hl h
@[go_sem] def l110_0 (_ : Unit) : KL := [kB 4 (.mv (.c (.bool false))) [0, 1]]
@[go_sem] def l110_1 (_ : Unit) : KL := [kA 5 (.mv (.t 0)),
  kA 6 (.mv (.t 1)),
  kA 7 (.call (n_spec_KindsOf) [(.t 5), (.t 6)]),
  kA 8 (.len (.t 7)),
  kB 9 (.bin .gtr (.t 8) (cI 0)) [9],
  kB 4 (.mv (.t 9)) [4]]
@[go_sem] def s110_2 (_ : Unit) : IR := (sQ [(kT l110_0), (kT l110_1), .ret])
theorem c110 : compFn Try.prog [(0, [], [oS [0, 1]]), (1, [], [oN, oN, oN, oN, oS [9], oS [4]])] Try.f110 = some ⟨2, 10, [.t 4], (tH s110_2)⟩ := by kernel_rfl
theorem v_spec_TermsValid (hl : vs.length = 2) (h : wpV Try.prog (tH s110_2) (postV [.t 4] RV) (envV vs) M) : VCall Try.prog n_spec_TermsValid vs M RV :=
  vcall_of_wp (fun _ _ _ hl h => acall_of_wp mixed Try.func110 c110 (by kernel_rfl) hl h) hl h
@[go_sem] def l111_0 (_ : Unit) : KL := [kB 2 (.mv (.c (.sl none 0 0 true 0))) [0]]
@[go_sem] def l111_1 (_ : Unit) : KL := [kA 6 (.bslc 1 0 [(.bool false)] []),
  kB 3 (.mv (.t 6)) [0, 3]]
@[go_sem] def l111_2 (_ : Unit) : KL := [kB 4 (.mv (cI 0)) [0, 3, 4]]
@[go_sem] def l111_3 (_ : Unit) : KL := [kA 7 (.mv (.t 4)),
  kA 8 (.mv (.t 0)),
  kA 9 (.len (.t 8)),
  kB 10 (.bin .lss (.t 7) (.t 9)) [0, 3, 4, 10]]
@[go_sem] def s111_4 (_ : Unit) : IR := (sQ [(kT l111_3), (.cond (.t 10) .skip (.exit 0))])
@[go_sem] def l111_5 (_ : Unit) : KL := [kA 13 (.mv (.t 3)),
  kA 14 (.mv (.t 4)),
  kA 15 (.mv (.t 0)),
  kA 16 (.len (.t 15)),
  kB 17 (.bin .sub (.t 16) (cI 1)) [0, 4, 13, 14, 17],
  kA 18 (.bin .eql (.t 14) (.t 17)),
  kA 19 (.bslc 1 1 [(.bool false)] [(0, (.t 18))]),
  kA 20 (.app 1 1 (.t 13) (.t 19)),
  kB 3 (.mv (.t 20)) [0, 3, 4]]
@[go_sem] def s111_6 (_ : Unit) : IR := (.block 1 (kT l111_5))
@[go_sem] def l111_7 (_ : Unit) : KL := [kA 11 (.mv (.t 4)),
  kA 12 (.bin .add (.t 11) (cI 1)),
  kB 4 (.mv (.t 12)) [0, 3, 4]]
@[go_sem] def s111_8 (_ : Unit) : IR := (sQ [(tH s111_4), (tH s111_6), (kT l111_7)])
@[go_sem] def s111_9 (_ : Unit) : IR := (.loop (tH s111_8))
@[go_sem] def s111_10 (_ : Unit) : IR := (.block 0 (tH s111_9))
@[go_sem] def s111_11 (_ : Unit) : IR := (sQ [(kT l111_2), (tH s111_10)])
@[go_sem] def l111_12 (_ : Unit) : KL := [kA 21 (.mv (.t 0)),
  kA 22 (.len (.t 21)),
  kA 23 (.bin .sub (.t 22) (cI 1)),
  kB 5 (.mv (.t 23)) [0, 3, 5]]
@[go_sem] def l111_13 (_ : Unit) : KL := [kA 24 (.mv (.t 5)),
  kB 25 (.bin .geq (.t 24) (cI 0)) [0, 3, 5, 25]]
@[go_sem] def s111_14 (_ : Unit) : IR := (sQ [(kT l111_13), (.cond (.t 25) .skip (.exit 2))])
@[go_sem] def l111_15 (_ : Unit) : KL := [kA 28 (.mv (.t 3)),
  kA 29 (.mv (.t 5)),
  kA 30 (.iaddr (.t 28) (.t 29) 1),
  kA 31 (.load (.t 30) 1 false),
  kB 32 (.mv (.t 31)) [0, 3, 5, 32],
  (⟨(some 33), .mv (.t 0), (some (32, true))⟩, none),
  (⟨(some 34), .mv (.t 5), (some (32, true))⟩, none),
  (⟨(some 35), .iaddr (.t 33) (.t 34) 4, (some (32, true))⟩, none),
  (⟨(some 36), .faddr (.t 35) 0, (some (32, true))⟩, none),
  (⟨(some 37), .load (.t 36) 1 false, (some (32, true))⟩, (some [0, 3, 5, 32, 37])),
  (⟨(some 38), .bin .geq (.t 37) (.c (.int .i64 2)), (some (32, true))⟩, none),
  kB 39 (.pick (.t 32) (.t 38) (.c (.bool false))) [0, 3, 5, 39]]
@[go_sem] def l111_16 (_ : Unit) : KL := [kA 40 (.mv (.t 3)),
  kA 41 (.mv (.t 0)),
  kA 42 (.mv (.t 5)),
  kA 43 (.iaddr (.t 41) (.t 42) 4),
  kB 44 (.faddr (.t 43) 2) [0, 3, 5, 40, 44],
  kA 45 (.load (.t 44) 1 false),
  kA 46 (.iaddr (.t 40) (.t 45) 1),
  (⟨none, .store (.t 46) 1 (.c (.bool true)), none⟩, (some [0, 3, 5]))]
@[go_sem] def l111_17 (_ : Unit) : KL := [kA 47 (.mv (.t 3)),
  kA 48 (.mv (.t 0)),
  kA 49 (.mv (.t 5)),
  kA 50 (.iaddr (.t 48) (.t 49) 4),
  kB 51 (.faddr (.t 50) 3) [0, 3, 5, 47, 51],
  kA 52 (.load (.t 51) 1 false),
  kA 53 (.iaddr (.t 47) (.t 52) 1),
  (⟨none, .store (.t 53) 1 (.c (.bool true)), none⟩, (some [0, 3, 5]))]
@[go_sem] def s111_18 (_ : Unit) : IR := (sQ [(kT l111_16), (kT l111_17)])
@[go_sem] def s111_19 (_ : Unit) : IR := (sQ [(kT l111_15), (.cond (.t 39) (tH s111_18) .skip)])
@[go_sem] def s111_20 (_ : Unit) : IR := (.block 3 (tH s111_19))
@[go_sem] def l111_21 (_ : Unit) : KL := [kA 26 (.mv (.t 5)),
  kA 27 (.bin .sub (.t 26) (cI 1)),
  kB 5 (.mv (.t 27)) [0, 3, 5]]
@[go_sem] def s111_22 (_ : Unit) : IR := (sQ [(tH s111_14), (tH s111_20), (kT l111_21)])
@[go_sem] def s111_23 (_ : Unit) : IR := (.loop (tH s111_22))
@[go_sem] def s111_24 (_ : Unit) : IR := (.block 2 (tH s111_23))
@[go_sem] def s111_25 (_ : Unit) : IR := (sQ [(kT l111_12), (tH s111_24)])
@[go_sem] def l111_26 (_ : Unit) : KL := [kA 54 (.mv (.t 3)),
  kB 2 (.mv (.t 54)) [2]]
@[go_sem] def s111_27 (_ : Unit) : IR := (sQ [(kT l111_0), (kT l111_1), (tH s111_11), (tH s111_25), (kT l111_26), .ret])
theorem c111 : compFn Try.prog [(0, [], [oS [0]]), (1, [], [oN, oS [0, 3]]), (2, [], [oS [0, 3, 4]]), (3, [], [oN, oN, oN, oS [0, 3, 4, 10]]), (5, [], [oN, oN, oN, oN, oS [0, 4, 13, 14, 17], oN, oN, oN, oS [0, 3, 4]]), (4, [], [oN, oN, oS [0, 3, 4]]), (6, [], [oN, oN, oN, oS [0, 3, 5]]), (7, [], [oN, oS [0, 3, 5, 25]]), (9, [], [oN, oN, oN, oN, oS [0, 3, 5, 32], oN, oN, oN, oN, oS [0, 3, 5, 32, 37], oN, oS [0, 3, 5, 39]]), (10, [], [oN, oN, oN, oN, oS [0, 3, 5, 40, 44], oN, oN, oS [0, 3, 5]]), (11, [], [oN, oN, oN, oN, oS [0, 3, 5, 47, 51], oN, oN, oS [0, 3, 5]]), (8, [], [oN, oN, oS [0, 3, 5]]), (12, [], [oN, oS [2]])] Try.f111 = some ⟨1, 55, [.t 2], (tH s111_27)⟩ := by kernel_rfl
theorem v_spec_l1Needed (hl : vs.length = 1) (h : wpV Try.prog (tH s111_27) (postV [.t 2] RV) (envV vs) M) : VCall Try.prog n_spec_l1Needed vs M RV :=
  vcall_of_wp (fun _ _ _ hl h => acall_of_wp mixed Try.func111 c111 (by kernel_rfl) hl h) hl h
@[go_sem] def l70_0 (_ : Unit) : KL := [kB 4 (.mv (.c (.sl none 0 0 true 0))) [0, 1]]
@[go_sem] def l70_1 (_ : Unit) : KL := [kA 10 (.bslc 1 0 [(.int .i64 0)] []),
  kB 5 (.mv (.t 10)) [0, 1, 5]]
@[go_sem] def l70_2 (_ : Unit) : KL := [kA 11 (.mv (.t 0)),
  kA 12 (.mv (.t 1)),
  kA 13 (.call (n_spec_TermsValid) [(.t 11), (.t 12)]),
  kB 14 (.un .not (.t 13)) [0, 1, 5, 14]]
@[go_sem] def l70_3 (_ : Unit) : KL := [kA 15 (.mv (.t 5)),
  kB 4 (.mv (.t 15)) [4]]
@[go_sem] def s70_4 (_ : Unit) : IR := (sQ [(kT l70_3), .ret])
@[go_sem] def s70_5 (_ : Unit) : IR := (sQ [(kT l70_2), (.cond (.t 14) (tH s70_4) .skip)])
@[go_sem] def l70_6 (_ : Unit) : KL := [kA 16 (.mv (.t 0)),
  kA 17 (.call (n_spec_l1Needed) [(.t 16)]),
  kB 6 (.mv (.t 17)) [0, 1, 5, 6]]
@[go_sem] def l70_7 (_ : Unit) : KL := [kB 7 (.mv (cI 0)) [0, 1, 5, 6, 7]]
@[go_sem] def l70_8 (_ : Unit) : KL := [kA 18 (.mv (.t 7)),
  kA 19 (.mv (.t 1)),
  kB 20 (.bin .lss (.t 18) (.t 19)) [0, 1, 5, 6, 7, 20]]
@[go_sem] def s70_9 (_ : Unit) : IR := (sQ [(kT l70_8), (.cond (.t 20) .skip (.exit 0))])
@[go_sem] def l70_10 (_ : Unit) : KL := [kB 8 (.mv (.c (.bool false))) [0, 1, 5, 6, 7, 8]]
@[go_sem] def l70_11 (_ : Unit) : KL := [kB 9 (.mv (cI 0)) [0, 1, 5, 6, 7, 8, 9]]
@[go_sem] def l70_12 (_ : Unit) : KL := [kA 23 (.mv (.t 9)),
  kA 24 (.mv (.t 0)),
  kA 25 (.len (.t 24)),
  kB 26 (.bin .lss (.t 23) (.t 25)) [0, 1, 5, 6, 7, 8, 9, 26]]
@[go_sem] def s70_13 (_ : Unit) : IR := (sQ [(kT l70_12), (.cond (.t 26) .skip (.exit 2))])
@[go_sem] def l70_14 (_ : Unit) : KL := [kA 29 (.mv (.t 8)),
  kA 30 (.mv (.t 29)),
  (⟨(some 31), .mv (.t 6), (some (30, false))⟩, none),
  (⟨(some 32), .mv (.t 9), (some (30, false))⟩, none),
  (⟨(some 33), .iaddr (.t 31) (.t 32) 1, (some (30, false))⟩, (some [0, 1, 5, 6, 7, 9, 30, 33])),
  (⟨(some 34), .load (.t 33) 1 false, (some (30, false))⟩, none),
  (⟨(some 35), .mv (.t 34), (some (30, false))⟩, none),
  (⟨(some 36), .mv (.t 0), (some (35, true))⟩, none),
  (⟨(some 37), .mv (.t 9), (some (35, true))⟩, none),
  (⟨(some 38), .iaddr (.t 36) (.t 37) 4, (some (35, true))⟩, (some [0, 1, 5, 6, 7, 9, 30, 35, 38])),
  (⟨(some 39), .faddr (.t 38) 0, (some (35, true))⟩, none),
  (⟨(some 40), .load (.t 39) 1 false, (some (35, true))⟩, none),
  (⟨(some 41), .bin .eql (.t 40) (cI 1), (some (35, true))⟩, none),
  (⟨(some 42), .pick (.t 35) (.t 41) (.c (.bool false)), (some (30, false))⟩, none),
  (⟨(some 43), .mv (.t 42), (some (30, false))⟩, (some [0, 1, 5, 6, 7, 9, 30, 43])),
  (⟨(some 44), .mv (.t 0), (some (43, true))⟩, none),
  (⟨(some 45), .mv (.t 9), (some (43, true))⟩, none),
  (⟨(some 46), .iaddr (.t 44) (.t 45) 4, (some (43, true))⟩, none),
  (⟨(some 47), .faddr (.t 46) 1, (some (43, true))⟩, none),
  (⟨(some 48), .load (.t 47) 1 false, (some (43, true))⟩, (some [0, 1, 5, 6, 7, 9, 30, 43, 48])),
  (⟨(some 49), .mv (.t 7), (some (43, true))⟩, none),
  (⟨(some 50), .bin .eql (.t 48) (.t 49), (some (43, true))⟩, none),
  (⟨(some 51), .pick (.t 43) (.t 50) (.c (.bool false)), (some (30, false))⟩, none),
  kA 52 (.pick (.t 30) (.c (.bool true)) (.t 51)),
  kB 8 (.mv (.t 52)) [0, 1, 5, 6, 7, 8, 9]]
@[go_sem] def s70_15 (_ : Unit) : IR := (.block 3 (kT l70_14))
@[go_sem] def l70_16 (_ : Unit) : KL := [kA 27 (.mv (.t 9)),
  kA 28 (.bin .add (.t 27) (cI 1)),
  kB 9 (.mv (.t 28)) [0, 1, 5, 6, 7, 8, 9]]
@[go_sem] def s70_17 (_ : Unit) : IR := (sQ [(tH s70_13), (tH s70_15), (kT l70_16)])
@[go_sem] def s70_18 (_ : Unit) : IR := (.loop (tH s70_17))
@[go_sem] def s70_19 (_ : Unit) : IR := (.block 2 (tH s70_18))
@[go_sem] def s70_20 (_ : Unit) : IR := (sQ [(kT l70_11), (tH s70_19)])
@[go_sem] def l70_21 (_ : Unit) : KL := [kB 53 (.mv (.t 8)) [0, 1, 5, 6, 7, 53]]
@[go_sem] def l70_22 (_ : Unit) : KL := [kA 54 (.mv (.t 5)),
  kA 55 (.mv (.t 7)),
  kA 56 (.bslc 1 1 [(.int .i64 0)] [(0, (.t 55))]),
  kA 57 (.app 1 8 (.t 54) (.t 56)),
  kB 5 (.mv (.t 57)) [0, 1, 5, 6, 7]]
@[go_sem] def s70_23 (_ : Unit) : IR := (sQ [(kT l70_10), (tH s70_20), (kT l70_21), (.cond (.t 53) (kT l70_22) .skip)])
@[go_sem] def s70_24 (_ : Unit) : IR := (.block 1 (tH s70_23))
@[go_sem] def l70_25 (_ : Unit) : KL := [kA 21 (.mv (.t 7)),
  kA 22 (.bin .add (.t 21) (cI 1)),
  kB 7 (.mv (.t 22)) [0, 1, 5, 6, 7]]
@[go_sem] def s70_26 (_ : Unit) : IR := (sQ [(tH s70_9), (tH s70_24), (kT l70_25)])
@[go_sem] def s70_27 (_ : Unit) : IR := (.loop (tH s70_26))
@[go_sem] def s70_28 (_ : Unit) : IR := (.block 0 (tH s70_27))
@[go_sem] def s70_29 (_ : Unit) : IR := (sQ [(kT l70_7), (tH s70_28)])
@[go_sem] def l70_30 (_ : Unit) : KL := [kA 58 (.mv (.t 5)),
  kB 4 (.mv (.t 58)) [4]]
@[go_sem] def s70_31 (_ : Unit) : IR := (sQ [(kT l70_0), (kT l70_1), (tH s70_5), (kT l70_6), (tH s70_29), (kT l70_30), .ret])
theorem c70 : compFn Try.prog [(0, [], [oS [0, 1]]), (1, [], [oN, oS [0, 1, 5]]), (2, [], [oN, oN, oN, oS [0, 1, 5, 14]]), (3, [], [oN, oS [4]]), (4, [], [oN, oN, oS [0, 1, 5, 6]]), (5, [], [oS [0, 1, 5, 6, 7]]), (6, [], [oN, oN, oS [0, 1, 5, 6, 7, 20]]), (8, [], [oS [0, 1, 5, 6, 7, 8]]), (9, [], [oS [0, 1, 5, 6, 7, 8, 9]]), (10, [], [oN, oN, oN, oS [0, 1, 5, 6, 7, 8, 9, 26]]), (12, [], [oN, oN, oN, oN, oS [0, 1, 5, 6, 7, 9, 30, 33], oN, oN, oN, oN, oS [0, 1, 5, 6, 7, 9, 30, 35, 38], oN, oN, oN, oN, oS [0, 1, 5, 6, 7, 9, 30, 43], oN, oN, oN, oN, oS [0, 1, 5, 6, 7, 9, 30, 43, 48], oN, oN, oN, oN, oS [0, 1, 5, 6, 7, 8, 9]]), (11, [], [oN, oN, oS [0, 1, 5, 6, 7, 8, 9]]), (13, [], [oS [0, 1, 5, 6, 7, 53]]), (14, [], [oN, oN, oN, oN, oS [0, 1, 5, 6, 7]]), (7, [], [oN, oN, oS [0, 1, 5, 6, 7]]), (15, [], [oN, oS [4]])] Try.f70 = some ⟨2, 59, [.t 4], (tH s70_31)⟩ := by kernel_rfl
theorem v_spec_UsedBy (hl : vs.length = 2) (h : wpV Try.prog (tH s70_31) (postV [.t 4] RV) (envV vs) M) : VCall Try.prog n_spec_UsedBy vs M RV :=
  vcall_of_wp (fun _ _ _ hl h => acall_of_wp mixed Try.func70 c70 (by kernel_rfl) hl h) hl h
@[go_sem] def l69_0 (_ : Unit) : KL := [kB 4 (.mv (.c (.bool false))) [0, 1]]
@[go_sem] def l69_1 (_ : Unit) : KL := [kB 5 (.mv (cI 0)) [0, 1, 5]]
@[go_sem] def l69_2 (_ : Unit) : KL := [kA 6 (.mv (.t 5)),
  kA 7 (.mv (.t 0)),
  kA 8 (.len (.t 7)),
  kB 9 (.bin .lss (.t 6) (.t 8)) [0, 1, 5, 9]]
@[go_sem] def s69_3 (_ : Unit) : IR := (sQ [(kT l69_2), (.cond (.t 9) .skip (.exit 0))])
@[go_sem] def l69_4 (_ : Unit) : KL := [kA 12 (.mv (.t 0)),
  kA 13 (.mv (.t 5)),
  kA 14 (.iaddr (.t 12) (.t 13) 1),
  kA 15 (.load (.t 14) 1 false),
  kB 16 (.mv (.t 1)) [0, 1, 5, 15, 16],
  kB 17 (.bin .eql (.t 15) (.t 16)) [0, 1, 5, 17]]
@[go_sem] def l69_5 (_ : Unit) : KL := [kB 4 (.mv (.c (.bool true))) [4]]
@[go_sem] def s69_6 (_ : Unit) : IR := (sQ [(kT l69_5), .ret])
@[go_sem] def s69_7 (_ : Unit) : IR := (sQ [(kT l69_4), (.cond (.t 17) (tH s69_6) .skip)])
@[go_sem] def s69_8 (_ : Unit) : IR := (.block 1 (tH s69_7))
@[go_sem] def l69_9 (_ : Unit) : KL := [kA 10 (.mv (.t 5)),
  kA 11 (.bin .add (.t 10) (cI 1)),
  kB 5 (.mv (.t 11)) [0, 1, 5]]
@[go_sem] def s69_10 (_ : Unit) : IR := (sQ [(tH s69_3), (tH s69_8), (kT l69_9)])
@[go_sem] def s69_11 (_ : Unit) : IR := (.loop (tH s69_10))
@[go_sem] def s69_12 (_ : Unit) : IR := (.block 0 (tH s69_11))
@[go_sem] def s69_13 (_ : Unit) : IR := (sQ [(kT l69_1), (tH s69_12)])
@[go_sem] def l69_14 (_ : Unit) : KL := [kB 4 (.mv (.c (.bool false))) [4]]
@[go_sem] def s69_15 (_ : Unit) : IR := (sQ [(kT l69_0), (tH s69_13), (kT l69_14), .ret])
theorem c69 : compFn Try.prog [(0, [], [oS [0, 1]]), (1, [], [oS [0, 1, 5]]), (2, [], [oN, oN, oN, oS [0, 1, 5, 9]]), (4, [], [oN, oN, oN, oN, oS [0, 1, 5, 15, 16], oS [0, 1, 5, 17]]), (5, [], [oS [4]]), (3, [], [oN, oN, oS [0, 1, 5]]), (6, [], [oS [4]])] Try.f69 = some ⟨2, 18, [.t 4], (tH s69_15)⟩ := by kernel_rfl
theorem v_spec_l2Has (hl : vs.length = 2) (h : wpV Try.prog (tH s69_15) (postV [.t 4] RV) (envV vs) M) : VCall Try.prog n_spec_l2Has vs M RV :=
  vcall_of_wp (fun _ _ _ hl h => acall_of_wp mixed Try.func69 c69 (by kernel_rfl) hl h) hl h
@[go_sem] def l29_0 (_ : Unit) : KL := [kA 2 (.box (.t 0)),
  kA 4 (.mv (.c (.sl none 0 0 true 0))),
  kB 5 (.mv (.c (.sl none 0 0 true 0))) [1, 2]]
@[go_sem] def l29_1 (_ : Unit) : KL := [kA 13 (.load (.t 2) 2 true),
  kA 14 (.call (n_spec_SystemValid) [(.t 13)]),
  kA 15 (.un .not (.t 14)),
  kA 16 (.mv (.t 15)),
  (⟨(some 17), .mv (.t 1), (some (16, false))⟩, (some [1, 2, 16, 17])),
  (⟨(some 18), .faddr (.t 2) 1, (some (16, false))⟩, none),
  (⟨(some 19), .load (.t 18) 1 false, (some (16, false))⟩, none),
  (⟨(some 20), .len (.t 19), (some (16, false))⟩, none),
  (⟨(some 21), .bin .sub (.t 20) (cI 1), (some (16, false))⟩, none),
  (⟨(some 22), .call (n_spec_l1In) [(.t 17), (cI 0), (.t 21)], (some (16, false))⟩, (some [1, 2, 16, 22])),
  (⟨(some 23), .un .not (.t 22), (some (16, false))⟩, none),
  kB 24 (.pick (.t 16) (.c (.bool true)) (.t 23)) [1, 2, 24]]
@[go_sem] def l29_2 (_ : Unit) : KL := [kA 4 (.mv (.c (.sl none 0 0 true 0))),
  kB 5 (.mv (.c (.sl none 0 0 true 0))) [4, 5]]
@[go_sem] def s29_3 (_ : Unit) : IR := (sQ [(kT l29_2), .ret])
@[go_sem] def s29_4 (_ : Unit) : IR := (sQ [(kT l29_1), (.cond (.t 24) (tH s29_3) .skip)])
@[go_sem] def l29_5 (_ : Unit) : KL := [kA 25 (.faddr (.t 2) 1),
  kA 26 (.load (.t 25) 1 false),
  kA 27 (.mv (.t 1)),
  kA 28 (.iaddr (.t 26) (.t 27) 3),
  kB 29 (.load (.t 28) 3 true) [2, 29],
  kA 6 (.alloc [(.sl none 0 0 true 0), (.sl none 0 0 true 0), (.sl none 0 0 true 0)]),
  (⟨none, .store (.t 6) 3 (.t 29), none⟩, (some [2, 6]))]
@[go_sem] def l29_6 (_ : Unit) : KL := [kA 30 (.bslc 1 0 [(.int .i64 0)] []),
  kB 7 (.mv (.t 30)) [2, 6, 7]]
@[go_sem] def l29_7 (_ : Unit) : KL := [kB 8 (.mv (cI 0)) [2, 6, 7, 8]]
@[go_sem] def l29_8 (_ : Unit) : KL := [kA 31 (.mv (.t 8)),
  kA 32 (.faddr (.t 6) 1),
  kA 33 (.load (.t 32) 1 false),
  kA 34 (.len (.t 33)),
  kB 35 (.bin .lss (.t 31) (.t 34)) [2, 6, 7, 8, 35]]
@[go_sem] def s29_9 (_ : Unit) : IR := (sQ [(kT l29_8), (.cond (.t 35) .skip (.exit 0))])
@[go_sem] def l29_10 (_ : Unit) : KL := [kA 38 (.mv (.t 7)),
  kA 39 (.faddr (.t 6) 1),
  kA 40 (.load (.t 39) 1 false),
  kA 41 (.mv (.t 8)),
  kB 42 (.iaddr (.t 40) (.t 41) 1) [2, 6, 8, 38, 42],
  kA 43 (.load (.t 42) 1 false),
  kA 44 (.bslc 1 1 [(.int .i64 0)] [(0, (.t 43))]),
  kA 45 (.app 1 8 (.t 38) (.t 44)),
  kB 7 (.mv (.t 45)) [2, 6, 7, 8]]
@[go_sem] def s29_11 (_ : Unit) : IR := (.block 1 (kT l29_10))
@[go_sem] def l29_12 (_ : Unit) : KL := [kA 36 (.mv (.t 8)),
  kA 37 (.bin .add (.t 36) (cI 1)),
  kB 8 (.mv (.t 37)) [2, 6, 7, 8]]
@[go_sem] def s29_13 (_ : Unit) : IR := (sQ [(tH s29_9), (tH s29_11), (kT l29_12)])
@[go_sem] def s29_14 (_ : Unit) : IR := (.loop (tH s29_13))
@[go_sem] def s29_15 (_ : Unit) : IR := (.block 0 (tH s29_14))
@[go_sem] def s29_16 (_ : Unit) : IR := (sQ [(kT l29_7), (tH s29_15)])
@[go_sem] def l29_17 (_ : Unit) : KL := [kA 46 (.bslc 1 0 [(.int .i64 0)] []),
  kB 9 (.mv (.t 46)) [2, 6, 7, 9]]
@[go_sem] def l29_18 (_ : Unit) : KL := [kB 10 (.mv (cI 0)) [2, 6, 7, 9, 10]]
@[go_sem] def l29_19 (_ : Unit) : KL := [kA 47 (.mv (.t 10)),
  kA 48 (.faddr (.t 2) 0),
  kA 49 (.load (.t 48) 1 false),
  kA 50 (.len (.t 49)),
  kB 51 (.bin .lss (.t 47) (.t 50)) [2, 6, 7, 9, 10, 51]]
@[go_sem] def s29_20 (_ : Unit) : IR := (sQ [(kT l29_19), (.cond (.t 51) .skip (.exit 2))])
@[go_sem] def l29_21 (_ : Unit) : KL := [kA 54 (.faddr (.t 6) 0),
  kA 55 (.load (.t 54) 1 false),
  kA 56 (.faddr (.t 2) 0),
  kA 57 (.load (.t 56) 1 false),
  kB 58 (.len (.t 57)) [2, 6, 7, 9, 10, 55, 58],
  kA 59 (.call (n_spec_UsedBy) [(.t 55), (.t 58)]),
  kA 60 (.mv (.t 10)),
  kA 61 (.call (n_spec_l2Has) [(.t 59), (.t 60)]),
  kB 11 (.mv (.t 61)) [2, 6, 7, 9, 10, 11]]
@[go_sem] def l29_22 (_ : Unit) : KL := [kB 12 (.mv (cI 0)) [2, 6, 7, 9, 10, 11, 12]]
@[go_sem] def l29_23 (_ : Unit) : KL := [kA 62 (.mv (.t 12)),
  kA 63 (.faddr (.t 6) 2),
  kA 64 (.load (.t 63) 1 false),
  kA 65 (.len (.t 64)),
  kB 66 (.bin .lss (.t 62) (.t 65)) [2, 6, 7, 9, 10, 11, 12, 66]]
@[go_sem] def s29_24 (_ : Unit) : IR := (sQ [(kT l29_23), (.cond (.t 66) .skip (.exit 4))])
@[go_sem] def l29_25 : Nat → GOp
  | 0 => ⟨(some 69), .mv (.t 11), none⟩
  | 1 => ⟨(some 70), .mv (.t 69), none⟩
  | 2 => ⟨(some 71), .faddr (.t 6) 2, (some (70, false))⟩
  | 3 => ⟨(some 72), .load (.t 71) 1 false, (some (70, false))⟩
  | 4 => ⟨(some 73), .mv (.t 12), (some (70, false))⟩
  | 5 => ⟨(some 74), .iaddr (.t 72) (.t 73) 1, (some (70, false))⟩
  | 6 => ⟨(some 75), .load (.t 74) 1 false, (some (70, false))⟩
  | 7 => ⟨(some 76), .faddr (.t 2) 0, (some (70, false))⟩
  | 8 => ⟨(some 77), .load (.t 76) 1 false, (some (70, false))⟩
  | 9 => ⟨(some 78), .len (.t 77), (some (70, false))⟩
  | 10 => ⟨(some 79), .call (n_spec_UsedBy) [(.t 75), (.t 78)], (some (70, false))⟩
  | 11 => ⟨(some 80), .mv (.t 10), (some (70, false))⟩
  | 12 => ⟨(some 81), .call (n_spec_l2Has) [(.t 79), (.t 80)], (some (70, false))⟩
  | 13 => ⟨(some 82), .pick (.t 70) (.c (.bool true)) (.t 81), none⟩
  | 14 => ⟨(some 11), .mv (.t 82), none⟩
  | _ => ⟨none, .mkmap, none⟩
@[go_sem] def s29_26 (_ : Unit) : IR := (.block 5 (.kd (oF l29_25 15) [(0, []), (1, []), (2, []), (3, []), (4, []), (5, []), (6, []), (7, []), (8, []), (9, []), (11, []), (10, []), (12, []), (13, []), (14, [])] [2, 6, 7, 9, 10, 11, 12]))
@[go_sem] def l29_27 (_ : Unit) : KL := [kA 67 (.mv (.t 12)),
  kA 68 (.bin .add (.t 67) (cI 1)),
  kB 12 (.mv (.t 68)) [2, 6, 7, 9, 10, 11, 12]]
@[go_sem] def s29_28 (_ : Unit) : IR := (sQ [(tH s29_24), (tH s29_26), (kT l29_27)])
@[go_sem] def s29_29 (_ : Unit) : IR := (.loop (tH s29_28))
@[go_sem] def s29_30 (_ : Unit) : IR := (.block 4 (tH s29_29))
@[go_sem] def s29_31 (_ : Unit) : IR := (sQ [(kT l29_22), (tH s29_30)])
@[go_sem] def l29_32 (_ : Unit) : KL := [kB 83 (.mv (.t 11)) [2, 6, 7, 9, 10, 83]]
@[go_sem] def l29_33 (_ : Unit) : KL := [kA 84 (.mv (.t 9)),
  kA 85 (.mv (.t 10)),
  kA 86 (.bslc 1 1 [(.int .i64 0)] [(0, (.t 85))]),
  kA 87 (.app 1 8 (.t 84) (.t 86)),
  kB 9 (.mv (.t 87)) [2, 6, 7, 9, 10]]
@[go_sem] def s29_34 (_ : Unit) : IR := (sQ [(kT l29_21), (tH s29_31), (kT l29_32), (.cond (.t 83) (kT l29_33) .skip)])
@[go_sem] def s29_35 (_ : Unit) : IR := (.block 3 (tH s29_34))
@[go_sem] def l29_36 (_ : Unit) : KL := [kA 52 (.mv (.t 10)),
  kA 53 (.bin .add (.t 52) (cI 1)),
  kB 10 (.mv (.t 53)) [2, 6, 7, 9, 10]]
@[go_sem] def s29_37 (_ : Unit) : IR := (sQ [(tH s29_20), (tH s29_35), (kT l29_36)])
@[go_sem] def s29_38 (_ : Unit) : IR := (.loop (tH s29_37))
@[go_sem] def s29_39 (_ : Unit) : IR := (.block 2 (tH s29_38))
@[go_sem] def s29_40 (_ : Unit) : IR := (sQ [(kT l29_18), (tH s29_39)])
@[go_sem] def l29_41 (_ : Unit) : KL := [kA 88 (.mv (.t 7)),
  kA 89 (.mv (.t 9)),
  kA 4 (.mv (.t 88)),
  kB 5 (.mv (.t 89)) [4, 5]]
@[go_sem] def s29_42 (_ : Unit) : IR := (sQ [(kT l29_0), (tH s29_4), (kT l29_5), (kT l29_6), (tH s29_16), (kT l29_17), (tH s29_40), (kT l29_41), .ret])
theorem c29 : compFn Try.prog [(0, [], [oN, oN, oS [1, 2]]), (1, [], [oN, oN, oN, oN, oS [1, 2, 16, 17], oN, oN, oN, oN, oS [1, 2, 16, 22], oN, oS [1, 2, 24]]), (2, [], [oN, oS [4, 5]]), (3, [], [oN, oN, oN, oN, oS [2, 29], oN, oS [2, 6]]), (4, [], [oN, oS [2, 6, 7]]), (5, [], [oS [2, 6, 7, 8]]), (6, [], [oN, oN, oN, oN, oS [2, 6, 7, 8, 35]]), (8, [], [oN, oN, oN, oN, oS [2, 6, 8, 38, 42], oN, oN, oN, oS [2, 6, 7, 8]]), (7, [], [oN, oN, oS [2, 6, 7, 8]]), (9, [], [oN, oS [2, 6, 7, 9]]), (10, [], [oS [2, 6, 7, 9, 10]]), (11, [], [oN, oN, oN, oN, oS [2, 6, 7, 9, 10, 51]]), (13, [], [oN, oN, oN, oN, oS [2, 6, 7, 9, 10, 55, 58], oN, oN, oN, oS [2, 6, 7, 9, 10, 11]]), (14, [], [oS [2, 6, 7, 9, 10, 11, 12]]), (15, [], [oN, oN, oN, oN, oS [2, 6, 7, 9, 10, 11, 12, 66]]), (17, [(0, []), (1, []), (2, []), (3, []), (4, []), (5, []), (6, []), (7, []), (8, []), (9, []), (11, []), (10, []), (12, []), (13, []), (14, [])], [oS [2, 6, 7, 9, 10, 11, 12]]), (16, [], [oN, oN, oS [2, 6, 7, 9, 10, 11, 12]]), (18, [], [oS [2, 6, 7, 9, 10, 83]]), (19, [], [oN, oN, oN, oN, oS [2, 6, 7, 9, 10]]), (12, [], [oN, oN, oS [2, 6, 7, 9, 10]]), (20, [], [oN, oN, oN, oS [4, 5]])] Try.f29 = some ⟨2, 90, [.t 4, .t 5], (tH s29_42)⟩ := by kernel_rfl
theorem v_spec_TouchedBy (hl : vs.length = 2) (h : wpV Try.prog (tH s29_42) (postV [.t 4, .t 5] RV) (envV vs) M) : VCall Try.prog n_spec_TouchedBy vs M RV :=
  vcall_of_wp (fun _ _ _ hl h => acall_of_wp mixed Try.func29 c29 (by kernel_rfl) hl h) hl h
@[go_sem] def l102_0 (_ : Unit) : KL := [kB 4 (.mv (.c (.bool false))) [0, 1]]
@[go_sem] def l102_1 (_ : Unit) : KL := [kB 5 (.mv (cI 0)) [0, 1, 5]]
@[go_sem] def l102_2 (_ : Unit) : KL := [kA 6 (.mv (.t 5)),
  kA 7 (.mv (.t 0)),
  kA 8 (.len (.t 7)),
  kB 9 (.bin .lss (.t 6) (.t 8)) [0, 1, 5, 9]]
@[go_sem] def s102_3 (_ : Unit) : IR := (sQ [(kT l102_2), (.cond (.t 9) .skip (.exit 0))])
@[go_sem] def l102_4 (_ : Unit) : KL := [kA 12 (.mv (.t 1)),
  kA 13 (.mv (.t 0)),
  kA 14 (.mv (.t 5)),
  kA 15 (.iaddr (.t 13) (.t 14) 1),
  kB 16 (.load (.t 15) 1 false) [0, 1, 5, 12, 16],
  kB 17 (.call (n_spec_l2Has) [(.t 12), (.t 16)]) [0, 1, 5, 17]]
@[go_sem] def l102_5 (_ : Unit) : KL := [kB 4 (.mv (.c (.bool true))) [4]]
@[go_sem] def s102_6 (_ : Unit) : IR := (sQ [(kT l102_5), .ret])
@[go_sem] def s102_7 (_ : Unit) : IR := (sQ [(kT l102_4), (.cond (.t 17) (tH s102_6) .skip)])
@[go_sem] def s102_8 (_ : Unit) : IR := (.block 1 (tH s102_7))
@[go_sem] def l102_9 (_ : Unit) : KL := [kA 10 (.mv (.t 5)),
  kA 11 (.bin .add (.t 10) (cI 1)),
  kB 5 (.mv (.t 11)) [0, 1, 5]]
@[go_sem] def s102_10 (_ : Unit) : IR := (sQ [(tH s102_3), (tH s102_8), (kT l102_9)])
@[go_sem] def s102_11 (_ : Unit) : IR := (.loop (tH s102_10))
@[go_sem] def s102_12 (_ : Unit) : IR := (.block 0 (tH s102_11))
@[go_sem] def s102_13 (_ : Unit) : IR := (sQ [(kT l102_1), (tH s102_12)])
@[go_sem] def l102_14 (_ : Unit) : KL := [kB 4 (.mv (.c (.bool false))) [4]]
@[go_sem] def s102_15 (_ : Unit) : IR := (sQ [(kT l102_0), (tH s102_13), (kT l102_14), .ret])
theorem c102 : compFn Try.prog [(0, [], [oS [0, 1]]), (1, [], [oS [0, 1, 5]]), (2, [], [oN, oN, oN, oS [0, 1, 5, 9]]), (4, [], [oN, oN, oN, oN, oS [0, 1, 5, 12, 16], oS [0, 1, 5, 17]]), (5, [], [oS [4]]), (3, [], [oN, oN, oS [0, 1, 5]]), (6, [], [oS [4]])] Try.f102 = some ⟨2, 18, [.t 4], (tH s102_15)⟩ := by kernel_rfl
theorem v_spec_l26Meet (hl : vs.length = 2) (h : wpV Try.prog (tH s102_15) (postV [.t 4] RV) (envV vs) M) : VCall Try.prog n_spec_l26Meet vs M RV :=
  vcall_of_wp (fun _ _ _ hl h => acall_of_wp mixed Try.func102 c102 (by kernel_rfl) hl h) hl h
@[go_sem] def l72_0 (_ : Unit) : KL := [kA 2 (.box (.t 0)),
  kB 4 (.mv (.c (.sl none 0 0 true 0))) [1, 2]]
@[go_sem] def l72_1 (_ : Unit) : KL := [kA 10 (.load (.t 2) 2 true),
  kA 11 (.mv (.t 1)),
  kA 12 (.call (n_spec_TouchedBy) [(.t 10), (.t 11)]),
  kA 9 (.mv (.t 12)),
  kB 13 (.ext (.t 9) 0) [1, 2, 9, 13],
  kA 14 (.ext (.t 9) 1),
  kA 5 (.mv (.t 13)),
  kB 6 (.mv (.t 14)) [1, 2, 6]]
@[go_sem] def l72_2 (_ : Unit) : KL := [kA 15 (.bslc 1 0 [(.int .i64 0)] []),
  kB 7 (.mv (.t 15)) [1, 2, 6, 7]]
@[go_sem] def l72_3 (_ : Unit) : KL := [kB 8 (.mv (cI 0)) [1, 2, 6, 7, 8]]
@[go_sem] def l72_4 (_ : Unit) : KL := [kA 16 (.mv (.t 8)),
  kA 17 (.faddr (.t 2) 1),
  kA 18 (.load (.t 17) 1 false),
  kA 19 (.len (.t 18)),
  kB 20 (.bin .lss (.t 16) (.t 19)) [1, 2, 6, 7, 8, 20]]
@[go_sem] def s72_5 (_ : Unit) : IR := (sQ [(kT l72_4), (.cond (.t 20) .skip (.exit 0))])
@[go_sem] def l72_6 (_ : Unit) : KL := [kA 23 (.mv (.t 8)),
  kA 24 (.mv (.t 1)),
  kA 25 (.bin .neq (.t 23) (.t 24)),
  kA 26 (.mv (.t 25)),
  (⟨(some 27), .faddr (.t 2) 1, (some (26, true))⟩, (some [1, 2, 6, 7, 8, 26, 27])),
  (⟨(some 28), .load (.t 27) 1 false, (some (26, true))⟩, none),
  (⟨(some 29), .mv (.t 8), (some (26, true))⟩, none),
  (⟨(some 30), .iaddr (.t 28) (.t 29) 3, (some (26, true))⟩, none),
  (⟨(some 31), .faddr (.t 30) 1, (some (26, true))⟩, none),
  (⟨(some 32), .load (.t 31) 1 false, (some (26, true))⟩, (some [1, 2, 6, 7, 8, 26, 32])),
  (⟨(some 33), .mv (.t 6), (some (26, true))⟩, none),
  (⟨(some 34), .call (n_spec_l26Meet) [(.t 32), (.t 33)], (some (26, true))⟩, none),
  kB 35 (.pick (.t 26) (.t 34) (.c (.bool false))) [1, 2, 6, 7, 8, 35]]
@[go_sem] def l72_7 (_ : Unit) : KL := [kA 36 (.mv (.t 7)),
  kA 37 (.mv (.t 8)),
  kA 38 (.bslc 1 1 [(.int .i64 0)] [(0, (.t 37))]),
  kA 39 (.app 1 8 (.t 36) (.t 38)),
  kB 7 (.mv (.t 39)) [1, 2, 6, 7, 8]]
@[go_sem] def s72_8 (_ : Unit) : IR := (sQ [(kT l72_6), (.cond (.t 35) (kT l72_7) .skip)])
@[go_sem] def s72_9 (_ : Unit) : IR := (.block 1 (tH s72_8))
@[go_sem] def l72_10 (_ : Unit) : KL := [kA 21 (.mv (.t 8)),
  kA 22 (.bin .add (.t 21) (cI 1)),
  kB 8 (.mv (.t 22)) [1, 2, 6, 7, 8]]
@[go_sem] def s72_11 (_ : Unit) : IR := (sQ [(tH s72_5), (tH s72_9), (kT l72_10)])
@[go_sem] def s72_12 (_ : Unit) : IR := (.loop (tH s72_11))
@[go_sem] def s72_13 (_ : Unit) : IR := (.block 0 (tH s72_12))
@[go_sem] def s72_14 (_ : Unit) : IR := (sQ [(kT l72_3), (tH s72_13)])
@[go_sem] def l72_15 (_ : Unit) : KL := [kA 40 (.mv (.t 7)),
  kB 4 (.mv (.t 40)) [4]]
@[go_sem] def s72_16 (_ : Unit) : IR := (sQ [(kT l72_0), (kT l72_1), (kT l72_2), (tH s72_14), (kT l72_15), .ret])
theorem c72 : compFn Try.prog [(0, [], [oN, oS [1, 2]]), (1, [], [oN, oN, oN, oN, oS [1, 2, 9, 13], oN, oN, oS [1, 2, 6]]), (2, [], [oN, oS [1, 2, 6, 7]]), (3, [], [oS [1, 2, 6, 7, 8]]), (4, [], [oN, oN, oN, oN, oS [1, 2, 6, 7, 8, 20]]), (6, [], [oN, oN, oN, oN, oS [1, 2, 6, 7, 8, 26, 27], oN, oN, oN, oN, oS [1, 2, 6, 7, 8, 26, 32], oN, oN, oS [1, 2, 6, 7, 8, 35]]), (7, [], [oN, oN, oN, oN, oS [1, 2, 6, 7, 8]]), (5, [], [oN, oN, oS [1, 2, 6, 7, 8]]), (8, [], [oN, oS [4]])] Try.f72 = some ⟨2, 41, [.t 4], (tH s72_16)⟩ := by kernel_rfl
theorem v_spec_l26Wakers (hl : vs.length = 2) (h : wpV Try.prog (tH s72_16) (postV [.t 4] RV) (envV vs) M) : VCall Try.prog n_spec_l26Wakers vs M RV :=
  vcall_of_wp (fun _ _ _ hl h => acall_of_wp mixed Try.func72 c72 (by kernel_rfl) hl h) hl h
@[go_sem] def l32_0 (_ : Unit) : KL := [kA 2 (.box (.t 0)),
  kB 4 (.mv (.c (.sl none 0 0 true 0))) [1, 2]]
@[go_sem] def l32_1 (_ : Unit) : KL := [kA 5 (.load (.t 2) 2 true),
  kA 6 (.call (n_spec_SystemValid) [(.t 5)]),
  kA 7 (.un .not (.t 6)),
  kA 8 (.mv (.t 7)),
  (⟨(some 9), .mv (.t 1), (some (8, false))⟩, (some [1, 2, 8, 9])),
  (⟨(some 10), .faddr (.t 2) 1, (some (8, false))⟩, none),
  (⟨(some 11), .load (.t 10) 1 false, (some (8, false))⟩, none),
  (⟨(some 12), .len (.t 11), (some (8, false))⟩, none),
  (⟨(some 13), .bin .sub (.t 12) (cI 1), (some (8, false))⟩, none),
  (⟨(some 14), .call (n_spec_l1In) [(.t 9), (cI 0), (.t 13)], (some (8, false))⟩, (some [1, 2, 8, 14])),
  (⟨(some 15), .un .not (.t 14), (some (8, false))⟩, none),
  kB 16 (.pick (.t 8) (.c (.bool true)) (.t 15)) [1, 2, 16]]
@[go_sem] def l32_2 (_ : Unit) : KL := [kB 4 (.mv (.c (.sl none 0 0 true 0))) [4]]
@[go_sem] def s32_3 (_ : Unit) : IR := (sQ [(kT l32_2), .ret])
@[go_sem] def s32_4 (_ : Unit) : IR := (sQ [(kT l32_1), (.cond (.t 16) (tH s32_3) .skip)])
@[go_sem] def l32_5 (_ : Unit) : KL := [kA 17 (.load (.t 2) 2 true),
  kA 18 (.mv (.t 1)),
  kA 19 (.call (n_spec_l26Wakers) [(.t 17), (.t 18)]),
  kB 4 (.mv (.t 19)) [4]]
@[go_sem] def s32_6 (_ : Unit) : IR := (sQ [(kT l32_0), (tH s32_4), (kT l32_5), .ret])
theorem c32 : compFn Try.prog [(0, [], [oN, oS [1, 2]]), (1, [], [oN, oN, oN, oN, oS [1, 2, 8, 9], oN, oN, oN, oN, oS [1, 2, 8, 14], oN, oS [1, 2, 16]]), (2, [], [oS [4]]), (3, [], [oN, oN, oN, oS [4]])] Try.f32 = some ⟨2, 20, [.t 4], (tH s32_6)⟩ := by kernel_rfl
theorem v_spec_WakersOf (hl : vs.length = 2) (h : wpV Try.prog (tH s32_6) (postV [.t 4] RV) (envV vs) M) : VCall Try.prog n_spec_WakersOf vs M RV :=
  vcall_of_wp (fun _ _ _ hl h => acall_of_wp mixed Try.func32 c32 (by kernel_rfl) hl h) hl h
@[go_sem] def l67_0 (_ : Unit) : KL := [kB 6 (.mv (.c (.bool false))) [0, 1, 2]]
@[go_sem] def l67_1 (_ : Unit) : KL := [kA 7 (.mv (.t 0)),
  kA 8 (.mv (.t 1)),
  kA 9 (.bin .geq (.t 7) (.t 8)),
  kA 10 (.mv (.t 9)),
  (⟨(some 11), .mv (.t 0), (some (10, true))⟩, (some [2, 10, 11])),
  (⟨(some 12), .mv (.t 2), (some (10, true))⟩, none),
  (⟨(some 13), .bin .leq (.t 11) (.t 12), (some (10, true))⟩, none),
  kA 14 (.pick (.t 10) (.t 13) (.c (.bool false))),
  kB 6 (.mv (.t 14)) [6]]
@[go_sem] def s67_2 (_ : Unit) : IR := (sQ [(kT l67_0), (kT l67_1), .ret])
theorem c67 : compFn Try.prog [(0, [], [oS [0, 1, 2]]), (1, [], [oN, oN, oN, oN, oS [2, 10, 11], oN, oN, oN, oS [6]])] Try.f67 = some ⟨3, 15, [.t 6], (tH s67_2)⟩ := by kernel_rfl
theorem v_impl_in (hl : vs.length = 3) (h : wpV Try.prog (tH s67_2) (postV [.t 6] RV) (envV vs) M) : VCall Try.prog n_impl_in vs M RV :=
  vcall_of_wp (fun _ _ _ hl h => acall_of_wp mixed Try.func67 c67 (by kernel_rfl) hl h) hl h
@[go_sem] def l134_0 (_ : Unit) : KL := [kB 4 (.mv (cI 0)) [0, 1]]
@[go_sem] def l134_1 (_ : Unit) : KL := [kA 6 (.mv (.t 0)),
  kA 7 (.len (.t 6)),
  kB 8 (.mv (cI 0)) [0, 1, 7, 8]]
@[go_sem] def l134_2 (_ : Unit) : KL := [kB 9 (.bin .lss (.t 8) (.t 7)) [0, 1, 7, 8, 9]]
@[go_sem] def l134_3 (_ : Unit) : KL := [kA 10 (.mv (.t 8)),
  kB 5 (.mv (.t 10)) [0, 1, 5, 7, 8]]
@[go_sem] def l134_4 (_ : Unit) : KL := [kA 11 (.mv (.t 1)),
  kA 12 (.mv (.t 0)),
  kA 13 (.mv (.t 5)),
  kA 14 (.iaddr (.t 12) (.t 13) 3),
  kB 15 (.load (.t 14) 3 true) [0, 1, 5, 7, 8, 11, 15],
  kB 16 (.callv (.t 11) [(.t 15)]) [0, 1, 5, 7, 8, 16]]
@[go_sem] def l134_5 (_ : Unit) : KL := [kA 17 (.mv (.t 5)),
  kB 4 (.mv (.t 17)) [4]]
@[go_sem] def s134_6 (_ : Unit) : IR := (sQ [(kT l134_5), .ret])
@[go_sem] def s134_7 (_ : Unit) : IR := (sQ [(kT l134_3), (kT l134_4), (.cond (.t 16) (tH s134_6) .skip)])
@[go_sem] def s134_8 (_ : Unit) : IR := (.block 1 (tH s134_7))
@[go_sem] def l134_9 (_ : Unit) : KL := [kA 18 (.bin .add (.t 8) (cI 1)),
  kB 8 (.mv (.t 18)) [0, 1, 7, 8]]
@[go_sem] def s134_10 (_ : Unit) : IR := (sQ [(kT l134_2), (.cond (.t 9) .skip (.exit 0)), (tH s134_8), (kT l134_9)])
@[go_sem] def s134_11 (_ : Unit) : IR := (.loop (tH s134_10))
@[go_sem] def s134_12 (_ : Unit) : IR := (.block 0 (tH s134_11))
@[go_sem] def s134_13 (_ : Unit) : IR := (sQ [(kT l134_1), (tH s134_12)])
@[go_sem] def l134_14 (_ : Unit) : KL := [kB 4 (.mv (.c (.int .i64 (-1)))) [4]]
@[go_sem] def s134_15 (_ : Unit) : IR := (sQ [(kT l134_0), (tH s134_13), (kT l134_14), .ret])
theorem c134 : compFn Try.prog [(0, [], [oS [0, 1]]), (1, [], [oN, oN, oS [0, 1, 7, 8]]), (2, [], [oS [0, 1, 7, 8, 9]]), (3, [], [oN, oS [0, 1, 5, 7, 8]]), (4, [], [oN, oN, oN, oN, oS [0, 1, 5, 7, 8, 11, 15], oS [0, 1, 5, 7, 8, 16]]), (5, [], [oN, oS [4]]), (6, [], [oN, oS [0, 1, 7, 8]]), (7, [], [oS [4]])] Try.f134 = some ⟨2, 19, [.t 4], (tH s134_15)⟩ := by kernel_rfl
theorem v_slices_IndexFunc_Simpl_Var_impl_Var (hl : vs.length = 2) (h : wpV Try.prog (tH s134_15) (postV [.t 4] RV) (envV vs) M) : VCall Try.prog n_slices_IndexFunc_Simpl_Var_impl_Var vs M RV :=
  vcall_of_wp (fun _ _ _ hl h => acall_of_wp mixed Try.func134 c134 (by kernel_rfl) hl h) hl h
@[go_sem] def l103_0 (_ : Unit) : KL := [kB 4 (.mv (.c (.bool false))) [0, 1]]
@[go_sem] def l103_1 (_ : Unit) : KL := [kA 5 (.mv (.t 0)),
  kA 6 (.mv (.t 1)),
  kA 7 (.call (n_slices_IndexFunc_Simpl_Var_impl_Var) [(.t 5), (.t 6)]),
  kA 8 (.bin .geq (.t 7) (cI 0)),
  kB 4 (.mv (.t 8)) [4]]
@[go_sem] def s103_2 (_ : Unit) : IR := (sQ [(kT l103_0), (kT l103_1), .ret])
theorem c103 : compFn Try.prog [(0, [], [oS [0, 1]]), (1, [], [oN, oN, oN, oN, oS [4]])] Try.f103 = some ⟨2, 9, [.t 4], (tH s103_2)⟩ := by kernel_rfl
theorem v_slices_ContainsFunc_Simpl_Var_impl_Var (hl : vs.length = 2) (h : wpV Try.prog (tH s103_2) (postV [.t 4] RV) (envV vs) M) : VCall Try.prog n_slices_ContainsFunc_Simpl_Var_impl_Var vs M RV :=
  vcall_of_wp (fun _ _ _ hl h => acall_of_wp mixed Try.func103 c103 (by kernel_rfl) hl h) hl h
@[go_sem] def l105_0 (_ : Unit) : KL := [kA 1 (.box (.t 0)),
  kB 2 (.mv (.c (.bool false))) [1]]
@[go_sem] def l105_1 (_ : Unit) : KL := [kA 3 (.faddr (.t 1) 0),
  kA 4 (.load (.t 3) 1 false),
  kA 5 (.call (n_impl_in) [(.t 4), (.c (.int .i64 (-9999))), (.c (.int .i64 9999))]),
  kA 6 (.mv (.t 5)),
  (⟨(some 7), .faddr (.t 1) 1, (some (6, true))⟩, (some [1, 6, 7])),
  (⟨(some 8), .load (.t 7) 1 false, (some (6, true))⟩, none),
  (⟨(some 9), .faddr (.t 1) 0, (some (6, true))⟩, none),
  (⟨(some 10), .load (.t 9) 1 false, (some (6, true))⟩, none),
  (⟨(some 11), .call (n_impl_in) [(.t 8), (.t 10), (.c (.int .i64 9999))], (some (6, true))⟩, none),
  kB 12 (.pick (.t 6) (.t 11) (.c (.bool false))) [1, 12],
  kA 13 (.mv (.t 12)),
  (⟨(some 14), .faddr (.t 1) 1, (some (13, true))⟩, none),
  (⟨(some 15), .load (.t 14) 1 false, (some (13, true))⟩, none),
  (⟨(some 16), .faddr (.t 1) 0, (some (13, true))⟩, none),
  (⟨(some 17), .load (.t 16) 1 false, (some (13, true))⟩, (some [1, 13, 15, 17])),
  (⟨(some 18), .bin .sub (.t 15) (.t 17), (some (13, true))⟩, none),
  (⟨(some 19), .bin .lss (.t 18) (.c (.int .i64 20)), (some (13, true))⟩, none),
  kA 20 (.pick (.t 13) (.t 19) (.c (.bool false))),
  kA 21 (.mv (.t 20)),
  (⟨(some 22), .faddr (.t 1) 2, (some (21, true))⟩, (some [1, 21, 22])),
  (⟨(some 23), .load (.t 22) 1 false, (some (21, true))⟩, none),
  (⟨(some 24), .faddr (.t 1) 0, (some (21, true))⟩, none),
  (⟨(some 25), .load (.t 24) 1 false, (some (21, true))⟩, none),
  (⟨(some 26), .faddr (.t 1) 1, (some (21, true))⟩, none),
  (⟨(some 27), .load (.t 26) 1 false, (some (21, true))⟩, (some [21, 23, 25, 27])),
  (⟨(some 28), .call (n_impl_in) [(.t 23), (.t 25), (.t 27)], (some (21, true))⟩, none),
  kA 29 (.pick (.t 21) (.t 28) (.c (.bool false))),
  kB 2 (.mv (.t 29)) [2]]
@[go_sem] def s105_2 (_ : Unit) : IR := (sQ [(kT l105_0), (kT l105_1), .ret])
theorem c105 : compFn Try.prog [(0, [], [oN, oS [1]]), (1, [], [oN, oN, oN, oN, oS [1, 6, 7], oN, oN, oN, oN, oS [1, 12], oN, oN, oN, oN, oS [1, 13, 15, 17], oN, oN, oN, oN, oS [1, 21, 22], oN, oN, oN, oN, oS [21, 23, 25, 27], oN, oN, oS [2]])] Try.f105 = some ⟨1, 30, [.t 2], (tH s105_2)⟩ := by kernel_rfl
theorem v_impl_varOk (hl : vs.length = 1) (h : wpV Try.prog (tH s105_2) (postV [.t 2] RV) (envV vs) M) : VCall Try.prog n_impl_varOk vs M RV :=
  vcall_of_wp (fun _ _ _ hl h => acall_of_wp mixed Try.func105 c105 (by kernel_rfl) hl h) hl h
@[go_sem] def l104_0 (_ : Unit) : KL := [kA 1 (.box (.t 0)),
  kB 2 (.mv (.c (.bool false))) [1]]
@[go_sem] def l104_1 (_ : Unit) : KL := [kA 3 (.load (.t 1) 3 true),
  kA 4 (.call (n_impl_varOk) [(.t 3)]),
  kA 5 (.un .not (.t 4)),
  kB 2 (.mv (.t 5)) [2]]
@[go_sem] def s104_2 (_ : Unit) : IR := (sQ [(kT l104_0), (kT l104_1), .ret])
theorem c104 : compFn Try.prog [(0, [], [oN, oS [1]]), (1, [], [oN, oN, oN, oS [2]])] Try.f104 = some ⟨1, 6, [.t 2], (tH s104_2)⟩ := by kernel_rfl
theorem v_impl_SystemValid_1 (hl : vs.length = 1) (h : wpV Try.prog (tH s104_2) (postV [.t 2] RV) (envV vs) M) : VCall Try.prog n_impl_SystemValid_1 vs M RV :=
  vcall_of_wp (fun _ _ _ hl h => acall_of_wp mixed Try.func104 c104 (by kernel_rfl) hl h) hl h
@[go_sem] def l84_0 (_ : Unit) : KL := [kB 2 (.mv (cI 0)) [0]]
@[go_sem] def l84_1 (_ : Unit) : KL := [kB 3 (.mv (cI 1)) [0, 3]]
@[go_sem] def l84_2 (_ : Unit) : KL := [kA 6 (.mv (.t 0)),
  kA 7 (.len (.t 6)),
  kB 8 (.mv (cI 0)) [3, 6, 7, 8]]
@[go_sem] def l84_3 (_ : Unit) : KL := [kB 9 (.bin .lss (.t 8) (.t 7)) [3, 6, 7, 8, 9]]
@[go_sem] def l84_4 (_ : Unit) : KL := [kA 10 (.iaddr (.t 6) (.t 8) 3),
  kA 11 (.load (.t 10) 3 true),
  kA 5 (.alloc [(.int .i64 0), (.int .i64 0), (.int .i64 0)]),
  (⟨none, .store (.t 5) 3 (.t 11), none⟩, (some [3, 5, 6, 7, 8]))]
@[go_sem] def l84_5 (_ : Unit) : KL := [kA 12 (.mv (.t 3)),
  kA 13 (.faddr (.t 5) 1),
  kA 14 (.load (.t 13) 1 false),
  kA 15 (.faddr (.t 5) 0),
  kB 16 (.load (.t 15) 1 false) [6, 7, 8, 12, 14, 16],
  kA 17 (.bin .sub (.t 14) (.t 16)),
  kA 18 (.bin .add (.t 17) (cI 1)),
  kA 19 (.bin .mul (.t 12) (.t 18)),
  kB 3 (.mv (.t 19)) [3, 6, 7, 8]]
@[go_sem] def s84_6 (_ : Unit) : IR := (sQ [(kT l84_4), (kT l84_5)])
@[go_sem] def s84_7 (_ : Unit) : IR := (.block 1 (tH s84_6))
@[go_sem] def l84_8 (_ : Unit) : KL := [kA 20 (.bin .add (.t 8) (cI 1)),
  kB 8 (.mv (.t 20)) [3, 6, 7, 8]]
@[go_sem] def s84_9 (_ : Unit) : IR := (sQ [(kT l84_3), (.cond (.t 9) .skip (.exit 0)), (tH s84_7), (kT l84_8)])
@[go_sem] def s84_10 (_ : Unit) : IR := (.loop (tH s84_9))
@[go_sem] def s84_11 (_ : Unit) : IR := (.block 0 (tH s84_10))
@[go_sem] def s84_12 (_ : Unit) : IR := (sQ [(kT l84_2), (tH s84_11)])
@[go_sem] def l84_13 (_ : Unit) : KL := [kA 21 (.mv (.t 3)),
  kB 2 (.mv (.t 21)) [2]]
@[go_sem] def s84_14 (_ : Unit) : IR := (sQ [(kT l84_0), (kT l84_1), (tH s84_12), (kT l84_13), .ret])
theorem c84 : compFn Try.prog [(0, [], [oS [0]]), (1, [], [oS [0, 3]]), (2, [], [oN, oN, oS [3, 6, 7, 8]]), (3, [], [oS [3, 6, 7, 8, 9]]), (4, [], [oN, oN, oN, oS [3, 5, 6, 7, 8]]), (5, [], [oN, oN, oN, oN, oS [6, 7, 8, 12, 14, 16], oN, oN, oN, oS [3, 6, 7, 8]]), (6, [], [oN, oS [3, 6, 7, 8]]), (7, [], [oN, oS [2]])] Try.f84 = some ⟨1, 22, [.t 2], (tH s84_14)⟩ := by kernel_rfl
theorem v_impl_size (hl : vs.length = 1) (h : wpV Try.prog (tH s84_14) (postV [.t 2] RV) (envV vs) M) : VCall Try.prog n_impl_size vs M RV :=
  vcall_of_wp (fun _ _ _ hl h => acall_of_wp mixed Try.func84 c84 (by kernel_rfl) hl h) hl h
@[go_sem] def l168_0 (_ : Unit) : KL := [kA 2 (.mv (cI 0)),
  kA 3 (.mv (cI 0)),
  kB 4 (.mv (cI 0)) [0]]
@[go_sem] def l168_1 (_ : Unit) : KL := [kB 5 (.mv (.t 0)) [5]]
@[go_sem] def l168_2 (_ : Unit) : KL := [kA 7 (.bin .eql (.t 5) (.c (.int .i64 2))),
  kB 6 (.mv (.t 7)) [5, 6]]
@[go_sem] def l168_3 (_ : Unit) : KL := [kA 8 (.bin .eql (.t 5) (.c (.int .i64 3))),
  kB 6 (.mv (.t 8)) [5, 6]]
@[go_sem] def l168_4 (_ : Unit) : KL := [kA 9 (.bin .eql (.t 5) (.c (.int .i64 4))),
  kB 6 (.mv (.t 9)) [5, 6]]
@[go_sem] def s168_5 (_ : Unit) : IR := (sQ [(kT l168_3), (.cond (.t 6) .skip (kT l168_4))])
@[go_sem] def s168_6 (_ : Unit) : IR := (sQ [(kT l168_2), (.cond (.t 6) .skip (tH s168_5))])
@[go_sem] def l168_7 (_ : Unit) : KL := [kA 2 (.mv (.c (.int .i64 2))),
  kA 3 (.mv (cI 1)),
  kB 4 (.mv (cI 1)) [2, 3, 4]]
@[go_sem] def s168_8 (_ : Unit) : IR := (sQ [(kT l168_7), .ret])
@[go_sem] def l168_9 (_ : Unit) : KL := [kA 11 (.bin .eql (.t 5) (.c (.int .i64 5))),
  kB 10 (.mv (.t 11)) [5, 10]]
@[go_sem] def l168_10 (_ : Unit) : KL := [kA 12 (.bin .eql (.t 5) (.c (.int .i64 6))),
  kB 10 (.mv (.t 12)) [5, 10]]
@[go_sem] def s168_11 (_ : Unit) : IR := (sQ [(kT l168_9), (.cond (.t 10) .skip (kT l168_10))])
@[go_sem] def l168_12 (_ : Unit) : KL := [kA 2 (.mv (.c (.int .i64 2))),
  kA 3 (.mv (cI 1)),
  kB 4 (.mv (.c (.int .i64 2))) [2, 3, 4]]
@[go_sem] def s168_13 (_ : Unit) : IR := (sQ [(kT l168_12), .ret])
@[go_sem] def l168_14 (_ : Unit) : KL := [kA 14 (.bin .eql (.t 5) (.c (.int .i64 7))),
  kB 13 (.mv (.t 14)) [5, 13]]
@[go_sem] def l168_15 (_ : Unit) : KL := [kA 2 (.mv (cI 1)),
  kA 3 (.mv (.c (.int .i64 2))),
  kB 4 (.mv (.c (.int .i64 2))) [2, 3, 4]]
@[go_sem] def s168_16 (_ : Unit) : IR := (sQ [(kT l168_15), .ret])
@[go_sem] def l168_17 (_ : Unit) : KL := [kA 16 (.bin .eql (.t 5) (.c (.int .i64 8))),
  kB 15 (.mv (.t 16)) [5, 15]]
@[go_sem] def l168_18 (_ : Unit) : KL := [kA 17 (.bin .eql (.t 5) (.c (.int .i64 9))),
  kB 15 (.mv (.t 17)) [15]]
@[go_sem] def s168_19 (_ : Unit) : IR := (sQ [(kT l168_17), (.cond (.t 15) .skip (kT l168_18))])
@[go_sem] def l168_20 (_ : Unit) : KL := [kA 2 (.mv (.c (.int .i64 2))),
  kA 3 (.mv (.c (.int .i64 2))),
  kB 4 (.mv (.c (.int .i64 2))) [2, 3, 4]]
@[go_sem] def s168_21 (_ : Unit) : IR := (sQ [(kT l168_20), .ret])
@[go_sem] def s168_22 (_ : Unit) : IR := (sQ [(tH s168_19), (.cond (.t 15) (tH s168_21) .skip)])
@[go_sem] def s168_23 (_ : Unit) : IR := (sQ [(kT l168_14), (.cond (.t 13) (tH s168_16) (tH s168_22))])
@[go_sem] def s168_24 (_ : Unit) : IR := (sQ [(tH s168_11), (.cond (.t 10) (tH s168_13) (tH s168_23))])
@[go_sem] def s168_25 (_ : Unit) : IR := (sQ [(tH s168_6), (.cond (.t 6) (tH s168_8) (tH s168_24))])
@[go_sem] def s168_26 (_ : Unit) : IR := (.block 0 (tH s168_25))
@[go_sem] def s168_27 (_ : Unit) : IR := (sQ [(kT l168_1), (tH s168_26)])
@[go_sem] def l168_28 (_ : Unit) : KL := [kA 2 (.mv (cI 0)),
  kA 3 (.mv (cI 0)),
  kB 4 (.mv (cI 1)) [2, 3, 4]]
@[go_sem] def s168_29 (_ : Unit) : IR := (sQ [(kT l168_0), (tH s168_27), (kT l168_28), .ret])
theorem c168 : compFn Try.prog [(0, [], [oN, oN, oS [0]]), (1, [], [oS [5]]), (2, [], [oN, oS [5, 6]]), (3, [], [oN, oS [5, 6]]), (4, [], [oN, oS [5, 6]]), (5, [], [oN, oN, oS [2, 3, 4]]), (6, [], [oN, oS [5, 10]]), (7, [], [oN, oS [5, 10]]), (8, [], [oN, oN, oS [2, 3, 4]]), (9, [], [oN, oS [5, 13]]), (10, [], [oN, oN, oS [2, 3, 4]]), (11, [], [oN, oS [5, 15]]), (12, [], [oN, oS [15]]), (13, [], [oN, oN, oS [2, 3, 4]]), (14, [], [oN, oN, oS [2, 3, 4]])] Try.f168 = some ⟨1, 18, [.t 2, .t 3, .t 4], (tH s168_29)⟩ := by kernel_rfl
theorem v_impl_parts (hl : vs.length = 1) (h : wpV Try.prog (tH s168_29) (postV [.t 2, .t 3, .t 4] RV) (envV vs) M) : VCall Try.prog n_impl_parts vs M RV :=
  vcall_of_wp (fun _ _ _ hl h => acall_of_wp mixed Try.func168 c168 (by kernel_rfl) hl h) hl h
@[go_sem] def l149_0 (_ : Unit) : KL := [kB 4 (.mv (.c (.sl none 0 0 true 0))) [0, 1]]
@[go_sem] def l149_1 (_ : Unit) : KL := [kA 12 (.mv (.t 1)),
  kA 13 (.call (n_impl_in) [(.t 12), (cI 0), (.c (.int .i64 5))]),
  kA 14 (.un .not (.t 13)),
  kA 15 (.mv (.t 14)),
  (⟨(some 16), .mv (.t 0), (some (15, false))⟩, (some [0, 1, 15, 16])),
  (⟨(some 17), .len (.t 16), (some (15, false))⟩, none),
  (⟨(some 18), .call (n_impl_in) [(.t 17), (cI 1), (.c (.int .i64 40))], (some (15, false))⟩, none),
  (⟨(some 19), .un .not (.t 18), (some (15, false))⟩, none),
  kB 20 (.pick (.t 15) (.c (.bool true)) (.t 19)) [0, 1, 20]]
@[go_sem] def l149_2 (_ : Unit) : KL := [kB 4 (.mv (.c (.sl none 0 0 true 0))) [4]]
@[go_sem] def s149_3 (_ : Unit) : IR := (sQ [(kT l149_2), .ret])
@[go_sem] def s149_4 (_ : Unit) : IR := (sQ [(kT l149_1), (.cond (.t 20) (tH s149_3) .skip)])
@[go_sem] def l149_5 (_ : Unit) : KL := [kA 21 (.mv (.t 0)),
  kA 22 (.len (.t 21)),
  kA 23 (.mkc [(.int .i64 0)] 8 (cI 0) (.t 22)),
  kB 5 (.mv (.t 23)) [0, 1, 5]]
@[go_sem] def l149_6 (_ : Unit) : KL := [kA 24 (.mv (.t 0)),
  kA 25 (.len (.t 24)),
  kB 26 (.mv (cI 0)) [1, 5, 24, 25, 26]]
@[go_sem] def l149_7 (_ : Unit) : KL := [kB 27 (.bin .lss (.t 26) (.t 25)) [1, 5, 24, 25, 26, 27]]
@[go_sem] def l149_8 (_ : Unit) : KL := [kA 28 (.mv (.t 26)),
  kA 29 (.iaddr (.t 24) (.t 26) 4),
  kA 30 (.load (.t 29) 4 true),
  kA 7 (.alloc [(.int .i64 0), (.int .i64 0), (.int .i64 0), (.int .i64 0)]),
  kB 6 (.mv (.t 28)) [1, 5, 6, 7, 24, 25, 26, 30],
  (⟨none, .store (.t 7) 4 (.t 30), none⟩, (some [1, 5, 6, 7, 24, 25, 26]))]
@[go_sem] def l149_9 (_ : Unit) : KL := [kA 32 (.faddr (.t 7) 0),
  kA 33 (.load (.t 32) 1 false),
  kA 34 (.call (n_impl_parts) [(.t 33)]),
  kA 31 (.mv (.t 34)),
  kB 35 (.ext (.t 31) 0) [1, 5, 6, 7, 24, 25, 26, 31, 35],
  kA 36 (.ext (.t 31) 1),
  kA 37 (.ext (.t 31) 2),
  kA 8 (.mv (.t 35)),
  kA 9 (.mv (.t 36)),
  kB 10 (.mv (.t 37)) [1, 5, 6, 7, 8, 9, 10, 24, 25, 26]]
@[go_sem] def l149_10 (_ : Unit) : KL := [kA 38 (.faddr (.t 7) 0),
  kA 39 (.load (.t 38) 1 false),
  kA 40 (.call (n_impl_in) [(.t 39), (cI 0), (.c (.int .i64 9))]),
  kB 11 (.mv (.t 40)) [1, 5, 6, 7, 8, 9, 10, 11, 24, 25, 26]]
@[go_sem] def l149_11 (_ : Unit) : KL := [kA 42 (.faddr (.t 7) 0),
  kA 43 (.load (.t 42) 1 false),
  kA 44 (.bin .eql (.t 43) (cI 0)),
  kB 41 (.mv (.t 44)) [1, 5, 6, 7, 8, 9, 10, 11, 24, 25, 26, 41]]
@[go_sem] def l149_12 (_ : Unit) : KL := [kA 45 (.faddr (.t 7) 1),
  kA 46 (.load (.t 45) 1 false),
  kA 47 (.call (n_impl_in) [(.t 46), (.c (.int .i64 (-9999))), (.c (.int .i64 9999))]),
  kA 48 (.mv (.t 47)),
  (⟨(some 49), .faddr (.t 7) 2, (some (48, true))⟩, (some [1, 5, 7, 10, 24, 25, 26, 48, 49])),
  (⟨(some 50), .load (.t 49) 1 false, (some (48, true))⟩, none),
  (⟨(some 51), .bin .eql (.t 50) (cI 0), (some (48, true))⟩, none),
  kA 52 (.pick (.t 48) (.t 51) (.c (.bool false))),
  kA 53 (.mv (.t 52)),
  (⟨(some 54), .faddr (.t 7) 3, (some (53, true))⟩, (some [1, 5, 10, 24, 25, 26, 53, 54])),
  (⟨(some 55), .load (.t 54) 1 false, (some (53, true))⟩, none),
  (⟨(some 56), .bin .eql (.t 55) (cI 0), (some (53, true))⟩, none),
  kA 57 (.pick (.t 53) (.t 56) (.c (.bool false))),
  kB 11 (.mv (.t 57)) [1, 5, 10, 11, 24, 25, 26]]
@[go_sem] def l149_13 (_ : Unit) : KL := [kA 59 (.faddr (.t 7) 0),
  kA 60 (.load (.t 59) 1 false),
  kA 61 (.bin .eql (.t 60) (cI 1)),
  kB 58 (.mv (.t 61)) [1, 5, 6, 7, 8, 9, 10, 11, 24, 25, 26, 58]]
@[go_sem] def l149_14 (_ : Unit) : KL := [kA 62 (.faddr (.t 7) 1),
  kA 63 (.load (.t 62) 1 false),
  kA 64 (.mv (.t 1)),
  kA 65 (.bin .sub (.t 64) (cI 1)),
  kB 66 (.call (n_impl_in) [(.t 63), (cI 0), (.t 65)]) [1, 5, 7, 10, 24, 25, 26, 66],
  kA 67 (.mv (.t 66)),
  (⟨(some 68), .faddr (.t 7) 2, (some (67, true))⟩, none),
  (⟨(some 69), .load (.t 68) 1 false, (some (67, true))⟩, none),
  (⟨(some 70), .bin .eql (.t 69) (cI 0), (some (67, true))⟩, none),
  kB 71 (.pick (.t 67) (.t 70) (.c (.bool false))) [1, 5, 7, 10, 24, 25, 26, 71],
  kA 72 (.mv (.t 71)),
  (⟨(some 73), .faddr (.t 7) 3, (some (72, true))⟩, none),
  (⟨(some 74), .load (.t 73) 1 false, (some (72, true))⟩, none),
  (⟨(some 75), .bin .eql (.t 74) (cI 0), (some (72, true))⟩, none),
  kB 76 (.pick (.t 72) (.t 75) (.c (.bool false))) [1, 5, 10, 24, 25, 26, 76],
  kB 11 (.mv (.t 76)) [1, 5, 10, 11, 24, 25, 26]]
@[go_sem] def l149_15 (_ : Unit) : KL := [kA 78 (.mv (.t 11)),
  kB 77 (.mv (.t 78)) [1, 5, 6, 7, 8, 9, 10, 11, 24, 25, 26, 77]]
@[go_sem] def l149_16 (_ : Unit) : KL := [kA 79 (.faddr (.t 7) 1),
  kA 80 (.load (.t 79) 1 false),
  kA 81 (.bin .eql (.t 80) (cI 0)),
  kA 82 (.mv (.t 81)),
  (⟨(some 83), .faddr (.t 7) 2, (some (82, true))⟩, (some [1, 5, 6, 7, 8, 9, 10, 24, 25, 26, 82, 83])),
  (⟨(some 84), .load (.t 83) 1 false, (some (82, true))⟩, none),
  (⟨(some 85), .mv (.t 6), (some (82, true))⟩, none),
  (⟨(some 86), .bin .sub (.t 85) (cI 1), (some (82, true))⟩, none),
  (⟨(some 87), .call (n_impl_in) [(.t 84), (cI 0), (.t 86)], (some (82, true))⟩, none),
  kB 88 (.pick (.t 82) (.t 87) (.c (.bool false))) [1, 5, 6, 7, 8, 9, 10, 24, 25, 26, 88],
  kA 89 (.mv (.t 88)),
  (⟨(some 90), .faddr (.t 7) 3, (some (89, true))⟩, none),
  (⟨(some 91), .load (.t 90) 1 false, (some (89, true))⟩, none),
  (⟨(some 92), .mv (.t 6), (some (89, true))⟩, none),
  (⟨(some 93), .bin .sub (.t 92) (cI 1), (some (89, true))⟩, (some [1, 5, 7, 8, 9, 10, 24, 25, 26, 89, 91, 93])),
  (⟨(some 94), .call (n_impl_in) [(.t 91), (cI 0), (.t 93)], (some (89, true))⟩, none),
  kA 95 (.pick (.t 89) (.t 94) (.c (.bool false))),
  kA 96 (.mv (.t 95)),
  (⟨(some 97), .mv (.t 5), (some (96, true))⟩, none),
  (⟨(some 98), .faddr (.t 7) 2, (some (96, true))⟩, (some [1, 5, 7, 8, 9, 10, 24, 25, 26, 96, 97, 98])),
  (⟨(some 99), .load (.t 98) 1 false, (some (96, true))⟩, none),
  (⟨(some 100), .iaddr (.t 97) (.t 99) 1, (some (96, true))⟩, none),
  (⟨(some 101), .load (.t 100) 1 false, (some (96, true))⟩, none),
  (⟨(some 102), .mv (.t 9), (some (96, true))⟩, none),
  (⟨(some 103), .bin .eql (.t 101) (.t 102), (some (96, true))⟩, (some [1, 5, 7, 8, 9, 10, 24, 25, 26, 96, 103])),
  kA 104 (.pick (.t 96) (.t 103) (.c (.bool false))),
  kA 105 (.mv (.t 104)),
  (⟨(some 106), .mv (.t 5), (some (105, true))⟩, none),
  (⟨(some 107), .faddr (.t 7) 3, (some (105, true))⟩, none),
  (⟨(some 108), .load (.t 107) 1 false, (some (105, true))⟩, (some [1, 5, 7, 8, 9, 10, 24, 25, 26, 105, 106, 108])),
  (⟨(some 109), .iaddr (.t 106) (.t 108) 1, (some (105, true))⟩, none),
  (⟨(some 110), .load (.t 109) 1 false, (some (105, true))⟩, none),
  (⟨(some 111), .mv (.t 9), (some (105, true))⟩, none),
  (⟨(some 112), .bin .eql (.t 110) (.t 111), (some (105, true))⟩, none),
  kB 113 (.pick (.t 105) (.t 112) (.c (.bool false))) [1, 5, 7, 8, 10, 24, 25, 26, 113],
  kA 114 (.mv (.t 113)),
  (⟨(some 115), .mv (.t 8), (some (114, true))⟩, none),
  (⟨(some 116), .bin .eql (.t 115) (.c (.int .i64 2)), (some (114, true))⟩, none),
  (⟨(some 117), .mv (.t 116), (some (114, true))⟩, none),
  (⟨(some 118), .faddr (.t 7) 2, (some (117, false))⟩, (some [1, 5, 7, 10, 24, 25, 26, 114, 117, 118])),
  (⟨(some 119), .load (.t 118) 1 false, (some (117, false))⟩, none),
  (⟨(some 120), .faddr (.t 7) 3, (some (117, false))⟩, none),
  (⟨(some 121), .load (.t 120) 1 false, (some (117, false))⟩, none),
  (⟨(some 122), .bin .eql (.t 119) (.t 121), (some (117, false))⟩, none),
  (⟨(some 123), .pick (.t 117) (.c (.bool true)) (.t 122), (some (114, true))⟩, (some [1, 5, 10, 24, 25, 26, 114, 123])),
  kA 124 (.pick (.t 114) (.t 123) (.c (.bool false))),
  kB 11 (.mv (.t 124)) [1, 5, 10, 11, 24, 25, 26]]
@[go_sem] def s149_17 (_ : Unit) : IR := (sQ [(kT l149_15), (.cond (.t 77) (kT l149_16) .skip)])
@[go_sem] def s149_18 (_ : Unit) : IR := (sQ [(kT l149_13), (.cond (.t 58) (kT l149_14) (tH s149_17))])
@[go_sem] def s149_19 (_ : Unit) : IR := (sQ [(kT l149_11), (.cond (.t 41) (kT l149_12) (tH s149_18))])
@[go_sem] def s149_20 (_ : Unit) : IR := (.block 2 (tH s149_19))
@[go_sem] def l149_21 (_ : Unit) : KL := [kA 125 (.mv (.t 11)),
  kB 126 (.un .not (.t 125)) [1, 5, 10, 24, 25, 26, 126]]
@[go_sem] def l149_22 (_ : Unit) : KL := [kB 4 (.mv (.c (.sl none 0 0 true 0))) [4]]
@[go_sem] def s149_23 (_ : Unit) : IR := (sQ [(kT l149_22), .ret])
@[go_sem] def s149_24 (_ : Unit) : IR := (sQ [(kT l149_21), (.cond (.t 126) (tH s149_23) .skip)])
@[go_sem] def l149_25 (_ : Unit) : KL := [kA 127 (.mv (.t 5)),
  kA 128 (.mv (.t 10)),
  kA 129 (.bslc 1 1 [(.int .i64 0)] [(0, (.t 128))]),
  kA 130 (.app 1 8 (.t 127) (.t 129)),
  kB 5 (.mv (.t 130)) [1, 5, 24, 25, 26]]
@[go_sem] def s149_26 (_ : Unit) : IR := (sQ [(kT l149_8), (kT l149_9), (kT l149_10), (tH s149_20), (tH s149_24), (kT l149_25)])
@[go_sem] def s149_27 (_ : Unit) : IR := (.block 1 (tH s149_26))
@[go_sem] def l149_28 (_ : Unit) : KL := [kA 131 (.bin .add (.t 26) (cI 1)),
  kB 26 (.mv (.t 131)) [1, 5, 24, 25, 26]]
@[go_sem] def s149_29 (_ : Unit) : IR := (sQ [(kT l149_7), (.cond (.t 27) .skip (.exit 0)), (tH s149_27), (kT l149_28)])
@[go_sem] def s149_30 (_ : Unit) : IR := (.loop (tH s149_29))
@[go_sem] def s149_31 (_ : Unit) : IR := (.block 0 (tH s149_30))
@[go_sem] def s149_32 (_ : Unit) : IR := (sQ [(kT l149_6), (tH s149_31)])
@[go_sem] def l149_33 (_ : Unit) : KL := [kA 132 (.mv (.t 5)),
  kB 4 (.mv (.t 132)) [4]]
@[go_sem] def s149_34 (_ : Unit) : IR := (sQ [(kT l149_0), (tH s149_4), (kT l149_5), (tH s149_32), (kT l149_33), .ret])
theorem c149 : compFn Try.prog [(0, [], [oS [0, 1]]), (1, [], [oN, oN, oN, oN, oS [0, 1, 15, 16], oN, oN, oN, oS [0, 1, 20]]), (2, [], [oS [4]]), (3, [], [oN, oN, oN, oS [0, 1, 5]]), (4, [], [oN, oN, oS [1, 5, 24, 25, 26]]), (5, [], [oS [1, 5, 24, 25, 26, 27]]), (6, [], [oN, oN, oN, oN, oS [1, 5, 6, 7, 24, 25, 26, 30], oS [1, 5, 6, 7, 24, 25, 26]]), (7, [], [oN, oN, oN, oN, oS [1, 5, 6, 7, 24, 25, 26, 31, 35], oN, oN, oN, oN, oS [1, 5, 6, 7, 8, 9, 10, 24, 25, 26]]), (8, [], [oN, oN, oN, oS [1, 5, 6, 7, 8, 9, 10, 11, 24, 25, 26]]), (9, [], [oN, oN, oN, oS [1, 5, 6, 7, 8, 9, 10, 11, 24, 25, 26, 41]]), (10, [], [oN, oN, oN, oN, oS [1, 5, 7, 10, 24, 25, 26, 48, 49], oN, oN, oN, oN, oS [1, 5, 10, 24, 25, 26, 53, 54], oN, oN, oN, oS [1, 5, 10, 11, 24, 25, 26]]), (11, [], [oN, oN, oN, oS [1, 5, 6, 7, 8, 9, 10, 11, 24, 25, 26, 58]]), (12, [], [oN, oN, oN, oN, oS [1, 5, 7, 10, 24, 25, 26, 66], oN, oN, oN, oN, oS [1, 5, 7, 10, 24, 25, 26, 71], oN, oN, oN, oN, oS [1, 5, 10, 24, 25, 26, 76], oS [1, 5, 10, 11, 24, 25, 26]]), (13, [], [oN, oS [1, 5, 6, 7, 8, 9, 10, 11, 24, 25, 26, 77]]), (14, [], [oN, oN, oN, oN, oS [1, 5, 6, 7, 8, 9, 10, 24, 25, 26, 82, 83], oN, oN, oN, oN, oS [1, 5, 6, 7, 8, 9, 10, 24, 25, 26, 88], oN, oN, oN, oN, oS [1, 5, 7, 8, 9, 10, 24, 25, 26, 89, 91, 93], oN, oN, oN, oN, oS [1, 5, 7, 8, 9, 10, 24, 25, 26, 96, 97, 98], oN, oN, oN, oN, oS [1, 5, 7, 8, 9, 10, 24, 25, 26, 96, 103], oN, oN, oN, oN, oS [1, 5, 7, 8, 9, 10, 24, 25, 26, 105, 106, 108], oN, oN, oN, oN, oS [1, 5, 7, 8, 10, 24, 25, 26, 113], oN, oN, oN, oN, oS [1, 5, 7, 10, 24, 25, 26, 114, 117, 118], oN, oN, oN, oN, oS [1, 5, 10, 24, 25, 26, 114, 123], oN, oS [1, 5, 10, 11, 24, 25, 26]]), (15, [], [oN, oS [1, 5, 10, 24, 25, 26, 126]]), (16, [], [oS [4]]), (17, [], [oN, oN, oN, oN, oS [1, 5, 24, 25, 26]]), (18, [], [oN, oS [1, 5, 24, 25, 26]]), (19, [], [oN, oS [4]])] Try.f149 = some ⟨2, 133, [.t 4], (tH s149_34)⟩ := by kernel_rfl
theorem v_impl_kindsOf (hl : vs.length = 2) (h : wpV Try.prog (tH s149_34) (postV [.t 4] RV) (envV vs) M) : VCall Try.prog n_impl_kindsOf vs M RV :=
  vcall_of_wp (fun _ _ _ hl h => acall_of_wp mixed Try.func149 c149 (by kernel_rfl) hl h) hl h
@[go_sem] def l136_0 (_ : Unit) : KL := [kB 4 (.mv (cI 0)) [0, 1]]
@[go_sem] def l136_1 (_ : Unit) : KL := [kA 6 (.mv (.t 0)),
  kA 7 (.mv (.t 1)),
  kA 8 (.call (n_impl_kindsOf) [(.t 6), (.t 7)]),
  kB 5 (.mv (.t 8)) [5]]
@[go_sem] def l136_2 (_ : Unit) : KL := [kA 9 (.mv (.t 5)),
  kB 10 (.eqn false .sl (.t 9)) [5, 10]]
@[go_sem] def l136_3 (_ : Unit) : KL := [kB 4 (.mv (cI 0)) [4]]
@[go_sem] def s136_4 (_ : Unit) : IR := (sQ [(kT l136_3), .ret])
@[go_sem] def s136_5 (_ : Unit) : IR := (sQ [(kT l136_2), (.cond (.t 10) (tH s136_4) .skip)])
@[go_sem] def l136_6 (_ : Unit) : KL := [kA 11 (.mv (.t 5)),
  kA 12 (.mv (.t 5)),
  kA 13 (.len (.t 12)),
  kA 14 (.bin .sub (.t 13) (cI 1)),
  kB 15 (.iaddr (.t 11) (.t 14) 1) [15],
  kA 16 (.load (.t 15) 1 false),
  kB 4 (.mv (.t 16)) [4]]
@[go_sem] def s136_7 (_ : Unit) : IR := (sQ [(kT l136_0), (kT l136_1), (tH s136_5), (kT l136_6), .ret])
theorem c136 : compFn Try.prog [(0, [], [oS [0, 1]]), (1, [], [oN, oN, oN, oS [5]]), (2, [], [oN, oS [5, 10]]), (3, [], [oS [4]]), (4, [], [oN, oN, oN, oN, oS [15], oN, oS [4]])] Try.f136 = some ⟨2, 17, [.t 4], (tH s136_7)⟩ := by kernel_rfl
theorem v_impl_kindOf (hl : vs.length = 2) (h : wpV Try.prog (tH s136_7) (postV [.t 4] RV) (envV vs) M) : VCall Try.prog n_impl_kindOf vs M RV :=
  vcall_of_wp (fun _ _ _ hl h => acall_of_wp mixed Try.func136 c136 (by kernel_rfl) hl h) hl h
@[go_sem] def l108_0 (_ : Unit) : KL := [kA 2 (.box (.t 0)),
  kB 4 (.mv (.c (.bool false))) [1, 2]]
@[go_sem] def l108_1 (_ : Unit) : KL := [kA 7 (.faddr (.t 2) 0),
  kA 8 (.load (.t 7) 1 false),
  kA 9 (.mv (.t 1)),
  kA 10 (.call (n_impl_kindOf) [(.t 8), (.t 9)]),
  kB 11 (.bin .neq (.t 10) (.c (.int .i64 2))) [1, 2, 11],
  kA 12 (.mv (.t 11)),
  (⟨(some 13), .faddr (.t 2) 1, (some (12, false))⟩, none),
  (⟨(some 14), .load (.t 13) 1 false, (some (12, false))⟩, none),
  (⟨(some 15), .len (.t 14), (some (12, false))⟩, none),
  (⟨(some 16), .faddr (.t 2) 2, (some (12, false))⟩, (some [1, 2, 12, 15, 16])),
  (⟨(some 17), .load (.t 16) 1 false, (some (12, false))⟩, none),
  (⟨(some 18), .len (.t 17), (some (12, false))⟩, none),
  (⟨(some 19), .bin .neq (.t 15) (.t 18), (some (12, false))⟩, none),
  kB 20 (.pick (.t 12) (.c (.bool true)) (.t 19)) [1, 2, 20]]
@[go_sem] def l108_2 (_ : Unit) : KL := [kB 4 (.mv (.c (.bool false))) [4]]
@[go_sem] def s108_3 (_ : Unit) : IR := (sQ [(kT l108_2), .ret])
@[go_sem] def s108_4 (_ : Unit) : IR := (sQ [(kT l108_1), (.cond (.t 20) (tH s108_3) .skip)])
@[go_sem] def l108_5 (_ : Unit) : KL := [kA 21 (.faddr (.t 2) 1),
  kA 22 (.load (.t 21) 1 false),
  kA 23 (.len (.t 22)),
  kB 24 (.mv (cI 0)) [1, 2, 22, 23, 24]]
@[go_sem] def l108_6 (_ : Unit) : KL := [kB 25 (.bin .lss (.t 24) (.t 23)) [1, 2, 22, 23, 24, 25]]
@[go_sem] def l108_7 (_ : Unit) : KL := [kA 26 (.mv (.t 24)),
  kA 27 (.iaddr (.t 22) (.t 24) 1),
  kA 28 (.load (.t 27) 1 false),
  kA 5 (.mv (.t 26)),
  kB 6 (.mv (.t 28)) [1, 2, 5, 6, 22, 23, 24]]
@[go_sem] def l108_8 (_ : Unit) : KL := [kA 29 (.mv (.t 6)),
  kA 30 (.mv (.t 1)),
  kA 31 (.bin .sub (.t 30) (cI 1)),
  kA 32 (.call (n_impl_in) [(.t 29), (cI 0), (.t 31)]),
  kB 33 (.un .not (.t 32)) [1, 2, 5, 6, 22, 23, 24, 33],
  kA 34 (.mv (.t 33)),
  (⟨(some 35), .mv (.t 5), (some (34, false))⟩, none),
  (⟨(some 36), .bin .gtr (.t 35) (cI 0), (some (34, false))⟩, none),
  (⟨(some 37), .mv (.t 36), (some (34, false))⟩, none),
  (⟨(some 38), .faddr (.t 2) 1, (some (37, true))⟩, (some [1, 2, 5, 6, 22, 23, 24, 34, 37, 38])),
  (⟨(some 39), .load (.t 38) 1 false, (some (37, true))⟩, none),
  (⟨(some 40), .mv (.t 5), (some (37, true))⟩, none),
  (⟨(some 41), .bin .sub (.t 40) (cI 1), (some (37, true))⟩, none),
  (⟨(some 42), .iaddr (.t 39) (.t 41) 1, (some (37, true))⟩, none),
  (⟨(some 43), .load (.t 42) 1 false, (some (37, true))⟩, (some [1, 2, 5, 6, 22, 23, 24, 34, 37, 43])),
  (⟨(some 44), .mv (.t 6), (some (37, true))⟩, none),
  (⟨(some 45), .bin .geq (.t 43) (.t 44), (some (37, true))⟩, none),
  (⟨(some 46), .pick (.t 37) (.t 45) (.c (.bool false)), (some (34, false))⟩, none),
  kA 47 (.pick (.t 34) (.c (.bool true)) (.t 46)),
  kB 48 (.mv (.t 47)) [1, 2, 5, 22, 23, 24, 48],
  (⟨(some 49), .faddr (.t 2) 2, (some (48, false))⟩, none),
  (⟨(some 50), .load (.t 49) 1 false, (some (48, false))⟩, none),
  (⟨(some 51), .mv (.t 5), (some (48, false))⟩, none),
  (⟨(some 52), .iaddr (.t 50) (.t 51) 1, (some (48, false))⟩, none),
  (⟨(some 53), .load (.t 52) 1 false, (some (48, false))⟩, (some [1, 2, 22, 23, 24, 48, 53])),
  (⟨(some 54), .mv (.t 1), (some (48, false))⟩, none),
  (⟨(some 55), .call (n_impl_kindOf) [(.t 53), (.t 54)], (some (48, false))⟩, none),
  (⟨(some 56), .bin .neq (.t 55) (cI 1), (some (48, false))⟩, none),
  kB 57 (.pick (.t 48) (.c (.bool true)) (.t 56)) [1, 2, 22, 23, 24, 57]]
@[go_sem] def l108_9 (_ : Unit) : KL := [kB 4 (.mv (.c (.bool false))) [4]]
@[go_sem] def s108_10 (_ : Unit) : IR := (sQ [(kT l108_9), .ret])
@[go_sem] def s108_11 (_ : Unit) : IR := (sQ [(kT l108_7), (kT l108_8), (.cond (.t 57) (tH s108_10) .skip)])
@[go_sem] def s108_12 (_ : Unit) : IR := (.block 1 (tH s108_11))
@[go_sem] def l108_13 (_ : Unit) : KL := [kA 58 (.bin .add (.t 24) (cI 1)),
  kB 24 (.mv (.t 58)) [1, 2, 22, 23, 24]]
@[go_sem] def s108_14 (_ : Unit) : IR := (sQ [(kT l108_6), (.cond (.t 25) .skip (.exit 0)), (tH s108_12), (kT l108_13)])
@[go_sem] def s108_15 (_ : Unit) : IR := (.loop (tH s108_14))
@[go_sem] def s108_16 (_ : Unit) : IR := (.block 0 (tH s108_15))
@[go_sem] def s108_17 (_ : Unit) : IR := (sQ [(kT l108_5), (tH s108_16)])
@[go_sem] def l108_18 (_ : Unit) : KL := [kB 4 (.mv (.c (.bool true))) [4]]
@[go_sem] def s108_19 (_ : Unit) : IR := (sQ [(kT l108_0), (tH s108_4), (tH s108_17), (kT l108_18), .ret])
theorem c108 : compFn Try.prog [(0, [], [oN, oS [1, 2]]), (1, [], [oN, oN, oN, oN, oS [1, 2, 11], oN, oN, oN, oN, oS [1, 2, 12, 15, 16], oN, oN, oN, oS [1, 2, 20]]), (2, [], [oS [4]]), (3, [], [oN, oN, oN, oS [1, 2, 22, 23, 24]]), (4, [], [oS [1, 2, 22, 23, 24, 25]]), (5, [], [oN, oN, oN, oN, oS [1, 2, 5, 6, 22, 23, 24]]), (6, [], [oN, oN, oN, oN, oS [1, 2, 5, 6, 22, 23, 24, 33], oN, oN, oN, oN, oS [1, 2, 5, 6, 22, 23, 24, 34, 37, 38], oN, oN, oN, oN, oS [1, 2, 5, 6, 22, 23, 24, 34, 37, 43], oN, oN, oN, oN, oS [1, 2, 5, 22, 23, 24, 48], oN, oN, oN, oN, oS [1, 2, 22, 23, 24, 48, 53], oN, oN, oN, oS [1, 2, 22, 23, 24, 57]]), (7, [], [oS [4]]), (8, [], [oN, oS [1, 2, 22, 23, 24]]), (9, [], [oS [4]])] Try.f108 = some ⟨2, 59, [.t 4], (tH s108_19)⟩ := by kernel_rfl
theorem v_impl_ruleOk (hl : vs.length = 2) (h : wpV Try.prog (tH s108_19) (postV [.t 4] RV) (envV vs) M) : VCall Try.prog n_impl_ruleOk vs M RV :=
  vcall_of_wp (fun _ _ _ hl h => acall_of_wp mixed Try.func108 c108 (by kernel_rfl) hl h) hl h
@[go_sem] def l107_0 (_ : Unit) : KL := [kA 2 (.box (.t 0)),
  kB 3 (.mv (.c (.bool false))) [1, 2]]
@[go_sem] def l107_1 (_ : Unit) : KL := [kA 4 (.load (.t 2) 3 true),
  kA 5 (.faddr (.t 1) 0),
  kA 6 (.load (.t 5) 1 false),
  kA 7 (.len (.t 6)),
  kB 8 (.call (n_impl_ruleOk) [(.t 4), (.t 7)]) [8],
  kA 9 (.un .not (.t 8)),
  kB 3 (.mv (.t 9)) [3]]
@[go_sem] def s107_2 (_ : Unit) : IR := (sQ [(kT l107_0), (kT l107_1), .ret])
theorem c107 : compFn Try.prog [(0, [], [oN, oS [1, 2]]), (1, [], [oN, oN, oN, oN, oS [8], oN, oS [3]])] Try.f107 = some ⟨2, 10, [.t 3], (tH s107_2)⟩ := by kernel_rfl
theorem v_impl_SystemValid_2 (hl : vs.length = 2) (h : wpV Try.prog (tH s107_2) (postV [.t 3] RV) (envV vs) M) : VCall Try.prog n_impl_SystemValid_2 vs M RV :=
  vcall_of_wp (fun _ _ _ hl h => acall_of_wp mixed Try.func107 c107 (by kernel_rfl) hl h) hl h
@[go_sem] def l135_0 (_ : Unit) : KL := [kB 4 (.mv (cI 0)) [0, 1]]
@[go_sem] def l135_1 (_ : Unit) : KL := [kA 6 (.mv (.t 0)),
  kA 7 (.len (.t 6)),
  kB 8 (.mv (cI 0)) [0, 1, 7, 8]]
@[go_sem] def l135_2 (_ : Unit) : KL := [kB 9 (.bin .lss (.t 8) (.t 7)) [0, 1, 7, 8, 9]]
@[go_sem] def l135_3 (_ : Unit) : KL := [kA 10 (.mv (.t 8)),
  kB 5 (.mv (.t 10)) [0, 1, 5, 7, 8]]
@[go_sem] def l135_4 (_ : Unit) : KL := [kA 11 (.mv (.t 1)),
  kA 12 (.mv (.t 0)),
  kA 13 (.mv (.t 5)),
  kA 14 (.iaddr (.t 12) (.t 13) 3),
  kB 15 (.load (.t 14) 3 true) [0, 1, 5, 7, 8, 11, 15],
  kB 16 (.callv (.t 11) [(.t 15)]) [0, 1, 5, 7, 8, 16]]
@[go_sem] def l135_5 (_ : Unit) : KL := [kA 17 (.mv (.t 5)),
  kB 4 (.mv (.t 17)) [4]]
@[go_sem] def s135_6 (_ : Unit) : IR := (sQ [(kT l135_5), .ret])
@[go_sem] def s135_7 (_ : Unit) : IR := (sQ [(kT l135_3), (kT l135_4), (.cond (.t 16) (tH s135_6) .skip)])
@[go_sem] def s135_8 (_ : Unit) : IR := (.block 1 (tH s135_7))
@[go_sem] def l135_9 (_ : Unit) : KL := [kA 18 (.bin .add (.t 8) (cI 1)),
  kB 8 (.mv (.t 18)) [0, 1, 7, 8]]
@[go_sem] def s135_10 (_ : Unit) : IR := (sQ [(kT l135_2), (.cond (.t 9) .skip (.exit 0)), (tH s135_8), (kT l135_9)])
@[go_sem] def s135_11 (_ : Unit) : IR := (.loop (tH s135_10))
@[go_sem] def s135_12 (_ : Unit) : IR := (.block 0 (tH s135_11))
@[go_sem] def s135_13 (_ : Unit) : IR := (sQ [(kT l135_1), (tH s135_12)])
@[go_sem] def l135_14 (_ : Unit) : KL := [kB 4 (.mv (.c (.int .i64 (-1)))) [4]]
@[go_sem] def s135_15 (_ : Unit) : IR := (sQ [(kT l135_0), (tH s135_13), (kT l135_14), .ret])
theorem c135 : compFn Try.prog [(0, [], [oS [0, 1]]), (1, [], [oN, oN, oS [0, 1, 7, 8]]), (2, [], [oS [0, 1, 7, 8, 9]]), (3, [], [oN, oS [0, 1, 5, 7, 8]]), (4, [], [oN, oN, oN, oN, oS [0, 1, 5, 7, 8, 11, 15], oS [0, 1, 5, 7, 8, 16]]), (5, [], [oN, oS [4]]), (6, [], [oN, oS [0, 1, 7, 8]]), (7, [], [oS [4]])] Try.f135 = some ⟨2, 19, [.t 4], (tH s135_15)⟩ := by kernel_rfl
theorem v_slices_IndexFunc_Simpl_Rule_impl_Rule (hl : vs.length = 2) (h : wpV Try.prog (tH s135_15) (postV [.t 4] RV) (envV vs) M) : VCall Try.prog n_slices_IndexFunc_Simpl_Rule_impl_Rule vs M RV :=
  vcall_of_wp (fun _ _ _ hl h => acall_of_wp mixed Try.func135 c135 (by kernel_rfl) hl h) hl h
@[go_sem] def l106_0 (_ : Unit) : KL := [kB 4 (.mv (.c (.bool false))) [0, 1]]
@[go_sem] def l106_1 (_ : Unit) : KL := [kA 5 (.mv (.t 0)),
  kA 6 (.mv (.t 1)),
  kA 7 (.call (n_slices_IndexFunc_Simpl_Rule_impl_Rule) [(.t 5), (.t 6)]),
  kA 8 (.bin .geq (.t 7) (cI 0)),
  kB 4 (.mv (.t 8)) [4]]
@[go_sem] def s106_2 (_ : Unit) : IR := (sQ [(kT l106_0), (kT l106_1), .ret])
theorem c106 : compFn Try.prog [(0, [], [oS [0, 1]]), (1, [], [oN, oN, oN, oN, oS [4]])] Try.f106 = some ⟨2, 9, [.t 4], (tH s106_2)⟩ := by kernel_rfl
theorem v_slices_ContainsFunc_Simpl_Rule_impl_Rule (hl : vs.length = 2) (h : wpV Try.prog (tH s106_2) (postV [.t 4] RV) (envV vs) M) : VCall Try.prog n_slices_ContainsFunc_Simpl_Rule_impl_Rule vs M RV :=
  vcall_of_wp (fun _ _ _ hl h => acall_of_wp mixed Try.func106 c106 (by kernel_rfl) hl h) hl h
@[go_sem] def l66_0 (_ : Unit) : KL := [kA 1 (.box (.t 0)),
  kB 2 (.mv (.c (.bool false))) [1]]
@[go_sem] def l66_1 (_ : Unit) : KL := [kA 3 (.faddr (.t 1) 0),
  kA 4 (.load (.t 3) 1 false),
  kA 5 (.len (.t 4)),
  kA 6 (.call (n_impl_in) [(.t 5), (cI 1), (.c (.int .i64 5))]),
  kB 7 (.un .not (.t 6)) [1, 7],
  kA 8 (.mv (.t 7)),
  (⟨(some 9), .faddr (.t 1) 1, (some (8, false))⟩, none),
  (⟨(some 10), .load (.t 9) 1 false, (some (8, false))⟩, none),
  (⟨(some 11), .len (.t 10), (some (8, false))⟩, none),
  (⟨(some 12), .bin .gtr (.t 11) (.c (.int .i64 8)), (some (8, false))⟩, (some [1, 8, 12])),
  kA 13 (.pick (.t 8) (.c (.bool true)) (.t 12)),
  kA 14 (.mv (.t 13)),
  (⟨(some 15), .faddr (.t 1) 0, (some (14, false))⟩, none),
  (⟨(some 16), .load (.t 15) 1 false, (some (14, false))⟩, none),
  (⟨(some 17), .call (n_slices_ContainsFunc_Simpl_Var_impl_Var) [(.t 16), (.c (.fn (n_impl_SystemValid_1) []))], (some (14, false))⟩, (some [1, 14, 17])),
  kA 18 (.pick (.t 14) (.c (.bool true)) (.t 17)),
  kA 19 (.mv (.t 18)),
  (⟨(some 20), .faddr (.t 1) 0, (some (19, false))⟩, none),
  (⟨(some 21), .load (.t 20) 1 false, (some (19, false))⟩, none),
  (⟨(some 22), .call (n_impl_size) [(.t 21)], (some (19, false))⟩, (some [1, 19, 22])),
  (⟨(some 23), .bin .gtr (.t 22) (.c (.int .i64 400)), (some (19, false))⟩, none),
  kB 24 (.pick (.t 19) (.c (.bool true)) (.t 23)) [1, 24]]
@[go_sem] def l66_2 (_ : Unit) : KL := [kB 2 (.mv (.c (.bool false))) [2]]
@[go_sem] def s66_3 (_ : Unit) : IR := (sQ [(kT l66_2), .ret])
@[go_sem] def s66_4 (_ : Unit) : IR := (sQ [(kT l66_1), (.cond (.t 24) (tH s66_3) .skip)])
@[go_sem] def l66_5 (_ : Unit) : KL := [kA 25 (.faddr (.t 1) 1),
  kA 26 (.load (.t 25) 1 false),
  kA 27 (.mkfn (n_impl_SystemValid_2) [(.t 1)]),
  kA 28 (.call (n_slices_ContainsFunc_Simpl_Rule_impl_Rule) [(.t 26), (.t 27)]),
  kB 29 (.un .not (.t 28)) [29],
  kB 2 (.mv (.t 29)) [2]]
@[go_sem] def s66_6 (_ : Unit) : IR := (sQ [(kT l66_0), (tH s66_4), (kT l66_5), .ret])
theorem c66 : compFn Try.prog [(0, [], [oN, oS [1]]), (1, [], [oN, oN, oN, oN, oS [1, 7], oN, oN, oN, oN, oS [1, 8, 12], oN, oN, oN, oN, oS [1, 14, 17], oN, oN, oN, oN, oS [1, 19, 22], oN, oS [1, 24]]), (2, [], [oS [2]]), (3, [], [oN, oN, oN, oN, oS [29], oS [2]])] Try.f66 = some ⟨1, 30, [.t 2], (tH s66_6)⟩ := by kernel_rfl
theorem v_impl_SystemValid (hl : vs.length = 1) (h : wpV Try.prog (tH s66_6) (postV [.t 2] RV) (envV vs) M) : VCall Try.prog n_impl_SystemValid vs M RV :=
  vcall_of_wp (fun _ _ _ hl h => acall_of_wp mixed Try.func66 c66 (by kernel_rfl) hl h) hl h
@[go_sem] def l60_0 (_ : Unit) : KL := [kB 2 (.mv (.c (.sl none 0 0 true 0))) [0]]
@[go_sem] def l60_1 (_ : Unit) : KL := [kA 4 (.mv (.t 0)),
  kA 5 (.len (.t 4)),
  kB 6 (.bin .eql (.t 5) (cI 0)) [0, 6]]
@[go_sem] def l60_2 (_ : Unit) : KL := [kB 2 (.mv (.c (.sl none 0 0 true 0))) [2]]
@[go_sem] def s60_3 (_ : Unit) : IR := (sQ [(kT l60_2), .ret])
@[go_sem] def s60_4 (_ : Unit) : IR := (sQ [(kT l60_1), (.cond (.t 6) (tH s60_3) .skip)])
@[go_sem] def l60_5 (_ : Unit) : KL := [kA 7 (.mv (.t 0)),
  kA 8 (.len (.t 7)),
  kA 9 (.mks [(.int .i64 0)] 8 (.t 8)),
  kB 3 (.mv (.t 9)) [0, 3]]
@[go_sem] def l60_6 (_ : Unit) : KL := [kA 10 (.mv (.t 3)),
  kA 11 (.mv (.t 0)),
  kB 12 (.copy 1 (.t 10) (.t 11)) [3]]
@[go_sem] def l60_7 (_ : Unit) : KL := [kA 13 (.mv (.t 3)),
  kB 2 (.mv (.t 13)) [2]]
@[go_sem] def s60_8 (_ : Unit) : IR := (sQ [(kT l60_0), (tH s60_4), (kT l60_5), (kT l60_6), (kT l60_7), .ret])
theorem c60 : compFn Try.prog [(0, [], [oS [0]]), (1, [], [oN, oN, oS [0, 6]]), (2, [], [oS [2]]), (3, [], [oN, oN, oN, oS [0, 3]]), (4, [], [oN, oN, oS [3]]), (5, [], [oN, oS [2]])] Try.f60 = some ⟨1, 14, [.t 2], (tH s60_8)⟩ := by kernel_rfl
theorem v_impl_clone_int (hl : vs.length = 1) (h : wpV Try.prog (tH s60_8) (postV [.t 2] RV) (envV vs) M) : VCall Try.prog n_impl_clone_int vs M RV :=
  vcall_of_wp (fun _ _ _ hl h => acall_of_wp mixed Try.func60 c60 (by kernel_rfl) hl h) hl h
@[go_sem] def l112_0 (_ : Unit) : KL := [kB 4 (.mv (.c (.sl none 0 0 true 0))) [0, 1]]
@[go_sem] def l112_1 (_ : Unit) : KL := [kA 12 (.mv (.t 0)),
  kA 13 (.len (.t 12)),
  kA 14 (.mks [(.bool false)] 1 (.t 13)),
  kB 5 (.mv (.t 14)) [0, 1, 5]]
@[go_sem] def l112_2 (_ : Unit) : KL := [kA 15 (.mv (.t 1)),
  kA 16 (.mks [(.bool false)] 1 (.t 15)),
  kB 6 (.mv (.t 16)) [0, 5, 6]]
@[go_sem] def l112_3 (_ : Unit) : KL := [kA 17 (.mv (.t 5)),
  kA 18 (.mv (.t 0)),
  kA 19 (.len (.t 18)),
  kA 20 (.bin .sub (.t 19) (cI 1)),
  kB 21 (.iaddr (.t 17) (.t 20) 1) [0, 5, 6, 21],
  (⟨none, .store (.t 21) 1 (.c (.bool true)), none⟩, (some [0, 5, 6]))]
@[go_sem] def l112_4 (_ : Unit) : KL := [kA 22 (.mv (.t 0)),
  kA 23 (.len (.t 22)),
  kA 24 (.bin .sub (.t 23) (cI 1)),
  kB 7 (.mv (.t 24)) [0, 5, 6, 7]]
@[go_sem] def l112_5 (_ : Unit) : KL := [kA 25 (.mv (.t 7)),
  kB 26 (.bin .geq (.t 25) (cI 0)) [0, 5, 6, 7, 26]]
@[go_sem] def s112_6 (_ : Unit) : IR := (sQ [(kT l112_5), (.cond (.t 26) .skip (.exit 0))])
@[go_sem] def l112_7 (_ : Unit) : KL := [kA 29 (.mv (.t 0)),
  kA 30 (.mv (.t 7)),
  kA 31 (.iaddr (.t 29) (.t 30) 4),
  kA 32 (.load (.t 31) 4 true),
  kB 8 (.alloc [(.int .i64 0), (.int .i64 0), (.int .i64 0), (.int .i64 0)]) [0, 5, 6, 7, 8, 32],
  (⟨none, .store (.t 8) 4 (.t 32), none⟩, (some [0, 5, 6, 7, 8]))]
@[go_sem] def l112_8 (_ : Unit) : KL := [kA 42 (.mv (.t 5)),
  kA 43 (.mv (.t 7)),
  kA 44 (.iaddr (.t 42) (.t 43) 1),
  kA 45 (.load (.t 44) 1 false),
  kB 46 (.un .not (.t 45)) [0, 5, 6, 7, 8, 46],
  kA 47 (.mv (.t 46)),
  (⟨(some 48), .faddr (.t 8) 0, (some (47, false))⟩, none),
  (⟨(some 49), .load (.t 48) 1 false, (some (47, false))⟩, none),
  (⟨(some 50), .bin .eql (.t 49) (cI 0), (some (47, false))⟩, none),
  kB 51 (.pick (.t 47) (.c (.bool true)) (.t 50)) [0, 5, 6, 7, 8, 51],
  kB 41 (.mv (.t 51)) [0, 5, 6, 7, 8, 41]]
@[go_sem] def l112_9 (_ : Unit) : KL := [kA 53 (.faddr (.t 8) 0),
  kA 54 (.load (.t 53) 1 false),
  kA 55 (.bin .eql (.t 54) (cI 1)),
  kB 52 (.mv (.t 55)) [0, 5, 6, 7, 8, 52]]
@[go_sem] def l112_10 (_ : Unit) : KL := [kA 56 (.mv (.t 6)),
  kA 57 (.faddr (.t 8) 1),
  kA 58 (.load (.t 57) 1 false),
  kA 59 (.iaddr (.t 56) (.t 58) 1),
  (⟨none, .store (.t 59) 1 (.c (.bool true)), none⟩, (some [0, 5, 6, 7]))]
@[go_sem] def l112_11 : Nat → GOp
  | 0 => ⟨(some 33), .mv (.t 5), none⟩
  | 1 => ⟨(some 34), .faddr (.t 8) 2, none⟩
  | 2 => ⟨(some 35), .load (.t 34) 1 false, none⟩
  | 3 => ⟨(some 36), .mv (.t 5), none⟩
  | 4 => ⟨(some 37), .faddr (.t 8) 3, none⟩
  | 5 => ⟨(some 38), .load (.t 37) 1 false, none⟩
  | 6 => ⟨(some 39), .iaddr (.t 33) (.t 35) 1, none⟩
  | 7 => ⟨none, .store (.t 39) 1 (.c (.bool true)), none⟩
  | 8 => ⟨(some 40), .iaddr (.t 36) (.t 38) 1, none⟩
  | 9 => ⟨none, .store (.t 40) 1 (.c (.bool true)), none⟩
  | _ => ⟨none, .mkmap, none⟩
@[go_sem] def s112_12 (_ : Unit) : IR := (sQ [(kT l112_9), (.cond (.t 52) (kT l112_10) (.kd (oF l112_11 10) [(0, []), (1, []), (2, []), (3, []), (4, []), (5, []), (6, []), (7, [5]), (8, []), (9, [])] [0, 5, 6, 7]))])
@[go_sem] def s112_13 (_ : Unit) : IR := (sQ [(kT l112_8), (.cond (.t 41) .skip (tH s112_12))])
@[go_sem] def s112_14 (_ : Unit) : IR := (.block 2 (tH s112_13))
@[go_sem] def s112_15 (_ : Unit) : IR := (sQ [(kT l112_7), (tH s112_14)])
@[go_sem] def s112_16 (_ : Unit) : IR := (.block 1 (tH s112_15))
@[go_sem] def l112_17 (_ : Unit) : KL := [kA 27 (.mv (.t 7)),
  kA 28 (.bin .sub (.t 27) (cI 1)),
  kB 7 (.mv (.t 28)) [0, 5, 6, 7]]
@[go_sem] def s112_18 (_ : Unit) : IR := (sQ [(tH s112_6), (tH s112_16), (kT l112_17)])
@[go_sem] def s112_19 (_ : Unit) : IR := (.loop (tH s112_18))
@[go_sem] def s112_20 (_ : Unit) : IR := (.block 0 (tH s112_19))
@[go_sem] def s112_21 (_ : Unit) : IR := (sQ [(kT l112_4), (tH s112_20)])
@[go_sem] def l112_22 (_ : Unit) : KL := [kB 9 (.mv (.c (.sl none 0 0 true 0))) [6, 9]]
@[go_sem] def l112_23 (_ : Unit) : KL := [kA 60 (.mv (.t 6)),
  kA 61 (.len (.t 60)),
  kB 62 (.mv (cI 0)) [9, 60, 61, 62]]
@[go_sem] def l112_24 (_ : Unit) : KL := [kB 63 (.bin .lss (.t 62) (.t 61)) [9, 60, 61, 62, 63]]
@[go_sem] def l112_25 (_ : Unit) : KL := [kA 64 (.mv (.t 62)),
  kA 65 (.iaddr (.t 60) (.t 62) 1),
  kA 66 (.load (.t 65) 1 false),
  kA 10 (.mv (.t 64)),
  kB 11 (.mv (.t 66)) [9, 10, 11, 60, 61, 62]]
@[go_sem] def l112_26 (_ : Unit) : KL := [kB 67 (.mv (.t 11)) [9, 10, 60, 61, 62, 67]]
@[go_sem] def l112_27 (_ : Unit) : KL := [kA 68 (.mv (.t 9)),
  kA 69 (.mv (.t 10)),
  kA 70 (.bslc 1 1 [(.int .i64 0)] [(0, (.t 69))]),
  kA 71 (.app 1 8 (.t 68) (.t 70)),
  kB 9 (.mv (.t 71)) [9, 60, 61, 62]]
@[go_sem] def s112_28 (_ : Unit) : IR := (sQ [(kT l112_25), (kT l112_26), (.cond (.t 67) (kT l112_27) .skip)])
@[go_sem] def s112_29 (_ : Unit) : IR := (.block 4 (tH s112_28))
@[go_sem] def l112_30 (_ : Unit) : KL := [kA 72 (.bin .add (.t 62) (cI 1)),
  kB 62 (.mv (.t 72)) [9, 60, 61, 62]]
@[go_sem] def s112_31 (_ : Unit) : IR := (sQ [(kT l112_24), (.cond (.t 63) .skip (.exit 3)), (tH s112_29), (kT l112_30)])
@[go_sem] def s112_32 (_ : Unit) : IR := (.loop (tH s112_31))
@[go_sem] def s112_33 (_ : Unit) : IR := (.block 3 (tH s112_32))
@[go_sem] def s112_34 (_ : Unit) : IR := (sQ [(kT l112_23), (tH s112_33)])
@[go_sem] def l112_35 (_ : Unit) : KL := [kA 73 (.mv (.t 9)),
  kA 74 (.call (n_impl_clone_int) [(.t 73)]),
  kB 4 (.mv (.t 74)) [4]]
@[go_sem] def s112_36 (_ : Unit) : IR := (sQ [(kT l112_0), (kT l112_1), (kT l112_2), (kT l112_3), (tH s112_21), (kT l112_22), (tH s112_34), (kT l112_35), .ret])
theorem c112 : compFn Try.prog [(0, [], [oS [0, 1]]), (1, [], [oN, oN, oN, oS [0, 1, 5]]), (2, [], [oN, oN, oS [0, 5, 6]]), (3, [], [oN, oN, oN, oN, oS [0, 5, 6, 21], oS [0, 5, 6]]), (4, [], [oN, oN, oN, oS [0, 5, 6, 7]]), (5, [], [oN, oS [0, 5, 6, 7, 26]]), (7, [], [oN, oN, oN, oN, oS [0, 5, 6, 7, 8, 32], oS [0, 5, 6, 7, 8]]), (9, [], [oN, oN, oN, oN, oS [0, 5, 6, 7, 8, 46], oN, oN, oN, oN, oS [0, 5, 6, 7, 8, 51], oS [0, 5, 6, 7, 8, 41]]), (10, [], [oN, oN, oN, oS [0, 5, 6, 7, 8, 52]]), (11, [], [oN, oN, oN, oN, oS [0, 5, 6, 7]]), (8, [(0, []), (1, []), (2, []), (3, []), (4, []), (5, []), (6, []), (7, [5]), (8, []), (9, [])], [oS [0, 5, 6, 7]]), (6, [], [oN, oN, oS [0, 5, 6, 7]]), (12, [], [oS [6, 9]]), (13, [], [oN, oN, oS [9, 60, 61, 62]]), (14, [], [oS [9, 60, 61, 62, 63]]), (15, [], [oN, oN, oN, oN, oS [9, 10, 11, 60, 61, 62]]), (16, [], [oS [9, 10, 60, 61, 62, 67]]), (17, [], [oN, oN, oN, oN, oS [9, 60, 61, 62]]), (18, [], [oN, oS [9, 60, 61, 62]]), (19, [], [oN, oN, oS [4]])] Try.f112 = some ⟨2, 75, [.t 4], (tH s112_36)⟩ := by kernel_rfl
theorem v_impl_usedBy (hl : vs.length = 2) (h : wpV Try.prog (tH s112_36) (postV [.t 4] RV) (envV vs) M) : VCall Try.prog n_impl_usedBy vs M RV :=
  vcall_of_wp (fun _ _ _ hl h => acall_of_wp mixed Try.func112 c112 (by kernel_rfl) hl h) hl h
@[go_sem] def l162_0 (_ : Unit) : KL := [kB 2 (.mv (cI 0)) [0, 2]]
@[go_sem] def l162_1 (_ : Unit) : KL := [kA 3 (.mv (.t 0)),
  kB 4 (.bin .geq (.t 3) (.c (.int .u32 65536))) [0, 2, 4]]
@[go_sem] def l162_2 (_ : Unit) : KL := [kA 5 (.mv (.t 0)),
  kA 6 (.bin .shr (.t 5) (.c (.int .u64 16))),
  kB 0 (.mv (.t 6)) [0]]
@[go_sem] def l162_3 (_ : Unit) : KL := [kB 2 (.mv (.c (.int .i64 16))) [0, 2]]
@[go_sem] def s162_4 (_ : Unit) : IR := (sQ [(kT l162_2), (kT l162_3)])
@[go_sem] def s162_5 (_ : Unit) : IR := (sQ [(kT l162_1), (.cond (.t 4) (tH s162_4) .skip)])
@[go_sem] def l162_6 (_ : Unit) : KL := [kA 7 (.mv (.t 0)),
  kB 8 (.bin .geq (.t 7) (.c (.int .u32 256))) [0, 2, 8]]
@[go_sem] def l162_7 (_ : Unit) : KL := [kA 9 (.mv (.t 0)),
  kA 10 (.bin .shr (.t 9) (.c (.int .u64 8))),
  kB 0 (.mv (.t 10)) [0, 2]]
@[go_sem] def l162_8 (_ : Unit) : KL := [kA 11 (.mv (.t 2)),
  kA 12 (.bin .add (.t 11) (.c (.int .i64 8))),
  kB 2 (.mv (.t 12)) [0, 2]]
@[go_sem] def s162_9 (_ : Unit) : IR := (sQ [(kT l162_7), (kT l162_8)])
@[go_sem] def s162_10 (_ : Unit) : IR := (sQ [(kT l162_6), (.cond (.t 8) (tH s162_9) .skip)])
@[go_sem] def l162_11 (_ : Unit) : KL := [kA 13 (.mv (.t 2)),
  kA 14 (.mv (.t 0)),
  kA 15 (.cvi .u8 (.t 14)),
  kA 16 (.sidx (.c (.str ⟨#[0, 1, 2, 2, 3, 3, 3, 3, 4, 4, 4, 4, 4, 4, 4, 4, 5, 5, 5, 5, 5, 5, 5, 5, 5, 5, 5, 5, 5, 5, 5, 5, 6, 6, 6, 6, 6, 6, 6, 6, 6, 6, 6, 6, 6, 6, 6, 6, 6, 6, 6, 6, 6, 6, 6, 6, 6, 6, 6, 6, 6, 6, 6, 6, 7, 7, 7, 7, 7, 7, 7, 7, 7, 7, 7, 7, 7, 7, 7, 7, 7, 7, 7, 7, 7, 7, 7, 7, 7, 7, 7, 7, 7, 7, 7, 7, 7, 7, 7, 7, 7, 7, 7, 7, 7, 7, 7, 7, 7, 7, 7, 7, 7, 7, 7, 7, 7, 7, 7, 7, 7, 7, 7, 7, 7, 7, 7, 7, 8, 8, 8, 8, 8, 8, 8, 8, 8, 8, 8, 8, 8, 8, 8, 8, 8, 8, 8, 8, 8, 8, 8, 8, 8, 8, 8, 8, 8, 8, 8, 8, 8, 8, 8, 8, 8, 8, 8, 8, 8, 8, 8, 8, 8, 8, 8, 8, 8, 8, 8, 8, 8, 8, 8, 8, 8, 8, 8, 8, 8, 8, 8, 8, 8, 8, 8, 8, 8, 8, 8, 8, 8, 8, 8, 8, 8, 8, 8, 8, 8, 8, 8, 8, 8, 8, 8, 8, 8, 8, 8, 8, 8, 8, 8, 8, 8, 8, 8, 8, 8, 8, 8, 8, 8, 8, 8, 8, 8, 8, 8, 8, 8, 8, 8, 8, 8, 8, 8, 8, 8, 8, 8, 8, 8, 8, 8, 8]⟩)) (.t 15)),
  kB 17 (.cvi .i64 (.t 16)) [13, 17],
  kA 18 (.bin .add (.t 13) (.t 17)),
  kB 2 (.mv (.t 18)) [2]]
@[go_sem] def s162_12 (_ : Unit) : IR := (sQ [(kT l162_0), (tH s162_5), (tH s162_10), (kT l162_11), .ret])
@[go_sem] def l163_0 (_ : Unit) : KL := [kB 2 (.mv (cI 0)) [0, 2]]
@[go_sem] def l163_1 (_ : Unit) : KL := [kA 3 (.mv (.t 0)),
  kB 4 (.bin .geq (.t 3) (.c (.int .u64 4294967296))) [0, 2, 4]]
@[go_sem] def l163_2 (_ : Unit) : KL := [kA 5 (.mv (.t 0)),
  kA 6 (.bin .shr (.t 5) (.c (.int .u64 32))),
  kB 0 (.mv (.t 6)) [0]]
@[go_sem] def l163_3 (_ : Unit) : KL := [kB 2 (.mv (.c (.int .i64 32))) [0, 2]]
@[go_sem] def s163_4 (_ : Unit) : IR := (sQ [(kT l163_2), (kT l163_3)])
@[go_sem] def s163_5 (_ : Unit) : IR := (sQ [(kT l163_1), (.cond (.t 4) (tH s163_4) .skip)])
@[go_sem] def l163_6 (_ : Unit) : KL := [kA 7 (.mv (.t 0)),
  kB 8 (.bin .geq (.t 7) (.c (.int .u64 65536))) [0, 2, 8]]
@[go_sem] def l163_7 (_ : Unit) : KL := [kA 9 (.mv (.t 0)),
  kA 10 (.bin .shr (.t 9) (.c (.int .u64 16))),
  kB 0 (.mv (.t 10)) [0, 2]]
@[go_sem] def l163_8 (_ : Unit) : KL := [kA 11 (.mv (.t 2)),
  kA 12 (.bin .add (.t 11) (.c (.int .i64 16))),
  kB 2 (.mv (.t 12)) [0, 2]]
@[go_sem] def s163_9 (_ : Unit) : IR := (sQ [(kT l163_7), (kT l163_8)])
@[go_sem] def s163_10 (_ : Unit) : IR := (sQ [(kT l163_6), (.cond (.t 8) (tH s163_9) .skip)])
@[go_sem] def l163_11 (_ : Unit) : KL := [kA 13 (.mv (.t 0)),
  kB 14 (.bin .geq (.t 13) (.c (.int .u64 256))) [0, 2, 14]]
@[go_sem] def l163_12 (_ : Unit) : KL := [kA 15 (.mv (.t 0)),
  kA 16 (.bin .shr (.t 15) (.c (.int .u64 8))),
  kB 0 (.mv (.t 16)) [0, 2]]
@[go_sem] def l163_13 (_ : Unit) : KL := [kA 17 (.mv (.t 2)),
  kA 18 (.bin .add (.t 17) (.c (.int .i64 8))),
  kB 2 (.mv (.t 18)) [0, 2]]
@[go_sem] def s163_14 (_ : Unit) : IR := (sQ [(kT l163_12), (kT l163_13)])
@[go_sem] def s163_15 (_ : Unit) : IR := (sQ [(kT l163_11), (.cond (.t 14) (tH s163_14) .skip)])
@[go_sem] def l163_16 (_ : Unit) : KL := [kA 19 (.mv (.t 2)),
  kA 20 (.mv (.t 0)),
  kA 21 (.cvi .u8 (.t 20)),
  kA 22 (.sidx (.c (.str ⟨#[0, 1, 2, 2, 3, 3, 3, 3, 4, 4, 4, 4, 4, 4, 4, 4, 5, 5, 5, 5, 5, 5, 5, 5, 5, 5, 5, 5, 5, 5, 5, 5, 6, 6, 6, 6, 6, 6, 6, 6, 6, 6, 6, 6, 6, 6, 6, 6, 6, 6, 6, 6, 6, 6, 6, 6, 6, 6, 6, 6, 6, 6, 6, 6, 7, 7, 7, 7, 7, 7, 7, 7, 7, 7, 7, 7, 7, 7, 7, 7, 7, 7, 7, 7, 7, 7, 7, 7, 7, 7, 7, 7, 7, 7, 7, 7, 7, 7, 7, 7, 7, 7, 7, 7, 7, 7, 7, 7, 7, 7, 7, 7, 7, 7, 7, 7, 7, 7, 7, 7, 7, 7, 7, 7, 7, 7, 7, 7, 8, 8, 8, 8, 8, 8, 8, 8, 8, 8, 8, 8, 8, 8, 8, 8, 8, 8, 8, 8, 8, 8, 8, 8, 8, 8, 8, 8, 8, 8, 8, 8, 8, 8, 8, 8, 8, 8, 8, 8, 8, 8, 8, 8, 8, 8, 8, 8, 8, 8, 8, 8, 8, 8, 8, 8, 8, 8, 8, 8, 8, 8, 8, 8, 8, 8, 8, 8, 8, 8, 8, 8, 8, 8, 8, 8, 8, 8, 8, 8, 8, 8, 8, 8, 8, 8, 8, 8, 8, 8, 8, 8, 8, 8, 8, 8, 8, 8, 8, 8, 8, 8, 8, 8, 8, 8, 8, 8, 8, 8, 8, 8, 8, 8, 8, 8, 8, 8, 8, 8, 8, 8, 8, 8, 8, 8, 8, 8]⟩)) (.t 21)),
  kB 23 (.cvi .i64 (.t 22)) [19, 23],
  kA 24 (.bin .add (.t 19) (.t 23)),
  kB 2 (.mv (.t 24)) [2]]
@[go_sem] def s163_17 (_ : Unit) : IR := (sQ [(kT l163_0), (tH s163_5), (tH s163_10), (tH s163_15), (kT l163_16), .ret])
@[go_sem] def l142_0 (_ : Unit) : KL := [kB 2 (.mv (cI 0)) [0]]
@[go_sem] def l142_1 (_ : Unit) : KL := [kA 3 (.mv (.t 0)),
  kA 4 (.cvi .u32 (.t 3)),
  kA 5 (.call (n_math_bits_Len32) [(.t 4)]),
  kB 2 (.mv (.t 5)) [2]]
@[go_sem] def s142_2 (_ : Unit) : IR := (sQ [(kT l142_1), .ret])
@[go_sem] def l142_3 (_ : Unit) : KL := [kA 6 (.mv (.t 0)),
  kA 7 (.call (n_math_bits_Len64) [(.t 6)]),
  kB 2 (.mv (.t 7)) [2]]
@[go_sem] def s142_4 (_ : Unit) : IR := (sQ [(kT l142_0), (.cond (.c (.bool false)) (tH s142_2) .skip), (kT l142_3), .ret])
@[go_sem] def l175_0 (_ : Unit) : KL := [kB 2 (.mv (.c (.bool false))) [0]]
@[go_sem] def l175_1 (_ : Unit) : KL := [kA 3 (.mv (.t 0)),
  kA 4 (.mv (.t 0)),
  kA 5 (.bin .neq (.t 3) (.t 4)),
  kB 2 (.mv (.t 5)) [2]]
@[go_sem] def s175_2 (_ : Unit) : IR := (sQ [(kT l175_0), (kT l175_1), .ret])
@[go_sem] def l159_0 (_ : Unit) : KL := [kB 4 (.mv (.c (.bool false))) [0, 1]]
@[go_sem] def l159_1 (_ : Unit) : KL := [kA 5 (.mv (.t 0)),
  kA 6 (.call (n_cmp_isNaN_int) [(.t 5)]),
  kA 7 (.mv (.t 6)),
  (⟨(some 8), .mv (.t 1), (some (7, true))⟩, none),
  (⟨(some 9), .call (n_cmp_isNaN_int) [(.t 8)], (some (7, true))⟩, (some [0, 1, 7, 9])),
  (⟨(some 10), .un .not (.t 9), (some (7, true))⟩, none),
  kA 11 (.pick (.t 7) (.t 10) (.c (.bool false))),
  kA 12 (.mv (.t 11)),
  (⟨(some 13), .mv (.t 0), (some (12, false))⟩, none),
  (⟨(some 14), .mv (.t 1), (some (12, false))⟩, (some [12, 13, 14])),
  (⟨(some 15), .bin .lss (.t 13) (.t 14), (some (12, false))⟩, none),
  kA 16 (.pick (.t 12) (.c (.bool true)) (.t 15)),
  kB 4 (.mv (.t 16)) [4]]
@[go_sem] def s159_2 (_ : Unit) : IR := (sQ [(kT l159_0), (kT l159_1), .ret])
@[go_sem] def l153_0 (_ : Unit) : KL := [kA 8 (.mv (.t 1)),
  kA 9 (.bin .add (.t 8) (cI 1)),
  kB 6 (.mv (.t 9)) [0, 1, 2, 6]]
@[go_sem] def l153_1 (_ : Unit) : KL := [kA 10 (.mv (.t 6)),
  kA 11 (.mv (.t 2)),
  kB 12 (.bin .lss (.t 10) (.t 11)) [0, 1, 2, 6, 12]]
@[go_sem] def s153_2 (_ : Unit) : IR := (sQ [(kT l153_1), (.cond (.t 12) .skip (.exit 0))])
@[go_sem] def l153_3 (_ : Unit) : KL := [kA 15 (.mv (.t 6)),
  kB 7 (.mv (.t 15)) [0, 1, 2, 6, 7]]
@[go_sem] def l153_4 : Nat → GOp
  | 0 => ⟨(some 16), .mv (.t 7), none⟩
  | 1 => ⟨(some 17), .mv (.t 1), none⟩
  | 2 => ⟨(some 18), .bin .gtr (.t 16) (.t 17), none⟩
  | 3 => ⟨(some 19), .mv (.t 18), none⟩
  | 4 => ⟨(some 20), .mv (.t 0), (some (19, true))⟩
  | 5 => ⟨(some 21), .mv (.t 7), (some (19, true))⟩
  | 6 => ⟨(some 22), .iaddr (.t 20) (.t 21) 1, (some (19, true))⟩
  | 7 => ⟨(some 23), .load (.t 22) 1 false, (some (19, true))⟩
  | 8 => ⟨(some 24), .mv (.t 0), (some (19, true))⟩
  | 9 => ⟨(some 25), .mv (.t 7), (some (19, true))⟩
  | 10 => ⟨(some 26), .bin .sub (.t 25) (cI 1), (some (19, true))⟩
  | 11 => ⟨(some 27), .iaddr (.t 24) (.t 26) 1, (some (19, true))⟩
  | 12 => ⟨(some 28), .load (.t 27) 1 false, (some (19, true))⟩
  | 13 => ⟨(some 29), .call (n_cmp_Less_int) [(.t 23), (.t 28)], (some (19, true))⟩
  | 14 => ⟨(some 30), .pick (.t 19) (.t 29) (.c (.bool false)), none⟩
  | _ => ⟨none, .mkmap, none⟩
@[go_sem] def s153_5 (_ : Unit) : IR := (sQ [(.kd (oF l153_4 15) [(0, []), (1, []), (2, []), (3, []), (4, []), (5, []), (6, []), (7, []), (8, []), (9, []), (10, []), (11, []), (12, []), (13, []), (14, [])] [0, 1, 2, 6, 7, 30]), (.cond (.t 30) .skip (.exit 2))])
@[go_sem] def l153_6 : Nat → GOp
  | 0 => ⟨(some 33), .mv (.t 0), none⟩
  | 1 => ⟨(some 34), .mv (.t 7), none⟩
  | 2 => ⟨(some 35), .mv (.t 0), none⟩
  | 3 => ⟨(some 36), .mv (.t 7), none⟩
  | 4 => ⟨(some 37), .bin .sub (.t 36) (cI 1), none⟩
  | 5 => ⟨(some 38), .mv (.t 0), none⟩
  | 6 => ⟨(some 39), .mv (.t 7), none⟩
  | 7 => ⟨(some 40), .bin .sub (.t 39) (cI 1), none⟩
  | 8 => ⟨(some 41), .iaddr (.t 38) (.t 40) 1, none⟩
  | 9 => ⟨(some 42), .load (.t 41) 1 false, none⟩
  | 10 => ⟨(some 43), .mv (.t 0), none⟩
  | 11 => ⟨(some 44), .mv (.t 7), none⟩
  | 12 => ⟨(some 45), .iaddr (.t 43) (.t 44) 1, none⟩
  | 13 => ⟨(some 46), .load (.t 45) 1 false, none⟩
  | 14 => ⟨(some 47), .iaddr (.t 33) (.t 34) 1, none⟩
  | 15 => ⟨none, .store (.t 47) 1 (.t 42), none⟩
  | 16 => ⟨(some 48), .iaddr (.t 35) (.t 37) 1, none⟩
  | 17 => ⟨none, .store (.t 48) 1 (.t 46), none⟩
  | _ => ⟨none, .mkmap, none⟩
@[go_sem] def s153_7 (_ : Unit) : IR := (.block 3 (.kd (oF l153_6 18) [(0, []), (1, []), (2, []), (3, []), (4, []), (5, []), (6, []), (7, []), (8, []), (9, []), (10, []), (11, []), (12, []), (13, []), (14, []), (15, []), (16, []), (17, [])] [0, 1, 2, 6, 7]))
@[go_sem] def l153_8 (_ : Unit) : KL := [kA 31 (.mv (.t 7)),
  kA 32 (.bin .sub (.t 31) (cI 1)),
  kB 7 (.mv (.t 32)) [0, 1, 2, 6, 7]]
@[go_sem] def s153_9 (_ : Unit) : IR := (sQ [(tH s153_5), (tH s153_7), (kT l153_8)])
@[go_sem] def s153_10 (_ : Unit) : IR := (.loop (tH s153_9))
@[go_sem] def s153_11 (_ : Unit) : IR := (.block 2 (tH s153_10))
@[go_sem] def s153_12 (_ : Unit) : IR := (sQ [(kT l153_3), (tH s153_11)])
@[go_sem] def s153_13 (_ : Unit) : IR := (.block 1 (tH s153_12))
@[go_sem] def l153_14 (_ : Unit) : KL := [kA 13 (.mv (.t 6)),
  kA 14 (.bin .add (.t 13) (cI 1)),
  kB 6 (.mv (.t 14)) [0, 1, 2, 6]]
@[go_sem] def s153_15 (_ : Unit) : IR := (sQ [(tH s153_2), (tH s153_13), (kT l153_14)])
@[go_sem] def s153_16 (_ : Unit) : IR := (.loop (tH s153_15))
@[go_sem] def s153_17 (_ : Unit) : IR := (.block 0 (tH s153_16))
@[go_sem] def s153_18 (_ : Unit) : IR := (sQ [(kT l153_0), (tH s153_17)])
@[go_sem] def l170_0 (_ : Unit) : KL := [kA 10 (.mv (.t 1)),
  kB 8 (.mv (.t 10)) [0, 2, 3, 8]]
@[go_sem] def l170_1 (_ : Unit) : KL := [kA 11 (.mv (.t 8)),
  kA 12 (.bin .mul (.c (.int .i64 2)) (.t 11)),
  kA 13 (.bin .add (.t 12) (cI 1)),
  kB 9 (.mv (.t 13)) [0, 2, 3, 8, 9]]
@[go_sem] def l170_2 (_ : Unit) : KL := [kA 14 (.mv (.t 9)),
  kA 15 (.mv (.t 2)),
  kB 16 (.bin .geq (.t 14) (.t 15)) [0, 2, 3, 8, 9, 16]]
@[go_sem] def s170_3 (_ : Unit) : IR := (sQ [(kT l170_2), (.cond (.t 16) (.exit 0) .skip)])
@[go_sem] def l170_4 : Nat → GOp
  | 0 => ⟨(some 17), .mv (.t 9), none⟩
  | 1 => ⟨(some 18), .bin .add (.t 17) (cI 1), none⟩
  | 2 => ⟨(some 19), .mv (.t 2), none⟩
  | 3 => ⟨(some 20), .bin .lss (.t 18) (.t 19), none⟩
  | 4 => ⟨(some 21), .mv (.t 20), none⟩
  | 5 => ⟨(some 22), .mv (.t 0), (some (21, true))⟩
  | 6 => ⟨(some 23), .mv (.t 3), (some (21, true))⟩
  | 7 => ⟨(some 24), .mv (.t 9), (some (21, true))⟩
  | 8 => ⟨(some 25), .bin .add (.t 23) (.t 24), (some (21, true))⟩
  | 9 => ⟨(some 26), .iaddr (.t 22) (.t 25) 1, (some (21, true))⟩
  | 10 => ⟨(some 27), .load (.t 26) 1 false, (some (21, true))⟩
  | 11 => ⟨(some 28), .mv (.t 0), (some (21, true))⟩
  | 12 => ⟨(some 29), .mv (.t 3), (some (21, true))⟩
  | 13 => ⟨(some 30), .mv (.t 9), (some (21, true))⟩
  | 14 => ⟨(some 31), .bin .add (.t 29) (.t 30), (some (21, true))⟩
  | 15 => ⟨(some 32), .bin .add (.t 31) (cI 1), (some (21, true))⟩
  | 16 => ⟨(some 33), .iaddr (.t 28) (.t 32) 1, (some (21, true))⟩
  | 17 => ⟨(some 34), .load (.t 33) 1 false, (some (21, true))⟩
  | 18 => ⟨(some 35), .call (n_cmp_Less_int) [(.t 27), (.t 34)], (some (21, true))⟩
  | 19 => ⟨(some 36), .pick (.t 21) (.t 35) (.c (.bool false)), none⟩
  | _ => ⟨none, .mkmap, none⟩
@[go_sem] def l170_5 (_ : Unit) : KL := [kA 37 (.mv (.t 9)),
  kA 38 (.bin .add (.t 37) (cI 1)),
  kB 9 (.mv (.t 38)) [0, 2, 3, 8, 9]]
@[go_sem] def s170_6 (_ : Unit) : IR := (sQ [(.kd (oF l170_4 20) [(0, []), (1, []), (2, []), (3, []), (4, []), (5, []), (6, []), (7, []), (8, []), (9, []), (10, []), (11, []), (12, []), (13, []), (14, []), (15, []), (16, []), (17, []), (18, []), (19, [])] [0, 2, 3, 8, 9, 36]), (.cond (.t 36) (kT l170_5) .skip)])
@[go_sem] def l170_7 : Nat → GOp
  | 0 => ⟨(some 39), .mv (.t 0), none⟩
  | 1 => ⟨(some 40), .mv (.t 3), none⟩
  | 2 => ⟨(some 41), .mv (.t 8), none⟩
  | 3 => ⟨(some 42), .bin .add (.t 40) (.t 41), none⟩
  | 4 => ⟨(some 43), .iaddr (.t 39) (.t 42) 1, none⟩
  | 5 => ⟨(some 44), .load (.t 43) 1 false, none⟩
  | 6 => ⟨(some 45), .mv (.t 0), none⟩
  | 7 => ⟨(some 46), .mv (.t 3), none⟩
  | 8 => ⟨(some 47), .mv (.t 9), none⟩
  | 9 => ⟨(some 48), .bin .add (.t 46) (.t 47), none⟩
  | 10 => ⟨(some 49), .iaddr (.t 45) (.t 48) 1, none⟩
  | 11 => ⟨(some 50), .load (.t 49) 1 false, none⟩
  | 12 => ⟨(some 51), .call (n_cmp_Less_int) [(.t 44), (.t 50)], none⟩
  | 13 => ⟨(some 52), .un .not (.t 51), none⟩
  | _ => ⟨none, .mkmap, none⟩
@[go_sem] def s170_8 (_ : Unit) : IR := (sQ [(.kd (oF l170_7 14) [(0, []), (1, []), (2, []), (3, []), (4, []), (5, []), (6, []), (7, []), (8, []), (9, []), (10, []), (11, []), (12, []), (13, [])] [0, 2, 3, 8, 9, 52]), (.cond (.t 52) .ret .skip)])
@[go_sem] def l170_9 : Nat → GOp
  | 0 => ⟨(some 53), .mv (.t 0), none⟩
  | 1 => ⟨(some 54), .mv (.t 3), none⟩
  | 2 => ⟨(some 55), .mv (.t 8), none⟩
  | 3 => ⟨(some 56), .bin .add (.t 54) (.t 55), none⟩
  | 4 => ⟨(some 57), .mv (.t 0), none⟩
  | 5 => ⟨(some 58), .mv (.t 3), none⟩
  | 6 => ⟨(some 59), .mv (.t 9), none⟩
  | 7 => ⟨(some 60), .bin .add (.t 58) (.t 59), none⟩
  | 8 => ⟨(some 61), .mv (.t 0), none⟩
  | 9 => ⟨(some 62), .mv (.t 3), none⟩
  | 10 => ⟨(some 63), .mv (.t 9), none⟩
  | 11 => ⟨(some 64), .bin .add (.t 62) (.t 63), none⟩
  | 12 => ⟨(some 65), .iaddr (.t 61) (.t 64) 1, none⟩
  | 13 => ⟨(some 66), .load (.t 65) 1 false, none⟩
  | 14 => ⟨(some 67), .mv (.t 0), none⟩
  | 15 => ⟨(some 68), .mv (.t 3), none⟩
  | 16 => ⟨(some 69), .mv (.t 8), none⟩
  | 17 => ⟨(some 70), .bin .add (.t 68) (.t 69), none⟩
  | 18 => ⟨(some 71), .iaddr (.t 67) (.t 70) 1, none⟩
  | 19 => ⟨(some 72), .load (.t 71) 1 false, none⟩
  | 20 => ⟨(some 73), .iaddr (.t 53) (.t 56) 1, none⟩
  | 21 => ⟨none, .store (.t 73) 1 (.t 66), none⟩
  | 22 => ⟨(some 74), .iaddr (.t 57) (.t 60) 1, none⟩
  | 23 => ⟨none, .store (.t 74) 1 (.t 72), none⟩
  | _ => ⟨none, .mkmap, none⟩
@[go_sem] def l170_10 (_ : Unit) : KL := [kA 75 (.mv (.t 9)),
  kB 8 (.mv (.t 75)) [0, 2, 3, 8]]
@[go_sem] def s170_11 (_ : Unit) : IR := (sQ [(kT l170_1), (tH s170_3), (tH s170_6), (tH s170_8), (.kd (oF l170_9 24) [(0, []), (1, []), (2, []), (3, []), (4, []), (5, []), (6, []), (7, []), (8, []), (9, []), (10, []), (11, []), (12, []), (13, []), (14, []), (15, []), (16, []), (17, []), (18, []), (19, []), (20, []), (21, []), (22, []), (23, [])] [0, 2, 3, 9]), (kT l170_10)])
@[go_sem] def s170_12 (_ : Unit) : IR := (.block 1 (tH s170_11))
@[go_sem] def s170_13 (_ : Unit) : IR := (.loop (tH s170_12))
@[go_sem] def s170_14 (_ : Unit) : IR := (.block 0 (tH s170_13))
@[go_sem] def s170_15 (_ : Unit) : IR := (sQ [(kT l170_0), (tH s170_14)])
@[go_sem] def l154_0 (_ : Unit) : KL := [kA 11 (.mv (.t 1)),
  kB 6 (.mv (.t 11)) [0, 1, 2, 6]]
@[go_sem] def l154_1 (_ : Unit) : KL := [kB 7 (.mv (cI 0)) [0, 1, 2, 6, 7]]
@[go_sem] def l154_2 (_ : Unit) : KL := [kA 12 (.mv (.t 2)),
  kA 13 (.mv (.t 1)),
  kA 14 (.bin .sub (.t 12) (.t 13)),
  kB 8 (.mv (.t 14)) [0, 6, 7, 8]]
@[go_sem] def l154_3 (_ : Unit) : KL := [kA 15 (.mv (.t 8)),
  kA 16 (.bin .sub (.t 15) (cI 1)),
  kA 17 (.bin .quo (.t 16) (.c (.int .i64 2))),
  kB 9 (.mv (.t 17)) [0, 6, 7, 8, 9]]
@[go_sem] def l154_4 (_ : Unit) : KL := [kA 18 (.mv (.t 9)),
  kB 19 (.bin .geq (.t 18) (cI 0)) [0, 6, 7, 8, 9, 19]]
@[go_sem] def s154_5 (_ : Unit) : IR := (sQ [(kT l154_4), (.cond (.t 19) .skip (.exit 0))])
@[go_sem] def l154_6 (_ : Unit) : KL := [kA 22 (.mv (.t 0)),
  kA 23 (.mv (.t 9)),
  kA 24 (.mv (.t 8)),
  kA 25 (.mv (.t 6)),
  kB 26 (.call (n_slices_siftDownOrdered_int) [(.t 22), (.t 23), (.t 24), (.t 25)]) [0, 6, 7, 8, 9]]
@[go_sem] def s154_7 (_ : Unit) : IR := (.block 1 (kT l154_6))
@[go_sem] def l154_8 (_ : Unit) : KL := [kA 20 (.mv (.t 9)),
  kA 21 (.bin .sub (.t 20) (cI 1)),
  kB 9 (.mv (.t 21)) [0, 6, 7, 8, 9]]
@[go_sem] def s154_9 (_ : Unit) : IR := (sQ [(tH s154_5), (tH s154_7), (kT l154_8)])
@[go_sem] def s154_10 (_ : Unit) : IR := (.loop (tH s154_9))
@[go_sem] def s154_11 (_ : Unit) : IR := (.block 0 (tH s154_10))
@[go_sem] def s154_12 (_ : Unit) : IR := (sQ [(kT l154_3), (tH s154_11)])
@[go_sem] def l154_13 (_ : Unit) : KL := [kA 27 (.mv (.t 8)),
  kA 28 (.bin .sub (.t 27) (cI 1)),
  kB 10 (.mv (.t 28)) [0, 6, 7, 10]]
@[go_sem] def l154_14 (_ : Unit) : KL := [kA 29 (.mv (.t 10)),
  kB 30 (.bin .geq (.t 29) (cI 0)) [0, 6, 7, 10, 30]]
@[go_sem] def s154_15 (_ : Unit) : IR := (sQ [(kT l154_14), (.cond (.t 30) .skip (.exit 2))])
@[go_sem] def l154_16 : Nat → GOp
  | 0 => ⟨(some 33), .mv (.t 0), none⟩
  | 1 => ⟨(some 34), .mv (.t 6), none⟩
  | 2 => ⟨(some 35), .mv (.t 0), none⟩
  | 3 => ⟨(some 36), .mv (.t 6), none⟩
  | 4 => ⟨(some 37), .mv (.t 10), none⟩
  | 5 => ⟨(some 38), .bin .add (.t 36) (.t 37), none⟩
  | 6 => ⟨(some 39), .mv (.t 0), none⟩
  | 7 => ⟨(some 40), .mv (.t 6), none⟩
  | 8 => ⟨(some 41), .mv (.t 10), none⟩
  | 9 => ⟨(some 42), .bin .add (.t 40) (.t 41), none⟩
  | 10 => ⟨(some 43), .iaddr (.t 39) (.t 42) 1, none⟩
  | 11 => ⟨(some 44), .load (.t 43) 1 false, none⟩
  | 12 => ⟨(some 45), .mv (.t 0), none⟩
  | 13 => ⟨(some 46), .mv (.t 6), none⟩
  | 14 => ⟨(some 47), .iaddr (.t 45) (.t 46) 1, none⟩
  | 15 => ⟨(some 48), .load (.t 47) 1 false, none⟩
  | 16 => ⟨(some 49), .iaddr (.t 33) (.t 34) 1, none⟩
  | 17 => ⟨none, .store (.t 49) 1 (.t 44), none⟩
  | 18 => ⟨(some 50), .iaddr (.t 35) (.t 38) 1, none⟩
  | 19 => ⟨none, .store (.t 50) 1 (.t 48), none⟩
  | _ => ⟨none, .mkmap, none⟩
@[go_sem] def l154_17 (_ : Unit) : KL := [kA 51 (.mv (.t 0)),
  kA 52 (.mv (.t 7)),
  kA 53 (.mv (.t 10)),
  kA 54 (.mv (.t 6)),
  kB 55 (.call (n_slices_siftDownOrdered_int) [(.t 51), (.t 52), (.t 53), (.t 54)]) [0, 6, 7, 10]]
@[go_sem] def s154_18 (_ : Unit) : IR := (sQ [(.kd (oF l154_16 20) [(0, []), (1, []), (2, []), (3, []), (4, []), (5, []), (6, []), (7, []), (8, []), (9, []), (10, []), (11, []), (12, []), (13, []), (14, []), (15, []), (16, []), (17, []), (18, []), (19, [])] [0, 6, 7, 10]), (kT l154_17)])
@[go_sem] def s154_19 (_ : Unit) : IR := (.block 3 (tH s154_18))
@[go_sem] def l154_20 (_ : Unit) : KL := [kA 31 (.mv (.t 10)),
  kA 32 (.bin .sub (.t 31) (cI 1)),
  kB 10 (.mv (.t 32)) [0, 6, 7, 10]]
@[go_sem] def s154_21 (_ : Unit) : IR := (sQ [(tH s154_15), (tH s154_19), (kT l154_20)])
@[go_sem] def s154_22 (_ : Unit) : IR := (.loop (tH s154_21))
@[go_sem] def s154_23 (_ : Unit) : IR := (.block 2 (tH s154_22))
@[go_sem] def s154_24 (_ : Unit) : IR := (sQ [(kT l154_0), (kT l154_1), (kT l154_2), (tH s154_12), (kT l154_13), (tH s154_23)])
@[go_sem] def l171_0 (_ : Unit) : KL := [kB 2 (.mv (.c (.int .u64 0))) [0]]
@[go_sem] def l171_1 (_ : Unit) : KL := [kA 3 (.mv (.t 0)),
  kA 4 (.cvi .u64 (.t 3)),
  kA 5 (.call (n_math_bits_Len) [(.t 4)]),
  kA 6 (.bin .shl (.c (.int .u64 1)) (.t 5)),
  kB 2 (.mv (.t 6)) [2]]
@[go_sem] def s171_2 (_ : Unit) : IR := (sQ [(kT l171_0), (kT l171_1), .ret])
@[go_sem] def l172_0 (_ : Unit) : KL := [kB 2 (.mv (.c (.int .u64 0))) [0]]
@[go_sem] def l172_1 : Nat → GOp
  | 0 => ⟨(some 3), .mv (.t 0), none⟩
  | 1 => ⟨(some 4), .nilck (.t 3), none⟩
  | 2 => ⟨(some 5), .load (.t 4) 1 false, none⟩
  | 3 => ⟨(some 6), .mv (.t 0), none⟩
  | 4 => ⟨(some 7), .nilck (.t 6), none⟩
  | 5 => ⟨(some 8), .load (.t 7) 1 false, none⟩
  | 6 => ⟨(some 9), .bin .shl (.t 8) (.c (.int .u64 13)), none⟩
  | 7 => ⟨(some 10), .bin .xor (.t 5) (.t 9), none⟩
  | 8 => ⟨(some 11), .nilck (.t 3), none⟩
  | 9 => ⟨none, .store (.t 11) 1 (.t 10), none⟩
  | _ => ⟨none, .mkmap, none⟩
@[go_sem] def l172_2 : Nat → GOp
  | 0 => ⟨(some 12), .mv (.t 0), none⟩
  | 1 => ⟨(some 13), .nilck (.t 12), none⟩
  | 2 => ⟨(some 14), .load (.t 13) 1 false, none⟩
  | 3 => ⟨(some 15), .mv (.t 0), none⟩
  | 4 => ⟨(some 16), .nilck (.t 15), none⟩
  | 5 => ⟨(some 17), .load (.t 16) 1 false, none⟩
  | 6 => ⟨(some 18), .bin .shr (.t 17) (.c (.int .u64 7)), none⟩
  | 7 => ⟨(some 19), .bin .xor (.t 14) (.t 18), none⟩
  | 8 => ⟨(some 20), .nilck (.t 12), none⟩
  | 9 => ⟨none, .store (.t 20) 1 (.t 19), none⟩
  | _ => ⟨none, .mkmap, none⟩
@[go_sem] def l172_3 : Nat → GOp
  | 0 => ⟨(some 21), .mv (.t 0), none⟩
  | 1 => ⟨(some 22), .nilck (.t 21), none⟩
  | 2 => ⟨(some 23), .load (.t 22) 1 false, none⟩
  | 3 => ⟨(some 24), .mv (.t 0), none⟩
  | 4 => ⟨(some 25), .nilck (.t 24), none⟩
  | 5 => ⟨(some 26), .load (.t 25) 1 false, none⟩
  | 6 => ⟨(some 27), .bin .shl (.t 26) (.c (.int .u64 17)), none⟩
  | 7 => ⟨(some 28), .bin .xor (.t 23) (.t 27), none⟩
  | 8 => ⟨(some 29), .nilck (.t 21), none⟩
  | 9 => ⟨none, .store (.t 29) 1 (.t 28), none⟩
  | _ => ⟨none, .mkmap, none⟩
@[go_sem] def l172_4 (_ : Unit) : KL := [kA 30 (.mv (.t 0)),
  kA 31 (.nilck (.t 30)),
  kA 32 (.load (.t 31) 1 false),
  kB 2 (.mv (.t 32)) [2]]
@[go_sem] def s172_5 (_ : Unit) : IR := (sQ [(kT l172_0), (.kd (oF l172_1 10) [(0, []), (1, []), (2, []), (3, []), (4, []), (5, []), (6, []), (7, []), (8, []), (9, [])] [0]), (.kd (oF l172_2 10) [(0, []), (1, []), (2, []), (3, []), (4, []), (5, []), (6, []), (7, []), (8, []), (9, [])] [0]), (.kd (oF l172_3 10) [(0, []), (1, []), (2, []), (3, []), (4, []), (5, []), (6, []), (7, []), (8, []), (9, [])] [0]), (kT l172_4), .ret])
@[go_sem] def l155_0 (_ : Unit) : KL := [kA 11 (.mv (.t 2)),
  kA 12 (.mv (.t 1)),
  kA 13 (.bin .sub (.t 11) (.t 12)),
  kB 6 (.mv (.t 13)) [0, 1, 6]]
@[go_sem] def l155_1 (_ : Unit) : KL := [kA 14 (.mv (.t 6)),
  kB 15 (.bin .geq (.t 14) (.c (.int .i64 8))) [0, 1, 6, 15]]
@[go_sem] def l155_2 (_ : Unit) : KL := [kA 16 (.mv (.t 6)),
  kA 17 (.cvi .u64 (.t 16)),
  kA 7 (.alloc [(.int .u64 0)]),
  (⟨none, .store (.t 7) 1 (.t 17), none⟩, (some [0, 1, 6, 7]))]
@[go_sem] def l155_3 (_ : Unit) : KL := [kA 18 (.mv (.t 6)),
  kA 19 (.call (n_slices_nextPowerOfTwo) [(.t 18)]),
  kB 8 (.mv (.t 19)) [0, 1, 6, 7, 8]]
@[go_sem] def l155_4 (_ : Unit) : KL := [kA 20 (.mv (.t 1)),
  kA 21 (.mv (.t 6)),
  kA 22 (.bin .quo (.t 21) (.c (.int .i64 4))),
  kA 23 (.bin .mul (.t 22) (.c (.int .i64 2))),
  kB 24 (.bin .add (.t 20) (.t 23)) [0, 1, 6, 7, 8, 24],
  kA 25 (.bin .sub (.t 24) (cI 1)),
  kB 9 (.mv (.t 25)) [0, 1, 6, 7, 8, 9]]
@[go_sem] def l155_5 (_ : Unit) : KL := [kA 26 (.mv (.t 9)),
  kA 27 (.mv (.t 1)),
  kA 28 (.mv (.t 6)),
  kA 29 (.bin .quo (.t 28) (.c (.int .i64 4))),
  kB 30 (.bin .mul (.t 29) (.c (.int .i64 2))) [0, 1, 6, 7, 8, 9, 26, 27, 30],
  kA 31 (.bin .add (.t 27) (.t 30)),
  kA 32 (.bin .add (.t 31) (cI 1)),
  kB 33 (.bin .leq (.t 26) (.t 32)) [0, 1, 6, 7, 8, 9, 33]]
@[go_sem] def s155_6 (_ : Unit) : IR := (sQ [(kT l155_5), (.cond (.t 33) .skip (.exit 0))])
@[go_sem] def l155_7 (_ : Unit) : KL := [kA 36 (.call (n_slices_xorshift_Next) [(.t 7)]),
  kA 37 (.mv (.t 8)),
  kA 38 (.bin .sub (.t 37) (.c (.int .u64 1))),
  kA 39 (.bin .and (.t 36) (.t 38)),
  kB 40 (.cvi .i64 (.t 39)) [0, 1, 6, 7, 8, 9, 40],
  kB 10 (.mv (.t 40)) [0, 1, 6, 7, 8, 9, 10]]
@[go_sem] def l155_8 (_ : Unit) : KL := [kA 41 (.mv (.t 10)),
  kA 42 (.mv (.t 6)),
  kB 43 (.bin .geq (.t 41) (.t 42)) [0, 1, 6, 7, 8, 9, 10, 43]]
@[go_sem] def l155_9 (_ : Unit) : KL := [kA 44 (.mv (.t 10)),
  kA 45 (.mv (.t 6)),
  kA 46 (.bin .sub (.t 44) (.t 45)),
  kB 10 (.mv (.t 46)) [0, 1, 6, 7, 8, 9, 10]]
@[go_sem] def s155_10 (_ : Unit) : IR := (sQ [(kT l155_8), (.cond (.t 43) (kT l155_9) .skip)])
@[go_sem] def l155_11 : Nat → GOp
  | 0 => ⟨(some 47), .mv (.t 0), none⟩
  | 1 => ⟨(some 48), .mv (.t 9), none⟩
  | 2 => ⟨(some 49), .mv (.t 0), none⟩
  | 3 => ⟨(some 50), .mv (.t 1), none⟩
  | 4 => ⟨(some 51), .mv (.t 10), none⟩
  | 5 => ⟨(some 52), .bin .add (.t 50) (.t 51), none⟩
  | 6 => ⟨(some 53), .mv (.t 0), none⟩
  | 7 => ⟨(some 54), .mv (.t 1), none⟩
  | 8 => ⟨(some 55), .mv (.t 10), none⟩
  | 9 => ⟨(some 56), .bin .add (.t 54) (.t 55), none⟩
  | 10 => ⟨(some 57), .iaddr (.t 53) (.t 56) 1, none⟩
  | 11 => ⟨(some 58), .load (.t 57) 1 false, none⟩
  | 12 => ⟨(some 59), .mv (.t 0), none⟩
  | 13 => ⟨(some 60), .mv (.t 9), none⟩
  | 14 => ⟨(some 61), .iaddr (.t 59) (.t 60) 1, none⟩
  | 15 => ⟨(some 62), .load (.t 61) 1 false, none⟩
  | 16 => ⟨(some 63), .iaddr (.t 47) (.t 48) 1, none⟩
  | 17 => ⟨none, .store (.t 63) 1 (.t 58), none⟩
  | 18 => ⟨(some 64), .iaddr (.t 49) (.t 52) 1, none⟩
  | 19 => ⟨none, .store (.t 64) 1 (.t 62), none⟩
  | _ => ⟨none, .mkmap, none⟩
@[go_sem] def s155_12 (_ : Unit) : IR := (sQ [(kT l155_7), (tH s155_10), (.kd (oF l155_11 20) [(0, []), (1, []), (2, []), (3, []), (4, []), (5, []), (6, []), (7, []), (8, []), (9, []), (10, []), (11, []), (12, []), (13, []), (14, []), (15, []), (16, []), (17, []), (18, []), (19, [])] [0, 1, 6, 7, 8, 9])])
@[go_sem] def s155_13 (_ : Unit) : IR := (.block 1 (tH s155_12))
@[go_sem] def l155_14 (_ : Unit) : KL := [kA 34 (.mv (.t 9)),
  kA 35 (.bin .add (.t 34) (cI 1)),
  kB 9 (.mv (.t 35)) [0, 1, 6, 7, 8, 9]]
@[go_sem] def s155_15 (_ : Unit) : IR := (sQ [(tH s155_6), (tH s155_13), (kT l155_14)])
@[go_sem] def s155_16 (_ : Unit) : IR := (.loop (tH s155_15))
@[go_sem] def s155_17 (_ : Unit) : IR := (.block 0 (tH s155_16))
@[go_sem] def s155_18 (_ : Unit) : IR := (sQ [(kT l155_2), (kT l155_3), (kT l155_4), (tH s155_17)])
@[go_sem] def s155_19 (_ : Unit) : IR := (sQ [(kT l155_0), (kT l155_1), (.cond (.t 15) (tH s155_18) .skip)])
@[go_sem] def l178_0 (_ : Unit) : KL := [kA 8 (.mv (cI 0)),
  kB 9 (.mv (cI 0)) [0, 1, 2, 3]]
@[go_sem] def l178_1 : Nat → GOp
  | 0 => ⟨(some 10), .mv (.t 0), none⟩
  | 1 => ⟨(some 11), .mv (.t 2), none⟩
  | 2 => ⟨(some 12), .iaddr (.t 10) (.t 11) 1, none⟩
  | 3 => ⟨(some 13), .load (.t 12) 1 false, none⟩
  | 4 => ⟨(some 14), .mv (.t 0), none⟩
  | 5 => ⟨(some 15), .mv (.t 1), none⟩
  | 6 => ⟨(some 16), .iaddr (.t 14) (.t 15) 1, none⟩
  | 7 => ⟨(some 17), .load (.t 16) 1 false, none⟩
  | 8 => ⟨(some 18), .call (n_cmp_Less_int) [(.t 13), (.t 17)], none⟩
  | _ => ⟨none, .mkmap, none⟩
@[go_sem] def l178_2 (_ : Unit) : KL := [kA 19 (.mv (.t 3)),
  kA 20 (.nilck (.t 19)),
  kA 21 (.load (.t 20) 1 false),
  kA 22 (.bin .add (.t 21) (cI 1)),
  kB 23 (.nilck (.t 19)) [1, 2, 22, 23],
  (⟨none, .store (.t 23) 1 (.t 22), none⟩, (some [1, 2]))]
@[go_sem] def l178_3 (_ : Unit) : KL := [kA 24 (.mv (.t 2)),
  kA 25 (.mv (.t 1)),
  kA 8 (.mv (.t 24)),
  kB 9 (.mv (.t 25)) [8, 9]]
@[go_sem] def s178_4 (_ : Unit) : IR := (sQ [(kT l178_2), (kT l178_3), .ret])
@[go_sem] def s178_5 (_ : Unit) : IR := (sQ [(.kd (oF l178_1 9) [(0, []), (1, []), (2, []), (3, []), (4, []), (5, []), (6, []), (7, []), (8, [])] [1, 2, 3, 18]), (.cond (.t 18) (tH s178_4) .skip)])
@[go_sem] def l178_6 (_ : Unit) : KL := [kA 26 (.mv (.t 1)),
  kA 27 (.mv (.t 2)),
  kA 8 (.mv (.t 26)),
  kB 9 (.mv (.t 27)) [8, 9]]
@[go_sem] def s178_7 (_ : Unit) : IR := (sQ [(kT l178_0), (tH s178_5), (kT l178_6), .ret])
@[go_sem] def l174_0 (_ : Unit) : KL := [kB 10 (.mv (cI 0)) [0, 1, 2, 3, 4]]
@[go_sem] def l174_1 (_ : Unit) : KL := [kA 12 (.mv (.t 0)),
  kA 13 (.mv (.t 1)),
  kA 14 (.mv (.t 2)),
  kA 15 (.mv (.t 4)),
  kB 16 (.call (n_slices_order2Ordered_int) [(.t 12), (.t 13), (.t 14), (.t 15)]) [0, 3, 4, 16],
  kA 11 (.mv (.t 16)),
  kA 17 (.ext (.t 11) 0),
  kA 18 (.ext (.t 11) 1),
  kA 1 (.mv (.t 17)),
  kB 2 (.mv (.t 18)) [0, 1, 2, 3, 4]]
@[go_sem] def l174_2 (_ : Unit) : KL := [kA 20 (.mv (.t 0)),
  kA 21 (.mv (.t 2)),
  kA 22 (.mv (.t 3)),
  kA 23 (.mv (.t 4)),
  kB 24 (.call (n_slices_order2Ordered_int) [(.t 20), (.t 21), (.t 22), (.t 23)]) [0, 1, 4, 24],
  kA 19 (.mv (.t 24)),
  kA 25 (.ext (.t 19) 0),
  kA 26 (.ext (.t 19) 1),
  kA 2 (.mv (.t 25)),
  kB 3 (.mv (.t 26)) [0, 1, 2, 4]]
@[go_sem] def l174_3 (_ : Unit) : KL := [kA 28 (.mv (.t 0)),
  kA 29 (.mv (.t 1)),
  kA 30 (.mv (.t 2)),
  kA 31 (.mv (.t 4)),
  kB 32 (.call (n_slices_order2Ordered_int) [(.t 28), (.t 29), (.t 30), (.t 31)]) [32],
  kA 27 (.mv (.t 32)),
  kA 33 (.ext (.t 27) 0),
  kA 34 (.ext (.t 27) 1),
  kA 1 (.mv (.t 33)),
  kB 2 (.mv (.t 34)) [2]]
@[go_sem] def l174_4 (_ : Unit) : KL := [kA 35 (.mv (.t 2)),
  kB 10 (.mv (.t 35)) [10]]
@[go_sem] def s174_5 (_ : Unit) : IR := (sQ [(kT l174_0), (kT l174_1), (kT l174_2), (kT l174_3), (kT l174_4), .ret])
@[go_sem] def l173_0 (_ : Unit) : KL := [kB 6 (.mv (cI 0)) [0, 1, 2]]
@[go_sem] def l173_1 (_ : Unit) : KL := [kA 7 (.mv (.t 0)),
  kA 8 (.mv (.t 1)),
  kA 9 (.bin .sub (.t 8) (cI 1)),
  kA 10 (.mv (.t 1)),
  kB 11 (.mv (.t 1)) [2, 7, 9, 10, 11],
  kA 12 (.bin .add (.t 11) (cI 1)),
  kA 13 (.mv (.t 2)),
  kA 14 (.call (n_slices_medianOrdered_int) [(.t 7), (.t 9), (.t 10), (.t 12), (.t 13)]),
  kB 6 (.mv (.t 14)) [6]]
@[go_sem] def s173_2 (_ : Unit) : IR := (sQ [(kT l173_0), (kT l173_1), .ret])
@[go_sem] def l156_0 (_ : Unit) : KL := [kA 6 (.mv (cI 0)),
  kB 7 (.mv (cI 0)) [0, 1, 2]]
@[go_sem] def l156_1 (_ : Unit) : KL := [kA 13 (.mv (.t 2)),
  kA 14 (.mv (.t 1)),
  kA 15 (.bin .sub (.t 13) (.t 14)),
  kB 8 (.mv (.t 15)) [0, 1, 8]]
@[go_sem] def l156_2 (_ : Unit) : KL := [kB 9 (.alloc [(.int .i64 0)]) [0, 1, 8, 9]]
@[go_sem] def l156_3 (_ : Unit) : KL := [kA 16 (.mv (.t 1)),
  kA 17 (.mv (.t 8)),
  kA 18 (.bin .quo (.t 17) (.c (.int .i64 4))),
  kA 19 (.bin .mul (.t 18) (cI 1)),
  kB 20 (.bin .add (.t 16) (.t 19)) [0, 1, 8, 9, 20],
  kB 10 (.mv (.t 20)) [0, 1, 8, 9, 10]]
@[go_sem] def l156_4 (_ : Unit) : KL := [kA 21 (.mv (.t 1)),
  kA 22 (.mv (.t 8)),
  kA 23 (.bin .quo (.t 22) (.c (.int .i64 4))),
  kA 24 (.bin .mul (.t 23) (.c (.int .i64 2))),
  kB 25 (.bin .add (.t 21) (.t 24)) [0, 1, 8, 9, 10, 25],
  kB 11 (.mv (.t 25)) [0, 1, 8, 9, 10, 11]]
@[go_sem] def l156_5 (_ : Unit) : KL := [kA 26 (.mv (.t 1)),
  kA 27 (.mv (.t 8)),
  kA 28 (.bin .quo (.t 27) (.c (.int .i64 4))),
  kA 29 (.bin .mul (.t 28) (.c (.int .i64 3))),
  kB 30 (.bin .add (.t 26) (.t 29)) [0, 8, 9, 10, 11, 30],
  kB 12 (.mv (.t 30)) [0, 8, 9, 10, 11, 12]]
@[go_sem] def l156_6 (_ : Unit) : KL := [kA 31 (.mv (.t 8)),
  kB 32 (.bin .geq (.t 31) (.c (.int .i64 8))) [0, 8, 9, 10, 11, 12, 32]]
@[go_sem] def l156_7 (_ : Unit) : KL := [kA 33 (.mv (.t 8)),
  kB 34 (.bin .geq (.t 33) (.c (.int .i64 50))) [0, 9, 10, 11, 12, 34]]
@[go_sem] def l156_8 (_ : Unit) : KL := [kA 35 (.mv (.t 0)),
  kA 36 (.mv (.t 10)),
  kA 37 (.call (n_slices_medianAdjacentOrdered_int) [(.t 35), (.t 36), (.t 9)]),
  kB 10 (.mv (.t 37)) [0, 9, 10, 11, 12]]
@[go_sem] def l156_9 (_ : Unit) : KL := [kA 38 (.mv (.t 0)),
  kA 39 (.mv (.t 11)),
  kA 40 (.call (n_slices_medianAdjacentOrdered_int) [(.t 38), (.t 39), (.t 9)]),
  kB 11 (.mv (.t 40)) [0, 9, 10, 11, 12]]
@[go_sem] def l156_10 (_ : Unit) : KL := [kA 41 (.mv (.t 0)),
  kA 42 (.mv (.t 12)),
  kA 43 (.call (n_slices_medianAdjacentOrdered_int) [(.t 41), (.t 42), (.t 9)]),
  kB 12 (.mv (.t 43)) [0, 9, 10, 11, 12]]
@[go_sem] def s156_11 (_ : Unit) : IR := (sQ [(kT l156_8), (kT l156_9), (kT l156_10)])
@[go_sem] def s156_12 (_ : Unit) : IR := (sQ [(kT l156_7), (.cond (.t 34) (tH s156_11) .skip)])
@[go_sem] def l156_13 (_ : Unit) : KL := [kA 44 (.mv (.t 0)),
  kA 45 (.mv (.t 10)),
  kA 46 (.mv (.t 11)),
  kA 47 (.mv (.t 12)),
  kB 48 (.call (n_slices_medianOrdered_int) [(.t 44), (.t 45), (.t 46), (.t 47), (.t 9)]) [9, 48],
  kB 11 (.mv (.t 48)) [9, 11]]
@[go_sem] def s156_14 (_ : Unit) : IR := (sQ [(tH s156_12), (kT l156_13)])
@[go_sem] def s156_15 (_ : Unit) : IR := (sQ [(kT l156_6), (.cond (.t 32) (tH s156_14) .skip)])
@[go_sem] def l156_16 (_ : Unit) : KL := [kB 49 (.load (.t 9) 1 false) [11, 49]]
@[go_sem] def l156_17 (_ : Unit) : KL := [kA 52 (.bin .eql (.t 49) (cI 0)),
  kB 51 (.mv (.t 52)) [11, 49, 51]]
@[go_sem] def l156_18 (_ : Unit) : KL := [kA 53 (.mv (.t 11)),
  kA 6 (.mv (.t 53)),
  kB 7 (.mv (cI 1)) [6, 7]]
@[go_sem] def s156_19 (_ : Unit) : IR := (sQ [(kT l156_18), .ret])
@[go_sem] def l156_20 (_ : Unit) : KL := [kA 55 (.bin .eql (.t 49) (.c (.int .i64 12))),
  kB 54 (.mv (.t 55)) [11, 54]]
@[go_sem] def l156_21 (_ : Unit) : KL := [kA 56 (.mv (.t 11)),
  kA 6 (.mv (.t 56)),
  kB 7 (.mv (.c (.int .i64 2))) [6, 7]]
@[go_sem] def s156_22 (_ : Unit) : IR := (sQ [(kT l156_21), .ret])
@[go_sem] def l156_23 (_ : Unit) : KL := [kA 50 (.mv (.t 11)),
  kA 6 (.mv (.t 50)),
  kB 7 (.mv (cI 0)) [6, 7]]
@[go_sem] def s156_24 (_ : Unit) : IR := (sQ [(kT l156_23), .ret])
@[go_sem] def s156_25 (_ : Unit) : IR := (sQ [(kT l156_20), (.cond (.t 54) (tH s156_22) (tH s156_24))])
@[go_sem] def s156_26 (_ : Unit) : IR := (sQ [(kT l156_17), (.cond (.t 51) (tH s156_19) (tH s156_25))])
@[go_sem] def s156_27 (_ : Unit) : IR := (.block 0 (tH s156_26))
@[go_sem] def s156_28 (_ : Unit) : IR := (sQ [(kT l156_0), (kT l156_1), (kT l156_2), (kT l156_3), (kT l156_4), (kT l156_5), (tH s156_15), (kT l156_16), (tH s156_27)])
@[go_sem] def l157_0 (_ : Unit) : KL := [kA 8 (.mv (.t 1)),
  kB 6 (.mv (.t 8)) [0, 2, 6]]
@[go_sem] def l157_1 (_ : Unit) : KL := [kA 9 (.mv (.t 2)),
  kA 10 (.bin .sub (.t 9) (cI 1)),
  kB 7 (.mv (.t 10)) [0, 6, 7]]
@[go_sem] def l157_2 (_ : Unit) : KL := [kA 11 (.mv (.t 6)),
  kA 12 (.mv (.t 7)),
  kB 13 (.bin .lss (.t 11) (.t 12)) [0, 6, 7, 13]]
@[go_sem] def s157_3 (_ : Unit) : IR := (sQ [(kT l157_2), (.cond (.t 13) .skip (.exit 0))])
@[go_sem] def l157_4 : Nat → GOp
  | 0 => ⟨(some 14), .mv (.t 0), none⟩
  | 1 => ⟨(some 15), .mv (.t 6), none⟩
  | 2 => ⟨(some 16), .mv (.t 0), none⟩
  | 3 => ⟨(some 17), .mv (.t 7), none⟩
  | 4 => ⟨(some 18), .mv (.t 0), none⟩
  | 5 => ⟨(some 19), .mv (.t 7), none⟩
  | 6 => ⟨(some 20), .iaddr (.t 18) (.t 19) 1, none⟩
  | 7 => ⟨(some 21), .load (.t 20) 1 false, none⟩
  | 8 => ⟨(some 22), .mv (.t 0), none⟩
  | 9 => ⟨(some 23), .mv (.t 6), none⟩
  | 10 => ⟨(some 24), .iaddr (.t 22) (.t 23) 1, none⟩
  | 11 => ⟨(some 25), .load (.t 24) 1 false, none⟩
  | 12 => ⟨(some 26), .iaddr (.t 14) (.t 15) 1, none⟩
  | 13 => ⟨none, .store (.t 26) 1 (.t 21), none⟩
  | 14 => ⟨(some 27), .iaddr (.t 16) (.t 17) 1, none⟩
  | 15 => ⟨none, .store (.t 27) 1 (.t 25), none⟩
  | _ => ⟨none, .mkmap, none⟩
@[go_sem] def l157_5 (_ : Unit) : KL := [kA 28 (.mv (.t 6)),
  kA 29 (.bin .add (.t 28) (cI 1)),
  kB 6 (.mv (.t 29)) [0, 6, 7]]
@[go_sem] def l157_6 (_ : Unit) : KL := [kA 30 (.mv (.t 7)),
  kA 31 (.bin .sub (.t 30) (cI 1)),
  kB 7 (.mv (.t 31)) [0, 6, 7]]
@[go_sem] def s157_7 (_ : Unit) : IR := (sQ [(.kd (oF l157_4 16) [(0, []), (1, []), (2, []), (3, []), (4, []), (5, []), (6, []), (7, []), (8, []), (9, []), (10, []), (11, []), (12, []), (13, []), (14, []), (15, [])] [0, 6, 7]), (kT l157_5), (kT l157_6)])
@[go_sem] def s157_8 (_ : Unit) : IR := (.block 1 (tH s157_7))
@[go_sem] def s157_9 (_ : Unit) : IR := (sQ [(tH s157_3), (tH s157_8)])
@[go_sem] def s157_10 (_ : Unit) : IR := (.loop (tH s157_9))
@[go_sem] def s157_11 (_ : Unit) : IR := (.block 0 (tH s157_10))
@[go_sem] def s157_12 (_ : Unit) : IR := (sQ [(kT l157_0), (kT l157_1), (tH s157_11)])
@[go_sem] def l158_0 (_ : Unit) : KL := [kB 6 (.mv (.c (.bool false))) [0, 1, 2]]
@[go_sem] def l158_1 (_ : Unit) : KL := [kA 11 (.mv (.t 1)),
  kA 12 (.bin .add (.t 11) (cI 1)),
  kB 7 (.mv (.t 12)) [0, 1, 2, 7]]
@[go_sem] def l158_2 (_ : Unit) : KL := [kB 8 (.mv (cI 0)) [0, 1, 2, 7, 8]]
@[go_sem] def l158_3 (_ : Unit) : KL := [kA 13 (.mv (.t 8)),
  kB 14 (.bin .lss (.t 13) (.c (.int .i64 5))) [0, 1, 2, 7, 8, 14]]
@[go_sem] def s158_4 (_ : Unit) : IR := (sQ [(kT l158_3), (.cond (.t 14) .skip (.exit 0))])
@[go_sem] def l158_5 : Nat → GOp
  | 0 => ⟨(some 17), .mv (.t 7), none⟩
  | 1 => ⟨(some 18), .mv (.t 2), none⟩
  | 2 => ⟨(some 19), .bin .lss (.t 17) (.t 18), none⟩
  | 3 => ⟨(some 20), .mv (.t 19), none⟩
  | 4 => ⟨(some 21), .mv (.t 0), (some (20, true))⟩
  | 5 => ⟨(some 22), .mv (.t 7), (some (20, true))⟩
  | 6 => ⟨(some 23), .iaddr (.t 21) (.t 22) 1, (some (20, true))⟩
  | 7 => ⟨(some 24), .load (.t 23) 1 false, (some (20, true))⟩
  | 8 => ⟨(some 25), .mv (.t 0), (some (20, true))⟩
  | 9 => ⟨(some 26), .mv (.t 7), (some (20, true))⟩
  | 10 => ⟨(some 27), .bin .sub (.t 26) (cI 1), (some (20, true))⟩
  | 11 => ⟨(some 28), .iaddr (.t 25) (.t 27) 1, (some (20, true))⟩
  | 12 => ⟨(some 29), .load (.t 28) 1 false, (some (20, true))⟩
  | 13 => ⟨(some 30), .call (n_cmp_Less_int) [(.t 24), (.t 29)], (some (20, true))⟩
  | 14 => ⟨(some 31), .un .not (.t 30), (some (20, true))⟩
  | 15 => ⟨(some 32), .pick (.t 20) (.t 31) (.c (.bool false)), none⟩
  | _ => ⟨none, .mkmap, none⟩
@[go_sem] def s158_6 (_ : Unit) : IR := (sQ [(.kd (oF l158_5 16) [(0, []), (1, []), (2, []), (3, []), (4, []), (5, []), (6, []), (7, []), (8, []), (9, []), (10, []), (11, []), (12, []), (13, []), (14, []), (15, [])] [0, 1, 2, 7, 8, 32]), (.cond (.t 32) .skip (.exit 2))])
@[go_sem] def l158_7 (_ : Unit) : KL := [kA 33 (.mv (.t 7)),
  kA 34 (.bin .add (.t 33) (cI 1)),
  kB 7 (.mv (.t 34)) [0, 1, 2, 7, 8]]
@[go_sem] def s158_8 (_ : Unit) : IR := (.block 3 (kT l158_7))
@[go_sem] def s158_9 (_ : Unit) : IR := (sQ [(tH s158_6), (tH s158_8)])
@[go_sem] def s158_10 (_ : Unit) : IR := (.loop (tH s158_9))
@[go_sem] def s158_11 (_ : Unit) : IR := (.block 2 (tH s158_10))
@[go_sem] def l158_12 (_ : Unit) : KL := [kA 35 (.mv (.t 7)),
  kA 36 (.mv (.t 2)),
  kB 37 (.bin .eql (.t 35) (.t 36)) [0, 1, 2, 7, 8, 37]]
@[go_sem] def l158_13 (_ : Unit) : KL := [kB 6 (.mv (.c (.bool true))) [6]]
@[go_sem] def s158_14 (_ : Unit) : IR := (sQ [(kT l158_13), .ret])
@[go_sem] def s158_15 (_ : Unit) : IR := (sQ [(kT l158_12), (.cond (.t 37) (tH s158_14) .skip)])
@[go_sem] def l158_16 (_ : Unit) : KL := [kA 38 (.mv (.t 2)),
  kA 39 (.mv (.t 1)),
  kA 40 (.bin .sub (.t 38) (.t 39)),
  kB 41 (.bin .lss (.t 40) (.c (.int .i64 50))) [0, 1, 2, 7, 8, 41]]
@[go_sem] def l158_17 (_ : Unit) : KL := [kB 6 (.mv (.c (.bool false))) [6]]
@[go_sem] def s158_18 (_ : Unit) : IR := (sQ [(kT l158_17), .ret])
@[go_sem] def s158_19 (_ : Unit) : IR := (sQ [(kT l158_16), (.cond (.t 41) (tH s158_18) .skip)])
@[go_sem] def l158_20 : Nat → GOp
  | 0 => ⟨(some 42), .mv (.t 0), none⟩
  | 1 => ⟨(some 43), .mv (.t 7), none⟩
  | 2 => ⟨(some 44), .mv (.t 0), none⟩
  | 3 => ⟨(some 45), .mv (.t 7), none⟩
  | 4 => ⟨(some 46), .bin .sub (.t 45) (cI 1), none⟩
  | 5 => ⟨(some 47), .mv (.t 0), none⟩
  | 6 => ⟨(some 48), .mv (.t 7), none⟩
  | 7 => ⟨(some 49), .bin .sub (.t 48) (cI 1), none⟩
  | 8 => ⟨(some 50), .iaddr (.t 47) (.t 49) 1, none⟩
  | 9 => ⟨(some 51), .load (.t 50) 1 false, none⟩
  | 10 => ⟨(some 52), .mv (.t 0), none⟩
  | 11 => ⟨(some 53), .mv (.t 7), none⟩
  | 12 => ⟨(some 54), .iaddr (.t 52) (.t 53) 1, none⟩
  | 13 => ⟨(some 55), .load (.t 54) 1 false, none⟩
  | 14 => ⟨(some 56), .iaddr (.t 42) (.t 43) 1, none⟩
  | 15 => ⟨none, .store (.t 56) 1 (.t 51), none⟩
  | 16 => ⟨(some 57), .iaddr (.t 44) (.t 46) 1, none⟩
  | 17 => ⟨none, .store (.t 57) 1 (.t 55), none⟩
  | _ => ⟨none, .mkmap, none⟩
@[go_sem] def l158_21 (_ : Unit) : KL := [kA 58 (.mv (.t 7)),
  kA 59 (.mv (.t 1)),
  kA 60 (.bin .sub (.t 58) (.t 59)),
  kB 61 (.bin .geq (.t 60) (.c (.int .i64 2))) [0, 1, 2, 7, 8, 61]]
@[go_sem] def l158_22 (_ : Unit) : KL := [kA 62 (.mv (.t 7)),
  kA 63 (.bin .sub (.t 62) (cI 1)),
  kB 9 (.mv (.t 63)) [0, 1, 2, 7, 8, 9]]
@[go_sem] def l158_23 (_ : Unit) : KL := [kA 64 (.mv (.t 9)),
  kB 65 (.bin .geq (.t 64) (cI 1)) [0, 1, 2, 7, 8, 9, 65]]
@[go_sem] def s158_24 (_ : Unit) : IR := (sQ [(kT l158_23), (.cond (.t 65) .skip (.exit 4))])
@[go_sem] def l158_25 : Nat → GOp
  | 0 => ⟨(some 68), .mv (.t 0), none⟩
  | 1 => ⟨(some 69), .mv (.t 9), none⟩
  | 2 => ⟨(some 70), .iaddr (.t 68) (.t 69) 1, none⟩
  | 3 => ⟨(some 71), .load (.t 70) 1 false, none⟩
  | 4 => ⟨(some 72), .mv (.t 0), none⟩
  | 5 => ⟨(some 73), .mv (.t 9), none⟩
  | 6 => ⟨(some 74), .bin .sub (.t 73) (cI 1), none⟩
  | 7 => ⟨(some 75), .iaddr (.t 72) (.t 74) 1, none⟩
  | 8 => ⟨(some 76), .load (.t 75) 1 false, none⟩
  | 9 => ⟨(some 77), .call (n_cmp_Less_int) [(.t 71), (.t 76)], none⟩
  | 10 => ⟨(some 78), .un .not (.t 77), none⟩
  | _ => ⟨none, .mkmap, none⟩
@[go_sem] def s158_26 (_ : Unit) : IR := (sQ [(.kd (oF l158_25 11) [(0, []), (1, []), (2, []), (3, []), (4, []), (5, []), (6, []), (7, []), (8, []), (9, []), (10, [])] [0, 1, 2, 7, 8, 9, 78]), (.cond (.t 78) (.exit 4) .skip)])
@[go_sem] def l158_27 : Nat → GOp
  | 0 => ⟨(some 79), .mv (.t 0), none⟩
  | 1 => ⟨(some 80), .mv (.t 9), none⟩
  | 2 => ⟨(some 81), .mv (.t 0), none⟩
  | 3 => ⟨(some 82), .mv (.t 9), none⟩
  | 4 => ⟨(some 83), .bin .sub (.t 82) (cI 1), none⟩
  | 5 => ⟨(some 84), .mv (.t 0), none⟩
  | 6 => ⟨(some 85), .mv (.t 9), none⟩
  | 7 => ⟨(some 86), .bin .sub (.t 85) (cI 1), none⟩
  | 8 => ⟨(some 87), .iaddr (.t 84) (.t 86) 1, none⟩
  | 9 => ⟨(some 88), .load (.t 87) 1 false, none⟩
  | 10 => ⟨(some 89), .mv (.t 0), none⟩
  | 11 => ⟨(some 90), .mv (.t 9), none⟩
  | 12 => ⟨(some 91), .iaddr (.t 89) (.t 90) 1, none⟩
  | 13 => ⟨(some 92), .load (.t 91) 1 false, none⟩
  | 14 => ⟨(some 93), .iaddr (.t 79) (.t 80) 1, none⟩
  | 15 => ⟨none, .store (.t 93) 1 (.t 88), none⟩
  | 16 => ⟨(some 94), .iaddr (.t 81) (.t 83) 1, none⟩
  | 17 => ⟨none, .store (.t 94) 1 (.t 92), none⟩
  | _ => ⟨none, .mkmap, none⟩
@[go_sem] def s158_28 (_ : Unit) : IR := (sQ [(tH s158_26), (.kd (oF l158_27 18) [(0, []), (1, []), (2, []), (3, []), (4, []), (5, []), (6, []), (7, []), (8, []), (9, []), (10, []), (11, []), (12, []), (13, []), (14, []), (15, []), (16, []), (17, [])] [0, 1, 2, 7, 8, 9])])
@[go_sem] def s158_29 (_ : Unit) : IR := (.block 5 (tH s158_28))
@[go_sem] def l158_30 (_ : Unit) : KL := [kA 66 (.mv (.t 9)),
  kA 67 (.bin .sub (.t 66) (cI 1)),
  kB 9 (.mv (.t 67)) [0, 1, 2, 7, 8, 9]]
@[go_sem] def s158_31 (_ : Unit) : IR := (sQ [(tH s158_24), (tH s158_29), (kT l158_30)])
@[go_sem] def s158_32 (_ : Unit) : IR := (.loop (tH s158_31))
@[go_sem] def s158_33 (_ : Unit) : IR := (.block 4 (tH s158_32))
@[go_sem] def s158_34 (_ : Unit) : IR := (sQ [(kT l158_22), (tH s158_33)])
@[go_sem] def s158_35 (_ : Unit) : IR := (sQ [(kT l158_21), (.cond (.t 61) (tH s158_34) .skip)])
@[go_sem] def l158_36 (_ : Unit) : KL := [kA 95 (.mv (.t 2)),
  kA 96 (.mv (.t 7)),
  kA 97 (.bin .sub (.t 95) (.t 96)),
  kB 98 (.bin .geq (.t 97) (.c (.int .i64 2))) [0, 1, 2, 7, 8, 98]]
@[go_sem] def l158_37 (_ : Unit) : KL := [kA 99 (.mv (.t 7)),
  kA 100 (.bin .add (.t 99) (cI 1)),
  kB 10 (.mv (.t 100)) [0, 1, 2, 7, 8, 10]]
@[go_sem] def l158_38 (_ : Unit) : KL := [kA 101 (.mv (.t 10)),
  kA 102 (.mv (.t 2)),
  kB 103 (.bin .lss (.t 101) (.t 102)) [0, 1, 2, 7, 8, 10, 103]]
@[go_sem] def s158_39 (_ : Unit) : IR := (sQ [(kT l158_38), (.cond (.t 103) .skip (.exit 6))])
@[go_sem] def l158_40 : Nat → GOp
  | 0 => ⟨(some 106), .mv (.t 0), none⟩
  | 1 => ⟨(some 107), .mv (.t 10), none⟩
  | 2 => ⟨(some 108), .iaddr (.t 106) (.t 107) 1, none⟩
  | 3 => ⟨(some 109), .load (.t 108) 1 false, none⟩
  | 4 => ⟨(some 110), .mv (.t 0), none⟩
  | 5 => ⟨(some 111), .mv (.t 10), none⟩
  | 6 => ⟨(some 112), .bin .sub (.t 111) (cI 1), none⟩
  | 7 => ⟨(some 113), .iaddr (.t 110) (.t 112) 1, none⟩
  | 8 => ⟨(some 114), .load (.t 113) 1 false, none⟩
  | 9 => ⟨(some 115), .call (n_cmp_Less_int) [(.t 109), (.t 114)], none⟩
  | 10 => ⟨(some 116), .un .not (.t 115), none⟩
  | _ => ⟨none, .mkmap, none⟩
@[go_sem] def s158_41 (_ : Unit) : IR := (sQ [(.kd (oF l158_40 11) [(0, []), (1, []), (2, []), (3, []), (4, []), (5, []), (6, []), (7, []), (8, []), (9, []), (10, [])] [0, 1, 2, 7, 8, 10, 116]), (.cond (.t 116) (.exit 6) .skip)])
@[go_sem] def l158_42 : Nat → GOp
  | 0 => ⟨(some 117), .mv (.t 0), none⟩
  | 1 => ⟨(some 118), .mv (.t 10), none⟩
  | 2 => ⟨(some 119), .mv (.t 0), none⟩
  | 3 => ⟨(some 120), .mv (.t 10), none⟩
  | 4 => ⟨(some 121), .bin .sub (.t 120) (cI 1), none⟩
  | 5 => ⟨(some 122), .mv (.t 0), none⟩
  | 6 => ⟨(some 123), .mv (.t 10), none⟩
  | 7 => ⟨(some 124), .bin .sub (.t 123) (cI 1), none⟩
  | 8 => ⟨(some 125), .iaddr (.t 122) (.t 124) 1, none⟩
  | 9 => ⟨(some 126), .load (.t 125) 1 false, none⟩
  | 10 => ⟨(some 127), .mv (.t 0), none⟩
  | 11 => ⟨(some 128), .mv (.t 10), none⟩
  | 12 => ⟨(some 129), .iaddr (.t 127) (.t 128) 1, none⟩
  | 13 => ⟨(some 130), .load (.t 129) 1 false, none⟩
  | 14 => ⟨(some 131), .iaddr (.t 117) (.t 118) 1, none⟩
  | 15 => ⟨none, .store (.t 131) 1 (.t 126), none⟩
  | 16 => ⟨(some 132), .iaddr (.t 119) (.t 121) 1, none⟩
  | 17 => ⟨none, .store (.t 132) 1 (.t 130), none⟩
  | _ => ⟨none, .mkmap, none⟩
@[go_sem] def s158_43 (_ : Unit) : IR := (sQ [(tH s158_41), (.kd (oF l158_42 18) [(0, []), (1, []), (2, []), (3, []), (4, []), (5, []), (6, []), (7, []), (8, []), (9, []), (10, []), (11, []), (12, []), (13, []), (14, []), (15, []), (16, []), (17, [])] [0, 1, 2, 7, 8, 10])])
@[go_sem] def s158_44 (_ : Unit) : IR := (.block 7 (tH s158_43))
@[go_sem] def l158_45 (_ : Unit) : KL := [kA 104 (.mv (.t 10)),
  kA 105 (.bin .add (.t 104) (cI 1)),
  kB 10 (.mv (.t 105)) [0, 1, 2, 7, 8, 10]]
@[go_sem] def s158_46 (_ : Unit) : IR := (sQ [(tH s158_39), (tH s158_44), (kT l158_45)])
@[go_sem] def s158_47 (_ : Unit) : IR := (.loop (tH s158_46))
@[go_sem] def s158_48 (_ : Unit) : IR := (.block 6 (tH s158_47))
@[go_sem] def s158_49 (_ : Unit) : IR := (sQ [(kT l158_37), (tH s158_48)])
@[go_sem] def s158_50 (_ : Unit) : IR := (sQ [(tH s158_11), (tH s158_15), (tH s158_19), (.kd (oF l158_20 18) [(0, []), (1, []), (2, []), (3, []), (4, []), (5, []), (6, []), (7, []), (8, []), (9, []), (10, []), (11, []), (12, []), (13, []), (14, []), (15, []), (16, []), (17, [])] [0, 1, 2, 7, 8]), (tH s158_35), (kT l158_36), (.cond (.t 98) (tH s158_49) .skip)])
@[go_sem] def s158_51 (_ : Unit) : IR := (.block 1 (tH s158_50))
@[go_sem] def l158_52 (_ : Unit) : KL := [kA 15 (.mv (.t 8)),
  kA 16 (.bin .add (.t 15) (cI 1)),
  kB 8 (.mv (.t 16)) [0, 1, 2, 7, 8]]
@[go_sem] def s158_53 (_ : Unit) : IR := (sQ [(tH s158_4), (tH s158_51), (kT l158_52)])
@[go_sem] def s158_54 (_ : Unit) : IR := (.loop (tH s158_53))
@[go_sem] def s158_55 (_ : Unit) : IR := (.block 0 (tH s158_54))
@[go_sem] def s158_56 (_ : Unit) : IR := (sQ [(kT l158_2), (tH s158_55)])
@[go_sem] def l158_57 (_ : Unit) : KL := [kB 6 (.mv (.c (.bool false))) [6]]
@[go_sem] def s158_58 (_ : Unit) : IR := (sQ [(kT l158_0), (kT l158_1), (tH s158_56), (kT l158_57), .ret])
@[go_sem] def l160_0 (_ : Unit) : KL := [kB 8 (.mv (cI 0)) [0, 1, 2, 3]]
@[go_sem] def l160_1 : Nat → GOp
  | 0 => ⟨(some 11), .mv (.t 0), none⟩
  | 1 => ⟨(some 12), .mv (.t 1), none⟩
  | 2 => ⟨(some 13), .mv (.t 0), none⟩
  | 3 => ⟨(some 14), .mv (.t 3), none⟩
  | 4 => ⟨(some 15), .mv (.t 0), none⟩
  | 5 => ⟨(some 16), .mv (.t 3), none⟩
  | 6 => ⟨(some 17), .iaddr (.t 15) (.t 16) 1, none⟩
  | 7 => ⟨(some 18), .load (.t 17) 1 false, none⟩
  | 8 => ⟨(some 19), .mv (.t 0), none⟩
  | 9 => ⟨(some 20), .mv (.t 1), none⟩
  | 10 => ⟨(some 21), .iaddr (.t 19) (.t 20) 1, none⟩
  | 11 => ⟨(some 22), .load (.t 21) 1 false, none⟩
  | 12 => ⟨(some 23), .iaddr (.t 11) (.t 12) 1, none⟩
  | 13 => ⟨none, .store (.t 23) 1 (.t 18), none⟩
  | 14 => ⟨(some 24), .iaddr (.t 13) (.t 14) 1, none⟩
  | 15 => ⟨none, .store (.t 24) 1 (.t 22), none⟩
  | _ => ⟨none, .mkmap, none⟩
@[go_sem] def l160_2 (_ : Unit) : KL := [kA 25 (.mv (.t 1)),
  kA 26 (.bin .add (.t 25) (cI 1)),
  kA 27 (.mv (.t 2)),
  kA 28 (.bin .sub (.t 27) (cI 1)),
  kB 9 (.mv (.t 26)) [0, 1, 9, 28],
  kB 10 (.mv (.t 28)) [0, 1, 9, 10]]
@[go_sem] def l160_3 : Nat → GOp
  | 0 => ⟨(some 29), .mv (.t 9), none⟩
  | 1 => ⟨(some 30), .mv (.t 10), none⟩
  | 2 => ⟨(some 31), .bin .leq (.t 29) (.t 30), none⟩
  | 3 => ⟨(some 32), .mv (.t 31), none⟩
  | 4 => ⟨(some 33), .mv (.t 0), (some (32, true))⟩
  | 5 => ⟨(some 34), .mv (.t 1), (some (32, true))⟩
  | 6 => ⟨(some 35), .iaddr (.t 33) (.t 34) 1, (some (32, true))⟩
  | 7 => ⟨(some 36), .load (.t 35) 1 false, (some (32, true))⟩
  | 8 => ⟨(some 37), .mv (.t 0), (some (32, true))⟩
  | 9 => ⟨(some 38), .mv (.t 9), (some (32, true))⟩
  | 10 => ⟨(some 39), .iaddr (.t 37) (.t 38) 1, (some (32, true))⟩
  | 11 => ⟨(some 40), .load (.t 39) 1 false, (some (32, true))⟩
  | 12 => ⟨(some 41), .call (n_cmp_Less_int) [(.t 36), (.t 40)], (some (32, true))⟩
  | 13 => ⟨(some 42), .un .not (.t 41), (some (32, true))⟩
  | 14 => ⟨(some 43), .pick (.t 32) (.t 42) (.c (.bool false)), none⟩
  | _ => ⟨none, .mkmap, none⟩
@[go_sem] def s160_4 (_ : Unit) : IR := (sQ [(.kd (oF l160_3 15) [(0, []), (1, []), (2, []), (3, []), (4, []), (5, []), (6, []), (7, []), (8, []), (9, []), (10, []), (11, []), (12, []), (13, []), (14, [])] [0, 1, 9, 10, 43]), (.cond (.t 43) .skip (.exit 2))])
@[go_sem] def l160_5 (_ : Unit) : KL := [kA 44 (.mv (.t 9)),
  kA 45 (.bin .add (.t 44) (cI 1)),
  kB 9 (.mv (.t 45)) [0, 1, 9, 10]]
@[go_sem] def s160_6 (_ : Unit) : IR := (.block 3 (kT l160_5))
@[go_sem] def s160_7 (_ : Unit) : IR := (sQ [(tH s160_4), (tH s160_6)])
@[go_sem] def s160_8 (_ : Unit) : IR := (.loop (tH s160_7))
@[go_sem] def s160_9 (_ : Unit) : IR := (.block 2 (tH s160_8))
@[go_sem] def l160_10 : Nat → GOp
  | 0 => ⟨(some 46), .mv (.t 9), none⟩
  | 1 => ⟨(some 47), .mv (.t 10), none⟩
  | 2 => ⟨(some 48), .bin .leq (.t 46) (.t 47), none⟩
  | 3 => ⟨(some 49), .mv (.t 48), none⟩
  | 4 => ⟨(some 50), .mv (.t 0), (some (49, true))⟩
  | 5 => ⟨(some 51), .mv (.t 1), (some (49, true))⟩
  | 6 => ⟨(some 52), .iaddr (.t 50) (.t 51) 1, (some (49, true))⟩
  | 7 => ⟨(some 53), .load (.t 52) 1 false, (some (49, true))⟩
  | 8 => ⟨(some 54), .mv (.t 0), (some (49, true))⟩
  | 9 => ⟨(some 55), .mv (.t 10), (some (49, true))⟩
  | 10 => ⟨(some 56), .iaddr (.t 54) (.t 55) 1, (some (49, true))⟩
  | 11 => ⟨(some 57), .load (.t 56) 1 false, (some (49, true))⟩
  | 12 => ⟨(some 58), .call (n_cmp_Less_int) [(.t 53), (.t 57)], (some (49, true))⟩
  | 13 => ⟨(some 59), .pick (.t 49) (.t 58) (.c (.bool false)), none⟩
  | _ => ⟨none, .mkmap, none⟩
@[go_sem] def s160_11 (_ : Unit) : IR := (sQ [(.kd (oF l160_10 14) [(0, []), (1, []), (2, []), (3, []), (4, []), (5, []), (6, []), (7, []), (8, []), (9, []), (10, []), (11, []), (12, []), (13, [])] [0, 1, 9, 10, 59]), (.cond (.t 59) .skip (.exit 4))])
@[go_sem] def l160_12 (_ : Unit) : KL := [kA 60 (.mv (.t 10)),
  kA 61 (.bin .sub (.t 60) (cI 1)),
  kB 10 (.mv (.t 61)) [0, 1, 9, 10]]
@[go_sem] def s160_13 (_ : Unit) : IR := (.block 5 (kT l160_12))
@[go_sem] def s160_14 (_ : Unit) : IR := (sQ [(tH s160_11), (tH s160_13)])
@[go_sem] def s160_15 (_ : Unit) : IR := (.loop (tH s160_14))
@[go_sem] def s160_16 (_ : Unit) : IR := (.block 4 (tH s160_15))
@[go_sem] def l160_17 (_ : Unit) : KL := [kA 62 (.mv (.t 9)),
  kA 63 (.mv (.t 10)),
  kB 64 (.bin .gtr (.t 62) (.t 63)) [0, 1, 9, 10, 64]]
@[go_sem] def s160_18 (_ : Unit) : IR := (sQ [(kT l160_17), (.cond (.t 64) (.exit 0) .skip)])
@[go_sem] def l160_19 : Nat → GOp
  | 0 => ⟨(some 65), .mv (.t 0), none⟩
  | 1 => ⟨(some 66), .mv (.t 9), none⟩
  | 2 => ⟨(some 67), .mv (.t 0), none⟩
  | 3 => ⟨(some 68), .mv (.t 10), none⟩
  | 4 => ⟨(some 69), .mv (.t 0), none⟩
  | 5 => ⟨(some 70), .mv (.t 10), none⟩
  | 6 => ⟨(some 71), .iaddr (.t 69) (.t 70) 1, none⟩
  | 7 => ⟨(some 72), .load (.t 71) 1 false, none⟩
  | 8 => ⟨(some 73), .mv (.t 0), none⟩
  | 9 => ⟨(some 74), .mv (.t 9), none⟩
  | 10 => ⟨(some 75), .iaddr (.t 73) (.t 74) 1, none⟩
  | 11 => ⟨(some 76), .load (.t 75) 1 false, none⟩
  | 12 => ⟨(some 77), .iaddr (.t 65) (.t 66) 1, none⟩
  | 13 => ⟨none, .store (.t 77) 1 (.t 72), none⟩
  | 14 => ⟨(some 78), .iaddr (.t 67) (.t 68) 1, none⟩
  | 15 => ⟨none, .store (.t 78) 1 (.t 76), none⟩
  | _ => ⟨none, .mkmap, none⟩
@[go_sem] def l160_20 (_ : Unit) : KL := [kA 79 (.mv (.t 9)),
  kA 80 (.bin .add (.t 79) (cI 1)),
  kB 9 (.mv (.t 80)) [0, 1, 9, 10]]
@[go_sem] def l160_21 (_ : Unit) : KL := [kA 81 (.mv (.t 10)),
  kA 82 (.bin .sub (.t 81) (cI 1)),
  kB 10 (.mv (.t 82)) [0, 1, 9, 10]]
@[go_sem] def s160_22 (_ : Unit) : IR := (sQ [(tH s160_9), (tH s160_16), (tH s160_18), (.kd (oF l160_19 16) [(0, []), (1, []), (2, []), (3, []), (4, []), (5, []), (6, []), (7, []), (8, []), (9, []), (10, []), (11, []), (12, []), (13, []), (14, []), (15, [])] [0, 1, 9, 10]), (kT l160_20), (kT l160_21)])
@[go_sem] def s160_23 (_ : Unit) : IR := (.block 1 (tH s160_22))
@[go_sem] def s160_24 (_ : Unit) : IR := (.loop (tH s160_23))
@[go_sem] def s160_25 (_ : Unit) : IR := (.block 0 (tH s160_24))
@[go_sem] def l160_26 (_ : Unit) : KL := [kA 83 (.mv (.t 9)),
  kB 8 (.mv (.t 83)) [8]]
@[go_sem] def s160_27 (_ : Unit) : IR := (sQ [(kT l160_0), (.kd (oF l160_1 16) [(0, []), (1, []), (2, []), (3, []), (4, []), (5, []), (6, []), (7, []), (8, []), (9, []), (10, []), (11, []), (12, []), (13, []), (14, []), (15, [])] [0, 1, 2]), (kT l160_2), (tH s160_25), (kT l160_26), .ret])
@[go_sem] def l161_0 (_ : Unit) : KL := [kA 8 (.mv (cI 0)),
  kB 9 (.mv (.c (.bool false))) [0, 1, 2, 3]]
@[go_sem] def l161_1 : Nat → GOp
  | 0 => ⟨(some 12), .mv (.t 0), none⟩
  | 1 => ⟨(some 13), .mv (.t 1), none⟩
  | 2 => ⟨(some 14), .mv (.t 0), none⟩
  | 3 => ⟨(some 15), .mv (.t 3), none⟩
  | 4 => ⟨(some 16), .mv (.t 0), none⟩
  | 5 => ⟨(some 17), .mv (.t 3), none⟩
  | 6 => ⟨(some 18), .iaddr (.t 16) (.t 17) 1, none⟩
  | 7 => ⟨(some 19), .load (.t 18) 1 false, none⟩
  | 8 => ⟨(some 20), .mv (.t 0), none⟩
  | 9 => ⟨(some 21), .mv (.t 1), none⟩
  | 10 => ⟨(some 22), .iaddr (.t 20) (.t 21) 1, none⟩
  | 11 => ⟨(some 23), .load (.t 22) 1 false, none⟩
  | 12 => ⟨(some 24), .iaddr (.t 12) (.t 13) 1, none⟩
  | 13 => ⟨none, .store (.t 24) 1 (.t 19), none⟩
  | 14 => ⟨(some 25), .iaddr (.t 14) (.t 15) 1, none⟩
  | 15 => ⟨none, .store (.t 25) 1 (.t 23), none⟩
  | _ => ⟨none, .mkmap, none⟩
@[go_sem] def l161_2 (_ : Unit) : KL := [kA 26 (.mv (.t 1)),
  kA 27 (.bin .add (.t 26) (cI 1)),
  kA 28 (.mv (.t 2)),
  kA 29 (.bin .sub (.t 28) (cI 1)),
  kB 10 (.mv (.t 27)) [0, 1, 10, 29],
  kB 11 (.mv (.t 29)) [0, 1, 10, 11]]
@[go_sem] def l161_3 : Nat → GOp
  | 0 => ⟨(some 30), .mv (.t 10), none⟩
  | 1 => ⟨(some 31), .mv (.t 11), none⟩
  | 2 => ⟨(some 32), .bin .leq (.t 30) (.t 31), none⟩
  | 3 => ⟨(some 33), .mv (.t 32), none⟩
  | 4 => ⟨(some 34), .mv (.t 0), (some (33, true))⟩
  | 5 => ⟨(some 35), .mv (.t 10), (some (33, true))⟩
  | 6 => ⟨(some 36), .iaddr (.t 34) (.t 35) 1, (some (33, true))⟩
  | 7 => ⟨(some 37), .load (.t 36) 1 false, (some (33, true))⟩
  | 8 => ⟨(some 38), .mv (.t 0), (some (33, true))⟩
  | 9 => ⟨(some 39), .mv (.t 1), (some (33, true))⟩
  | 10 => ⟨(some 40), .iaddr (.t 38) (.t 39) 1, (some (33, true))⟩
  | 11 => ⟨(some 41), .load (.t 40) 1 false, (some (33, true))⟩
  | 12 => ⟨(some 42), .call (n_cmp_Less_int) [(.t 37), (.t 41)], (some (33, true))⟩
  | 13 => ⟨(some 43), .pick (.t 33) (.t 42) (.c (.bool false)), none⟩
  | _ => ⟨none, .mkmap, none⟩
@[go_sem] def s161_4 (_ : Unit) : IR := (sQ [(.kd (oF l161_3 14) [(0, []), (1, []), (2, []), (3, []), (4, []), (5, []), (6, []), (7, []), (8, []), (9, []), (10, []), (11, []), (12, []), (13, [])] [0, 1, 10, 11, 43]), (.cond (.t 43) .skip (.exit 0))])
@[go_sem] def l161_5 (_ : Unit) : KL := [kA 44 (.mv (.t 10)),
  kA 45 (.bin .add (.t 44) (cI 1)),
  kB 10 (.mv (.t 45)) [0, 1, 10, 11]]
@[go_sem] def s161_6 (_ : Unit) : IR := (.block 1 (kT l161_5))
@[go_sem] def s161_7 (_ : Unit) : IR := (sQ [(tH s161_4), (tH s161_6)])
@[go_sem] def s161_8 (_ : Unit) : IR := (.loop (tH s161_7))
@[go_sem] def s161_9 (_ : Unit) : IR := (.block 0 (tH s161_8))
@[go_sem] def l161_10 : Nat → GOp
  | 0 => ⟨(some 46), .mv (.t 10), none⟩
  | 1 => ⟨(some 47), .mv (.t 11), none⟩
  | 2 => ⟨(some 48), .bin .leq (.t 46) (.t 47), none⟩
  | 3 => ⟨(some 49), .mv (.t 48), none⟩
  | 4 => ⟨(some 50), .mv (.t 0), (some (49, true))⟩
  | 5 => ⟨(some 51), .mv (.t 11), (some (49, true))⟩
  | 6 => ⟨(some 52), .iaddr (.t 50) (.t 51) 1, (some (49, true))⟩
  | 7 => ⟨(some 53), .load (.t 52) 1 false, (some (49, true))⟩
  | 8 => ⟨(some 54), .mv (.t 0), (some (49, true))⟩
  | 9 => ⟨(some 55), .mv (.t 1), (some (49, true))⟩
  | 10 => ⟨(some 56), .iaddr (.t 54) (.t 55) 1, (some (49, true))⟩
  | 11 => ⟨(some 57), .load (.t 56) 1 false, (some (49, true))⟩
  | 12 => ⟨(some 58), .call (n_cmp_Less_int) [(.t 53), (.t 57)], (some (49, true))⟩
  | 13 => ⟨(some 59), .un .not (.t 58), (some (49, true))⟩
  | 14 => ⟨(some 60), .pick (.t 49) (.t 59) (.c (.bool false)), none⟩
  | _ => ⟨none, .mkmap, none⟩
@[go_sem] def s161_11 (_ : Unit) : IR := (sQ [(.kd (oF l161_10 15) [(0, []), (1, []), (2, []), (3, []), (4, []), (5, []), (6, []), (7, []), (8, []), (9, []), (10, []), (11, []), (12, []), (13, []), (14, [])] [0, 1, 10, 11, 60]), (.cond (.t 60) .skip (.exit 2))])
@[go_sem] def l161_12 (_ : Unit) : KL := [kA 61 (.mv (.t 11)),
  kA 62 (.bin .sub (.t 61) (cI 1)),
  kB 11 (.mv (.t 62)) [0, 1, 10, 11]]
@[go_sem] def s161_13 (_ : Unit) : IR := (.block 3 (kT l161_12))
@[go_sem] def s161_14 (_ : Unit) : IR := (sQ [(tH s161_11), (tH s161_13)])
@[go_sem] def s161_15 (_ : Unit) : IR := (.loop (tH s161_14))
@[go_sem] def s161_16 (_ : Unit) : IR := (.block 2 (tH s161_15))
@[go_sem] def l161_17 (_ : Unit) : KL := [kA 63 (.mv (.t 10)),
  kA 64 (.mv (.t 11)),
  kB 65 (.bin .gtr (.t 63) (.t 64)) [0, 1, 10, 11, 65]]
@[go_sem] def l161_18 : Nat → GOp
  | 0 => ⟨(some 66), .mv (.t 0), none⟩
  | 1 => ⟨(some 67), .mv (.t 11), none⟩
  | 2 => ⟨(some 68), .mv (.t 0), none⟩
  | 3 => ⟨(some 69), .mv (.t 1), none⟩
  | 4 => ⟨(some 70), .mv (.t 0), none⟩
  | 5 => ⟨(some 71), .mv (.t 1), none⟩
  | 6 => ⟨(some 72), .iaddr (.t 70) (.t 71) 1, none⟩
  | 7 => ⟨(some 73), .load (.t 72) 1 false, none⟩
  | 8 => ⟨(some 74), .mv (.t 0), none⟩
  | 9 => ⟨(some 75), .mv (.t 11), none⟩
  | 10 => ⟨(some 76), .iaddr (.t 74) (.t 75) 1, none⟩
  | 11 => ⟨(some 77), .load (.t 76) 1 false, none⟩
  | 12 => ⟨(some 78), .iaddr (.t 66) (.t 67) 1, none⟩
  | 13 => ⟨none, .store (.t 78) 1 (.t 73), none⟩
  | 14 => ⟨(some 79), .iaddr (.t 68) (.t 69) 1, none⟩
  | 15 => ⟨none, .store (.t 79) 1 (.t 77), none⟩
  | _ => ⟨none, .mkmap, none⟩
@[go_sem] def l161_19 (_ : Unit) : KL := [kA 80 (.mv (.t 11)),
  kA 8 (.mv (.t 80)),
  kB 9 (.mv (.c (.bool true))) [8, 9]]
@[go_sem] def s161_20 (_ : Unit) : IR := (sQ [(.kd (oF l161_18 16) [(0, []), (1, []), (2, []), (3, []), (4, []), (5, []), (6, []), (7, []), (8, []), (9, []), (10, []), (11, []), (12, []), (13, []), (14, []), (15, [])] [11]), (kT l161_19), .ret])
@[go_sem] def s161_21 (_ : Unit) : IR := (sQ [(kT l161_17), (.cond (.t 65) (tH s161_20) .skip)])
@[go_sem] def l161_22 : Nat → GOp
  | 0 => ⟨(some 81), .mv (.t 0), none⟩
  | 1 => ⟨(some 82), .mv (.t 10), none⟩
  | 2 => ⟨(some 83), .mv (.t 0), none⟩
  | 3 => ⟨(some 84), .mv (.t 11), none⟩
  | 4 => ⟨(some 85), .mv (.t 0), none⟩
  | 5 => ⟨(some 86), .mv (.t 11), none⟩
  | 6 => ⟨(some 87), .iaddr (.t 85) (.t 86) 1, none⟩
  | 7 => ⟨(some 88), .load (.t 87) 1 false, none⟩
  | 8 => ⟨(some 89), .mv (.t 0), none⟩
  | 9 => ⟨(some 90), .mv (.t 10), none⟩
  | 10 => ⟨(some 91), .iaddr (.t 89) (.t 90) 1, none⟩
  | 11 => ⟨(some 92), .load (.t 91) 1 false, none⟩
  | 12 => ⟨(some 93), .iaddr (.t 81) (.t 82) 1, none⟩
  | 13 => ⟨none, .store (.t 93) 1 (.t 88), none⟩
  | 14 => ⟨(some 94), .iaddr (.t 83) (.t 84) 1, none⟩
  | 15 => ⟨none, .store (.t 94) 1 (.t 92), none⟩
  | _ => ⟨none, .mkmap, none⟩
@[go_sem] def l161_23 (_ : Unit) : KL := [kA 95 (.mv (.t 10)),
  kA 96 (.bin .add (.t 95) (cI 1)),
  kB 10 (.mv (.t 96)) [0, 1, 10, 11]]
@[go_sem] def l161_24 (_ : Unit) : KL := [kA 97 (.mv (.t 11)),
  kA 98 (.bin .sub (.t 97) (cI 1)),
  kB 11 (.mv (.t 98)) [0, 1, 10, 11]]
@[go_sem] def l161_25 : Nat → GOp
  | 0 => ⟨(some 99), .mv (.t 10), none⟩
  | 1 => ⟨(some 100), .mv (.t 11), none⟩
  | 2 => ⟨(some 101), .bin .leq (.t 99) (.t 100), none⟩
  | 3 => ⟨(some 102), .mv (.t 101), none⟩
  | 4 => ⟨(some 103), .mv (.t 0), (some (102, true))⟩
  | 5 => ⟨(some 104), .mv (.t 10), (some (102, true))⟩
  | 6 => ⟨(some 105), .iaddr (.t 103) (.t 104) 1, (some (102, true))⟩
  | 7 => ⟨(some 106), .load (.t 105) 1 false, (some (102, true))⟩
  | 8 => ⟨(some 107), .mv (.t 0), (some (102, true))⟩
  | 9 => ⟨(some 108), .mv (.t 1), (some (102, true))⟩
  | 10 => ⟨(some 109), .iaddr (.t 107) (.t 108) 1, (some (102, true))⟩
  | 11 => ⟨(some 110), .load (.t 109) 1 false, (some (102, true))⟩
  | 12 => ⟨(some 111), .call (n_cmp_Less_int) [(.t 106), (.t 110)], (some (102, true))⟩
  | 13 => ⟨(some 112), .pick (.t 102) (.t 111) (.c (.bool false)), none⟩
  | _ => ⟨none, .mkmap, none⟩
@[go_sem] def s161_26 (_ : Unit) : IR := (sQ [(.kd (oF l161_25 14) [(0, []), (1, []), (2, []), (3, []), (4, []), (5, []), (6, []), (7, []), (8, []), (9, []), (10, []), (11, []), (12, []), (13, [])] [0, 1, 10, 11, 112]), (.cond (.t 112) .skip (.exit 6))])
@[go_sem] def l161_27 (_ : Unit) : KL := [kA 113 (.mv (.t 10)),
  kA 114 (.bin .add (.t 113) (cI 1)),
  kB 10 (.mv (.t 114)) [0, 1, 10, 11]]
@[go_sem] def s161_28 (_ : Unit) : IR := (.block 7 (kT l161_27))
@[go_sem] def s161_29 (_ : Unit) : IR := (sQ [(tH s161_26), (tH s161_28)])
@[go_sem] def s161_30 (_ : Unit) : IR := (.loop (tH s161_29))
@[go_sem] def s161_31 (_ : Unit) : IR := (.block 6 (tH s161_30))
@[go_sem] def l161_32 : Nat → GOp
  | 0 => ⟨(some 115), .mv (.t 10), none⟩
  | 1 => ⟨(some 116), .mv (.t 11), none⟩
  | 2 => ⟨(some 117), .bin .leq (.t 115) (.t 116), none⟩
  | 3 => ⟨(some 118), .mv (.t 117), none⟩
  | 4 => ⟨(some 119), .mv (.t 0), (some (118, true))⟩
  | 5 => ⟨(some 120), .mv (.t 11), (some (118, true))⟩
  | 6 => ⟨(some 121), .iaddr (.t 119) (.t 120) 1, (some (118, true))⟩
  | 7 => ⟨(some 122), .load (.t 121) 1 false, (some (118, true))⟩
  | 8 => ⟨(some 123), .mv (.t 0), (some (118, true))⟩
  | 9 => ⟨(some 124), .mv (.t 1), (some (118, true))⟩
  | 10 => ⟨(some 125), .iaddr (.t 123) (.t 124) 1, (some (118, true))⟩
  | 11 => ⟨(some 126), .load (.t 125) 1 false, (some (118, true))⟩
  | 12 => ⟨(some 127), .call (n_cmp_Less_int) [(.t 122), (.t 126)], (some (118, true))⟩
  | 13 => ⟨(some 128), .un .not (.t 127), (some (118, true))⟩
  | 14 => ⟨(some 129), .pick (.t 118) (.t 128) (.c (.bool false)), none⟩
  | _ => ⟨none, .mkmap, none⟩
@[go_sem] def s161_33 (_ : Unit) : IR := (sQ [(.kd (oF l161_32 15) [(0, []), (1, []), (2, []), (3, []), (4, []), (5, []), (6, []), (7, []), (8, []), (9, []), (10, []), (11, []), (12, []), (13, []), (14, [])] [0, 1, 10, 11, 129]), (.cond (.t 129) .skip (.exit 8))])
@[go_sem] def l161_34 (_ : Unit) : KL := [kA 130 (.mv (.t 11)),
  kA 131 (.bin .sub (.t 130) (cI 1)),
  kB 11 (.mv (.t 131)) [0, 1, 10, 11]]
@[go_sem] def s161_35 (_ : Unit) : IR := (.block 9 (kT l161_34))
@[go_sem] def s161_36 (_ : Unit) : IR := (sQ [(tH s161_33), (tH s161_35)])
@[go_sem] def s161_37 (_ : Unit) : IR := (.loop (tH s161_36))
@[go_sem] def s161_38 (_ : Unit) : IR := (.block 8 (tH s161_37))
@[go_sem] def l161_39 (_ : Unit) : KL := [kA 132 (.mv (.t 10)),
  kA 133 (.mv (.t 11)),
  kB 134 (.bin .gtr (.t 132) (.t 133)) [0, 1, 10, 11, 134]]
@[go_sem] def s161_40 (_ : Unit) : IR := (sQ [(kT l161_39), (.cond (.t 134) (.exit 4) .skip)])
@[go_sem] def l161_41 : Nat → GOp
  | 0 => ⟨(some 135), .mv (.t 0), none⟩
  | 1 => ⟨(some 136), .mv (.t 10), none⟩
  | 2 => ⟨(some 137), .mv (.t 0), none⟩
  | 3 => ⟨(some 138), .mv (.t 11), none⟩
  | 4 => ⟨(some 139), .mv (.t 0), none⟩
  | 5 => ⟨(some 140), .mv (.t 11), none⟩
  | 6 => ⟨(some 141), .iaddr (.t 139) (.t 140) 1, none⟩
  | 7 => ⟨(some 142), .load (.t 141) 1 false, none⟩
  | 8 => ⟨(some 143), .mv (.t 0), none⟩
  | 9 => ⟨(some 144), .mv (.t 10), none⟩
  | 10 => ⟨(some 145), .iaddr (.t 143) (.t 144) 1, none⟩
  | 11 => ⟨(some 146), .load (.t 145) 1 false, none⟩
  | 12 => ⟨(some 147), .iaddr (.t 135) (.t 136) 1, none⟩
  | 13 => ⟨none, .store (.t 147) 1 (.t 142), none⟩
  | 14 => ⟨(some 148), .iaddr (.t 137) (.t 138) 1, none⟩
  | 15 => ⟨none, .store (.t 148) 1 (.t 146), none⟩
  | _ => ⟨none, .mkmap, none⟩
@[go_sem] def l161_42 (_ : Unit) : KL := [kA 149 (.mv (.t 10)),
  kA 150 (.bin .add (.t 149) (cI 1)),
  kB 10 (.mv (.t 150)) [0, 1, 10, 11]]
@[go_sem] def l161_43 (_ : Unit) : KL := [kA 151 (.mv (.t 11)),
  kA 152 (.bin .sub (.t 151) (cI 1)),
  kB 11 (.mv (.t 152)) [0, 1, 10, 11]]
@[go_sem] def s161_44 (_ : Unit) : IR := (sQ [(tH s161_31), (tH s161_38), (tH s161_40), (.kd (oF l161_41 16) [(0, []), (1, []), (2, []), (3, []), (4, []), (5, []), (6, []), (7, []), (8, []), (9, []), (10, []), (11, []), (12, []), (13, []), (14, []), (15, [])] [0, 1, 10, 11]), (kT l161_42), (kT l161_43)])
@[go_sem] def s161_45 (_ : Unit) : IR := (.block 5 (tH s161_44))
@[go_sem] def s161_46 (_ : Unit) : IR := (.loop (tH s161_45))
@[go_sem] def s161_47 (_ : Unit) : IR := (.block 4 (tH s161_46))
@[go_sem] def l161_48 : Nat → GOp
  | 0 => ⟨(some 153), .mv (.t 0), none⟩
  | 1 => ⟨(some 154), .mv (.t 11), none⟩
  | 2 => ⟨(some 155), .mv (.t 0), none⟩
  | 3 => ⟨(some 156), .mv (.t 1), none⟩
  | 4 => ⟨(some 157), .mv (.t 0), none⟩
  | 5 => ⟨(some 158), .mv (.t 1), none⟩
  | 6 => ⟨(some 159), .iaddr (.t 157) (.t 158) 1, none⟩
  | 7 => ⟨(some 160), .load (.t 159) 1 false, none⟩
  | 8 => ⟨(some 161), .mv (.t 0), none⟩
  | 9 => ⟨(some 162), .mv (.t 11), none⟩
  | 10 => ⟨(some 163), .iaddr (.t 161) (.t 162) 1, none⟩
  | 11 => ⟨(some 164), .load (.t 163) 1 false, none⟩
  | 12 => ⟨(some 165), .iaddr (.t 153) (.t 154) 1, none⟩
  | 13 => ⟨none, .store (.t 165) 1 (.t 160), none⟩
  | 14 => ⟨(some 166), .iaddr (.t 155) (.t 156) 1, none⟩
  | 15 => ⟨none, .store (.t 166) 1 (.t 164), none⟩
  | _ => ⟨none, .mkmap, none⟩
@[go_sem] def l161_49 (_ : Unit) : KL := [kA 167 (.mv (.t 11)),
  kA 8 (.mv (.t 167)),
  kB 9 (.mv (.c (.bool false))) [8, 9]]
@[go_sem] def s161_50 (_ : Unit) : IR := (sQ [(kT l161_0), (.kd (oF l161_1 16) [(0, []), (1, []), (2, []), (3, []), (4, []), (5, []), (6, []), (7, []), (8, []), (9, []), (10, []), (11, []), (12, []), (13, []), (14, []), (15, [])] [0, 1, 2]), (kT l161_2), (tH s161_9), (tH s161_16), (tH s161_21), (.kd (oF l161_22 16) [(0, []), (1, []), (2, []), (3, []), (4, []), (5, []), (6, []), (7, []), (8, []), (9, []), (10, []), (11, []), (12, []), (13, []), (14, []), (15, [])] [0, 1, 10, 11]), (kT l161_23), (kT l161_24), (tH s161_47), (.kd (oF l161_48 16) [(0, []), (1, []), (2, []), (3, []), (4, []), (5, []), (6, []), (7, []), (8, []), (9, []), (10, []), (11, []), (12, []), (13, []), (14, []), (15, [])] [11]), (kT l161_49), .ret])
@[go_sem] def l141_0 (_ : Unit) : KL := [kB 8 (.mv (.c (.bool true))) [0, 1, 2, 3, 8]]
@[go_sem] def l141_1 (_ : Unit) : KL := [kB 9 (.mv (.c (.bool true))) [0, 1, 2, 3, 8, 9]]
@[go_sem] def l141_2 (_ : Unit) : KL := [kA 19 (.mv (.t 2)),
  kA 20 (.mv (.t 1)),
  kA 21 (.bin .sub (.t 19) (.t 20)),
  kB 10 (.mv (.t 21)) [0, 1, 2, 3, 8, 9, 10]]
@[go_sem] def l141_3 (_ : Unit) : KL := [kA 22 (.mv (.t 10)),
  kB 23 (.bin .leq (.t 22) (.c (.int .i64 12))) [0, 1, 2, 3, 8, 9, 10, 23]]
@[go_sem] def l141_4 (_ : Unit) : KL := [kA 24 (.mv (.t 0)),
  kA 25 (.mv (.t 1)),
  kA 26 (.mv (.t 2)),
  kB 27 (.call (n_slices_insertionSortOrdered_int) [(.t 24), (.t 25), (.t 26)]) []]
@[go_sem] def s141_5 (_ : Unit) : IR := (sQ [(kT l141_4), .ret])
@[go_sem] def s141_6 (_ : Unit) : IR := (sQ [(kT l141_3), (.cond (.t 23) (tH s141_5) .skip)])
@[go_sem] def l141_7 (_ : Unit) : KL := [kA 28 (.mv (.t 3)),
  kB 29 (.bin .eql (.t 28) (cI 0)) [0, 1, 2, 3, 8, 9, 10, 29]]
@[go_sem] def l141_8 (_ : Unit) : KL := [kA 30 (.mv (.t 0)),
  kA 31 (.mv (.t 1)),
  kA 32 (.mv (.t 2)),
  kB 33 (.call (n_slices_heapSortOrdered_int) [(.t 30), (.t 31), (.t 32)]) []]
@[go_sem] def s141_9 (_ : Unit) : IR := (sQ [(kT l141_8), .ret])
@[go_sem] def s141_10 (_ : Unit) : IR := (sQ [(kT l141_7), (.cond (.t 29) (tH s141_9) .skip)])
@[go_sem] def l141_11 (_ : Unit) : KL := [kA 34 (.mv (.t 8)),
  kB 35 (.un .not (.t 34)) [0, 1, 2, 3, 8, 9, 10, 35]]
@[go_sem] def l141_12 (_ : Unit) : KL := [kA 36 (.mv (.t 0)),
  kA 37 (.mv (.t 1)),
  kA 38 (.mv (.t 2)),
  kB 39 (.call (n_slices_breakPatternsOrdered_int) [(.t 36), (.t 37), (.t 38)]) [0, 1, 2, 3, 8, 9, 10]]
@[go_sem] def l141_13 (_ : Unit) : KL := [kA 40 (.mv (.t 3)),
  kA 41 (.bin .sub (.t 40) (cI 1)),
  kB 3 (.mv (.t 41)) [0, 1, 2, 3, 8, 9, 10]]
@[go_sem] def s141_14 (_ : Unit) : IR := (sQ [(kT l141_12), (kT l141_13)])
@[go_sem] def s141_15 (_ : Unit) : IR := (sQ [(kT l141_11), (.cond (.t 35) (tH s141_14) .skip)])
@[go_sem] def l141_16 (_ : Unit) : KL := [kA 43 (.mv (.t 0)),
  kA 44 (.mv (.t 1)),
  kA 45 (.mv (.t 2)),
  kA 46 (.call (n_slices_choosePivotOrdered_int) [(.t 43), (.t 44), (.t 45)]),
  kB 42 (.mv (.t 46)) [0, 1, 2, 3, 8, 9, 10, 42],
  kA 47 (.ext (.t 42) 0),
  kA 48 (.ext (.t 42) 1),
  kA 11 (.mv (.t 47)),
  kB 12 (.mv (.t 48)) [0, 1, 2, 3, 8, 9, 10, 11, 12]]
@[go_sem] def l141_17 (_ : Unit) : KL := [kA 49 (.mv (.t 12)),
  kB 50 (.bin .eql (.t 49) (.c (.int .i64 2))) [0, 1, 2, 3, 8, 9, 10, 11, 12, 50]]
@[go_sem] def l141_18 (_ : Unit) : KL := [kA 51 (.mv (.t 0)),
  kA 52 (.mv (.t 1)),
  kA 53 (.mv (.t 2)),
  kB 54 (.call (n_slices_reverseRangeOrdered_int) [(.t 51), (.t 52), (.t 53)]) [0, 1, 2, 3, 8, 9, 10, 11]]
@[go_sem] def l141_19 (_ : Unit) : KL := [kA 55 (.mv (.t 2)),
  kA 56 (.bin .sub (.t 55) (cI 1)),
  kA 57 (.mv (.t 11)),
  kA 58 (.mv (.t 1)),
  kB 59 (.bin .sub (.t 57) (.t 58)) [0, 1, 2, 3, 8, 9, 10, 56, 59],
  kA 60 (.bin .sub (.t 56) (.t 59)),
  kB 11 (.mv (.t 60)) [0, 1, 2, 3, 8, 9, 10, 11]]
@[go_sem] def l141_20 (_ : Unit) : KL := [kB 12 (.mv (cI 1)) [0, 1, 2, 3, 8, 9, 10, 11, 12]]
@[go_sem] def s141_21 (_ : Unit) : IR := (sQ [(kT l141_18), (kT l141_19), (kT l141_20)])
@[go_sem] def s141_22 (_ : Unit) : IR := (sQ [(kT l141_17), (.cond (.t 50) (tH s141_21) .skip)])
@[go_sem] def l141_23 (_ : Unit) : KL := [kA 61 (.mv (.t 8)),
  kA 62 (.mv (.t 61)),
  (⟨(some 63), .mv (.t 9), (some (62, true))⟩, none),
  kA 64 (.pick (.t 62) (.t 63) (.c (.bool false))),
  kB 65 (.mv (.t 64)) [0, 1, 2, 3, 8, 9, 10, 11, 12, 65],
  (⟨(some 66), .mv (.t 12), (some (65, true))⟩, none),
  (⟨(some 67), .bin .eql (.t 66) (cI 1), (some (65, true))⟩, none),
  kB 68 (.pick (.t 65) (.t 67) (.c (.bool false))) [0, 1, 2, 3, 8, 9, 10, 11, 68]]
@[go_sem] def l141_24 (_ : Unit) : KL := [kA 69 (.mv (.t 0)),
  kA 70 (.mv (.t 1)),
  kA 71 (.mv (.t 2)),
  kB 72 (.call (n_slices_partialInsertionSortOrdered_int) [(.t 69), (.t 70), (.t 71)]) [0, 1, 2, 3, 8, 9, 10, 11, 72]]
@[go_sem] def s141_25 (_ : Unit) : IR := (sQ [(kT l141_24), (.cond (.t 72) .ret .skip)])
@[go_sem] def s141_26 (_ : Unit) : IR := (sQ [(kT l141_23), (.cond (.t 68) (tH s141_25) .skip)])
@[go_sem] def l141_27 : Nat → GOp
  | 0 => ⟨(some 73), .mv (.t 1), none⟩
  | 1 => ⟨(some 74), .bin .gtr (.t 73) (cI 0), none⟩
  | 2 => ⟨(some 75), .mv (.t 74), none⟩
  | 3 => ⟨(some 76), .mv (.t 0), (some (75, true))⟩
  | 4 => ⟨(some 77), .mv (.t 1), (some (75, true))⟩
  | 5 => ⟨(some 78), .bin .sub (.t 77) (cI 1), (some (75, true))⟩
  | 6 => ⟨(some 79), .iaddr (.t 76) (.t 78) 1, (some (75, true))⟩
  | 7 => ⟨(some 80), .load (.t 79) 1 false, (some (75, true))⟩
  | 8 => ⟨(some 81), .mv (.t 0), (some (75, true))⟩
  | 9 => ⟨(some 82), .mv (.t 11), (some (75, true))⟩
  | 10 => ⟨(some 83), .iaddr (.t 81) (.t 82) 1, (some (75, true))⟩
  | 11 => ⟨(some 84), .load (.t 83) 1 false, (some (75, true))⟩
  | 12 => ⟨(some 85), .call (n_cmp_Less_int) [(.t 80), (.t 84)], (some (75, true))⟩
  | 13 => ⟨(some 86), .un .not (.t 85), (some (75, true))⟩
  | 14 => ⟨(some 87), .pick (.t 75) (.t 86) (.c (.bool false)), none⟩
  | _ => ⟨none, .mkmap, none⟩
@[go_sem] def l141_28 (_ : Unit) : KL := [kA 88 (.mv (.t 0)),
  kA 89 (.mv (.t 1)),
  kA 90 (.mv (.t 2)),
  kA 91 (.mv (.t 11)),
  kB 92 (.call (n_slices_partitionEqualOrdered_int) [(.t 88), (.t 89), (.t 90), (.t 91)]) [0, 2, 3, 8, 9, 92],
  kB 13 (.mv (.t 92)) [0, 2, 3, 8, 9, 13]]
@[go_sem] def l141_29 (_ : Unit) : KL := [kA 93 (.mv (.t 13)),
  kB 1 (.mv (.t 93)) [0, 1, 2, 3, 8, 9]]
@[go_sem] def s141_30 (_ : Unit) : IR := (sQ [(kT l141_28), (kT l141_29), (.exit 1)])
@[go_sem] def s141_31 (_ : Unit) : IR := (sQ [(.kd (oF l141_27 15) [(0, []), (1, []), (2, []), (3, []), (4, []), (5, []), (6, []), (7, []), (8, []), (9, []), (10, []), (11, []), (12, []), (13, []), (14, [])] [0, 1, 2, 3, 8, 9, 10, 11, 87]), (.cond (.t 87) (tH s141_30) .skip)])
@[go_sem] def l141_32 (_ : Unit) : KL := [kA 95 (.mv (.t 0)),
  kA 96 (.mv (.t 1)),
  kA 97 (.mv (.t 2)),
  kA 98 (.mv (.t 11)),
  kB 99 (.call (n_slices_partitionOrdered_int) [(.t 95), (.t 96), (.t 97), (.t 98)]) [0, 1, 2, 3, 10, 99],
  kA 94 (.mv (.t 99)),
  kA 100 (.ext (.t 94) 0),
  kA 101 (.ext (.t 94) 1),
  kA 14 (.mv (.t 100)),
  kB 15 (.mv (.t 101)) [0, 1, 2, 3, 10, 14, 15]]
@[go_sem] def l141_33 (_ : Unit) : KL := [kA 102 (.mv (.t 15)),
  kB 9 (.mv (.t 102)) [0, 1, 2, 3, 9, 10, 14]]
@[go_sem] def l141_34 (_ : Unit) : KL := [kA 103 (.mv (.t 14)),
  kA 104 (.mv (.t 1)),
  kA 105 (.bin .sub (.t 103) (.t 104)),
  kA 106 (.mv (.t 2)),
  kB 107 (.mv (.t 14)) [0, 1, 2, 3, 9, 10, 14, 105, 106, 107],
  kA 108 (.bin .sub (.t 106) (.t 107)),
  kA 16 (.mv (.t 105)),
  kB 17 (.mv (.t 108)) [0, 1, 2, 3, 9, 10, 14, 16, 17]]
@[go_sem] def l141_35 (_ : Unit) : KL := [kA 109 (.mv (.t 10)),
  kA 110 (.bin .quo (.t 109) (.c (.int .i64 8))),
  kB 18 (.mv (.t 110)) [0, 1, 2, 3, 9, 14, 16, 17, 18]]
@[go_sem] def l141_36 (_ : Unit) : KL := [kA 111 (.mv (.t 16)),
  kA 112 (.mv (.t 17)),
  kB 113 (.bin .lss (.t 111) (.t 112)) [0, 1, 2, 3, 9, 14, 16, 17, 18, 113]]
@[go_sem] def l141_37 (_ : Unit) : KL := [kA 114 (.mv (.t 16)),
  kA 115 (.mv (.t 18)),
  kA 116 (.bin .geq (.t 114) (.t 115)),
  kB 8 (.mv (.t 116)) [0, 1, 2, 3, 8, 9, 14]]
@[go_sem] def l141_38 (_ : Unit) : KL := [kA 117 (.mv (.t 0)),
  kA 118 (.mv (.t 1)),
  kA 119 (.mv (.t 14)),
  kA 120 (.mv (.t 3)),
  kB 121 (.call (n_slices_pdqsortOrdered_int) [(.t 117), (.t 118), (.t 119), (.t 120)]) [0, 2, 3, 8, 9, 14]]
@[go_sem] def l141_39 (_ : Unit) : KL := [kA 122 (.mv (.t 14)),
  kA 123 (.bin .add (.t 122) (cI 1)),
  kB 1 (.mv (.t 123)) [0, 1, 2, 3, 8, 9]]
@[go_sem] def s141_40 (_ : Unit) : IR := (sQ [(kT l141_37), (kT l141_38), (kT l141_39)])
@[go_sem] def l141_41 (_ : Unit) : KL := [kA 124 (.mv (.t 17)),
  kA 125 (.mv (.t 18)),
  kA 126 (.bin .geq (.t 124) (.t 125)),
  kB 8 (.mv (.t 126)) [0, 1, 2, 3, 8, 9, 14]]
@[go_sem] def l141_42 (_ : Unit) : KL := [kA 127 (.mv (.t 0)),
  kA 128 (.mv (.t 14)),
  kA 129 (.bin .add (.t 128) (cI 1)),
  kA 130 (.mv (.t 2)),
  kB 131 (.mv (.t 3)) [0, 1, 3, 8, 9, 14, 127, 129, 130, 131],
  kB 132 (.call (n_slices_pdqsortOrdered_int) [(.t 127), (.t 129), (.t 130), (.t 131)]) [0, 1, 3, 8, 9, 14]]
@[go_sem] def l141_43 (_ : Unit) : KL := [kA 133 (.mv (.t 14)),
  kB 2 (.mv (.t 133)) [0, 1, 2, 3, 8, 9]]
@[go_sem] def s141_44 (_ : Unit) : IR := (sQ [(kT l141_41), (kT l141_42), (kT l141_43)])
@[go_sem] def s141_45 (_ : Unit) : IR := (sQ [(kT l141_2), (tH s141_6), (tH s141_10), (tH s141_15), (kT l141_16), (tH s141_22), (tH s141_26), (tH s141_31), (kT l141_32), (kT l141_33), (kT l141_34), (kT l141_35), (kT l141_36), (.cond (.t 113) (tH s141_40) (tH s141_44))])
@[go_sem] def s141_46 (_ : Unit) : IR := (.block 1 (tH s141_45))
@[go_sem] def s141_47 (_ : Unit) : IR := (.loop (tH s141_46))
@[go_sem] def s141_48 (_ : Unit) : IR := (.block 0 (tH s141_47))
@[go_sem] def s141_49 (_ : Unit) : IR := (sQ [(kT l141_0), (kT l141_1), (tH s141_48)])
@[go_sem] def l113_0 (_ : Unit) : KL := [kA 3 (.mv (.t 0)),
  kA 4 (.len (.t 3)),
  kB 2 (.mv (.t 4)) [0, 2]]
@[go_sem] def l113_1 (_ : Unit) : KL := [kA 5 (.mv (.t 0)),
  kA 6 (.mv (.t 2)),
  kA 7 (.mv (.t 2)),
  kA 8 (.cvi .u64 (.t 7)),
  kB 9 (.call (n_math_bits_Len) [(.t 8)]) [5, 6, 9],
  kB 10 (.call (n_slices_pdqsortOrdered_int) [(.t 5), (cI 0), (.t 6), (.t 9)]) []]
@[go_sem] def s113_2 (_ : Unit) : IR := (sQ [(kT l113_0), (kT l113_1)])
@[go_sem] def l114_0 (_ : Unit) : KL := [kB 2 (.mv (.c (.sl none 0 0 true 0))) [0]]
@[go_sem] def l114_1 (_ : Unit) : KL := [kA 6 (.mv (.t 0)),
  kA 7 (.len (.t 6)),
  kB 8 (.bin .lss (.t 7) (.c (.int .i64 2))) [0, 8]]
@[go_sem] def l114_2 (_ : Unit) : KL := [kA 9 (.mv (.t 0)),
  kB 2 (.mv (.t 9)) [2]]
@[go_sem] def s114_3 (_ : Unit) : IR := (sQ [(kT l114_2), .ret])
@[go_sem] def s114_4 (_ : Unit) : IR := (sQ [(kT l114_1), (.cond (.t 8) (tH s114_3) .skip)])
@[go_sem] def l114_5 (_ : Unit) : KL := [kB 3 (.mv (cI 1)) [0, 3]]
@[go_sem] def l114_6 (_ : Unit) : KL := [kA 10 (.mv (.t 3)),
  kA 11 (.mv (.t 0)),
  kA 12 (.len (.t 11)),
  kB 13 (.bin .lss (.t 10) (.t 12)) [0, 3, 13]]
@[go_sem] def s114_7 (_ : Unit) : IR := (sQ [(kT l114_6), (.cond (.t 13) .skip (.exit 0))])
@[go_sem] def l114_8 : Nat → GOp
  | 0 => ⟨(some 16), .mv (.t 0), none⟩
  | 1 => ⟨(some 17), .mv (.t 3), none⟩
  | 2 => ⟨(some 18), .iaddr (.t 16) (.t 17) 1, none⟩
  | 3 => ⟨(some 19), .load (.t 18) 1 false, none⟩
  | 4 => ⟨(some 20), .mv (.t 0), none⟩
  | 5 => ⟨(some 21), .mv (.t 3), none⟩
  | 6 => ⟨(some 22), .bin .sub (.t 21) (cI 1), none⟩
  | 7 => ⟨(some 23), .iaddr (.t 20) (.t 22) 1, none⟩
  | 8 => ⟨(some 24), .load (.t 23) 1 false, none⟩
  | 9 => ⟨(some 25), .bin .eql (.t 19) (.t 24), none⟩
  | _ => ⟨none, .mkmap, none⟩
@[go_sem] def l114_9 (_ : Unit) : KL := [kA 26 (.mv (.t 0)),
  kA 27 (.mv (.t 3)),
  kA 28 (.slc 1 (.t 26) (some (.t 27)) none none),
  kB 4 (.mv (.t 28)) [0, 3, 4]]
@[go_sem] def l114_10 (_ : Unit) : KL := [kB 5 (.mv (cI 1)) [0, 3, 4, 5]]
@[go_sem] def l114_11 (_ : Unit) : KL := [kA 29 (.mv (.t 5)),
  kA 30 (.mv (.t 4)),
  kA 31 (.len (.t 30)),
  kB 32 (.bin .lss (.t 29) (.t 31)) [0, 3, 4, 5, 32]]
@[go_sem] def s114_12 (_ : Unit) : IR := (sQ [(kT l114_11), (.cond (.t 32) .skip (.exit 2))])
@[go_sem] def l114_13 : Nat → GOp
  | 0 => ⟨(some 35), .mv (.t 4), none⟩
  | 1 => ⟨(some 36), .mv (.t 5), none⟩
  | 2 => ⟨(some 37), .iaddr (.t 35) (.t 36) 1, none⟩
  | 3 => ⟨(some 38), .load (.t 37) 1 false, none⟩
  | 4 => ⟨(some 39), .mv (.t 4), none⟩
  | 5 => ⟨(some 40), .mv (.t 5), none⟩
  | 6 => ⟨(some 41), .bin .sub (.t 40) (cI 1), none⟩
  | 7 => ⟨(some 42), .iaddr (.t 39) (.t 41) 1, none⟩
  | 8 => ⟨(some 43), .load (.t 42) 1 false, none⟩
  | 9 => ⟨(some 44), .bin .neq (.t 38) (.t 43), none⟩
  | _ => ⟨none, .mkmap, none⟩
@[go_sem] def l114_14 (_ : Unit) : KL := [kA 45 (.mv (.t 0)),
  kA 46 (.mv (.t 3)),
  kA 47 (.mv (.t 4)),
  kA 48 (.mv (.t 5)),
  kB 49 (.iaddr (.t 47) (.t 48) 1) [0, 3, 4, 5, 45, 46, 49],
  kA 50 (.load (.t 49) 1 false),
  kA 51 (.iaddr (.t 45) (.t 46) 1),
  (⟨none, .store (.t 51) 1 (.t 50), none⟩, (some [0, 3, 4, 5]))]
@[go_sem] def l114_15 (_ : Unit) : KL := [kA 52 (.mv (.t 3)),
  kA 53 (.bin .add (.t 52) (cI 1)),
  kB 3 (.mv (.t 53)) [0, 3, 4, 5]]
@[go_sem] def s114_16 (_ : Unit) : IR := (sQ [(kT l114_14), (kT l114_15)])
@[go_sem] def s114_17 (_ : Unit) : IR := (sQ [(.kd (oF l114_13 10) [(0, []), (1, []), (2, []), (3, []), (4, []), (5, []), (6, []), (7, []), (8, []), (9, [])] [0, 3, 4, 5, 44]), (.cond (.t 44) (tH s114_16) .skip)])
@[go_sem] def s114_18 (_ : Unit) : IR := (.block 3 (tH s114_17))
@[go_sem] def l114_19 (_ : Unit) : KL := [kA 33 (.mv (.t 5)),
  kA 34 (.bin .add (.t 33) (cI 1)),
  kB 5 (.mv (.t 34)) [0, 3, 4, 5]]
@[go_sem] def s114_20 (_ : Unit) : IR := (sQ [(tH s114_12), (tH s114_18), (kT l114_19)])
@[go_sem] def s114_21 (_ : Unit) : IR := (.loop (tH s114_20))
@[go_sem] def s114_22 (_ : Unit) : IR := (.block 2 (tH s114_21))
@[go_sem] def s114_23 (_ : Unit) : IR := (sQ [(kT l114_10), (tH s114_22)])
@[go_sem] def l114_24 (_ : Unit) : KL := [kA 54 (.mv (.t 0)),
  kA 55 (.mv (.t 3)),
  kA 56 (.slc 1 (.t 54) (some (.t 55)) none none),
  (⟨none, .clear [(.int .i64 0)] (.t 56), none⟩, (some [0, 3]))]
@[go_sem] def l114_25 (_ : Unit) : KL := [kA 57 (.mv (.t 0)),
  kA 58 (.mv (.t 3)),
  kA 59 (.slc 1 (.t 57) none (some (.t 58)) none),
  kB 2 (.mv (.t 59)) [2]]
@[go_sem] def s114_26 (_ : Unit) : IR := (sQ [(kT l114_9), (tH s114_23), (kT l114_24), (kT l114_25), .ret])
@[go_sem] def s114_27 (_ : Unit) : IR := (sQ [(.kd (oF l114_8 10) [(0, []), (1, []), (2, []), (3, []), (4, []), (5, []), (6, []), (7, []), (8, []), (9, [])] [0, 3, 25]), (.cond (.t 25) (tH s114_26) .skip)])
@[go_sem] def s114_28 (_ : Unit) : IR := (.block 1 (tH s114_27))
@[go_sem] def l114_29 (_ : Unit) : KL := [kA 14 (.mv (.t 3)),
  kA 15 (.bin .add (.t 14) (cI 1)),
  kB 3 (.mv (.t 15)) [0, 3]]
@[go_sem] def s114_30 (_ : Unit) : IR := (sQ [(tH s114_7), (tH s114_28), (kT l114_29)])
@[go_sem] def s114_31 (_ : Unit) : IR := (.loop (tH s114_30))
@[go_sem] def s114_32 (_ : Unit) : IR := (.block 0 (tH s114_31))
@[go_sem] def s114_33 (_ : Unit) : IR := (sQ [(kT l114_5), (tH s114_32)])
@[go_sem] def l114_34 (_ : Unit) : KL := [kA 60 (.mv (.t 0)),
  kB 2 (.mv (.t 60)) [2]]
@[go_sem] def s114_35 (_ : Unit) : IR := (sQ [(kT l114_0), (tH s114_4), (tH s114_33), (kT l114_34), .ret])
theorem c114 : compFn Try.prog [(0, [], [oS [0]]), (1, [], [oN, oN, oS [0, 8]]), (2, [], [oN, oS [2]]), (3, [], [oS [0, 3]]), (4, [], [oN, oN, oN, oS [0, 3, 13]]), (6, [(0, []), (1, []), (2, []), (3, []), (4, []), (5, []), (6, []), (7, []), (8, []), (9, [])], [oS [0, 3, 25]]), (7, [], [oN, oN, oN, oS [0, 3, 4]]), (8, [], [oS [0, 3, 4, 5]]), (9, [], [oN, oN, oN, oS [0, 3, 4, 5, 32]]), (11, [(0, []), (1, []), (2, []), (3, []), (4, []), (5, []), (6, []), (7, []), (8, []), (9, [])], [oS [0, 3, 4, 5, 44]]), (12, [], [oN, oN, oN, oN, oS [0, 3, 4, 5, 45, 46, 49], oN, oN, oS [0, 3, 4, 5]]), (13, [], [oN, oN, oS [0, 3, 4, 5]]), (10, [], [oN, oN, oS [0, 3, 4, 5]]), (14, [], [oN, oN, oN, oS [0, 3]]), (15, [], [oN, oN, oN, oS [2]]), (5, [], [oN, oN, oS [0, 3]]), (16, [], [oN, oS [2]])] Try.f114 = some ⟨1, 61, [.t 2], (tH s114_35)⟩ := by kernel_rfl
theorem v_slices_Compact_Sint_int (hl : vs.length = 1) (h : wpV Try.prog (tH s114_35) (postV [.t 2] RV) (envV vs) M) : VCall Try.prog n_slices_Compact_Sint_int vs M RV :=
  vcall_of_wp (fun _ _ _ hl h => acall_of_wp mixed Try.func114 c114 (by kernel_rfl) hl h) hl h
@[go_sem] def l71_0 (_ : Unit) : KL := [kA 2 (.box (.t 0)),
  kB 4 (.mv (.c (.sl none 0 0 true 0))) [1, 2]]
@[go_sem] def l71_1 (_ : Unit) : KL := [kA 9 (.faddr (.t 2) 1),
  kA 10 (.load (.t 9) 1 false),
  kA 11 (.mv (.t 1)),
  kA 12 (.iaddr (.t 10) (.t 11) 3),
  kB 13 (.load (.t 12) 3 true) [2, 13],
  kA 5 (.alloc [(.sl none 0 0 true 0), (.sl none 0 0 true 0), (.sl none 0 0 true 0)]),
  (⟨none, .store (.t 5) 3 (.t 13), none⟩, (some [2, 5]))]
@[go_sem] def l71_2 (_ : Unit) : KL := [kA 14 (.faddr (.t 5) 0),
  kA 15 (.load (.t 14) 1 false),
  kA 16 (.faddr (.t 2) 0),
  kA 17 (.load (.t 16) 1 false),
  kB 18 (.len (.t 17)) [2, 5, 15, 18],
  kA 19 (.call (n_impl_usedBy) [(.t 15), (.t 18)]),
  kB 6 (.mv (.t 19)) [2, 5, 6]]
@[go_sem] def l71_3 (_ : Unit) : KL := [kA 20 (.faddr (.t 5) 2),
  kA 21 (.load (.t 20) 1 false),
  kA 22 (.len (.t 21)),
  kB 23 (.mv (cI 0)) [2, 6, 21, 22, 23]]
@[go_sem] def l71_4 (_ : Unit) : KL := [kB 24 (.bin .lss (.t 23) (.t 22)) [2, 6, 21, 22, 23, 24]]
@[go_sem] def l71_5 (_ : Unit) : KL := [kA 25 (.iaddr (.t 21) (.t 23) 1),
  kA 26 (.load (.t 25) 1 false),
  kB 8 (.mv (.t 26)) [2, 6, 8, 21, 22, 23]]
@[go_sem] def l71_6 (_ : Unit) : KL := [kA 27 (.mv (.t 6)),
  kA 28 (.mv (.t 8)),
  kA 29 (.faddr (.t 2) 0),
  kA 30 (.load (.t 29) 1 false),
  kB 31 (.len (.t 30)) [2, 21, 22, 23, 27, 28, 31],
  kA 32 (.call (n_impl_usedBy) [(.t 28), (.t 31)]),
  kA 33 (.app 1 8 (.t 27) (.t 32)),
  kB 6 (.mv (.t 33)) [2, 6, 21, 22, 23]]
@[go_sem] def s71_7 (_ : Unit) : IR := (sQ [(kT l71_5), (kT l71_6)])
@[go_sem] def s71_8 (_ : Unit) : IR := (.block 1 (tH s71_7))
@[go_sem] def l71_9 (_ : Unit) : KL := [kA 34 (.bin .add (.t 23) (cI 1)),
  kB 23 (.mv (.t 34)) [2, 6, 21, 22, 23]]
@[go_sem] def s71_10 (_ : Unit) : IR := (sQ [(kT l71_4), (.cond (.t 24) .skip (.exit 0)), (tH s71_8), (kT l71_9)])
@[go_sem] def s71_11 (_ : Unit) : IR := (.loop (tH s71_10))
@[go_sem] def s71_12 (_ : Unit) : IR := (.block 0 (tH s71_11))
@[go_sem] def s71_13 (_ : Unit) : IR := (sQ [(kT l71_3), (tH s71_12)])
@[go_sem] def l71_14 (_ : Unit) : KL := [kA 35 (.mv (.t 6)),
  kB 36 (.call (n_slices_Sort_Sint_int) [(.t 35)]) [6]]
@[go_sem] def l71_15 (_ : Unit) : KL := [kA 37 (.mv (.t 6)),
  kA 38 (.call (n_slices_Compact_Sint_int) [(.t 37)]),
  kA 39 (.call (n_impl_clone_int) [(.t 38)]),
  kB 4 (.mv (.t 39)) [4]]
@[go_sem] def s71_16 (_ : Unit) : IR := (sQ [(kT l71_0), (kT l71_1), (kT l71_2), (tH s71_13), (kT l71_14), (kT l71_15), .ret])
theorem c71 : compFn Try.prog [(0, [], [oN, oS [1, 2]]), (1, [], [oN, oN, oN, oN, oS [2, 13], oN, oS [2, 5]]), (2, [], [oN, oN, oN, oN, oS [2, 5, 15, 18], oN, oS [2, 5, 6]]), (3, [], [oN, oN, oN, oS [2, 6, 21, 22, 23]]), (4, [], [oS [2, 6, 21, 22, 23, 24]]), (5, [], [oN, oN, oS [2, 6, 8, 21, 22, 23]]), (6, [], [oN, oN, oN, oN, oS [2, 21, 22, 23, 27, 28, 31], oN, oN, oS [2, 6, 21, 22, 23]]), (7, [], [oN, oS [2, 6, 21, 22, 23]]), (8, [], [oN, oS [6]]), (9, [], [oN, oN, oN, oS [4]])] Try.f71 = some ⟨2, 40, [.t 4], (tH s71_16)⟩ := by kernel_rfl
theorem v_impl_touchedBy (hl : vs.length = 2) (h : wpV Try.prog (tH s71_16) (postV [.t 4] RV) (envV vs) M) : VCall Try.prog n_impl_touchedBy vs M RV :=
  vcall_of_wp (fun _ _ _ hl h => acall_of_wp mixed Try.func71 c71 (by kernel_rfl) hl h) hl h
@[go_sem] def l151_0 (_ : Unit) : KL := [kB 4 (.mv (cI 0)) [0, 1]]
@[go_sem] def l151_1 (_ : Unit) : KL := [kA 6 (.mv (.t 0)),
  kA 7 (.len (.t 6)),
  kB 8 (.mv (cI 0)) [0, 1, 7, 8]]
@[go_sem] def l151_2 (_ : Unit) : KL := [kB 9 (.bin .lss (.t 8) (.t 7)) [0, 1, 7, 8, 9]]
@[go_sem] def l151_3 (_ : Unit) : KL := [kA 10 (.mv (.t 8)),
  kB 5 (.mv (.t 10)) [0, 1, 5, 7, 8]]
@[go_sem] def l151_4 (_ : Unit) : KL := [kA 11 (.mv (.t 1)),
  kA 12 (.mv (.t 0)),
  kA 13 (.mv (.t 5)),
  kA 14 (.iaddr (.t 12) (.t 13) 1),
  kB 15 (.load (.t 14) 1 false) [0, 1, 5, 7, 8, 11, 15],
  kB 16 (.bin .eql (.t 11) (.t 15)) [0, 1, 5, 7, 8, 16]]
@[go_sem] def l151_5 (_ : Unit) : KL := [kA 17 (.mv (.t 5)),
  kB 4 (.mv (.t 17)) [4]]
@[go_sem] def s151_6 (_ : Unit) : IR := (sQ [(kT l151_5), .ret])
@[go_sem] def s151_7 (_ : Unit) : IR := (sQ [(kT l151_3), (kT l151_4), (.cond (.t 16) (tH s151_6) .skip)])
@[go_sem] def s151_8 (_ : Unit) : IR := (.block 1 (tH s151_7))
@[go_sem] def l151_9 (_ : Unit) : KL := [kA 18 (.bin .add (.t 8) (cI 1)),
  kB 8 (.mv (.t 18)) [0, 1, 7, 8]]
@[go_sem] def s151_10 (_ : Unit) : IR := (sQ [(kT l151_2), (.cond (.t 9) .skip (.exit 0)), (tH s151_8), (kT l151_9)])
@[go_sem] def s151_11 (_ : Unit) : IR := (.loop (tH s151_10))
@[go_sem] def s151_12 (_ : Unit) : IR := (.block 0 (tH s151_11))
@[go_sem] def s151_13 (_ : Unit) : IR := (sQ [(kT l151_1), (tH s151_12)])
@[go_sem] def l151_14 (_ : Unit) : KL := [kB 4 (.mv (.c (.int .i64 (-1)))) [4]]
@[go_sem] def s151_15 (_ : Unit) : IR := (sQ [(kT l151_0), (tH s151_13), (kT l151_14), .ret])
theorem c151 : compFn Try.prog [(0, [], [oS [0, 1]]), (1, [], [oN, oN, oS [0, 1, 7, 8]]), (2, [], [oS [0, 1, 7, 8, 9]]), (3, [], [oN, oS [0, 1, 5, 7, 8]]), (4, [], [oN, oN, oN, oN, oS [0, 1, 5, 7, 8, 11, 15], oS [0, 1, 5, 7, 8, 16]]), (5, [], [oN, oS [4]]), (6, [], [oN, oS [0, 1, 7, 8]]), (7, [], [oS [4]])] Try.f151 = some ⟨2, 19, [.t 4], (tH s151_15)⟩ := by kernel_rfl
theorem v_slices_Index_Sint_int (hl : vs.length = 2) (h : wpV Try.prog (tH s151_15) (postV [.t 4] RV) (envV vs) M) : VCall Try.prog n_slices_Index_Sint_int vs M RV :=
  vcall_of_wp (fun _ _ _ hl h => acall_of_wp mixed Try.func151 c151 (by kernel_rfl) hl h) hl h
@[go_sem] def l139_0 (_ : Unit) : KL := [kB 4 (.mv (.c (.bool false))) [0, 1]]
@[go_sem] def l139_1 (_ : Unit) : KL := [kA 5 (.mv (.t 0)),
  kA 6 (.mv (.t 1)),
  kA 7 (.call (n_slices_Index_Sint_int) [(.t 5), (.t 6)]),
  kA 8 (.bin .geq (.t 7) (cI 0)),
  kB 4 (.mv (.t 8)) [4]]
@[go_sem] def s139_2 (_ : Unit) : IR := (sQ [(kT l139_0), (kT l139_1), .ret])
theorem c139 : compFn Try.prog [(0, [], [oS [0, 1]]), (1, [], [oN, oN, oN, oN, oS [4]])] Try.f139 = some ⟨2, 9, [.t 4], (tH s139_2)⟩ := by kernel_rfl
theorem v_slices_Contains_Sint_int (hl : vs.length = 2) (h : wpV Try.prog (tH s139_2) (postV [.t 4] RV) (envV vs) M) : VCall Try.prog n_slices_Contains_Sint_int vs M RV :=
  vcall_of_wp (fun _ _ _ hl h => acall_of_wp mixed Try.func139 c139 (by kernel_rfl) hl h) hl h
@[go_sem] def l138_0 (_ : Unit) : KL := [kB 3 (.mv (.c (.bool false))) [0, 1]]
@[go_sem] def l138_1 (_ : Unit) : KL := [kA 4 (.load (.t 1) 1 false),
  kA 5 (.mv (.t 0)),
  kA 6 (.call (n_slices_Contains_Sint_int) [(.t 4), (.t 5)]),
  kB 3 (.mv (.t 6)) [3]]
@[go_sem] def s138_2 (_ : Unit) : IR := (sQ [(kT l138_0), (kT l138_1), .ret])
theorem c138 : compFn Try.prog [(0, [], [oS [0, 1]]), (1, [], [oN, oN, oN, oS [3]])] Try.f138 = some ⟨2, 7, [.t 3], (tH s138_2)⟩ := by kernel_rfl
theorem v_impl_meets_1 (hl : vs.length = 2) (h : wpV Try.prog (tH s138_2) (postV [.t 3] RV) (envV vs) M) : VCall Try.prog n_impl_meets_1 vs M RV :=
  vcall_of_wp (fun _ _ _ hl h => acall_of_wp mixed Try.func138 c138 (by kernel_rfl) hl h) hl h
@[go_sem] def l150_0 (_ : Unit) : KL := [kB 4 (.mv (cI 0)) [0, 1]]
@[go_sem] def l150_1 (_ : Unit) : KL := [kA 6 (.mv (.t 0)),
  kA 7 (.len (.t 6)),
  kB 8 (.mv (cI 0)) [0, 1, 7, 8]]
@[go_sem] def l150_2 (_ : Unit) : KL := [kB 9 (.bin .lss (.t 8) (.t 7)) [0, 1, 7, 8, 9]]
@[go_sem] def l150_3 (_ : Unit) : KL := [kA 10 (.mv (.t 8)),
  kB 5 (.mv (.t 10)) [0, 1, 5, 7, 8]]
@[go_sem] def l150_4 (_ : Unit) : KL := [kA 11 (.mv (.t 1)),
  kA 12 (.mv (.t 0)),
  kA 13 (.mv (.t 5)),
  kA 14 (.iaddr (.t 12) (.t 13) 1),
  kB 15 (.load (.t 14) 1 false) [0, 1, 5, 7, 8, 11, 15],
  kB 16 (.callv (.t 11) [(.t 15)]) [0, 1, 5, 7, 8, 16]]
@[go_sem] def l150_5 (_ : Unit) : KL := [kA 17 (.mv (.t 5)),
  kB 4 (.mv (.t 17)) [4]]
@[go_sem] def s150_6 (_ : Unit) : IR := (sQ [(kT l150_5), .ret])
@[go_sem] def s150_7 (_ : Unit) : IR := (sQ [(kT l150_3), (kT l150_4), (.cond (.t 16) (tH s150_6) .skip)])
@[go_sem] def s150_8 (_ : Unit) : IR := (.block 1 (tH s150_7))
@[go_sem] def l150_9 (_ : Unit) : KL := [kA 18 (.bin .add (.t 8) (cI 1)),
  kB 8 (.mv (.t 18)) [0, 1, 7, 8]]
@[go_sem] def s150_10 (_ : Unit) : IR := (sQ [(kT l150_2), (.cond (.t 9) .skip (.exit 0)), (tH s150_8), (kT l150_9)])
@[go_sem] def s150_11 (_ : Unit) : IR := (.loop (tH s150_10))
@[go_sem] def s150_12 (_ : Unit) : IR := (.block 0 (tH s150_11))
@[go_sem] def s150_13 (_ : Unit) : IR := (sQ [(kT l150_1), (tH s150_12)])
@[go_sem] def l150_14 (_ : Unit) : KL := [kB 4 (.mv (.c (.int .i64 (-1)))) [4]]
@[go_sem] def s150_15 (_ : Unit) : IR := (sQ [(kT l150_0), (tH s150_13), (kT l150_14), .ret])
theorem c150 : compFn Try.prog [(0, [], [oS [0, 1]]), (1, [], [oN, oN, oS [0, 1, 7, 8]]), (2, [], [oS [0, 1, 7, 8, 9]]), (3, [], [oN, oS [0, 1, 5, 7, 8]]), (4, [], [oN, oN, oN, oN, oS [0, 1, 5, 7, 8, 11, 15], oS [0, 1, 5, 7, 8, 16]]), (5, [], [oN, oS [4]]), (6, [], [oN, oS [0, 1, 7, 8]]), (7, [], [oS [4]])] Try.f150 = some ⟨2, 19, [.t 4], (tH s150_15)⟩ := by kernel_rfl
theorem v_slices_IndexFunc_Sint_int (hl : vs.length = 2) (h : wpV Try.prog (tH s150_15) (postV [.t 4] RV) (envV vs) M) : VCall Try.prog n_slices_IndexFunc_Sint_int vs M RV :=
  vcall_of_wp (fun _ _ _ hl h => acall_of_wp mixed Try.func150 c150 (by kernel_rfl) hl h) hl h
@[go_sem] def l137_0 (_ : Unit) : KL := [kB 4 (.mv (.c (.bool false))) [0, 1]]
@[go_sem] def l137_1 (_ : Unit) : KL := [kA 5 (.mv (.t 0)),
  kA 6 (.mv (.t 1)),
  kA 7 (.call (n_slices_IndexFunc_Sint_int) [(.t 5), (.t 6)]),
  kA 8 (.bin .geq (.t 7) (cI 0)),
  kB 4 (.mv (.t 8)) [4]]
@[go_sem] def s137_2 (_ : Unit) : IR := (sQ [(kT l137_0), (kT l137_1), .ret])
theorem c137 : compFn Try.prog [(0, [], [oS [0, 1]]), (1, [], [oN, oN, oN, oN, oS [4]])] Try.f137 = some ⟨2, 9, [.t 4], (tH s137_2)⟩ := by kernel_rfl
theorem v_slices_ContainsFunc_Sint_int (hl : vs.length = 2) (h : wpV Try.prog (tH s137_2) (postV [.t 4] RV) (envV vs) M) : VCall Try.prog n_slices_ContainsFunc_Sint_int vs M RV :=
  vcall_of_wp (fun _ _ _ hl h => acall_of_wp mixed Try.func137 c137 (by kernel_rfl) hl h) hl h
@[go_sem] def l109_0 (_ : Unit) : KL := [kA 3 (.box (.t 1)),
  kB 4 (.mv (.c (.bool false))) [0, 3]]
@[go_sem] def l109_1 (_ : Unit) : KL := [kA 5 (.mv (.t 0)),
  kA 6 (.mkfn (n_impl_meets_1) [(.t 3)]),
  kA 7 (.call (n_slices_ContainsFunc_Sint_int) [(.t 5), (.t 6)]),
  kB 4 (.mv (.t 7)) [4]]
@[go_sem] def s109_2 (_ : Unit) : IR := (sQ [(kT l109_0), (kT l109_1), .ret])
theorem c109 : compFn Try.prog [(0, [], [oN, oS [0, 3]]), (1, [], [oN, oN, oN, oS [4]])] Try.f109 = some ⟨2, 8, [.t 4], (tH s109_2)⟩ := by kernel_rfl
theorem v_impl_meets (hl : vs.length = 2) (h : wpV Try.prog (tH s109_2) (postV [.t 4] RV) (envV vs) M) : VCall Try.prog n_impl_meets vs M RV :=
  vcall_of_wp (fun _ _ _ hl h => acall_of_wp mixed Try.func109 c109 (by kernel_rfl) hl h) hl h
@[go_sem] def l73_0 (_ : Unit) : KL := [kA 2 (.box (.t 0)),
  kB 4 (.mv (.c (.sl none 0 0 true 0))) [1, 2]]
@[go_sem] def l73_1 (_ : Unit) : KL := [kA 9 (.load (.t 2) 2 true),
  kA 10 (.mv (.t 1)),
  kA 11 (.call (n_impl_touchedBy) [(.t 9), (.t 10)]),
  kB 5 (.mv (.t 11)) [1, 2, 5]]
@[go_sem] def l73_2 (_ : Unit) : KL := [kB 6 (.mv (.c (.sl none 0 0 true 0))) [1, 2, 5, 6]]
@[go_sem] def l73_3 (_ : Unit) : KL := [kA 12 (.faddr (.t 2) 1),
  kA 13 (.load (.t 12) 1 false),
  kA 14 (.len (.t 13)),
  kB 15 (.mv (cI 0)) [1, 5, 6, 13, 14, 15]]
@[go_sem] def l73_4 (_ : Unit) : KL := [kB 16 (.bin .lss (.t 15) (.t 14)) [1, 5, 6, 13, 14, 15, 16]]
@[go_sem] def l73_5 (_ : Unit) : KL := [kA 17 (.mv (.t 15)),
  kA 18 (.iaddr (.t 13) (.t 15) 3),
  kA 19 (.load (.t 18) 3 true),
  kA 8 (.alloc [(.sl none 0 0 true 0), (.sl none 0 0 true 0), (.sl none 0 0 true 0)]),
  kB 7 (.mv (.t 17)) [1, 5, 6, 7, 8, 13, 14, 15, 19],
  (⟨none, .store (.t 8) 3 (.t 19), none⟩, (some [1, 5, 6, 7, 8, 13, 14, 15]))]
@[go_sem] def l73_6 (_ : Unit) : KL := [kA 20 (.mv (.t 7)),
  kA 21 (.mv (.t 1)),
  kA 22 (.bin .neq (.t 20) (.t 21)),
  kA 23 (.mv (.t 22)),
  (⟨(some 24), .faddr (.t 8) 1, (some (23, true))⟩, (some [1, 5, 6, 7, 13, 14, 15, 23, 24])),
  (⟨(some 25), .load (.t 24) 1 false, (some (23, true))⟩, none),
  (⟨(some 26), .mv (.t 5), (some (23, true))⟩, none),
  (⟨(some 27), .call (n_impl_meets) [(.t 25), (.t 26)], (some (23, true))⟩, none),
  kB 28 (.pick (.t 23) (.t 27) (.c (.bool false))) [1, 5, 6, 7, 13, 14, 15, 28]]
@[go_sem] def l73_7 (_ : Unit) : KL := [kA 29 (.mv (.t 6)),
  kA 30 (.mv (.t 7)),
  kA 31 (.bslc 1 1 [(.int .i64 0)] [(0, (.t 30))]),
  kA 32 (.app 1 8 (.t 29) (.t 31)),
  kB 6 (.mv (.t 32)) [1, 5, 6, 13, 14, 15]]
@[go_sem] def s73_8 (_ : Unit) : IR := (sQ [(kT l73_5), (kT l73_6), (.cond (.t 28) (kT l73_7) .skip)])
@[go_sem] def s73_9 (_ : Unit) : IR := (.block 1 (tH s73_8))
@[go_sem] def l73_10 (_ : Unit) : KL := [kA 33 (.bin .add (.t 15) (cI 1)),
  kB 15 (.mv (.t 33)) [1, 5, 6, 13, 14, 15]]
@[go_sem] def s73_11 (_ : Unit) : IR := (sQ [(kT l73_4), (.cond (.t 16) .skip (.exit 0)), (tH s73_9), (kT l73_10)])
@[go_sem] def s73_12 (_ : Unit) : IR := (.loop (tH s73_11))
@[go_sem] def s73_13 (_ : Unit) : IR := (.block 0 (tH s73_12))
@[go_sem] def s73_14 (_ : Unit) : IR := (sQ [(kT l73_3), (tH s73_13)])
@[go_sem] def l73_15 (_ : Unit) : KL := [kA 34 (.mv (.t 6)),
  kA 35 (.call (n_impl_clone_int) [(.t 34)]),
  kB 4 (.mv (.t 35)) [4]]
@[go_sem] def s73_16 (_ : Unit) : IR := (sQ [(kT l73_0), (kT l73_1), (kT l73_2), (tH s73_14), (kT l73_15), .ret])
theorem c73 : compFn Try.prog [(0, [], [oN, oS [1, 2]]), (1, [], [oN, oN, oN, oS [1, 2, 5]]), (2, [], [oS [1, 2, 5, 6]]), (3, [], [oN, oN, oN, oS [1, 5, 6, 13, 14, 15]]), (4, [], [oS [1, 5, 6, 13, 14, 15, 16]]), (5, [], [oN, oN, oN, oN, oS [1, 5, 6, 7, 8, 13, 14, 15, 19], oS [1, 5, 6, 7, 8, 13, 14, 15]]), (6, [], [oN, oN, oN, oN, oS [1, 5, 6, 7, 13, 14, 15, 23, 24], oN, oN, oN, oS [1, 5, 6, 7, 13, 14, 15, 28]]), (7, [], [oN, oN, oN, oN, oS [1, 5, 6, 13, 14, 15]]), (8, [], [oN, oS [1, 5, 6, 13, 14, 15]]), (9, [], [oN, oN, oS [4]])] Try.f73 = some ⟨2, 36, [.t 4], (tH s73_16)⟩ := by kernel_rfl
theorem v_impl_wakersOf (hl : vs.length = 2) (h : wpV Try.prog (tH s73_16) (postV [.t 4] RV) (envV vs) M) : VCall Try.prog n_impl_wakersOf vs M RV :=
  vcall_of_wp (fun _ _ _ hl h => acall_of_wp mixed Try.func73 c73 (by kernel_rfl) hl h) hl h
end Go.M2
