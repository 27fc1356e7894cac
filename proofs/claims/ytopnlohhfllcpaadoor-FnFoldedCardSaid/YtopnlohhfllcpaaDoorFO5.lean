/- Contracts: whether a system is one, the reference's side (rules, systems). -/
import Derived.Test.YtopnlohhfllcpaaDoorFO4
import Derived.Test.YtopnlohhfllcpaaDoorChecked
set_option linter.unusedVariables false
set_option linter.unusedSimpArgs false
set_option maxRecDepth 10000
set_option maxHeartbeats 4000000
namespace Go.M2
open Go.Proofs
variable {M : MH}
theorem SetsOk.kind {vars : Int} {r : RuleS} (h : SetsOk vars r) {i : Nat} (hi : i < r.sets.length) (h2 : i < r.terms.length) : kindIs vars 1 r.terms[i] = true := (h i hi).2.2 h2
noncomputable def sysB (s : SysS) : Bool := @decide (SysOk s) (Classical.propDecidable _)
end Go.M2

namespace Go.M2
open Go.Proofs
variable {M : MH}
end Go.M2

namespace Go.M2
open Go.Proofs
variable {M : MH}
def SysSz (s : SysS) : Prop := s.vars.length ≤ 1048576 ∧ s.rules.length ≤ 1048576 ∧ ∀ r ∈ s.rules, r.sets.length ≤ 1048576
end Go.M2

namespace Go.M2
open Go.Proofs
variable {M : MH}
structure DoOk (op a b : Int) : Prop where
  o2 : 2 ≤ op
  o9 : op ≤ 9
  a1 : -9999 ≤ a
  a2 : a ≤ 9999
  b1 : -9999 ≤ b
  b2 : b ≤ 9999
  tr : 8 ≤ op → (a = 0 ∨ a = 1) ∧ (b = 0 ∨ b = 1)
theorem DoOk.of {vars : Int} {ts : List TermS} {ks state : List Int} {i : Nat} (hk : kindsGo vars ts [] = .some ks) (hs : stOk state) (hv : vars ≤ (state.length : Int)) (hi : i < ts.length) (h0 : ¬ ts[i].op = 0) (h1 : ¬ ts[i].op = 1) :
    DoOk ts[i].op (ix (valsF state (ts.take i)) ts[i].a) (ix (valsF state (ts.take i)) ts[i].b) ∧ (0 ≤ ts[i].a ∧ ts[i].a < i) ∧ (0 ≤ ts[i].b ∧ ts[i].b < i) := by
  obtain ⟨hl, hat⟩ := kindsGo_at hk
  obtain ⟨q1, q2⟩ := hat i hi (by omega)
  have q3 : kind1 vars ts[i] (ks.take i) ≠ 0 := by rw [q1]; exact q2
  unfold kind1 at q3
  rw [if_neg h0, if_neg h1] at q3
  split at q3
  · rename_i hc
    obtain ⟨c1, c2, c3, c4, c5, c6, c7, c8⟩ := hc
    have hkl : (ks.take i).length = i := by simp; omega
    rw [hkl] at c4 c5
    have hkt : kindsGo vars (ts.take i) [] = .some (ks.take i) := by
      have e := hk
      rw [← List.take_append_drop i ts, kindsGo_append] at e
      cases h2 : kindsGo vars (ts.take i) [] with
      | none => rw [h2] at e; cases e
      | some ks0 =>
        rw [h2] at e
        have h3 := (kindsGo_len (show kindsGo vars (ts.drop i) ks0 = .some ks from e)).2
        have h4 := (kindsGo_len h2).1
        simp at h4
        rw [show ks0.length = i by omega] at h3
        rw [h3]
    have V := vals_ok hs hv _ (l := ts.take i) (ks := ks.take i) rfl hkt
    have hvl : (valsF state (ts.take i)).length = i := by rw [valsF_len]; simp; omega
    obtain ⟨ha, ea⟩ := ix_eq (l := valsF state (ts.take i)) (i := ts[i].a) c4.1 (by omega)
    obtain ⟨hb, eb⟩ := ix_eq (l := valsF state (ts.take i)) (i := ts[i].b) c5.1 (by omega)
    obtain ⟨ha', ea'⟩ := ix_eq (l := ks.take i) (i := ts[i].a) c4.1 (by omega)
    obtain ⟨hb', eb'⟩ := ix_eq (l := ks.take i) (i := ts[i].b) c5.1 (by omega)
    have A := V _ ha ha'
    have B := V _ hb hb'
    rw [← ea, ← ea', c6] at A
    rw [← eb, ← eb', c7] at B
    refine ⟨⟨c1, c2, A.1, A.2.1, B.1, B.2.1, fun h8 => ?_⟩, c4, c5⟩
    unfold wantK at A B
    rw [if_pos (by omega)] at A B
    have A2 := A.2.2 rfl
    have B2 := B.2.2 rfl
    omega
  · exact absurd rfl q3
end Go.M2

namespace Go.M2
open Go.Proofs
variable {M : MH}
theorem t_l3Copy {v : V} {xs : List Int} (hv : LI v xs) (hl : xs.length ≤ 1048576) : VCall Tryd.prog n_spec_l3Copy [v] M (fun r M' => Gr 1 M M' r (xs.map vi)) := by
  refine VCall.plain fun R hR => v_spec_l3Copy rfl ?_
  (repeat' (first | ((with_reducible first | refine cond_dec (fun h => ?_) (fun h => ?_) | refine guardK_dec (fun h => ?_) (fun h => ?_) | refine guardD3_dec (fun h => ?_) (fun h => ?_)) <;> first | (exfalso; omega) | (simp (maxSteps := 2000000) (disch := first | omega | assumption | exact idP rfl | exact idP (bL rfl)) only [go_sem, reduceIte, Nat.reduceEqDiff, wpV_kd, wpV_tH, h]) | skip) | ((with_reducible first | refine cond_split (fun h => ?_) (fun h => ?_) | refine guardK_split (fun h => ?_) (fun h => ?_) | refine guardD3_split (fun h => ?_) (fun h => ?_)) <;> ((try simp only [Bool.not_eq_true', Bool.not_eq_false'] at h); first | (simp (maxSteps := 2000000) (disch := first | omega | assumption | exact idP rfl | exact idP (bL rfl)) only [go_sem, reduceIte, Nat.reduceEqDiff, wpV_kd, wpV_tH, h]) | skip)) | (with_reducible intro bk hbk; try have hnk := (fresh_set hbk).1) | (simp (maxSteps := 2000000) (disch := first | omega | assumption | exact idP rfl | exact idP (bL rfl)) only [go_sem, reduceIte, Nat.reduceEqDiff, wpV_kd, wpV_tH])))
  refine loop_k (fun e M' => ∃ i : Nat, i ≤ xs.length ∧ e 0 = v ∧ e 4 = .sc (.int .i64 i) ∧ Gr 1 M M' (e 3) ((xs.take i).map vi)) (fun e _ => ctrV xs.length (e 4)) ?_ ?_
  · exact ⟨0, by omega, sT0, by refine sS0 ?_; rfl, by refine sS0 ?_; exact Gr.new' (Sub.refl _) (by assumption) rfl⟩
  · rintro e M1 ⟨i, hi, e0, e4, hg⟩ K hK
    refine sS3 @e0 @e4 @hv.len ?_
    refine cond_dec (fun h => ?_) (fun h => ?_)
    · have hi' : i < xs.length := by omega
      refine sS4 @e0 @e4 @hv.iaddr @hv.at ?_
      intro bt hbt
      refine app_int hg hbt (by simp; omega) (by omega) ?_
      intro s' M' hg' _
      refine sS0 ?_
      exact hK _ _ ⟨i + 1, by omega, sT0, by refine sS0 ?_; rfl, by refine sS0 ?_; rw [take_snoc hi']; exact hg'⟩ (by refine sS2 @ctrV_int @e4 ?_; omega)
    · obtain rfl : i = xs.length := by omega
      rw [List.take_length] at hg
      refine sS0 ?_
      exact hR _ _ hg
end Go.M2

namespace Go.M2
open Go.Proofs
variable {M : MH}
theorem t_l2Same {v w : V} {xs ys : List Int} (hv : LI v xs) (hw : LI w ys) (hl : xs.length ≤ 1048576) : VCall Tryd.prog n_spec_l2Same [v, w] M (fun r M' => M = M' ∧ r = .sc (.bool (decide (xs = ys)))) := by
  refine VCall.pure fun R hR => v_spec_l2Same rfl ?_
  (repeat' (first | ((with_reducible first | refine cond_dec (fun h => ?_) (fun h => ?_) | refine guardK_dec (fun h => ?_) (fun h => ?_) | refine guardD3_dec (fun h => ?_) (fun h => ?_)) <;> first | (exfalso; omega) | (simp (maxSteps := 2000000) (disch := first | omega | assumption | exact idP rfl | exact idP (bL rfl)) only [go_sem, reduceIte, Nat.reduceEqDiff, wpV_kd, wpV_tH, h, hv.len, hw.len]) | skip) | ((with_reducible first | refine cond_split (fun h => ?_) (fun h => ?_) | refine guardK_split (fun h => ?_) (fun h => ?_) | refine guardD3_split (fun h => ?_) (fun h => ?_)) <;> ((try simp only [Bool.not_eq_true', Bool.not_eq_false'] at h); first | (simp (maxSteps := 2000000) (disch := first | omega | assumption | exact idP rfl | exact idP (bL rfl)) only [go_sem, reduceIte, Nat.reduceEqDiff, wpV_kd, wpV_tH, h, hv.len, hw.len]) | skip)) | (with_reducible intro bk hbk; try have hnk := (fresh_set hbk).1) | (simp (maxSteps := 2000000) (disch := first | omega | assumption | exact idP rfl | exact idP (bL rfl)) only [go_sem, reduceIte, Nat.reduceEqDiff, wpV_kd, wpV_tH, hv.len, hw.len])))
  · refine hR _ _ (sB) ?_
    have : ¬ xs = ys := fun e => by subst e; omega
    simp [this]
  · have hlen : xs.length = ys.length := by omega
    refine loop_k (fun e M' => M' = M ∧ ∃ i : Nat, i ≤ xs.length ∧ e 0 = v ∧ e 1 = w ∧ e 5 = .sc (.int .i64 i) ∧ xs.take i = ys.take i) (fun e _ => ctrV xs.length (e 5)) ?_ ?_
    · exact ⟨rfl, 0, by omega, sT0, sT0, by refine sS0 ?_; rfl, rfl⟩
    · rintro e _ ⟨rfl, i, hi, e0, e1, e5, ht⟩ K hK
      refine sS4 @e0 @e1 @e5 @hv.len ?_
      refine cond_dec (fun h => ?_) (fun h => ?_)
      · have hi1 : i < xs.length := by omega
        have hi2 : i < ys.length := by omega
        simp (maxSteps := 2000000) (disch := first | omega | assumption | exact idP rfl | exact idP (bL rfl)) only [go_sem, reduceIte, Nat.reduceEqDiff, wpV_kd, wpV_tH, e0, e1, e5, hv.iaddr, hw.iaddr, hv.at hi1, hw.at hi2]
        refine cond_dec (fun h2 => ?_) (fun h2 => ?_)
        · refine sS0 ?_
          refine hR _ _ (sB) ?_
          have : ¬ xs = ys := fun e => by subst e; exact h2 rfl
          simp [this]
        · refine sS3 @e0 @e1 @e5 ?_
          exact hK _ _ ⟨rfl, i + 1, by omega, sT0, sT0, by refine sS0 ?_; rfl, by rw [take_snoc hi1, take_snoc hi2, ht, Decidable.not_not.1 h2]⟩ (by refine sS2 @ctrV_int @e5 ?_; omega)
      · obtain rfl : i = xs.length := by omega
        refine sS0 ?_
        refine hR _ _ (sB) ?_
        rw [List.take_length, hlen, List.take_length] at ht
        simp [ht]
end Go.M2

namespace Go.M2
open Go.Proofs
variable {M : MH}
theorem setAtG_all {α : Type} : ∀ (c z : List α) (o : Nat), o + c.length = z.length → setAtG z o c = z.take o ++ c
  | [], z, o, h => by
    simp only [setAtG, List.append_nil]
    rw [List.take_of_length_le (by simp at h; omega)]
  | x :: t, z, o, h => by
    simp only [setAtG]
    rw [setAtG_all t _ _ (by simp at h ⊢; omega)]
    simp at h
    rw [List.take_succ_eq_append_getElem (by simp; omega)]
    simp
    apply List.ext_getElem?
    intro i
    simp only [List.getElem?_take]
    split
    · rw [List.getElem?_set_ne (by omega)]
    · rfl
theorem t_cloneInt {v : V} {xs : List Int} (hv : LI v xs) (hl : xs.length ≤ 1048576) : VCall Tryd.prog n_impl_clone_int [v] M (fun r M' => Gr 1 M M' r (xs.map vi)) := by
  refine VCall.plain fun R hR => v_impl_clone_int rfl ?_
  refine sS1 @hv.len ?_
  refine cond_dec (fun h => ?_) (fun h => ?_)
  · refine sS0 ?_
    have : xs = [] := List.eq_nil_of_length_eq_zero (by omega)
    subst this
    exact hR _ _ (.nil (Sub.refl _))
  · refine sS1 @hv.len ?_
    refine mks3 (by omega) (by simp [mostCells]; omega) (by simp [mostCells]; omega) ?_
    intro b3 hb3
    have hcs := hv.cells (M := M.set b3 ((List.replicate xs.length (0 : Int)).map vi))
    rw [Nat.mul_one] at hcs
    simp (maxSteps := 2000000) (disch := first | omega | assumption | exact idP rfl | exact idP (bL rfl)) only [go_sem, reduceIte, Nat.reduceEqDiff, wpV_kd, wpV_tH, zeros_vi]
    simp only [copyV, hv.lenS, Nat.min_self, Nat.mul_one, hcs]
    rw [if_neg (by omega)]
    simp only [set_same, Nat.zero_add]
    refine ⟨by simp [vi, oneV, er, oneA], by simp, ?_⟩
    rw [setAtG_all _ _ _ (by simp)]
    refine sS0 ?_
    exact hR _ _ (Gr.new' (Sub.refl _) hb3 (by simp))
end Go.M2

namespace Go.M2
open Go.Proofs
variable {M : MH}
end Go.M2

namespace Go.M2
open Go.Proofs
variable {M : MH}
theorem slc_lo {b o n c : Nat} {ex : Bool} {k : IntKind} {a : Int} (h0 : 0 ≤ a) (h1 : a ≤ (n : Int)) (hc : a < (c : Int)) (hn : n ≤ c) :
    slcV 1 (some (.int k a)) none none (.sc (.sl (some (b, o)) n c ex 1)) = .some (.sc (.sl (some (b, o + a.toNat)) (n - a.toNat) (c - a.toNat) ex 1)) := by
  simp only [slcV, slcF, bnds, natIn, Option.isSome_none, Bool.false_eq_true, if_false, h0, h1, and_self, if_true]
  rw [if_neg (by intro h; rcases h with h | h <;> omega), if_neg (by omega)]
  simp
theorem slc_hi {b o n c kk : Nat} {ex : Bool} {k : IntKind} {a : Int} (h0 : 0 ≤ a) (h1 : a ≤ (c : Int)) (hc : 0 < c) :
    slcV 1 none (some (.int k a)) none (.sc (.sl (some (b, o)) n c ex kk)) = .some (.sc (.sl (some (b, o)) a.toNat c ex kk)) := by
  simp only [slcV, slcF, bnds, natIn, Option.isSome_none, Bool.false_eq_true, if_false, h0, h1, and_self, if_true]
  rw [if_neg (by intro h; rcases h with h | h <;> omega), if_neg (by omega)]
  simp
theorem copy_own {K : V → MH → Prop} {b o n c k bs os m cs ks t : Nat} {ex exs : Bool} {ld ls : List V} (hs : M bs = .some ls) (hd : M b = .some ld) (ht : min m n = t) (h0 : 0 < t) (h1 : os + t ≤ ls.length) (h2 : o + t ≤ ld.length)
    (ho : ((ls.drop os).take t).all oneV = true) (hk : K (.sc (.int .i64 (t : Int))) (M.set b (setAtG ld o ((ls.drop os).take t)))) : copyV 1 (.sc (.sl (some (b, o)) n c ex k)) (.sc (.sl (some (bs, os)) m cs exs ks)) M K := by
  subst ht
  simp only [copyV, lenS, cellsS, Nat.mul_one, if_neg (show ¬ min m n = 0 by omega), hs, cells?_some, if_pos h1, hd]
  exact ⟨ho, h2, hk⟩
theorem setAtG_mid {α : Type} : ∀ (c z : List α) (o : Nat), o + c.length ≤ z.length → setAtG z o c = z.take o ++ c ++ z.drop (o + c.length)
  | [], z, o, h => by simp [setAtG]
  | x :: t, z, o, h => by
    simp only [setAtG]
    simp at h
    rw [setAtG_mid t _ _ (by simp; omega)]
    rw [List.take_succ_eq_append_getElem (by simp; omega)]
    have e1 : (z.set o x).take o = z.take o := by
      apply List.ext_getElem?
      intro i
      simp only [List.getElem?_take]
      split
      · rw [List.getElem?_set_ne (by omega)]
      · rfl
    have e2 : (z.set o x).drop (o + 1 + t.length) = z.drop (o + (x :: t).length) := by
      apply List.ext_getElem?
      intro i
      simp only [List.getElem?_drop]
      rw [List.getElem?_set_ne (by omega)]
      simp; congr 1; omega
    rw [e1, e2]
    simp
end Go.M2

namespace Go.M2
open Go.Proofs
variable {M : MH}
def isL (xs : List Int) (u : V) : Prop := LI u xs
end Go.M2

namespace Go.M2
open Go.Proofs
variable {M : MH}
theorem sizeF_mono {vs : List VarS} (hv : ∀ v ∈ vs, VarOk v) (h5 : vs.length ≤ 5) {i : Nat} : 1 ≤ sizeF (vs.take i) ∧ sizeF (vs.take i) ≤ 3200000 := sizeF_take_bd h5 fun j hj _ => hv _ (List.getElem_mem hj)
end Go.M2

namespace Go.M2
open Go.Proofs
variable {M : MH}
theorem SysOk.sz {s : SysS} (hs : SysOk s) : 1 ≤ sizeF s.vars ∧ sizeF s.vars ≤ 400 := by
  have := sizeF_mono hs.vars hs.v5 (i := s.vars.length)
  rw [List.take_length] at this
  exact ⟨this.1, hs.size⟩
end Go.M2

namespace Go.M2
open Go.Proofs
variable {M : MH}
theorem Cs.one {us : List V} {l : List (List Int)} (h : Cs isL us l) : us.all oneV = true := by
  refine List.all_eq_true.2 fun x hx => ?_
  obtain ⟨i, hi, rfl⟩ := List.getElem_of_mem hx
  obtain ⟨u, hu, he⟩ := h.2 i (by rw [← h.1]; exact hi)
  rw [List.getElem?_eq_getElem hi] at hu
  cases hu
  exact he.one.1
theorem Cs.take {us : List V} {l : List (List Int)} (h : Cs isL us l) (i : Nat) : Cs isL (us.take i) (l.take i) := by
  refine ⟨by simp [h.1], fun j hj => ?_⟩
  simp at hj
  obtain ⟨u, hu, he⟩ := h.2 j (by omega)
  exact ⟨u, by rw [List.getElem?_take, if_pos (by omega)]; exact hu, by rw [List.getElem_take]; exact he⟩
end Go.M2

namespace Go.M2
open Go.Proofs
variable {M : MH}
theorem Fz.pre {M M' : MH} {l l' : List V} (h : Fz M l M' l') : ∀ us : List V, Fz M (us ++ l) M' (us ++ l')
  | [] => h
  | x :: t => .keep x (Fz.pre h t)
theorem FzE.row {M0 M : MH} {b3 sz : Nat} {rv : V} {us post row : List V} (hb : M b3 = .some (us ++ rv :: post)) (hr : Gr sz M0 M rv row) (hne : blkV rv ≠ some b3) :
    ∃ M' u, (∀ e, FzE e M e M') ∧ Fr sz u row ∧ M' b3 = .some (us ++ u :: post) ∧ (M0 b3 = none → Sub M0 M') := by
  rcases hr.own with ⟨rfl, k, rfl⟩ | ⟨b, n, ex, rfl, h1, h2⟩
  · exact ⟨M, _, fun e => .refl _ _, .inl ⟨rfl, k, rfl⟩, hb, fun _ => hr.sub⟩
  · have hne' : b3 ≠ b := fun e => hne (by rw [e]; rfl)
    have h0 := hr.new b rfl
    have hd : M.del b b3 = .some (us ++ V.sc (.sl (some (b, 0)) n n ex sz) :: post) := by simp only [MH.del]; rw [if_neg hne']; exact hb
    have hz : Fz M (us ++ V.sc (.sl (some (b, 0)) n n ex sz) :: post) (M.del b) (us ++ V.fs (some (b, 0)) n n ex sz (row.drop 0) :: post) := Fz.pre (.sl h1 (Fz.refl _ _) (Fz.refl _ _)) us
    refine ⟨_, _, fun e => FzE.cells hb hz hd, .inr ⟨_, _, _, _, _, rfl, by simpa using h2⟩, set_same, fun h3 => Sub.set (fun i l hi => ?_) h3⟩
    simp only [MH.del]
    rw [if_neg (fun e => by subst e; rw [h0] at hi; cases hi)]
    exact hr.sub i l hi
theorem Gr.setN {sz b : Nat} {M0 M : MH} {v : V} {l l' : List V} (h : Gr sz M0 M v l) (hb : M0 b = none) (hne : blkV v ≠ some b) : Gr sz M0 (M.set b l') v l := by
  rcases h.own with ⟨rfl, k, rfl⟩ | ⟨c, n, ex, rfl, h1, h2⟩
  · exact .nil (h.sub.set hb)
  · exact .mk' (h.sub.set hb) (h.new c rfl) h2 (by rw [set_ne (fun e => hne (by rw [← e]; rfl))]; exact h1)
end Go.M2

namespace Go.M2
open Go.Proofs
variable {M : MH}
def nil1 : V := .sc (.sl none 0 0 true 0)
theorem zeros_nil (n : Nat) : (zeros [AV.sl none 0 0 true 0] n).map V.sc = List.replicate n nil1 := by
  induction n with
  | zero => rfl
  | succ n ih => simp only [zeros, List.replicate_succ, List.flatten_cons, List.map_append] at ih ⊢; rw [ih]; rfl
end Go.M2

namespace Go.M2
open Go.Proofs
variable {M : MH}
def AscTo (n : Int) (xs : List Int) (k : Nat) : Prop := ∀ i (h : i < xs.length), i < k → (0 ≤ xs[i] ∧ xs[i] ≤ n - 1) ∧ (0 < i → xs[i - 1] < xs[i])
def SetOk (n : Int) (xs : List Int) : Prop := AscTo n xs xs.length
noncomputable def setB (n : Int) (xs : List Int) : Bool := @decide (SetOk n xs) (Classical.propDecidable _)
theorem setB_iff {n : Int} {xs : List Int} : setB n xs = true ↔ SetOk n xs := by unfold setB; exact @decide_eq_true_iff _ (Classical.propDecidable _)
theorem setB_false {n : Int} {xs : List Int} : setB n xs = false ↔ ¬ SetOk n xs := by rw [← setB_iff]; cases setB n xs <;> simp
theorem AscTo.next {n : Int} {xs : List Int} {k : Nat} (h : AscTo n xs k) (hk : k < xs.length) (h1 : 0 ≤ xs[k] ∧ xs[k] ≤ n - 1) (h2 : 0 < k → xs[k - 1] < xs[k]) : AscTo n xs (k + 1) := fun i hi hik => by
  by_cases e : i = k
  · subst e; exact ⟨h1, h2⟩
  · exact h i hi (by omega)
theorem t_setOk {w : V} {xs : List Int} {n : Int} (hw : LI w xs) (hl : xs.length ≤ 1048576) (hn : 0 ≤ n ∧ n ≤ 1099511627776) : VCall Tryd.prog n_impl_setOk [w, .sc (.int .i64 n)] M (fun r M' => M = M' ∧ r = .sc (.bool (setB n xs))) := by
  refine VCall.pure fun R hR => v_impl_setOk rfl ?_
  refine sS1 @hw.len ?_
  refine loop_k (fun e M' => M' = M ∧ ∃ i : Nat, i ≤ xs.length ∧ e 0 = w ∧ e 1 = .sc (.int .i64 n) ∧ e 7 = w ∧ e 8 = .sc (.int .i64 xs.length) ∧ e 9 = .sc (.int .i64 i) ∧ AscTo n xs i) (fun e _ => ctrV xs.length (e 9)) ?_ ?_
  · exact ⟨rfl, 0, by omega, sT0, sT0, sT0, sT0, by refine sS0 ?_; rfl, fun i h h2 => by omega⟩
  · rintro e _ ⟨rfl, i, hi, e0, e1, e7, e8, e9, hj⟩ K hK
    refine sS5 @e0 @e1 @e7 @e8 @e9 ?_
    refine cond_dec (fun h => ?_) (fun h => ?_)
    · have hi' : i < xs.length := by omega
      have bad : ¬ ((0 ≤ xs[i] ∧ xs[i] ≤ n - 1) ∧ (0 < i → xs[i - 1] < xs[i])) → setB n xs = false := fun hb => setB_false.2 fun hs => hb (hs i hi' hi')
      by_cases h0 : i = 0
      · subst h0
        (repeat' (first | ((with_reducible first | refine cond_dec (fun h => ?_) (fun h => ?_) | refine guardK_dec (fun h => ?_) (fun h => ?_) | refine guardD3_dec (fun h => ?_) (fun h => ?_)) <;> first | (exfalso; omega) | (simp (maxSteps := 2000000) (disch := first | omega | assumption | exact idP rfl | exact idP (bL rfl)) only [go_sem, reduceIte, Nat.reduceEqDiff, wpV_kd, wpV_tH, h, e0, e1, e7, e8, e9, hw.iaddr, hw.at hi']) | skip) | ((with_reducible first | refine cond_split (fun h => ?_) (fun h => ?_) | refine guardK_split (fun h => ?_) (fun h => ?_) | refine guardD3_split (fun h => ?_) (fun h => ?_)) <;> ((try simp only [Bool.not_eq_true', Bool.not_eq_false'] at h); first | (simp (maxSteps := 2000000) (disch := first | omega | assumption | exact idP rfl | exact idP (bL rfl)) only [go_sem, reduceIte, Nat.reduceEqDiff, wpV_kd, wpV_tH, h, e0, e1, e7, e8, e9, hw.iaddr, hw.at hi']) | skip)) | ((with_reducible refine (t_in).mono ?_); rintro _ _ ⟨rfl, rfl⟩) | (with_reducible intro bk hbk; try have hnk := (fresh_set hbk).1) | (simp (maxSteps := 2000000) (disch := first | omega | assumption | exact idP rfl | exact idP (bL rfl)) only [go_sem, reduceIte, Nat.reduceEqDiff, wpV_kd, wpV_tH, e0, e1, e7, e8, e9, hw.iaddr, hw.at hi'])))
        · exact hR _ _ (sB) (by rw [bad (by omega)])
        · exact hK _ _ ⟨rfl, 1, by omega, sT1 @e0, sT1 @e1, sT1 @e7, sT1 @e8, by refine sS1 @e9 ?_; rfl, hj.next hi' (by omega) (by omega)⟩ (by refine sS2 @ctrV_int @e9 ?_; omega)
      · have hi2 : i - 1 < xs.length := by omega
        have et : (i : Int) - 1 = ((i - 1 : Nat) : Int) := by omega
        (repeat' (first | ((with_reducible first | refine cond_dec (fun h => ?_) (fun h => ?_) | refine guardK_dec (fun h => ?_) (fun h => ?_) | refine guardD3_dec (fun h => ?_) (fun h => ?_)) <;> first | (exfalso; omega) | (simp (maxSteps := 2000000) (disch := first | omega | assumption | exact idP rfl | exact idP (bL rfl)) only [go_sem, reduceIte, Nat.reduceEqDiff, wpV_kd, wpV_tH, h, e0, e1, e7, e8, e9, et, hw.iaddr, hw.at hi', hw.at hi2]) | skip) | ((with_reducible first | refine cond_split (fun h => ?_) (fun h => ?_) | refine guardK_split (fun h => ?_) (fun h => ?_) | refine guardD3_split (fun h => ?_) (fun h => ?_)) <;> ((try simp only [Bool.not_eq_true', Bool.not_eq_false'] at h); first | (simp (maxSteps := 2000000) (disch := first | omega | assumption | exact idP rfl | exact idP (bL rfl)) only [go_sem, reduceIte, Nat.reduceEqDiff, wpV_kd, wpV_tH, h, e0, e1, e7, e8, e9, et, hw.iaddr, hw.at hi', hw.at hi2]) | skip)) | ((with_reducible refine (t_in).mono ?_); rintro _ _ ⟨rfl, rfl⟩) | (with_reducible intro bk hbk; try have hnk := (fresh_set hbk).1) | (simp (maxSteps := 2000000) (disch := first | omega | assumption | exact idP rfl | exact idP (bL rfl)) only [go_sem, reduceIte, Nat.reduceEqDiff, wpV_kd, wpV_tH, e0, e1, e7, e8, e9, et, hw.iaddr, hw.at hi', hw.at hi2])))
        all_goals first
          | exact hR _ _ (sB) (by rw [bad (by omega)])
          | exact hK _ _ ⟨rfl, i + 1, by omega, sT1 @e0, sT1 @e1, sT1 @e7, sT1 @e8, by refine sS1 @e9 ?_; rfl, hj.next hi' (by omega) (by omega)⟩ (by refine sS2 @ctrV_int @e9 ?_; omega)
    · obtain rfl : i = xs.length := by omega
      refine sS0 ?_
      exact hR _ _ (sB) (by rw [setB_iff.2 hj])
noncomputable def setV (s : SysS) (xs : List Int) : Bool := sysB s && setB (sizeF s.vars) xs
end Go.M2

namespace Go.M2
open Go.Proofs
variable {M : MH}
def mkL (n : Nat) (p : Nat → Bool) : List Bool := (List.range n).map p
theorem mkL_len {n : Nat} {p : Nat → Bool} : (mkL n p).length = n := by simp [mkL]
theorem mkL_get {n : Nat} {p : Nat → Bool} {i : Nat} (h : i < (mkL n p).length) : (mkL n p)[i] = p i := by simp [mkL]
theorem mkL_ext {n : Nat} {p q : Nat → Bool} (h : ∀ i, i < n → p i = q i) : mkL n p = mkL n q := by
  unfold mkL
  exact List.map_congr_left fun i hi => h i (List.mem_range.1 hi)
theorem mkL_set {n k : Nat} {p q : Nat → Bool} (h : ∀ i, i < n → q i = (p i || decide (i = k))) : (mkL n p).set k true = mkL n q := by
  apply List.ext_getElem
  · simp [mkL]
  · intro i h1 h2
    have hi : i < n := by rw [mkL_len] at h2; exact h2
    rw [List.getElem_set]
    split
    · rename_i e; subst e; rw [mkL_get, h _ hi]; simp
    · rename_i e
      have e' : ¬ i = k := fun h => e h.symm
      rw [mkL_get, mkL_get, h _ hi]; simp [e']
theorem mkL_none {n : Nat} : List.replicate n false = mkL n (fun _ => false) := by
  unfold mkL
  rw [List.map_const', List.length_range]
theorem set_vb' {bs : List Bool} {i : Nat} {b : Bool} : (bs.map vb).set i (.sc (.bool b)) = (bs.set i b).map vb := by rw [List.map_set]; rfl
theorem len_vb' {bs : List Bool} : (bs.map vb).length = bs.length := List.length_map ..
def selL (n : Nat) (p : Nat → Bool) : List Int := ((List.range n).filter p).map (fun i : Nat => (i : Int))
theorem selL_succ {n : Nat} {p : Nat → Bool} : selL (n + 1) p = if p n = true then selL n p ++ [(n : Int)] else selL n p := by
  unfold selL
  rw [List.range_succ, List.filter_append]
  cases h : p n <;> simp [h]
theorem selL_len {n : Nat} {p : Nat → Bool} : (selL n p).length ≤ n := by
  unfold selL
  rw [List.length_map]
  exact Nat.le_trans (List.length_filter_le ..) (by simp)
def inL (xs : List Int) (i : Nat) : Bool := decide ((i : Int) ∈ xs)
end Go.M2

namespace Go.M2
open Go.Proofs
variable {M : MH}
theorem t_l4List {w : V} {n : Nat} {p : Nat → Bool} (hw : LB w (mkL n p)) (hn : n ≤ 1048576) : VCall Tryd.prog n_spec_l4List [w] M (fun r M' => Gr 1 M M' r ((selL n p).map vi)) := by
  refine VCall.plain fun R hR => v_spec_l4List rfl ?_
  have hlen := hw.len
  rw [mkL_len] at hlen
  refine sS0 ?_
  intro b0 hb0
  refine loop_k (fun e M' => ∃ i : Nat, i ≤ n ∧ e 0 = w ∧ e 4 = .sc (.int .i64 i) ∧ Gr 1 M M' (e 3) ((selL i p).map vi)) (fun e _ => ctrV n (e 4)) ?_ ?_
  · exact ⟨0, by omega, sT0, by refine sS0 ?_; rfl, by refine sS0 ?_; exact Gr.new' (Sub.refl _) hb0 rfl⟩
  · rintro e M1 ⟨i, hi, e0, e4, hg⟩ K hK
    have hsl : (selL i p).length ≤ i := selL_len
    refine sS3 @e0 @e4 @hlen ?_
    refine cond_dec (fun h => ?_) (fun h => ?_)
    · have hi' : i < (mkL n p).length := by rw [mkL_len]; omega
      simp (maxSteps := 2000000) (disch := first | omega | assumption | exact idP rfl | exact idP (bL rfl)) only [go_sem, reduceIte, Nat.reduceEqDiff, wpV_kd, wpV_tH, e0, e4, hw.iaddr, hw.at hi', mkL_get]
      refine cond_split (fun h2 => ?_) (fun h2 => ?_)
      · refine sS2 @e0 @e4 ?_
        intro bt hbt
        refine app_int hg hbt (by omega) (by omega) ?_
        intro s' M' hg' _
        refine sS2 @e0 @e4 ?_
        exact hK _ _ ⟨i + 1, by omega, sT0, by refine sS0 ?_; rfl, by refine sS0 ?_; rw [selL_succ, if_pos h2]; exact hg'⟩ (by refine sS2 @ctrV_int @e4 ?_; omega)
      · refine sS2 @e0 @e4 ?_
        exact hK _ _ ⟨i + 1, by omega, sT0, by refine sS0 ?_; rfl, by refine sS0 ?_; rw [selL_succ, if_neg (by simpa using h2)]; exact hg⟩ (by refine sS2 @ctrV_int @e4 ?_; omega)
    · obtain rfl : i = n := by omega
      refine sS0 ?_
      exact hR _ _ hg
theorem f_l4List {w : V} {n : Nat} {p : Nat → Bool} (hw : LB w (mkL n p)) (hn : n ≤ 1048576) : VCall Tryd.prog n_spec_l4List [w] M (fun r M' => M = M' ∧ LI r (selL n p)) :=
  (VCall.fr1 (t_l4List hw hn)).mono fun r M' ⟨h1, h2⟩ => ⟨h1, h2.li⟩
def behB (tab : List (List Int)) (xs : List Int) (i : Nat) : Bool := xs.any fun x => decide ((i : Int) ∈ tab.getD x.toNat [])
end Go.M2

namespace Go.M2
open Go.Proofs
variable {M : MH}
theorem SetOk.in {n : Int} {xs : List Int} (h : SetOk n xs) : ∀ x ∈ xs, 0 ≤ x ∧ x < n := by
  intro x hx
  obtain ⟨i, hi, rfl⟩ := List.getElem_of_mem hx
  have := (h i hi hi).1
  omega
noncomputable def nextN (s : SysS) (xs : List Int) : List Int := if setV s xs = true then selL (tabF s).length (behB (tabF s) xs) else []
end Go.M2

namespace Go.M2
open Go.Proofs
variable {M : MH}
noncomputable def firstN (s : SysS) : Int := numF s.vars (firstF s)
theorem t_ContainsInt {v : V} {fn : Nat} {caps : List V} {xs : List Int} {pred : Int → Bool} (hv : LI v xs) (hl : xs.length ≤ 1048576)
    (hf : ∀ x ∈ xs, VCall Tryd.prog fn (.sc (.int .i64 x) :: caps) M (fun r M' => M = M' ∧ r = .sc (.bool (pred x)))) :
    VCall Tryd.prog n_slices_ContainsFunc_Sint_int [v, .fn fn caps] M (fun r M' => M = M' ∧ r = .sc (.bool (xs.any pred))) := by
  have key : VCall Tryd.prog n_slices_IndexFunc_Sint_int [v, .fn fn caps] M (fun r M' => M = M' ∧ ∃ k : Int, r = .sc (.int .i64 k) ∧ (0 ≤ k ↔ xs.any pred = true)) := by
    refine VCall.pure fun R hR => v_slices_IndexFunc_Sint_int rfl ?_
    refine sS1 @hv.len ?_
    refine loop_k (fun e M' => M' = M ∧ ∃ i : Nat, i ≤ xs.length ∧ e 0 = v ∧ e 1 = .fn fn caps ∧ e 7 = .sc (.int .i64 xs.length) ∧ e 8 = .sc (.int .i64 i) ∧ ∀ j (hj : j < xs.length), j < i → pred xs[j] = false) (fun e _ => ctrV xs.length (e 8)) ?_ ?_
    · exact ⟨rfl, 0, by omega, sT0, sT0, sT0, by refine sS0 ?_; rfl, fun j _ h => by omega⟩
    · rintro e M1 ⟨hM, i, hi, e0, e1, e7, e8, hj⟩ K hK
      subst hM
      refine sS2 @e7 @e8 ?_
      refine cond_dec (fun h => ?_) (fun h => ?_)
      · have hi' : i < xs.length := by omega
        simp (maxSteps := 2000000) (disch := first | omega | assumption | exact idP rfl | exact idP (bL rfl)) only [go_sem, reduceIte, Nat.reduceEqDiff, wpV_kd, wpV_tH, e0, e1, e8, hv.iaddr, hv.at hi']
        refine (hf _ (List.getElem_mem hi')).mono ?_
        rintro _ _ ⟨rfl, rfl⟩
        cases hp : pred xs[i] with
        | true =>
          refine sS0 ?_
          exact hR _ _ (sB) ⟨_, rfl, by simp only [Int.natCast_nonneg, true_iff]; exact List.any_eq_true.2 ⟨_, List.getElem_mem hi', hp⟩⟩
        | false =>
          refine sS1 @e8 ?_
          refine hK _ _ ⟨rfl, i + 1, by omega, sT0, sT0, sT0, by refine sS0 ?_; rfl, fun j hj1 hj2 => ?_⟩ (by refine sS2 @ctrV_int @e8 ?_; omega)
          by_cases hji : j = i
          · subst hji; exact hp
          · exact hj j hj1 (by omega)
      · refine sS0 ?_
        refine hR _ _ (sB) ⟨-1, rfl, ⟨fun h => by omega, fun h => ?_⟩⟩
        obtain ⟨x, hx, hpx⟩ := List.any_eq_true.1 h
        obtain ⟨j, hj1, rfl⟩ := List.getElem_of_mem hx
        rw [hj j hj1 (by omega)] at hpx; cases hpx
  refine VCall.pure fun R hR => v_slices_ContainsFunc_Sint_int rfl ?_
  refine sS0 ?_
  refine key.mono ?_
  rintro _ _ ⟨rfl, k, rfl, hk⟩
  refine sS0 ?_
  exact hR _ _ (sB) (eqB (by simp only [decide_eq_true_eq]; exact hk))
end Go.M2

namespace Go.M2
theorem SetOk.mono {n m : Int} {xs : List Int} (h : SetOk n xs) (hnm : n ≤ m) : SetOk m xs := fun i hi hik => ⟨by have := (h i hi hik).1; omega, (h i hi hik).2⟩
theorem SetOk.snoc {n x : Int} {xs : List Int} (h : SetOk n xs) (h0 : 0 ≤ n) (hx : n ≤ x) : SetOk (x + 1) (xs ++ [x]) := by
  intro i hi _
  by_cases e : i < xs.length
  · have h1 := h i e e
    have e1 : (xs ++ [x])[i] = xs[i] := List.getElem_append_left e
    rw [e1]
    refine ⟨by omega, fun h2 => ?_⟩
    have e2 : (xs ++ [x])[i - 1] = xs[i - 1] := List.getElem_append_left (by omega)
    rw [e2]; exact h1.2 h2
  · have e3 : i = xs.length := by simp at hi; omega
    subst e3
    have e1 : (xs ++ [x])[xs.length] = x := by simp
    rw [e1]
    refine ⟨by omega, fun h2 => ?_⟩
    have hl : xs.length - 1 < xs.length := by omega
    have e2 : (xs ++ [x])[xs.length - 1] = xs[xs.length - 1] := List.getElem_append_left hl
    rw [e2]
    have := (h _ hl hl).1
    omega
theorem selL_ok {p : Nat → Bool} : ∀ n : Nat, SetOk (n : Int) (selL n p)
  | 0 => fun i hi => by simp [selL] at hi
  | n + 1 => by
    rw [selL_succ]
    have ih := selL_ok (p := p) n
    split
    · exact (ih.snoc (by omega) (Int.le_refl _))
    · exact ih.mono (by omega)
end Go.M2

namespace Go.M2
open Go.Proofs
variable {M : MH}
end Go.M2

namespace Go.M2
open Go.Proofs
variable {M : MH}
end Go.M2

namespace Go.M2
open Go.Proofs
variable {M : MH}
end Go.M2

namespace Go.M2
open Go.Proofs
variable {M : MH}
end Go.M2

namespace Go.M2
open Go.Proofs
variable {M : MH}
theorem t_Equal {v w : V} {xs ys : List Int} (hv : LI v xs) (hw : LI w ys) (hl : xs.length ≤ 1048576) (hl2 : ys.length ≤ 1048576) : VCall Tryd.prog n_slices_Equal_Sint_int [v, w] M (fun r M' => M = M' ∧ r = .sc (.bool (decide (xs = ys)))) := by
  refine VCall.pure fun R hR => v_slices_Equal_Sint_int rfl ?_
  refine sS2 @hv.len @hw.len ?_
  refine cond_dec (fun h => ?_) (fun h => ?_)
  · refine sS0 ?_
    have : ¬ xs = ys := fun e => h (by rw [e])
    exact hR _ _ (sB) (by simp [this])
  · have hll : xs.length = ys.length := by omega
    refine sS1 @hv.len ?_
    refine loop_k (fun e M' => M' = M ∧ ∃ i : Nat, i ≤ xs.length ∧ e 0 = v ∧ e 1 = w ∧ e 12 = .sc (.int .i64 xs.length) ∧ e 13 = .sc (.int .i64 i) ∧ ∀ j (h1 : j < xs.length) (h2 : j < ys.length), j < i → xs[j] = ys[j]) (fun e _ => ctrV xs.length (e 13)) ?_ ?_
    · exact ⟨rfl, 0, by omega, sT0, sT0, sT0, by refine sS0 ?_; rfl, fun j _ _ h => by omega⟩
    · rintro e _ ⟨rfl, i, hi, e0, e1, e12, e13, hj⟩ K hK
      refine sS4 @e0 @e1 @e12 @e13 ?_
      refine cond_dec (fun hc => ?_) (fun hc => ?_)
      · have h1 : i < xs.length := by omega
        have h2 : i < ys.length := by omega
        simp (maxSteps := 2000000) (disch := first | omega | assumption | exact idP rfl | exact idP (bL rfl)) only [go_sem, reduceIte, Nat.reduceEqDiff, wpV_kd, wpV_tH, e0, e1, e12, e13, hv.iaddr, hw.iaddr, hv.at h1, hw.at h2]
        refine cond_dec (fun hn => ?_) (fun hn => ?_)
        · refine sS0 ?_
          have : ¬ xs = ys := fun e => hn (by simp only [e])
          exact hR _ _ (sB) (by simp [this])
        · refine sS4 @e0 @e1 @e12 @e13 ?_
          refine hK _ _ ⟨rfl, i + 1, by omega, sT1 @e0, sT1 @e1, sT1 @e12, by refine sS1 @e13 ?_; rfl, fun j q1 q2 q3 => ?_⟩ (by refine sS2 @ctrV_int @e13 ?_; omega)
          by_cases e : j = i
          · subst e; exact Classical.byContradiction hn
          · exact hj j q1 q2 (by omega)
      · obtain rfl : i = xs.length := by omega
        refine sS0 ?_
        have : xs = ys := List.ext_getElem hll fun j q1 q2 => hj j q1 q2 q1
        exact hR _ _ (sB) (by simp [this])
def FrStep (s : SysS) (p f : List Int) : Prop := SetOk (sizeF s.vars) f ∧ (∀ x ∈ p, x ∈ f) ∧ (∀ x ∈ nextN s p, x ∈ f)
def FrOk (s : SysS) (fs : List (List Int)) : Prop := SysOk s ∧ 1 ≤ fs.length ∧ fs.length ≤ 30 ∧ fs[0]? = .some [firstN s] ∧ ∀ i (h : i + 1 < fs.length), FrStep s fs[i] fs[i + 1]
noncomputable def frB (s : SysS) (fs : List (List Int)) : Bool := @decide (FrOk s fs) (Classical.propDecidable _)
end Go.M2

namespace Go.M2
open Go.Proofs
variable {M : MH}
abbrev GrS := Gr2
def isGr (g : GrS) (v : V) : Prop := ∃ a b, v = .agg [a, .sc (.int .i64 g.first), b] ∧ LII a g.letters ∧ LII b g.next
structure GrSz (g : GrS) : Prop where
  l1 : g.letters.length ≤ 1048576
  l2 : ∀ r ∈ g.letters, r.length ≤ 1048576
  n1 : g.next.length ≤ 1048576
  n2 : ∀ r ∈ g.next, r.length ≤ 1048576
def BitsOk (xs : List Int) : Prop := ∀ x ∈ xs, 0 ≤ x ∧ x ≤ 1
def LetOk (f : Int) (xs : List Int) : Prop := (xs.length : Int) = f ∧ BitsOk xs
structure GrOk (g : GrS) (f : Int) : Prop where
  f0 : 0 ≤ f ∧ f ≤ 4
  n0 : 1 ≤ g.letters.length ∧ g.letters.length ≤ 400
  nn : g.next.length = g.letters.length
  fs : 0 ≤ g.first ∧ g.first ≤ (g.letters.length : Int) - 1
  lt : ∀ r ∈ g.letters, LetOk f r
  nx : ∀ r ∈ g.next, r ≠ [] ∧ SetOk g.letters.length r
noncomputable def grB (g : GrS) (f : Int) : Bool := @decide (GrOk g f) (Classical.propDecidable _)
theorem grB_iff {g : GrS} {f : Int} : grB g f = true ↔ GrOk g f := by unfold grB; exact @decide_eq_true_iff _ (Classical.propDecidable _)
theorem grB_false {g : GrS} {f : Int} (h : ¬ GrOk g f) : grB g f = false := by
  cases hb : grB g f with
  | false => rfl
  | true => exact absurd (grB_iff.1 hb) h
noncomputable def bitsB (xs : List Int) : Bool := @decide (BitsOk xs) (Classical.propDecidable _)
theorem bitsB_iff {xs : List Int} : bitsB xs = true ↔ BitsOk xs := by unfold bitsB; exact @decide_eq_true_iff _ (Classical.propDecidable _)
theorem bitsB_false {xs : List Int} (h : ¬ BitsOk xs) : bitsB xs = false := by
  cases hb : bitsB xs with
  | false => rfl
  | true => exact absurd (bitsB_iff.1 hb) h
noncomputable def letB (f : Int) (xs : List Int) : Bool := @decide (LetOk f xs) (Classical.propDecidable _)
theorem letB_iff {f : Int} {xs : List Int} : letB f xs = true ↔ LetOk f xs := by unfold letB; exact @decide_eq_true_iff _ (Classical.propDecidable _)
theorem letB_eq {f : Int} {xs : List Int} : letB f xs = (decide ((xs.length : Int) = f) && bitsB xs) := by
  rw [Bool.eq_iff_iff, letB_iff, Bool.and_eq_true, decide_eq_true_iff, bitsB_iff]; rfl
theorem t_l6Are {w : V} {xs : List Int} (hw : LI w xs) (hl : xs.length ≤ 1048576) : VCall Tryd.prog n_spec_l6Are [w] M (fun r M' => M = M' ∧ r = .sc (.bool (bitsB xs))) := by
  refine VCall.pure fun R hR => v_spec_l6Are rfl ?_
  refine sS0 ?_
  refine loop_k (fun e M' => M' = M ∧ ∃ i : Nat, i ≤ xs.length ∧ e 0 = w ∧ e 3 = .sc (.int .i64 i) ∧ ∀ j (h : j < xs.length), j < i → 0 ≤ xs[j] ∧ xs[j] ≤ 1) (fun e _ => ctrV xs.length (e 3)) ?_ ?_
  · exact ⟨rfl, 0, by omega, sT0, by refine sS0 ?_; rfl, fun j _ h => by omega⟩
  · rintro e _ ⟨rfl, i, hi, e0, e3, hj⟩ K hK
    refine sS3 @e0 @e3 @hw.len ?_
    refine cond_dec (fun h => ?_) (fun h => ?_)
    · have hi' : i < xs.length := by omega
      (repeat' (first | ((with_reducible first | refine cond_dec (fun h => ?_) (fun h => ?_) | refine guardK_dec (fun h => ?_) (fun h => ?_) | refine guardD3_dec (fun h => ?_) (fun h => ?_)) <;> first | (exfalso; omega) | (simp (maxSteps := 2000000) (disch := first | omega | assumption | exact idP rfl | exact idP (bL rfl)) only [go_sem, reduceIte, Nat.reduceEqDiff, wpV_kd, wpV_tH, h, e0, e3, hw.iaddr, hw.at hi']) | skip) | ((with_reducible first | refine cond_split (fun h => ?_) (fun h => ?_) | refine guardK_split (fun h => ?_) (fun h => ?_) | refine guardD3_split (fun h => ?_) (fun h => ?_)) <;> ((try simp only [Bool.not_eq_true', Bool.not_eq_false'] at h); first | (simp (maxSteps := 2000000) (disch := first | omega | assumption | exact idP rfl | exact idP (bL rfl)) only [go_sem, reduceIte, Nat.reduceEqDiff, wpV_kd, wpV_tH, h, e0, e3, hw.iaddr, hw.at hi']) | skip)) | ((with_reducible refine (t_l1In).mono ?_); rintro _ _ ⟨rfl, rfl⟩) | (with_reducible intro bk hbk; try have hnk := (fresh_set hbk).1) | (simp (maxSteps := 2000000) (disch := first | omega | assumption | exact idP rfl | exact idP (bL rfl)) only [go_sem, reduceIte, Nat.reduceEqDiff, wpV_kd, wpV_tH, e0, e3, hw.iaddr, hw.at hi'])))
      · exact hR _ _ (sB) (by rw [bitsB_false fun hb => ?_]; have := hb _ (List.getElem_mem hi'); omega)
      · refine hK _ _ ⟨rfl, i + 1, by omega, sT1 @e0, by refine sS1 @e3 ?_; rfl, fun j q1 q2 => ?_⟩ (by refine sS2 @ctrV_int @e3 ?_; omega)
        by_cases e : j = i
        · subst e; omega
        · exact hj j q1 (by omega)
    · obtain rfl : i = xs.length := by omega
      refine sS0 ?_
      refine hR _ _ (sB) (by rw [bitsB_iff.2 fun x hx => ?_]; obtain ⟨j, h1, rfl⟩ := List.getElem_of_mem hx; exact hj j h1 h1)
theorem t_bitsValid {w : V} {xs : List Int} (hw : LI w xs) (hl : xs.length ≤ 1048576) : VCall Tryd.prog n_impl_bitsValid [w] M (fun r M' => M = M' ∧ r = .sc (.bool (bitsB xs))) := by
  refine VCall.pure fun R hR => v_impl_bitsValid rfl ?_
  refine sS0 ?_
  refine (t_ContainsInt (pred := fun x => !decide (0 ≤ x ∧ x ≤ 1)) hw hl fun x hx => ?_).mono ?_
  · refine VCall.pure fun R hR => v_impl_bitsValid_1 rfl ?_
    (repeat' (first | ((with_reducible first | refine cond_dec (fun h => ?_) (fun h => ?_) | refine guardK_dec (fun h => ?_) (fun h => ?_) | refine guardD3_dec (fun h => ?_) (fun h => ?_)) <;> first | (exfalso; omega) | (simp (maxSteps := 2000000) (disch := first | omega | assumption | exact idP rfl | exact idP (bL rfl)) only [go_sem, reduceIte, Nat.reduceEqDiff, wpV_kd, wpV_tH, h]) | skip) | ((with_reducible first | refine cond_split (fun h => ?_) (fun h => ?_) | refine guardK_split (fun h => ?_) (fun h => ?_) | refine guardD3_split (fun h => ?_) (fun h => ?_)) <;> ((try simp only [Bool.not_eq_true', Bool.not_eq_false'] at h); first | (simp (maxSteps := 2000000) (disch := first | omega | assumption | exact idP rfl | exact idP (bL rfl)) only [go_sem, reduceIte, Nat.reduceEqDiff, wpV_kd, wpV_tH, h]) | skip)) | ((with_reducible refine (t_in).mono ?_); rintro _ _ ⟨rfl, rfl⟩) | (with_reducible intro bk hbk; try have hnk := (fresh_set hbk).1) | (simp (maxSteps := 2000000) (disch := first | omega | assumption | exact idP rfl | exact idP (bL rfl)) only [go_sem, reduceIte, Nat.reduceEqDiff, wpV_kd, wpV_tH])))
    all_goals exact hR _ _ (sB) (by (refine eqB ?_; (try simp only [decide_eq_true_eq, Bool.false_eq_true, Bool.and_eq_true, Bool.or_eq_true, Bool.not_eq_true', decide_eq_false_iff_not, eq_self_iff_true, true_iff, false_iff, iff_true, iff_false, ne_eq]); (try omega)))
  · rintro _ _ ⟨rfl, rfl⟩
    refine sS0 ?_
    refine hR _ _ (sB) (eqB ?_)
    rw [bitsB_iff]
    simp [BitsOk]
theorem t_letterOk {w : V} {xs : List Int} {f : Int} (hw : LI w xs) (hl : xs.length ≤ 1048576) : VCall Tryd.prog n_impl_letterOk [w, .sc (.int .i64 f)] M (fun r M' => M = M' ∧ r = .sc (.bool (letB f xs))) := by
  refine VCall.pure fun R hR => v_impl_letterOk rfl ?_
  by_cases hf : (xs.length : Int) = f
  · (repeat' (first | ((with_reducible first | refine cond_dec (fun h => ?_) (fun h => ?_) | refine guardK_dec (fun h => ?_) (fun h => ?_) | refine guardD3_dec (fun h => ?_) (fun h => ?_)) <;> first | (exfalso; omega) | (simp (maxSteps := 2000000) (disch := first | omega | assumption | exact idP rfl | exact idP (bL rfl)) only [go_sem, reduceIte, Nat.reduceEqDiff, wpV_kd, wpV_tH, h, hw.len, hf]) | skip) | ((with_reducible first | refine cond_split (fun h => ?_) (fun h => ?_) | refine guardK_split (fun h => ?_) (fun h => ?_) | refine guardD3_split (fun h => ?_) (fun h => ?_)) <;> ((try simp only [Bool.not_eq_true', Bool.not_eq_false'] at h); first | (simp (maxSteps := 2000000) (disch := first | omega | assumption | exact idP rfl | exact idP (bL rfl)) only [go_sem, reduceIte, Nat.reduceEqDiff, wpV_kd, wpV_tH, h, hw.len, hf]) | skip)) | ((with_reducible refine (t_bitsValid hw hl).mono ?_); rintro _ _ ⟨rfl, rfl⟩) | (with_reducible intro bk hbk; try have hnk := (fresh_set hbk).1) | (simp (maxSteps := 2000000) (disch := first | omega | assumption | exact idP rfl | exact idP (bL rfl)) only [go_sem, reduceIte, Nat.reduceEqDiff, wpV_kd, wpV_tH, hw.len, hf])))
    exact hR _ _ (sB) (by rw [letB_eq]; simp [hf])
  · (repeat' (first | ((with_reducible first | refine cond_dec (fun h => ?_) (fun h => ?_) | refine guardK_dec (fun h => ?_) (fun h => ?_) | refine guardD3_dec (fun h => ?_) (fun h => ?_)) <;> first | (exfalso; omega) | (simp (maxSteps := 2000000) (disch := first | omega | assumption | exact idP rfl | exact idP (bL rfl)) only [go_sem, reduceIte, Nat.reduceEqDiff, wpV_kd, wpV_tH, h, hw.len, hf]) | skip) | ((with_reducible first | refine cond_split (fun h => ?_) (fun h => ?_) | refine guardK_split (fun h => ?_) (fun h => ?_) | refine guardD3_split (fun h => ?_) (fun h => ?_)) <;> ((try simp only [Bool.not_eq_true', Bool.not_eq_false'] at h); first | (simp (maxSteps := 2000000) (disch := first | omega | assumption | exact idP rfl | exact idP (bL rfl)) only [go_sem, reduceIte, Nat.reduceEqDiff, wpV_kd, wpV_tH, h, hw.len, hf]) | skip)) | (with_reducible intro bk hbk; try have hnk := (fresh_set hbk).1) | (simp (maxSteps := 2000000) (disch := first | omega | assumption | exact idP rfl | exact idP (bL rfl)) only [go_sem, reduceIte, Nat.reduceEqDiff, wpV_kd, wpV_tH, hw.len, hf])))
    exact hR _ _ (sB) (by rw [letB_eq]; simp [hf])
noncomputable def letsB (f : Int) (ls : List (List Int)) : Bool := ls.all (letB f)
theorem t_l20Letters {w : V} {ls : List (List Int)} {f : Int} (hw : LII w ls) (hl : ls.length ≤ 1048576) (hl2 : ∀ r ∈ ls, r.length ≤ 1048576) : VCall Tryd.prog n_spec_l20Letters [w, .sc (.int .i64 f)] M (fun r M' => M = M' ∧ r = .sc (.bool (letsB f ls))) := by
  refine VCall.pure fun R hR => v_spec_l20Letters rfl ?_
  refine sS0 ?_
  refine loop_k (fun e M' => M' = M ∧ ∃ i : Nat, i ≤ ls.length ∧ e 0 = w ∧ e 1 = .sc (.int .i64 f) ∧ e 5 = .sc (.int .i64 i) ∧ ∀ j (h : j < ls.length), j < i → LetOk f ls[j]) (fun e _ => ctrV ls.length (e 5)) ?_ ?_
  · exact ⟨rfl, 0, by omega, sT0, sT0, by refine sS0 ?_; rfl, fun j _ h => by omega⟩
  · rintro e _ ⟨rfl, i, hi, e0, e1, e5, hj⟩ K hK
    refine sS4 @e0 @e1 @e5 @hw.len ?_
    refine cond_dec (fun h => ?_) (fun h => ?_)
    · have hi' : i < ls.length := by omega
      have hr := hw.elt hi'
      have hrl := hl2 _ (List.getElem_mem hi')
      have bad : ¬ LetOk f ls[i] → letsB f ls = false := fun hb => by
        cases hc : letsB f ls with
        | false => rfl
        | true => exact absurd (letB_iff.1 (List.all_eq_true.1 hc _ (List.getElem_mem hi'))) hb
      by_cases hf : (ls[i].length : Int) = f
      · refine sS6 @e0 @e1 @e5 @hw.iaddr @hr.len @hf ?_
        (repeat' (first | ((with_reducible first | refine cond_dec (fun h => ?_) (fun h => ?_) | refine guardK_dec (fun h => ?_) (fun h => ?_) | refine guardD3_dec (fun h => ?_) (fun h => ?_)) <;> first | (exfalso; omega) | (simp (maxSteps := 2000000) (disch := first | omega | assumption | exact idP rfl | exact idP (bL rfl)) only [go_sem, reduceIte, Nat.reduceEqDiff, wpV_kd, wpV_tH, h, e0, e1, e5]) | skip) | ((with_reducible first | refine cond_split (fun h => ?_) (fun h => ?_) | refine guardK_split (fun h => ?_) (fun h => ?_) | refine guardD3_split (fun h => ?_) (fun h => ?_)) <;> ((try simp only [Bool.not_eq_true', Bool.not_eq_false'] at h); first | (simp (maxSteps := 2000000) (disch := first | omega | assumption | exact idP rfl | exact idP (bL rfl)) only [go_sem, reduceIte, Nat.reduceEqDiff, wpV_kd, wpV_tH, h, e0, e1, e5]) | skip)) | ((with_reducible refine (t_l6Are hr hrl).mono ?_); rintro _ _ ⟨rfl, rfl⟩) | (with_reducible intro bk hbk; try have hnk := (fresh_set hbk).1) | (simp (maxSteps := 2000000) (disch := first | omega | assumption | exact idP rfl | exact idP (bL rfl)) only [go_sem, reduceIte, Nat.reduceEqDiff, wpV_kd, wpV_tH, e0, e1, e5])))
        · exact hR _ _ (sB) (by rw [bad fun hb => by rw [bitsB_iff.2 hb.2] at h; cases h])
        · refine hK _ _ ⟨rfl, i + 1, by omega, sT1 @e0, sT1 @e1, by refine sS1 @e5 ?_; rfl, fun j q1 q2 => ?_⟩ (by refine sS2 @ctrV_int @e5 ?_; omega)
          by_cases e : j = i
          · subst e
            exact ⟨hf, bitsB_iff.1 h⟩
          · exact hj j q1 (by omega)
      · (repeat' (first | ((with_reducible first | refine cond_dec (fun h => ?_) (fun h => ?_) | refine guardK_dec (fun h => ?_) (fun h => ?_) | refine guardD3_dec (fun h => ?_) (fun h => ?_)) <;> first | (exfalso; omega) | (simp (maxSteps := 2000000) (disch := first | omega | assumption | exact idP rfl | exact idP (bL rfl)) only [go_sem, reduceIte, Nat.reduceEqDiff, wpV_kd, wpV_tH, h, e0, e1, e5, hw.iaddr, hr.len, hf]) | skip) | ((with_reducible first | refine cond_split (fun h => ?_) (fun h => ?_) | refine guardK_split (fun h => ?_) (fun h => ?_) | refine guardD3_split (fun h => ?_) (fun h => ?_)) <;> ((try simp only [Bool.not_eq_true', Bool.not_eq_false'] at h); first | (simp (maxSteps := 2000000) (disch := first | omega | assumption | exact idP rfl | exact idP (bL rfl)) only [go_sem, reduceIte, Nat.reduceEqDiff, wpV_kd, wpV_tH, h, e0, e1, e5, hw.iaddr, hr.len, hf]) | skip)) | (with_reducible intro bk hbk; try have hnk := (fresh_set hbk).1) | (simp (maxSteps := 2000000) (disch := first | omega | assumption | exact idP rfl | exact idP (bL rfl)) only [go_sem, reduceIte, Nat.reduceEqDiff, wpV_kd, wpV_tH, e0, e1, e5, hw.iaddr, hr.len, hf])))
        exact hR _ _ (sB) (by rw [bad fun hb => hf hb.1])
    · obtain rfl : i = ls.length := by omega
      refine sS0 ?_
      refine hR _ _ (sB) (by rw [show letsB f ls = true from List.all_eq_true.2 fun r hr => ?_]; obtain ⟨j, h1, rfl⟩ := List.getElem_of_mem hr; exact letB_iff.2 (hj j h1 h1))
theorem setB_bd {n : Int} {r : List Int} (h : SetOk n r) {x : Int} (hx : x ∈ r) : 0 ≤ x ∧ x < n := by
  obtain ⟨j, h1, rfl⟩ := List.getElem_of_mem hx
  have := (h j h1 h1).1; omega
theorem t_impGraphValid {v : V} {g : GrS} {f : Int} (hv : isGr g v) (hz : GrSz g) : VCall Tryd.prog n_impl_GraphValid [v, .sc (.int .i64 f)] M (fun r M' => M = M' ∧ r = .sc (.bool (grB g f))) := by
  refine VCall.pure fun R hR => v_impl_GraphValid rfl ?_
  obtain ⟨a, b, rfl, ha, hb⟩ := hv
  have hl1 := hz.l1
  have hn1 := hz.n1
  have no : ¬ GrOk g f → grB g f = false := grB_false
  (repeat' (first | ((with_reducible first | refine cond_dec (fun h => ?_) (fun h => ?_) | refine guardK_dec (fun h => ?_) (fun h => ?_) | refine guardD3_dec (fun h => ?_) (fun h => ?_)) <;> first | (exfalso; omega) | (simp (maxSteps := 2000000) (disch := first | omega | assumption | exact idP rfl | exact idP (bL rfl)) only [go_sem, reduceIte, Nat.reduceEqDiff, wpV_kd, wpV_tH, h, ha.len, hb.len]) | skip) | ((with_reducible first | refine cond_split (fun h => ?_) (fun h => ?_) | refine guardK_split (fun h => ?_) (fun h => ?_) | refine guardD3_split (fun h => ?_) (fun h => ?_)) <;> ((try simp only [Bool.not_eq_true', Bool.not_eq_false'] at h); first | (simp (maxSteps := 2000000) (disch := first | omega | assumption | exact idP rfl | exact idP (bL rfl)) only [go_sem, reduceIte, Nat.reduceEqDiff, wpV_kd, wpV_tH, h, ha.len, hb.len]) | skip)) | ((with_reducible refine (t_in).mono ?_); rintro _ _ ⟨rfl, rfl⟩) | (with_reducible intro bk hbk; try have hnk := (fresh_set hbk).1) | (simp (maxSteps := 2000000) (disch := first | omega | assumption | exact idP rfl | exact idP (bL rfl)) only [go_sem, reduceIte, Nat.reduceEqDiff, wpV_kd, wpV_tH, ha.len, hb.len])))
  all_goals try (exact hR _ _ (sB) (by rw [no fun k => by have := k.f0; have := k.n0; have := k.fs; have := k.nn; omega]))
  have hnn : g.next.length = g.letters.length := by omega
  refine loop_k (fun e M' => M' = M.set bk [a, .sc (.int .i64 g.first), b] ∧ ∃ i : Nat, i ≤ g.next.length ∧ e 1 = .sc (.int .i64 f) ∧ e 2 = .sc (.ptr (some (bk, 0))) ∧ e 5 = .sc (.int .i64 g.letters.length) ∧ e 35 = b ∧ e 36 = .sc (.int .i64 g.next.length) ∧ e 37 = .sc (.int .i64 i) ∧ ∀ j (h1 : j < g.letters.length) (h2 : j < g.next.length), j < i → LetOk f g.letters[j] ∧ g.next[j] ≠ [] ∧ SetOk g.letters.length g.next[j]) (fun e _ => ctrV g.next.length (e 37)) ?_ ?_
  · exact ⟨rfl, 0, by omega, sT0, sT0, sT0, sT0, sT0, by refine sS0 ?_; rfl, fun j _ _ h => by omega⟩
  · rintro e _ ⟨rfl, i, hi, e1, e2, e5, e35, e36, e37, hj⟩ K hK
    refine sS2 @e36 @e37 ?_
    refine cond_dec (fun hc => ?_) (fun hc => ?_)
    · have h1 : i < g.letters.length := by omega
      have h2 : i < g.next.length := by omega
      have hr := ha.elt h1
      have hrl := hz.l2 _ (List.getElem_mem h1)
      have hs := hb.elt h2
      have hsl := hz.n2 _ (List.getElem_mem h2)
      have bad1 : ¬ LetOk f g.letters[i] → grB g f = false := fun hb => no fun k => hb (k.lt _ (List.getElem_mem h1))
      have bad2 : ¬ (g.next[i] ≠ [] ∧ SetOk g.letters.length g.next[i]) → grB g f = false := fun hb => no fun k => hb (k.nx _ (List.getElem_mem h2))
      (repeat' (first | ((with_reducible first | refine cond_dec (fun h => ?_) (fun h => ?_) | refine guardK_dec (fun h => ?_) (fun h => ?_) | refine guardD3_dec (fun h => ?_) (fun h => ?_)) <;> first | (exfalso; omega) | (simp (maxSteps := 2000000) (disch := first | omega | assumption | exact idP rfl | exact idP (bL rfl)) only [go_sem, reduceIte, Nat.reduceEqDiff, wpV_kd, wpV_tH, h, e1, e2, e5, e35, e36, e37, ha.iaddr, hb.iaddr, hs.len]) | skip) | ((with_reducible first | refine cond_split (fun h => ?_) (fun h => ?_) | refine guardK_split (fun h => ?_) (fun h => ?_) | refine guardD3_split (fun h => ?_) (fun h => ?_)) <;> ((try simp only [Bool.not_eq_true', Bool.not_eq_false'] at h); first | (simp (maxSteps := 2000000) (disch := first | omega | assumption | exact idP rfl | exact idP (bL rfl)) only [go_sem, reduceIte, Nat.reduceEqDiff, wpV_kd, wpV_tH, h, e1, e2, e5, e35, e36, e37, ha.iaddr, hb.iaddr, hs.len]) | skip)) | ((with_reducible refine (t_letterOk hr hrl).mono ?_); rintro _ _ ⟨rfl, rfl⟩) | ((with_reducible refine (t_setOk hs hsl (by omega)).mono ?_); rintro _ _ ⟨rfl, rfl⟩) | (with_reducible intro bk hbk; try have hnk := (fresh_set hbk).1) | (simp (maxSteps := 2000000) (disch := first | omega | assumption | exact idP rfl | exact idP (bL rfl)) only [go_sem, reduceIte, Nat.reduceEqDiff, wpV_kd, wpV_tH, e1, e2, e5, e35, e36, e37, ha.iaddr, hb.iaddr, hs.len])))
      · exact hR _ _ (sB) (by rw [bad1 fun k => by rw [letB_iff.2 k] at h; cases h])
      · exact hR _ _ (sB) (by rw [bad2 fun k => k.1 (List.eq_nil_of_length_eq_zero (by omega))])
      · exact hR _ _ (sB) (by rw [bad2 fun k => by rw [setB_iff.2 k.2] at h; cases h])
      · rename_i hb1 hb0
        refine hK _ _ ⟨rfl, i + 1, by omega, sT0, sT0, sT0, sT0, sT0, by refine sS0 ?_; rfl, fun j q1 q2 q3 => ?_⟩ (by refine sS2 @ctrV_int @e37 ?_; omega)
        by_cases e : j = i
        · subst e
          exact ⟨letB_iff.1 hb1, fun k => by rw [k] at hb0; exact hb0 rfl, setB_iff.1 h⟩
        · exact hj j q1 q2 (by omega)
    · obtain rfl : i = g.next.length := by omega
      refine sS0 ?_
      exact hR _ _ (sB) (by rw [grB_iff.2 ⟨by omega, by omega, hnn, by omega, fun r hr => by obtain ⟨j, q1, rfl⟩ := List.getElem_of_mem hr; exact (hj j q1 (by omega) (by omega)).1, fun r hr => by obtain ⟨j, q1, rfl⟩ := List.getElem_of_mem hr; exact (hj j (by omega) q1 q1).2⟩])
theorem t_specGraphValid {v : V} {g : GrS} {f : Int} (hv : isGr g v) (hz : GrSz g) : VCall Tryd.prog n_spec_GraphValid [v, .sc (.int .i64 f)] M (fun r M' => M = M' ∧ r = .sc (.bool (grB g f))) := by
  refine VCall.pure fun R hR => v_spec_GraphValid rfl ?_
  obtain ⟨a, b, rfl, ha, hb⟩ := hv
  have hl1 := hz.l1
  have hn1 := hz.n1
  have no : ¬ GrOk g f → grB g f = false := grB_false
  (repeat' (first | ((with_reducible first | refine cond_dec (fun h => ?_) (fun h => ?_) | refine guardK_dec (fun h => ?_) (fun h => ?_) | refine guardD3_dec (fun h => ?_) (fun h => ?_)) <;> first | (exfalso; omega) | (simp (maxSteps := 2000000) (disch := first | omega | assumption | exact idP rfl | exact idP (bL rfl)) only [go_sem, reduceIte, Nat.reduceEqDiff, wpV_kd, wpV_tH, h, ha.len, hb.len]) | skip) | ((with_reducible first | refine cond_split (fun h => ?_) (fun h => ?_) | refine guardK_split (fun h => ?_) (fun h => ?_) | refine guardD3_split (fun h => ?_) (fun h => ?_)) <;> ((try simp only [Bool.not_eq_true', Bool.not_eq_false'] at h); first | (simp (maxSteps := 2000000) (disch := first | omega | assumption | exact idP rfl | exact idP (bL rfl)) only [go_sem, reduceIte, Nat.reduceEqDiff, wpV_kd, wpV_tH, h, ha.len, hb.len]) | skip)) | ((with_reducible refine (t_l1In).mono ?_); rintro _ _ ⟨rfl, rfl⟩) | ((with_reducible refine (t_l20Letters ha hz.l1 hz.l2).mono ?_); rintro _ _ ⟨rfl, rfl⟩) | (with_reducible intro bk hbk; try have hnk := (fresh_set hbk).1) | (simp (maxSteps := 2000000) (disch := first | omega | assumption | exact idP rfl | exact idP (bL rfl)) only [go_sem, reduceIte, Nat.reduceEqDiff, wpV_kd, wpV_tH, ha.len, hb.len])))
  all_goals try (exact hR _ _ (sB) (by rw [no fun k => by have := k.f0; have := k.n0; have := k.fs; have := k.nn; omega]))
  all_goals try (exact hR _ _ (sB) (by rw [no fun k => by rw [show letsB f g.letters = true from List.all_eq_true.2 fun r hr => letB_iff.2 (k.lt r hr)] at h; cases h]))
  have hnn : g.next.length = g.letters.length := by omega
  have hlt : ∀ r ∈ g.letters, LetOk f r := fun r hr => letB_iff.1 (List.all_eq_true.1 h r hr)
  refine loop_k (fun e M' => M' = M.set bk [a, .sc (.int .i64 g.first), b] ∧ ∃ i : Nat, i ≤ g.next.length ∧ e 2 = .sc (.ptr (some (bk, 0))) ∧ e 5 = .sc (.int .i64 g.letters.length) ∧ e 6 = .sc (.int .i64 i) ∧ ∀ j (h2 : j < g.next.length), j < i → g.next[j] ≠ [] ∧ SetOk g.letters.length g.next[j]) (fun e _ => ctrV g.next.length (e 6)) ?_ ?_
  · exact ⟨rfl, 0, by omega, sT0, sT0, by refine sS0 ?_; rfl, fun j _ h => by omega⟩
  · rintro e _ ⟨rfl, i, hi, e2, e5, e6, hj⟩ K hK
    refine sS2 @e5 @e6 ?_
    refine cond_dec (fun hc => ?_) (fun hc => ?_)
    · have h2 : i < g.next.length := by omega
      have hs := hb.elt h2
      have hsl := hz.n2 _ (List.getElem_mem h2)
      have bad2 : ¬ (g.next[i] ≠ [] ∧ SetOk g.letters.length g.next[i]) → grB g f = false := fun hb => no fun k => hb (k.nx _ (List.getElem_mem h2))
      refine sS0 ?_
      refine loop_k (fun e' M' => M' = M.set bk [a, .sc (.int .i64 g.first), b] ∧ ∃ j : Nat, j ≤ g.next[i].length ∧ e' 2 = .sc (.ptr (some (bk, 0))) ∧ e' 5 = .sc (.int .i64 g.letters.length) ∧ e' 6 = .sc (.int .i64 i) ∧ e' 7 = .sc (.int .i64 j) ∧ AscTo g.letters.length g.next[i] j) (fun e' _ => ctrV g.next[i].length (e' 7)) ?_ ?_
      · exact ⟨rfl, 0, by omega, sT1 @e2, sT1 @e5, sT1 @e6, by refine sS0 ?_; rfl, fun j _ h => by omega⟩
      · rintro e' _ ⟨rfl, j, hjl, f2, f5, f6, f7, hasc⟩ K2 hK2
        refine sS6 @f2 @f5 @f6 @f7 @hb.iaddr @hs.len ?_
        refine cond_dec (fun hc2 => ?_) (fun hc2 => ?_)
        · have q : j < g.next[i].length := by omega
          by_cases h0 : j = 0
          · subst h0
            (repeat' (first | ((with_reducible first | refine cond_dec (fun h => ?_) (fun h => ?_) | refine guardK_dec (fun h => ?_) (fun h => ?_) | refine guardD3_dec (fun h => ?_) (fun h => ?_)) <;> first | (exfalso; omega) | (simp (maxSteps := 2000000) (disch := first | omega | assumption | exact idP rfl | exact idP (bL rfl)) only [go_sem, reduceIte, Nat.reduceEqDiff, wpV_kd, wpV_tH, h, f2, f5, f6, f7, hb.iaddr, hs.iaddr, hs.at q]) | skip) | ((with_reducible first | refine cond_split (fun h => ?_) (fun h => ?_) | refine guardK_split (fun h => ?_) (fun h => ?_) | refine guardD3_split (fun h => ?_) (fun h => ?_)) <;> ((try simp only [Bool.not_eq_true', Bool.not_eq_false'] at h); first | (simp (maxSteps := 2000000) (disch := first | omega | assumption | exact idP rfl | exact idP (bL rfl)) only [go_sem, reduceIte, Nat.reduceEqDiff, wpV_kd, wpV_tH, h, f2, f5, f6, f7, hb.iaddr, hs.iaddr, hs.at q]) | skip)) | ((with_reducible refine (t_l1In).mono ?_); rintro _ _ ⟨rfl, rfl⟩) | (with_reducible intro bk hbk; try have hnk := (fresh_set hbk).1) | (simp (maxSteps := 2000000) (disch := first | omega | assumption | exact idP rfl | exact idP (bL rfl)) only [go_sem, reduceIte, Nat.reduceEqDiff, wpV_kd, wpV_tH, f2, f5, f6, f7, hb.iaddr, hs.iaddr, hs.at q])))
            · exact hR _ _ (sB) (by rw [bad2 fun k => by have := k.2 0 q q; omega])
            · exact hK2 _ _ ⟨rfl, 1, by omega, sT0, sT0, sT0, by refine sS0 ?_; rfl, hasc.next q (by omega) (by omega)⟩ (by refine sS2 @ctrV_int @f7 ?_; omega)
          · have q2 : j - 1 < g.next[i].length := by omega
            have et : (j : Int) - 1 = ((j - 1 : Nat) : Int) := by omega
            (repeat' (first | ((with_reducible first | refine cond_dec (fun h => ?_) (fun h => ?_) | refine guardK_dec (fun h => ?_) (fun h => ?_) | refine guardD3_dec (fun h => ?_) (fun h => ?_)) <;> first | (exfalso; omega) | (simp (maxSteps := 2000000) (disch := first | omega | assumption | exact idP rfl | exact idP (bL rfl)) only [go_sem, reduceIte, Nat.reduceEqDiff, wpV_kd, wpV_tH, h, f2, f5, f6, f7, et, hb.iaddr, hs.iaddr, hs.at q, hs.at q2]) | skip) | ((with_reducible first | refine cond_split (fun h => ?_) (fun h => ?_) | refine guardK_split (fun h => ?_) (fun h => ?_) | refine guardD3_split (fun h => ?_) (fun h => ?_)) <;> ((try simp only [Bool.not_eq_true', Bool.not_eq_false'] at h); first | (simp (maxSteps := 2000000) (disch := first | omega | assumption | exact idP rfl | exact idP (bL rfl)) only [go_sem, reduceIte, Nat.reduceEqDiff, wpV_kd, wpV_tH, h, f2, f5, f6, f7, et, hb.iaddr, hs.iaddr, hs.at q, hs.at q2]) | skip)) | ((with_reducible refine (t_l1In).mono ?_); rintro _ _ ⟨rfl, rfl⟩) | (with_reducible intro bk hbk; try have hnk := (fresh_set hbk).1) | (simp (maxSteps := 2000000) (disch := first | omega | assumption | exact idP rfl | exact idP (bL rfl)) only [go_sem, reduceIte, Nat.reduceEqDiff, wpV_kd, wpV_tH, f2, f5, f6, f7, et, hb.iaddr, hs.iaddr, hs.at q, hs.at q2])))
            all_goals first
              | exact hR _ _ (sB) (by rw [bad2 fun k => by have := k.2 j q q; omega])
              | exact hK2 _ _ ⟨rfl, j + 1, by omega, sT0, sT0, sT0, by refine sS0 ?_; rfl, hasc.next q (by omega) (by omega)⟩ (by refine sS2 @ctrV_int @f7 ?_; omega)
        · obtain rfl : j = g.next[i].length := by omega
          (repeat' (first | ((with_reducible first | refine cond_dec (fun h => ?_) (fun h => ?_) | refine guardK_dec (fun h => ?_) (fun h => ?_) | refine guardD3_dec (fun h => ?_) (fun h => ?_)) <;> first | (exfalso; omega) | (simp (maxSteps := 2000000) (disch := first | omega | assumption | exact idP rfl | exact idP (bL rfl)) only [go_sem, reduceIte, Nat.reduceEqDiff, wpV_kd, wpV_tH, h, f2, f5, f6, f7, hb.iaddr, hs.len]) | skip) | ((with_reducible first | refine cond_split (fun h => ?_) (fun h => ?_) | refine guardK_split (fun h => ?_) (fun h => ?_) | refine guardD3_split (fun h => ?_) (fun h => ?_)) <;> ((try simp only [Bool.not_eq_true', Bool.not_eq_false'] at h); first | (simp (maxSteps := 2000000) (disch := first | omega | assumption | exact idP rfl | exact idP (bL rfl)) only [go_sem, reduceIte, Nat.reduceEqDiff, wpV_kd, wpV_tH, h, f2, f5, f6, f7, hb.iaddr, hs.len]) | skip)) | (with_reducible intro bk hbk; try have hnk := (fresh_set hbk).1) | (simp (maxSteps := 2000000) (disch := first | omega | assumption | exact idP rfl | exact idP (bL rfl)) only [go_sem, reduceIte, Nat.reduceEqDiff, wpV_kd, wpV_tH, f2, f5, f6, f7, hb.iaddr, hs.len])))
          · exact hR _ _ (sB) (by rw [bad2 fun k => k.1 (List.eq_nil_of_length_eq_zero (by omega))])
          · refine hK _ _ ⟨rfl, i + 1, by omega, sT0, sT0, by refine sS0 ?_; rfl, fun j q2 q3 => ?_⟩ (by refine sS2 @ctrV_int @e6 ?_; omega)
            by_cases e : j = i
            · subst e
              exact ⟨fun k => h (by rw [k]; rfl), hasc⟩
            · exact hj j q2 (by omega)
    · obtain rfl : i = g.next.length := by omega
      refine sS0 ?_
      exact hR _ _ (sB) (by rw [grB_iff.2 ⟨by omega, by omega, hnn, by omega, hlt, fun r hr => by obtain ⟨j, q1, rfl⟩ := List.getElem_of_mem hr; exact hj j q1 q1⟩])
end Go.M2

namespace Go.M2
open Go.Proofs
variable {M : MH}
theorem nDig_le (u : Nat) : Lib.nDigits u ≤ u + 1 := by
  induction u using Nat.strongRecOn with
  | _ u ih =>
    by_cases h : u < 10
    · rw [Lib.nDigits_small h]; omega
    · rw [Lib.nDigits_big h]
      have := ih (u / 10) (by omega)
      omega
theorem itoa_len {x : Int} (h0 : 0 ≤ x) : (Lib.itoa x).length ≤ x.toNat + 1 := by
  unfold Lib.itoa
  rw [if_neg (by omega), Lib.decDigits_length]
  exact nDig_le _
theorem ntL_len : ∀ {xs : List Int}, (∀ x ∈ xs, 0 ≤ x ∧ x ≤ 1000) → (ntL xs).length ≤ 1002 * xs.length
  | [], _ => by simp [ntL]
  | x :: xs, h => by
    have h1 := h x List.mem_cons_self
    have h2 := itoa_len h1.1
    have h3 := ntL_len (xs := xs) fun y hy => h y (List.mem_cons_of_mem _ hy)
    rw [ntL_cons]
    simp only [List.length_append, List.length_cons]
    omega
theorem bA_size (l : List UInt8) : (bA l).size = l.length := by simp [bA, ByteArray.size]
theorem sadd {a b : List UInt8} (h : a.length + b.length ≤ 4611686018427387904) : binF .add (.str (bA a)) (.str (bA b)) = .some (.str (bA (a ++ b))) := by
  rw [← bA_app]
  simp only [binF, strBin, bA_size]
  rw [if_pos h]
theorem t_numbersText {w : V} {xs : List Int} (hw : LI w xs) (hl : xs.length ≤ 1048576) (hb : ∀ x ∈ xs, 0 ≤ x ∧ x ≤ 1000) :
    VCall Tryd.prog n_impl_numbersText [w] M (fun r M' => M = M' ∧ r = .sc (.str (bA (ntL xs)))) := by
  refine VCall.pure fun R hR => v_impl_numbersText rfl ?_
  refine sS1 @hw.len ?_
  refine loop_k (fun e M' => M' = M ∧ ∃ i : Nat, i ≤ xs.length ∧ e 3 = .sc (.str (bA (ntL (xs.take i)))) ∧ e 6 = w ∧ e 7 = .sc (.int .i64 xs.length) ∧ e 8 = .sc (.int .i64 i)) (fun e _ => ctrV xs.length (e 8)) ?_ ?_
  · exact ⟨rfl, 0, by omega, by refine sS0 ?_; rfl, sT0, sT0, by refine sS0 ?_; rfl⟩
  · rintro e _ ⟨rfl, i, hi, e3, e6, e7, e8⟩ K hK
    refine sS4 @e3 @e6 @e7 @e8 ?_
    refine cond_dec (fun h => ?_) (fun h => ?_)
    · have h1 : i < xs.length := by omega
      have hx := hb _ (List.getElem_mem h1)
      simp (maxSteps := 2000000) (disch := first | omega | assumption | exact idP rfl | exact idP (bL rfl)) only [go_sem, reduceIte, Nat.reduceEqDiff, wpV_kd, wpV_tH, e3, e6, e7, e8, hw.iaddr, hw.at h1]
      have hl1 := itoa_len hx.1
      have hl2 := ntL_len (xs := xs.take i) fun y hy => hb y (List.mem_of_mem_take hy)
      rw [List.length_take, Nat.min_eq_left hi] at hl2
      have s1 : binF .add (.str ⟨(Lib.itoa xs[i]).toArray⟩) (.str ⟨#[44]⟩) = .some (.str (bA (Lib.itoa xs[i] ++ [44]))) := sadd (by simp; omega)
      have s2 : binF .add (.str (bA (ntL (xs.take i)))) (.str (bA (Lib.itoa xs[i] ++ [44]))) = .some (.str (bA (ntL (xs.take i) ++ (Lib.itoa xs[i] ++ [44])))) := sadd (by simp; omega)
      refine (t_Itoa (by omega) (by omega)).mono ?_
      rintro _ _ ⟨rfl, rfl⟩
      refine sS6 @e3 @e6 @e7 @e8 @s1 @s2 ?_
      refine hK _ _ ⟨rfl, i + 1, by omega, by refine sS0 ?_; rw [take_snoc h1, ntL_snoc], sT0, sT0, by refine sS0 ?_; rfl⟩ (by refine sS2 @ctrV_int @e8 ?_; omega)
    · obtain rfl : i = xs.length := by omega
      refine sS1 @e3 ?_
      rw [List.take_length]
      exact hR _ _ (sB) rfl
end Go.M2

namespace Go.M2
open Go.Proofs
variable {M : MH}
def tAt (l : List TermS) (i : Nat) : TermS := l.getD i ⟨0, 0, 0, 0⟩
theorem tAt_eq {l : List TermS} {i : Nat} (h : i < l.length) : tAt l i = l[i] := by simp [tAt, h]
def TOk (vars : Int) (l : List TermS) : Prop := ∀ i, i < l.length → 0 ≤ (tAt l i).op ∧ (tAt l i).op ≤ 9 ∧ ((tAt l i).op = 1 → 0 ≤ (tAt l i).n ∧ (tAt l i).n < vars) ∧ (2 ≤ (tAt l i).op → 0 ≤ (tAt l i).a ∧ (tAt l i).a < (i : Int) ∧ 0 ≤ (tAt l i).b ∧ (tAt l i).b < (i : Int))
theorem TOk.of {vars : Int} {l : List TermS} {ks : List Int} (h : kindsF vars l = .some ks) : TOk vars l ∧ 1 ≤ l.length ∧ l.length ≤ 40 := by
  unfold kindsF at h
  split at h
  · rename_i hc
    obtain ⟨h1, h2⟩ := kindsGo_at h
    refine ⟨fun i hi => ?_, hc.2.2.1, hc.2.2.2⟩
    obtain ⟨h3, h4⟩ := h2 i hi (by omega)
    rw [tAt_eq hi]
    rw [← h3] at h4
    have hl : (ks.take i).length = i := by simp; omega
    unfold kind1 at h4
    rw [hl] at h4
    repeat' split at h4
    all_goals first | exact absurd rfl h4 | omega
  · cases h
def compF : List Int → List Int
  | [] => []
  | x :: t => match t with
    | [] => [x]
    | y :: _ => if x = y then compF t else x :: compF t
theorem compF_snoc : ∀ {l : List Int} {y x : Int}, compF (l ++ [y] ++ [x]) = if y = x then compF (l ++ [y]) else compF (l ++ [y]) ++ [x]
  | [], y, x => by
    simp only [List.nil_append, List.singleton_append, compF]
    split
    · rename_i e; rw [e]
    · rfl
  | [a], y, x => by
    simp only [List.singleton_append, List.cons_append, List.nil_append, compF]
    repeat' split
    all_goals (try subst_vars; rfl)
  | a :: b :: t, y, x => by
    have ih := compF_snoc (l := b :: t) (y := y) (x := x)
    simp only [List.cons_append] at ih ⊢
    rw [compF, compF, ih]
    split <;> split <;> simp
theorem compF_take {l : List Int} {m : Nat} (hm : 0 < m) (h : m < l.length) : compF (l.take (m + 1)) = if l[m] = l[m - 1] then compF (l.take m) else compF (l.take m) ++ [l[m]] := by
  obtain ⟨k, rfl⟩ : ∃ k, m = k + 1 := ⟨m - 1, by omega⟩
  have e1 : l.take (k + 1) = l.take k ++ [l[k]] := take_snoc (by omega)
  have e2 : l.take (k + 1 + 1) = l.take (k + 1) ++ [l[k + 1]] := take_snoc h
  rw [e2, e1, compF_snoc]
  simp only [Nat.add_sub_cancel]
  by_cases e : l[k] = l[k + 1]
  · rw [if_pos e, if_pos e.symm]
  · rw [if_neg e, if_neg (fun h => e h.symm)]
theorem compF_id {l : List Int} : ∀ {m : Nat}, m ≤ l.length → (∀ i (h : i < l.length), 0 < i → i < m → l[i] ≠ l[i - 1]) → compF (l.take m) = l.take m
  | 0, _, _ => by simp [compF]
  | 1, h, _ => by rw [take_snoc (by omega)]; simp [compF]
  | m + 2, h, hk => by
    rw [compF_take (by omega) (by omega), if_neg (by have := hk (m + 1) (by omega) (by omega) (by omega); simpa using this), compF_id (by omega) fun i h1 h2 h3 => hk i h1 h2 (by omega), take_snoc (i := m + 1) (by omega)]
theorem compF_len {l : List Int} : (compF l).length ≤ l.length := by
  induction l with
  | nil => simp [compF]
  | cons x t ih =>
    cases t with
    | nil => simp [compF]
    | cons y t =>
      rw [compF]
      split
      · simp at ih ⊢; omega
      · simp at ih ⊢; omega
theorem mem_compF {l : List Int} {x : Int} : x ∈ compF l ↔ x ∈ l := by
  induction l with
  | nil => simp [compF]
  | cons y t ih =>
    cases t with
    | nil => simp [compF]
    | cons z t =>
      rw [compF]
      split
      · rename_i e; subst e; rw [ih]; simp
      · rw [List.mem_cons, ih]
        exact List.mem_cons.symm
theorem compF_asc {l : List Int} (h : l.Pairwise (· ≤ ·)) : (compF l).Pairwise (· < ·) := by
  induction l with
  | nil => simp [compF]
  | cons y t ih =>
    have h2 := List.pairwise_cons.1 h
    cases t with
    | nil => simp [compF]
    | cons z t =>
      rw [compF]
      split
      · exact ih h2.2
      · rename_i hne
        refine List.pairwise_cons.2 ⟨fun b hb => ?_, ih h2.2⟩
        rw [mem_compF] at hb
        have h3 := h2.1 z (List.mem_cons_self ..)
        rcases List.mem_cons.1 hb with rfl | hb
        · omega
        · have := (List.pairwise_cons.1 h2.2).1 b hb; omega
theorem asc_eq : ∀ {a b : List Int}, a.Pairwise (· < ·) → b.Pairwise (· < ·) → (∀ x, x ∈ a ↔ x ∈ b) → a = b
  | [], [], _, _, _ => rfl
  | [], y :: t, _, _, h => absurd ((h y).2 (List.mem_cons_self ..)) (by simp)
  | x :: s, [], _, _, h => absurd ((h x).1 (List.mem_cons_self ..)) (by simp)
  | x :: s, y :: t, ha, hb, h => by
    have ha2 := List.pairwise_cons.1 ha
    have hb2 := List.pairwise_cons.1 hb
    have e : x = y := by
      rcases List.mem_cons.1 ((h x).1 (List.mem_cons_self ..)) with e | h1
      · exact e
      · rcases List.mem_cons.1 ((h y).2 (List.mem_cons_self ..)) with e | h2
        · exact e.symm
        · have := ha2.1 y h2; have := hb2.1 x h1; omega
    subst e
    rw [asc_eq ha2.2 hb2.2 fun z => ?_]
    constructor
    · intro hz
      rcases List.mem_cons.1 ((h z).1 (List.mem_cons_of_mem _ hz)) with e | h1
      · subst e; have := ha2.1 z hz; omega
      · exact h1
    · intro hz
      rcases List.mem_cons.1 ((h z).2 (List.mem_cons_of_mem _ hz)) with e | h1
      · subst e; have := hb2.1 z hz; omega
      · exact h1
theorem selL_asc {n : Nat} {p : Nat → Bool} : (selL n p).Pairwise (· < ·) := by
  unfold selL
  rw [List.pairwise_map]
  exact (List.Pairwise.filter _ List.pairwise_lt_range).imp fun h => by omega
theorem sortI_sorted {l : List Int} : (sortI l).Pairwise (· ≤ ·) := by
  have := List.pairwise_mergeSort (le := fun x y : Int => decide (x ≤ y)) (fun a b c h1 h2 => by simp at h1 h2 ⊢; omega) (fun a b => by simp; omega) l
  exact this.imp fun h => by simpa using h
theorem mem_sortI {l : List Int} {x : Int} : x ∈ sortI l ↔ x ∈ l := (List.mergeSort_perm l _).mem_iff
end Go.M2

namespace Go.M2
open Go.Proofs
def smE (l : List (List UInt8 × Int)) : List (AV × AV) := l.map fun p => (.str (bA p.1), .int .i64 p.2)
theorem keyF_bA {a b : List UInt8} : keyF .s (.str (bA a)) (.str (bA b)) = .some (decide (a = b)) := by
  rw [keyF_s]
  congr 1
  rw [decide_eq_decide]
  exact ⟨bA_inj, fun h => by rw [h]⟩
theorem find_smE (k : List UInt8) : ∀ l, findM .s (.str (bA k)) (smE l) = .some ((l.find? fun p => decide (k = p.1)).map fun p => .int .i64 p.2)
  | [] => rfl
  | (a, v) :: t => by
    rw [show smE ((a, v) :: t) = (.str (bA a), .int .i64 v) :: smE t from rfl, findM, keyF_bA, List.find?_cons]
    by_cases h : k = a
    · simp [h]
    · simp only [h, decide_false]
      exact find_smE k t
theorem set_smE {k : List UInt8} {v : Int} : ∀ {l : List (List UInt8 × Int)}, (l.find? fun p => decide (k = p.1)) = none → setM .s (.str (bA k)) (.int .i64 v) (smE l) = .some (smE (l ++ [(k, v)]))
  | [], _ => rfl
  | (a, u) :: t, hn => by
    rw [List.find?_cons] at hn
    by_cases h : k = a
    · simp [h] at hn
    · simp only [h, decide_false] at hn
      rw [show smE ((a, u) :: t) = (.str (bA a), .int .i64 u) :: smE t from rfl, setM, keyF_bA]
      simp only [h, decide_false]
      rw [set_smE hn]; rfl
def kmL (kf : Nat → List UInt8) : Nat → List (List UInt8 × Int)
  | 0 => []
  | i + 1 => match (kmL kf i).find? fun p => decide (kf i = p.1) with
    | some _ => kmL kf i
    | none => kmL kf i ++ [(kf i, (i : Int))]
theorem kmL_find (kf : Nat → List UInt8) (k : List UInt8) : ∀ i, (kmL kf i).find? (fun p => decide (k = p.1)) = ((List.range i).find? fun j => decide (kf j = k)).map fun (j : Nat) => (k, (j : Int))
  | 0 => rfl
  | i + 1 => by
    have ih := kmL_find kf k i
    have ih2 := kmL_find kf (kf i) i
    rw [List.range_succ, List.find?_append, kmL]
    by_cases e : kf i = k
    · subst e
      cases h : (List.range i).find? fun j => decide (kf j = kf i) with
      | some j =>
        rw [h] at ih
        simp only [ih, Option.map_some]
        simp
      | none =>
        rw [h] at ih
        simp only [ih, Option.map_none, List.find?_append]
        simp
    · have h1 : (kmL kf (i + 1)).find? (fun p => decide (k = p.1)) = (kmL kf i).find? fun p => decide (k = p.1) := by
        rw [kmL]
        split
        · rfl
        · rw [List.find?_append]
          simp [Ne.symm e]
      rw [kmL] at h1
      rw [h1, ih]
      simp [e]
theorem kmL_at (kf : Nat → List UInt8) (i : Nat) : (kmL kf (i + 1)).find? (fun p => decide (kf i = p.1)) = .some (kf i, (firstAt (fun a b => decide (kf a = kf b)) i : Int)) := by
  rw [kmL_find, List.range_succ, List.find?_append]
  unfold firstAt
  cases h : (List.range i).find? fun j => decide (kf j = kf i) with
  | some j => simp
  | none => simp
def kfN (g : Gr2) (p : List Int) (j : Nat) : List UInt8 := keyL (g.letters.getD j []) (p.getD j 0) (compF (sortI (toS p (g.next.getD j []))))
theorem kfN_iff {g : Gr2} {p : List Int} {i j : Nat} : decide (kfN g p i = kfN g p j) = keyR g p i j := by
  rw [Bool.eq_iff_iff, decide_eq_true_iff]
  simp only [keyR, Bool.and_eq_true, decide_eq_true_eq, sameSet_iff]
  constructor
  · intro h
    obtain ⟨h1, h2, h3⟩ := keyL_inj h
    refine ⟨⟨h1, h2⟩, fun x => ?_⟩
    have := congrArg (fun l => x ∈ l) h3
    simpa [mem_compF, mem_sortI] using this
  · rintro ⟨⟨h1, h2⟩, h3⟩
    unfold kfN
    have e3 : compF (sortI (toS p (g.next.getD i []))) = compF (sortI (toS p (g.next.getD j []))) := asc_eq (compF_asc sortI_sorted) (compF_asc sortI_sorted) fun x => by rw [mem_compF, mem_sortI, mem_compF, mem_sortI]; exact h3 x
    rw [h1, h2, e3]
theorem first_kfN {g : Gr2} {p : List Int} {i : Nat} : firstAt (fun a b => decide (kfN g p a = kfN g p b)) i = firstAt (keyR g p) i := firstAt_congr fun j _ => kfN_iff
def mrL (g : Gr2) (p : List Int) (i : Nat) : List Int := (List.range g.letters.length).map fun j => if j < i then (firstAt (keyR g p) j : Int) else 0
theorem mrL_len {g : Gr2} {p : List Int} {i : Nat} : (mrL g p i).length = g.letters.length := by simp [mrL]
theorem mrL_zero {g : Gr2} {p : List Int} : mrL g p 0 = List.replicate g.letters.length 0 := by
  apply List.ext_getElem (by simp [mrL])
  intro j h1 h2
  simp [mrL]
theorem mrL_set {g : Gr2} {p : List Int} {i : Nat} : (mrL g p i).set i (firstAt (keyR g p) i : Int) = mrL g p (i + 1) := by
  apply List.ext_getElem (by simp [mrL])
  intro j h1 h2
  rw [List.getElem_set]
  simp only [mrL, List.getElem_map, List.getElem_range]
  by_cases e : i = j
  · subst e; simp
  · rw [if_neg e]
    by_cases h : j < i
    · rw [if_pos h, if_pos (by omega)]
    · rw [if_neg h, if_neg (by omega)]
theorem mrL_all {g : Gr2} {p : List Int} : mrL g p g.letters.length = rndF g p := by
  unfold mrL rndF
  refine List.map_congr_left fun j hj => ?_
  rw [if_pos (List.mem_range.1 hj)]
end Go.M2

namespace Go.M2
open Go.Proofs
variable {M : MH}
theorem setAtG_lo {α : Type} : ∀ {c l : List α} {o i : Nat}, i < o → (setAtG l o c)[i]? = l[i]?
  | [], l, o, i, _ => rfl
  | x :: t, l, o, i, h => by rw [setAtG, setAtG_lo (by omega), List.getElem?_set_ne (by omega)]
theorem t_Compact {b n : Nat} {ex : Bool} {zs : List Int} (hm : M b = .some (zs.map vi)) (hn : zs.length = n) (hl : n ≤ 1048576) :
    VCall Tryd.prog n_slices_Compact_Sint_int [.sc (.sl (some (b, 0)) n n ex 1)] M (fun r M' => ∃ rest, r = .sc (.sl (some (b, 0)) (compF zs).length n ex 1) ∧ M' = M.set b ((compF zs).map vi ++ rest)) := by
  refine VCall.plain fun R hR => v_slices_Compact_Sint_int rfl ?_
  have idm := set_id hm
  have same : compF zs = zs → R (.sc (.sl (some (b, 0)) n n ex 1)) M := fun h => hR _ _ ⟨[], by rw [h, hn], by rw [h, List.append_nil, idm]⟩
  refine sS0 ?_
  refine cond_dec (fun h => ?_) (fun h => ?_)
  · refine sS0 ?_
    refine same ?_
    have := compF_id (l := zs) (m := zs.length) (Nat.le_refl _) fun i h1 h2 h3 => by omega
    rwa [List.take_length] at this
  · refine sS0 ?_
    refine loop_k (fun e M' => M = M' ∧ ∃ k : Nat, 1 ≤ k ∧ k ≤ n ∧ e 0 = .sc (.sl (some (b, 0)) n n ex 1) ∧ e 3 = .sc (.int .i64 k) ∧ ∀ i (h : i < zs.length), 0 < i → i < k → zs[i] ≠ zs[i - 1]) (fun e _ => ctrV n (e 3)) ?_ ?_
    · exact ⟨rfl, 1, by omega, by omega, sT0, by refine sS0 ?_; rfl, fun i h1 h2 h3 => by omega⟩
    · rintro e _ ⟨rfl, k, hk1, hk, e0, e3, hne⟩ K hK
      refine sS2 @e0 @e3 ?_
      refine cond_dec (fun h => ?_) (fun h => ?_)
      · have h1 : k < zs.length := by omega
        have h2 : k - 1 < zs.length := by omega
        have et : (k : Int) - 1 = ((k - 1 : Nat) : Int) := by omega
        have g1 := nth_vi h1
        have g2 := nth_vi h2
        refine sS6 @e0 @e3 @hm @et @g1 @g2 ?_
        refine cond_dec (fun heq => ?_) (fun heq => ?_)
        · have hs1 : slcV 1 (some (.int .i64 (k : Int))) none none (.sc (.sl (some (b, 0)) n n ex 1)) = .some (.sc (.sl (some (b, k)) (n - k) (n - k) ex 1)) := by
            rw [slc_lo (by omega) (by omega) (by omega) (by omega)]; simp
          have base : compF (zs.take (k + 1)) = zs.take k := by
            rw [compF_take hk1 h1, if_pos heq]
            exact compF_id (by omega) fun i q1 q2 q3 => hne i q1 q2 (by omega)
          refine sS3 @e0 @e3 @hs1 ?_
          refine loop_k (fun e M' => ∃ (j kc : Nat) (L : List V), 1 ≤ j ∧ k + j ≤ n ∧ e 0 = .sc (.sl (some (b, 0)) n n ex 1) ∧ e 3 = .sc (.int .i64 kc) ∧ e 4 = .sc (.sl (some (b, k)) (n - k) (n - k) ex 1) ∧ e 5 = .sc (.int .i64 j) ∧ M' = M.set b L ∧ L.length = n ∧
            kc = (compF (zs.take (k + j))).length ∧ kc < k + j ∧ L.take kc = (compF (zs.take (k + j))).map vi ∧ ∀ i, k + j ≤ i + 1 → L[i]? = (zs.map vi)[i]?) (fun e _ => ctrV (n - k) (e 5)) ?_ ?_
          · refine ⟨1, k, zs.map vi, by omega, by omega, sT0, sT0, sT0, by refine sS0 ?_; rfl, idm.symm, by simp; omega, by rw [base]; simp; omega, by omega, by rw [base, List.map_take], fun i hi => rfl⟩
          · rintro e _ ⟨j, kc, L, hj1, hj, e0, e3, e4, e5, rfl, hL, hkc, hkj, hT, hD⟩ K2 hK2
            have hmb : (M.set b L) b = .some L := set_same
            refine sS4 @e0 @e3 @e4 @e5 ?_
            have hzl : (zs.map vi).length = n := by simp; omega
            refine cond_dec (fun h => ?_) (fun h => ?_)
            · have q1 : k + j < zs.length := by omega
              have q2 : k + j - 1 < zs.length := by omega
              have r1 : L[k + j]? = .some (.sc (.int .i64 zs[k + j])) := by rw [hD _ (by omega)]; exact nth_vi q1
              have r2 : L[k + (j - 1)]? = .some (.sc (.int .i64 zs[k + j - 1])) := by rw [show k + (j - 1) = k + j - 1 by omega, hD _ (by omega)]; exact nth_vi q2
              have et2 : (j : Int) - 1 = ((j - 1 : Nat) : Int) := by omega
              have ct := compF_take (l := zs) (m := k + j) (by omega) q1
              refine sS8 @e0 @e3 @e4 @e5 @hmb @et2 @r1 @r2 ?_
              refine cond_dec (fun hq => ?_) (fun hq => ?_)
              · rw [if_neg hq] at ct
                refine sS6 @e0 @e3 @e4 @e5 @hmb @r1 ?_
                refine hK2 _ _ ⟨j + 1, kc + 1, L.set kc (.sc (.int .i64 zs[k + j])), by omega, by omega, sT0, by refine sS0 ?_; rfl, sT0, by refine sS0 ?_; rfl, rfl, by simp [hL], ?_, by omega, ?_, fun i hi => ?_⟩ (by refine sS2 @ctrV_int @e5 ?_; omega)
                · rw [← Nat.add_assoc, ct, List.length_append, ← hkc]; rfl
                · rw [← Nat.add_assoc, ct, take_snoc (by rw [List.length_set]; omega), List.take_set_of_le (Nat.le_refl _), hT, List.getElem_set_self, app_vi]
                · rw [List.getElem?_set_ne (by omega)]; exact hD i (by omega)
              · have hq := Decidable.not_not.1 hq
                rw [if_pos hq] at ct
                refine sS4 @e0 @e3 @e4 @e5 ?_
                refine hK2 _ _ ⟨j + 1, kc, L, by omega, by omega, sT0, sT0, sT0, by refine sS0 ?_; rfl, rfl, hL, ?_, by omega, ?_, fun i hi => hD i (by omega)⟩ (by refine sS2 @ctrV_int @e5 ?_; omega)
                · rw [← Nat.add_assoc, ct]; exact hkc
                · rw [← Nat.add_assoc, ct]; exact hT
            · obtain rfl : j = n - k := by omega
              have ej : k + (n - k) = zs.length := by omega
              rw [ej, List.take_length] at hT hkc
              have hs2 : slcV 1 (some (.int .i64 (kc : Int))) none none (.sc (.sl (some (b, 0)) n n ex 1)) = .some (.sc (.sl (some (b, kc)) (n - kc) (n - kc) ex 1)) := by
                rw [slc_lo (by omega) (by omega) (by omega) (by omega)]; simp
              have hs3 : slcV 1 none (some (.int .i64 (kc : Int))) none (.sc (.sl (some (b, 0)) n n ex 1)) = .some (.sc (.sl (some (b, 0)) kc n ex 1)) := by
                rw [slc_hi (by omega) (by omega) (by omega)]; simp
              refine sS3 @e0 @e3 @hs2 ?_
              simp only [clearV, hmb]
              rw [if_neg (by omega)]
              refine ⟨rfl, by simp; omega, ?_⟩
              refine sS1 @hs3 ?_
              refine hR _ _ ⟨(setAtG L kc ((zeros [AV.int .i64 0] (n - kc)).map .sc)).drop kc, by rw [hkc], ?_⟩
              congr 1
              rw [← hT]
              apply List.ext_getElem?
              intro i
              by_cases hi : i < kc
              · rw [setAtG_lo hi, List.getElem?_append_left (by simp; omega), List.getElem?_take, if_pos hi]
              · rw [List.getElem?_append_right (by simp; omega), List.getElem?_drop, List.length_take, Nat.min_eq_left (by omega), show kc + (i - kc) = i by omega]
        · refine sS2 @e0 @e3 ?_
          refine hK _ _ ⟨rfl, k + 1, by omega, by omega, sT0, by refine sS0 ?_; rfl, fun i q1 q2 q3 => ?_⟩ (by refine sS2 @ctrV_int @e3 ?_; omega)
          by_cases e : i = k
          · subst e; exact heq
          · exact hne i q1 q2 (by omega)
      · obtain rfl : k = n := by omega
        refine sS1 @e0 ?_
        refine same ?_
        have := compF_id (l := zs) (m := zs.length) (Nat.le_refl _) fun i h1 h2 h3 => hne i h1 h2 (by omega)
        rwa [List.take_length] at this
def dnV (v : V) : Nat := match er v with
  | .int _ i => (i + 1).toNat
  | _ => 0
@[go_sem] theorem dnV_int {k : IntKind} {i : Int} : dnV (.sc (.int k i)) = (i + 1).toNat := by simp [dnV, er]
end Go.M2

namespace Go.M2
open Go.Proofs Go.Shelf
set_option maxRecDepth 100000
def sort_ren : Ren := ⟨fun | 125 => 71 | 128 => 86 | 129 => 87 | 189 => 49 | 215 => 95 | 216 => 83 | 257 => 70 | 294 => 77 | 295 => 78 | 296 => 79 | 297 => 80 | 298 => 81 | 299 => 82 | 300 => 84 | 301 => 85 | 328 => 90 | 329 => 91 | 330 => 92 | 331 => 93 | 332 => 94 | 343 => 100 | n => n, fun | 0 => 0 | 3 => 3 | 4 => 4 | 5 => 5 | 9 => 9 | 28 => 26 | 46 => 84 | 51 => 97 | 53 => 99 | 131 => 72 | 182 => 89 | 183 => 90 | 218 => 101 | 222 => 105 | 228 => 111 | 229 => 112 | n => n, fun n => n⟩
theorem lays189 : Lays.n189 Tryd.prog sort_ren where
  mixed := by kernel_rfl
  f125 := Tryd.func71.trans (congrArg some (by kernel_rfl))
  f128 := Tryd.func86.trans (congrArg some (by kernel_rfl))
  f129 := Tryd.func87.trans (congrArg some (by kernel_rfl))
  f189 := Tryd.func49.trans (congrArg some (by kernel_rfl))
  f215 := Tryd.func95.trans (congrArg some (by kernel_rfl))
  f216 := Tryd.func83.trans (congrArg some (by kernel_rfl))
  f257 := Tryd.func70.trans (congrArg some (by kernel_rfl))
  f294 := Tryd.func77.trans (congrArg some (by kernel_rfl))
  f295 := Tryd.func78.trans (congrArg some (by kernel_rfl))
  f296 := Tryd.func79.trans (congrArg some (by kernel_rfl))
  f297 := Tryd.func80.trans (congrArg some (by kernel_rfl))
  f298 := Tryd.func81.trans (congrArg some (by kernel_rfl))
  f299 := Tryd.func82.trans (congrArg some (by kernel_rfl))
  f300 := Tryd.func84.trans (congrArg some (by kernel_rfl))
  f301 := Tryd.func85.trans (congrArg some (by kernel_rfl))
  f328 := Tryd.func90.trans (congrArg some (by kernel_rfl))
  f329 := Tryd.func91.trans (congrArg some (by kernel_rfl))
  f330 := Tryd.func92.trans (congrArg some (by kernel_rfl))
  f331 := Tryd.func93.trans (congrArg some (by kernel_rfl))
  f332 := Tryd.func94.trans (congrArg some (by kernel_rfl))
  f343 := Tryd.func100.trans (congrArg some (by kernel_rfl))
  t0 := Tryd.underlying0
  a0 := Tryd.isAgg0
  z0 := Tryd.sizeOf0
  v0 := Tryd.zeroValue0
  t3 := Tryd.underlying3
  a3 := Tryd.isAgg3
  z3 := Tryd.sizeOf3
  v3 := Tryd.zeroValue3
  t4 := Tryd.underlying4
  a4 := Tryd.isAgg4
  z4 := Tryd.sizeOf4
  v4 := Tryd.zeroValue4
  t5 := Tryd.underlying5
  a5 := Tryd.isAgg5
  z5 := Tryd.sizeOf5
  v5 := Tryd.zeroValue5
  t9 := Tryd.underlying9
  a9 := Tryd.isAgg9
  z9 := Tryd.sizeOf9
  v9 := Tryd.zeroValue9
  t28 := Tryd.underlying26
  a28 := Tryd.isAgg26
  z28 := Tryd.sizeOf26
  v28 := Tryd.zeroValue26
  t46 := Tryd.underlying84
  a46 := Tryd.isAgg84
  z46 := Tryd.sizeOf84
  v46 := Tryd.zeroValue84
  t51 := Tryd.underlying97
  a51 := Tryd.isAgg97
  z51 := Tryd.sizeOf97
  v51 := Tryd.zeroValue97
  t53 := Tryd.underlying99
  a53 := Tryd.isAgg99
  z53 := Tryd.sizeOf99
  v53 := Tryd.zeroValue99
  t131 := Tryd.underlying72
  a131 := Tryd.isAgg72
  z131 := Tryd.sizeOf72
  v131 := Tryd.zeroValue72
  t182 := Tryd.underlying89
  a182 := Tryd.isAgg89
  z182 := Tryd.sizeOf89
  v182 := Tryd.zeroValue89
  t183 := Tryd.underlying90
  a183 := Tryd.isAgg90
  z183 := Tryd.sizeOf90
  v183 := Tryd.zeroValue90
  t218 := Tryd.underlying101
  a218 := Tryd.isAgg101
  z218 := Tryd.sizeOf101
  v218 := Tryd.zeroValue101
  t222 := Tryd.underlying105
  a222 := Tryd.isAgg105
  z222 := Tryd.sizeOf105
  v222 := Tryd.zeroValue105
  t228 := Tryd.underlying111
  a228 := Tryd.isAgg111
  z228 := Tryd.sizeOf111
  v228 := Tryd.zeroValue111
  t229 := Tryd.underlying112
  a229 := Tryd.isAgg112
  z229 := Tryd.sizeOf112
  v229 := Tryd.zeroValue112
theorem t_SortInts {M0 M : MH} {v : V} {zs : List Int} (hg : Gr 1 M0 M v (zs.map vi)) (hl : zs.length < 4611686018427387904) :
    VCall Tryd.prog n_slices_Sort_Sint_int [v] M (fun r M' => r = .tup [] ∧ Gr 1 M0 M' v ((sortI zs).map vi) ∧ ∀ q, blkV v ≠ some q → M' q = M q) :=
  g_Sort lays189 (by kernel_rfl) hg hl
end Go.M2

namespace Go.M2
open Go.Proofs
variable {M : MH}
theorem mkL_lenv {n : Nat} {p : Nat → Bool} : ((mkL n p).map vb).length = n := by rw [len_vb', mkL_len]
theorem mkL_setv {n k : Nat} {p q : Nat → Bool} (h : ∀ i, i < n → q i = (p i || decide (i = k))) : ((mkL n p).map vb).set k (.sc (.bool true)) = (mkL n q).map vb := by rw [set_vb', mkL_set h]
theorem Ow.cells {l : List V} {v : V} (h : Ow 1 M v l) : lenS v = .some l.length ∧ cellsS (l.length * 1) v M = .some l := by
  rcases h with ⟨rfl, k, rfl⟩ | ⟨b, n, ex, rfl, h2, h3⟩
  · exact ⟨rfl, by simp [cellsS]⟩
  · have : n = l.length := by omega
    subst this
    refine ⟨rfl, ?_⟩
    simp only [cellsS, h2, cells?_some]
    split
    · rename_i h0; have : l = [] := List.eq_nil_of_length_eq_zero (by omega)
      rw [this]
    · rw [if_pos (by omega)]; simp
theorem t_Compact2 {M0 : MH} {v : V} {zs : List Int} (hg : Gr 1 M0 M v (zs.map vi)) (hl : zs.length ≤ 1048576) :
    VCall Tryd.prog n_slices_Compact_Sint_int [v] M (fun r M' => ∃ M2 u, (∀ {f : FuncId} {R : V → MH → Prop}, VCall Tryd.prog f [u] M2 R → VCall Tryd.prog f [r] M' R) ∧ Sub M0 M2 ∧ LI u (compF zs)) := by
  rcases hg.own with ⟨h1, k, rfl⟩ | ⟨b, n, ex, rfl, h2, h3⟩
  · have hz : zs = [] := by simpa using h1
    subst hz
    refine VCall.plain fun R hR => v_slices_Compact_Sint_int rfl ?_
    refine sS0 ?_
    exact hR _ _ ⟨M, _, fun h => h, hg.sub, .nil⟩
  · have hn : zs.length = n := by simpa using h3
    refine (t_Compact h2 hn (by omega)).mono ?_
    rintro r M' ⟨rest, rfl, rfl⟩
    have hb := hg.new b rfl
    refine ⟨_, _, fun h => VCall.give (.sl set_same (.refl _ _) (.refl _ _)) h, ?_, Ls.mk rfl (by simp) fun i hi => ⟨.sc (.int .i64 (compF zs)[i]), ?_, rfl⟩⟩
    · intro i l hi
      have hne : i ≠ b := fun e => by subst e; rw [hb] at hi; cases hi
      rw [del_ne hne, set_ne hne]; exact hg.sub i l hi
    · rw [List.drop_zero, List.getElem?_append_left (by simpa using hi)]
      exact nth_vi hi
end Go.M2

namespace Go.M2
open Go.Proofs
theorem least {p : Nat → Prop} (h : ∃ n, p n) : ∃ n, p n ∧ ∀ m, p m → n ≤ m := by
  obtain ⟨n, hn⟩ := h
  induction n using Nat.strongRecOn with
  | _ n ih =>
    by_cases h2 : ∃ m, m < n ∧ p m
    · obtain ⟨m, h3, h4⟩ := h2
      exact ih m h3 h4
    · refine ⟨n, hn, fun m hm => ?_⟩
      rcases Nat.lt_or_ge m n with h3 | h3
      · exact absurd ⟨m, h3, hm⟩ h2
      · exact h3
open Classical in
noncomputable def leastOf (p : Nat → Prop) : Nat := if h : ∃ n, p n then (least h).choose else 0
theorem leastOf_spec {p : Nat → Prop} (h : ∃ n, p n) : p (leastOf p) ∧ ∀ m, p m → leastOf p ≤ m := by
  unfold leastOf
  rw [dif_pos h]
  exact (least h).choose_spec
theorem loop_g {P : Program} {Q : PostV} {e : EnvV} {M : MH} {a : IR} (I : Nat → EnvV → MH → Prop) (n : Nat) (h0 : I n e M)
    (hr : ∀ n e M, I n e M → ∀ K : EnvV → MH → Prop, (∀ m e' M', m < n → I m e' M' → K e' M') → wpV P a (thenQV K Q) e M) : wpV P (.loop a) Q e M := by
  refine loop_k (fun e M => ∃ n, I n e M) (fun e M => leastOf fun n => I n e M) ⟨n, h0⟩ fun e M hI K hK => ?_
  have h1 := leastOf_spec hI
  exact hr _ e M h1.1 K fun m e' M' hm hI' => hK e' M' ⟨m, hI'⟩ (Nat.lt_of_le_of_lt ((leastOf_spec ⟨m, hI'⟩).2 m hI') hm)
def Wn (M0 M : MH) (v : V) (xs : List Int) : Prop := ∃ (b o : Nat) (ex : Bool) (l : List V), v = .sc (.sl (some (b, o)) xs.length xs.length ex 1) ∧ M b = .some l ∧ o + xs.length ≤ l.length ∧ (l.drop o).take xs.length = xs.map vi ∧ M0 b = none ∧ Sub M0 M
section
variable {M0 M : MH} {v : V} {x : Int} {xs : List Int} {K : V → MH → Prop} {by_ : Nat}
theorem Wn.len (h : Wn M0 M v xs) : lenF (er v) = .some (.int .i64 (xs.length : Int)) := by
  obtain ⟨b, o, ex, l, rfl, _⟩ := h; rfl
theorem Wn.sub (h : Wn M0 M v xs) : Sub M0 M := by
  obtain ⟨b, o, ex, l, rfl, _, _, _, _, hs⟩ := h; exact hs
theorem Wn.head (h : Wn M0 M v (x :: xs)) : ∃ p, iaddrV 1 v (.int .i64 0) = .some p ∧ loadV M 1 false p = .some (.sc (.int .i64 x)) := by
  obtain ⟨b, o, ex, l, rfl, h1, h2, h3, _⟩ := h
  refine ⟨.sc (.ptr (some (b, o))), ?_, ?_⟩
  · simp only [iaddrV, AA.b_some, AA.o_some]
    rw [if_pos ⟨by omega, by simp only [List.length_cons]; omega⟩]; simp
  · simp only [loadV, h1, cells?_some, Option.map_some, loadO, Bool.false_eq_true, if_false]
    have := congrArg (fun l => l[0]?) h3
    simpa [List.getElem?_take, vi] using this
theorem Wn.oth {q : Nat} {l' : List V} (h : Wn M0 M v xs) (hq : blkV v ≠ some q) (h0 : M0 q = none) : Wn M0 (M.set q l') v xs := by
  obtain ⟨b, o, ex, l, rfl, h1, h2, h3, h4, h5⟩ := h
  have hne : b ≠ q := fun e => hq (by simp [blkV, e])
  exact ⟨b, o, ex, l, rfl, by rw [set_ne hne]; exact h1, h2, h3, h4, h5.set h0⟩
end
inductive Rch (tab : List (List Int)) (st : Nat → Prop) : Nat → Prop
  | base {i : Nat} : st i → Rch tab st i
  | step {i : Nat} {x : Int} : Rch tab st i → x ∈ tab.getD i [] → Rch tab st x.toNat
noncomputable def rB (tab : List (List Int)) (st : Nat → Prop) (i : Nat) : Bool := @decide (Rch tab st i) (Classical.propDecidable _)
theorem rB_iff {tab : List (List Int)} {st : Nat → Prop} {i : Nat} : rB tab st i = true ↔ Rch tab st i := by unfold rB; exact @decide_eq_true_iff _ (Classical.propDecidable _)
theorem rB_closed {tab : List (List Int)} {st : Nat → Prop} {m : Nat → Bool} (h0 : ∀ i, st i → m i = true) (h1 : ∀ i, m i = true → Rch tab st i) (h2 : ∀ i, m i = true → ∀ x ∈ tab.getD i [], m x.toNat = true) (i : Nat) : m i = rB tab st i := by
  rw [Bool.eq_iff_iff, rB_iff]
  constructor
  · exact h1 i
  · intro h
    induction h with
    | base h => exact h0 _ h
    | step _ hx ih => exact h2 _ ih _ hx
end Go.M2

namespace Go.M2
open Go.Proofs
variable {M : MH}
structure AlOk (g : GrS) : Prop where
  n0 : 1 ≤ g.letters.length ∧ g.letters.length ≤ 400
  lt : ∀ r ∈ g.letters, r.length ≤ 1000 ∧ ∀ x ∈ r, 0 ≤ x ∧ x ≤ 1000
  nx : NextOk ⟨g.letters, g.first, g.next⟩
  ln : ∀ r ∈ g.next, r.length ≤ 1000
theorem toS_len {p l : List Int} : (toS p l).length = l.length := by simp [toS]
theorem toS_snoc {p l : List Int} {i : Nat} (h : i < l.length) : toS p (l.take (i + 1)) = toS p (l.take i) ++ [ix p l[i]] := by
  rw [take_snoc h, toS, List.map_append]; rfl
theorem ix_at {p : List Int} {x : Int} (h : x.toNat < p.length) : ix p x = p[x.toNat] := by simp [ix, List.getD, h]
theorem Cls.bd {g : GrS} {p : List Int} (h : Cls g p) (hn : g.letters.length ≤ 400) : ∀ x ∈ p, 0 ≤ x ∧ x ≤ 1000 := fun x hx => by
  obtain ⟨i, hi, rfl⟩ := List.getElem_of_mem hx
  have h1 := h.at_ i hi
  have h2 := h.len
  simp only [List.getD, List.getElem?_eq_getElem hi, Option.getD_some] at h1
  omega
theorem li_own {b n : Nat} {ex : Bool} {xs : List Int} (hn : n = xs.length) : LI (.fs (some (b, 0)) n n ex 1 ((xs.map vi).drop 0)) xs :=
  Ls.mk hn (by simp) fun i hi => ⟨.sc (.int .i64 xs[i]), by rw [List.drop_zero]; exact nth_vi hi, rfl⟩
theorem t_EqualO {b b' n n' : Nat} {ex ex' : Bool} {xs ys : List Int} (h1 : M b = .some (xs.map vi)) (h2 : M b' = .some (ys.map vi)) (hne : b ≠ b') (hn : n = xs.length) (hn' : n' = ys.length) (hl : xs.length ≤ 1048576) (hl' : ys.length ≤ 1048576) :
    VCall Tryd.prog n_slices_Equal_Sint_int [.sc (.sl (some (b, 0)) n n ex 1), .sc (.sl (some (b', 0)) n' n' ex' 1)] M (fun r M' => M = M' ∧ r = .sc (.bool (decide (xs = ys)))) := by
  have ht : Tr [.sc (.sl (some (b, 0)) n n ex 1), .sc (.sl (some (b', 0)) n' n' ex' 1)] _ _ := .sl (.refl (xs.map vi)) (.sl (.refl (ys.map vi)) .nil)
  refine VCall.lendP ht ?_ ?_ flat_eq fun M' => t_Equal (li_own hn) (li_own hn') hl hl'
  · intro p hp
    rcases List.mem_cons.1 hp with rfl | hp
    · exact h1
    · rcases List.mem_cons.1 hp with rfl | hp
      · exact h2
      · cases hp
  · simpa [Nd2] using hne
theorem t_alike {v : V} {g : GrS} (hv : isGr g v) (hA : AlOk g) : VCall Tryd.prog n_impl_alike [v] M (fun r M' => ∃ z, Stab (rndF g) (List.replicate g.letters.length 0) z ∧ Gr 1 M M' r (z.map vi)) := by
  refine VCall.plain fun R hR => v_impl_alike rfl ?_
  obtain ⟨a, b, rfl, ha, hb⟩ := hv
  obtain ⟨n1, n4⟩ := hA.n0
  have hnx : g.next.length = g.letters.length := hA.nx.len
  have hin : ∀ row ∈ g.next, ∀ x ∈ row, 0 ≤ x ∧ x < (g.letters.length : Int) := hA.nx.in_
  refine sS1 @ha.len ?_
  intro b1 hb1
  have m1 : (M.set b1 [a, V.sc (AV.int IntKind.i64 g.first), b]) b1 = .some [a, V.sc (AV.int IntKind.i64 g.first), b] := set_same
  have hs1 : Sub M (M.set b1 [a, V.sc (AV.int IntKind.i64 g.first), b]) := (Sub.refl M).set hb1
  generalize (M.set b1 [a, V.sc (AV.int IntKind.i64 g.first), b]) = M0 at *
  refine mks3 (by omega) (by simp [mostCells]; omega) (by simp [mostCells]; omega) ?_
  intro b4 hb4
  obtain ⟨z, hz⟩ := stab_ex g.letters.length (List.replicate g.letters.length 0) zero_cls (by omega)
  simp (maxSteps := 2000000) (disch := first | omega | assumption | exact idP rfl | exact idP (bL rfl)) only [go_sem, reduceIte, Nat.reduceEqDiff, wpV_kd, wpV_tH, zeros_vi]
  refine loop_g (fun k e M' => ∃ p, k = g.letters.length - reps p ∧ Cls g p ∧ Stab (rndF g) p z ∧ e 1 = .sc (.ptr (some (b1, 0))) ∧ e 3 = .sc (.int .i64 g.letters.length) ∧ Gr 1 M0 M' (e 4) (p.map vi)) _ ⟨_, rfl, zero_cls, hz, sT0, sT0, ?_⟩ ?_
  · refine sS0 ?_
    exact ⟨(Sub.refl _).set hb4, fun q hq => by cases hq; exact hb4, .inr ⟨b4, _, _, rfl, set_same, by simp⟩⟩
  · rintro k e M1 ⟨p, rfl, hp, hpz, e1, e3, hg4⟩ K hK
    have hpl := hp.len
    have m11 := hg4.sub _ _ m1
    refine sS2 @e1 @e3 ?_
    intro b5 hb5
    refine mks3 (by omega) (by simp [mostCells]; omega) (by simp [mostCells]; omega) ?_
    intro b6 hb6
    simp (maxSteps := 2000000) (disch := first | omega | assumption | exact idP rfl | exact idP (bL rfl)) only [go_sem, reduceIte, Nat.reduceEqDiff, wpV_kd, wpV_tH, e1, e3, zeros_vi]
    have ne65 : b6 ≠ b5 := fun h => by subst h; rw [put_same] at hb6; cases hb6
    have hb6' : M1 b6 = none := by rw [put_ne ne65] at hb6; exact hb6
    refine loop_k (fun e' M' => ∃ i : Nat, i ≤ g.letters.length ∧ e' 1 = .sc (.ptr (some (b1, 0))) ∧ e' 3 = .sc (.int .i64 g.letters.length) ∧ e' 4 = e 4 ∧ e' 5 = .sc (.map (some b5)) ∧ e' 6 = .sc (.sl (some (b6, 0)) g.letters.length g.letters.length true 1) ∧ e' 22 = .sc (.int .i64 g.letters.length) ∧ e' 23 = .sc (.int .i64 i) ∧ Sub M1 M' ∧ M' b5 = .some (.map (smE (kmL (kfN g p) i))) ∧ M' b6 = .some ((mrL g p i).map vi)) (fun e' _ => ctrV g.letters.length (e' 23)) ?_ ?_
    · refine ⟨0, by omega, sT0, sT0, sT0, sT0, sT0, sT0, by refine sS0 ?_; rfl, ((Sub.refl _).put hb5).set hb6', ?_, ?_⟩
      · rw [set_ne (Ne.symm ne65), put_same]; rfl
      · rw [set_same, mrL_zero]
    · rintro e' M2 ⟨i, hi, f1, f3, f4, f5, f6, f22, f23, hsub, h5, h6⟩ K2 hK2
      have m12 := hsub _ _ m11
      have hg4' := hg4.more hsub
      refine sS2 @f22 @f23 ?_
      refine cond_dec (fun h => ?_) (fun h => ?_)
      · have hi' : i < g.letters.length := by omega
        have hin' : i < g.next.length := by rw [hnx]; exact hi'
        have hr := hb.elt hin'
        have hro := hr.one.1
        have hrl := hA.ln _ (List.getElem_mem hin')
        have hrin := hin _ (List.getElem_mem hin')
        have hl := ha.elt hi'
        have hll := hA.lt _ (List.getElem_mem hi')
        simp (maxSteps := 2000000) (disch := first | omega | assumption | exact idP rfl | exact idP (bL rfl)) only [go_sem, reduceIte, Nat.reduceEqDiff, wpV_kd, wpV_tH, f1, f3, f4, f5, f6, f22, f23, m12, hb.iaddr, hr.len]
        refine loop_k (fun e2 M' => ∃ j : Nat, j ≤ g.next[i].length ∧ e2 1 = .sc (.ptr (some (b1, 0))) ∧ e2 3 = .sc (.int .i64 g.letters.length) ∧ e2 4 = e 4 ∧ e2 5 = .sc (.map (some b5)) ∧ e2 6 = .sc (.sl (some (b6, 0)) g.letters.length g.letters.length true 1) ∧ e2 7 = .sc (.int .i64 i) ∧ e2 22 = .sc (.int .i64 g.letters.length) ∧ e2 23 = .sc (.int .i64 i) ∧ e2 30 = at1 b i ∧ e2 31 = .sc (.int .i64 g.next[i].length) ∧ e2 32 = .sc (.int .i64 j) ∧ Gr 1 M2 M' (e2 8) ((toS p (g.next[i].take j)).map vi)) (fun e2 _ => ctrV g.next[i].length (e2 32)) ?_ ?_
        · refine ⟨0, by omega, sT0, sT0, sT0, sT0, sT0, sT0, sT0, sT0, sT0, sT0, by refine sS0 ?_; rfl, ?_⟩
          refine sS0 ?_
          exact .nil (Sub.refl _)
        · rintro e2 M3 ⟨j, hj, k1, k3, k4, k5, k6, k7, k22, k23, k30, k31, k32, hg8⟩ K3 hK3
          have hg43 := hg4'.more hg8.sub
          refine sS2 @k31 @k32 ?_
          refine cond_dec (fun h2 => ?_) (fun h2 => ?_)
          · have hj' : j < g.next[i].length := by omega
            have hx := hrin _ (List.getElem_mem hj')
            have hxt : g.next[i][j].toNat < p.length := by omega
            have p1 := hg43.at (by simp; omega)
            have p2 : iaddrV 1 (e 4) (.int .i64 g.next[i][j]) = _ := hg43.own.iaddr hx.1 (by simp; omega)
            have p3 := nth_vi hxt
            simp (maxSteps := 2000000) (disch := first | omega | assumption | exact idP rfl | exact idP (bL rfl)) only [go_sem, reduceIte, Nat.reduceEqDiff, wpV_kd, wpV_tH, k1, k3, k4, k5, k6, k7, k22, k23, k30, k31, k32, hr.iaddr, hr.at hj', p2, p1, p3]
            intro bt hbt
            refine app_int hg8 hbt (by simp [toS]; omega) (by omega) ?_
            intro s' M4 hg9 hoth
            refine sS1 @k32 ?_
            refine hK3 _ _ ⟨j + 1, by omega, sT0, sT0, sT0, sT0, sT0, sT0, sT0, sT0, sT0, sT0, by refine sS0 ?_; rfl, ?_⟩ (by refine sS2 @ctrV_int @k32 ?_; omega)
            refine sS0 ?_
            rw [toS_snoc hj', ix_at hxt]; exact hg9
          · obtain rfl : j = g.next[i].length := by omega
            rw [List.take_length] at hg8
            refine sS8 @k1 @k3 @k4 @k5 @k6 @k7 @k22 @k23 ?_
            refine (t_SortInts hg8 (by simp [toS]; omega)).mono ?_
            rintro _ M4 ⟨rfl, hgs, -⟩
            have m14 := hgs.sub _ _ m12
            have hg44 := hg4'.more hgs.sub
            have hip : i < p.length := by omega
            have p1 := hg44.at (by simp; omega)
            have p2 : iaddrV 1 (e 4) (.int .i64 (i : Int)) = _ := hg44.own.iaddr (by omega) (by simp; omega)
            have p3 := nth_vi hip
            have hpb := hp.bd n4 _ (List.getElem_mem hip)
            have hz1 := ntL_len hll.2
            have hz2 := itoa_len hpb.1
            have hcl : (compF (sortI (toS p g.next[i]))).length ≤ 1000 := by
              have := compF_len (l := sortI (toS p g.next[i]))
              rw [sortI_len, toS_len] at this; omega
            have hcb : ∀ x ∈ compF (sortI (toS p g.next[i])), 0 ≤ x ∧ x ≤ 1000 := fun x hx => by
              rw [mem_compF, mem_sortI] at hx
              obtain ⟨y, hy, rfl⟩ := List.mem_map.1 hx
              have := hrin y hy
              have hyt : y.toNat < p.length := by omega
              rw [ix_at hyt]
              exact hp.bd n4 _ (List.getElem_mem hyt)
            have hz3 := ntL_len hcb
            have hm := hll.1
            have s1 : binF .add (.str (bA (ntL g.letters[i]))) (.str ⟨#[59]⟩) = .some (.str (bA (ntL g.letters[i] ++ [59]))) := sadd (by simp; omega)
            have s2 : binF .add (.str (bA (ntL g.letters[i] ++ [59]))) (.str ⟨(Lib.itoa p[i]).toArray⟩) = .some (.str (bA (ntL g.letters[i] ++ [59] ++ Lib.itoa p[i]))) := sadd (by simp; omega)
            have s3 : binF .add (.str (bA (ntL g.letters[i] ++ [59] ++ Lib.itoa p[i]))) (.str ⟨#[59]⟩) = .some (.str (bA (ntL g.letters[i] ++ [59] ++ Lib.itoa p[i] ++ [59]))) := sadd (by simp; omega)
            have s4 : binF .add (.str (bA (ntL g.letters[i] ++ [59] ++ Lib.itoa p[i] ++ [59]))) (.str (bA (ntL (compF (sortI (toS p g.next[i])))))) = .some (.str (bA (kfN g p i))) := by
              rw [sadd (by simp; omega)]
              congr 3
              simp [kfN, keyL, List.getD, hi', hip, hin']
            refine sS5 @m14 @ha.iaddr @p2 @p1 @p3 ?_
            refine (t_numbersText hl (by omega) hll.2).mono ?_
            rintro _ _ ⟨rfl, rfl⟩
            refine sS3 @s1 @p1 @p3 ?_
            refine (t_Itoa (n := p[i]) (by omega) (by omega)).mono ?_
            rintro _ _ ⟨rfl, rfl⟩
            refine sS2 @s2 @s3 ?_
            refine (t_Compact2 hgs (by rw [sortI_len, toS_len]; omega)).mono ?_
            rintro r5 M5 ⟨M6, u, hgive, hs6, hu⟩
            refine sS0 ?_
            refine hgive ((t_numbersText hu (by omega) hcb).mono ?_)
            rintro _ _ ⟨rfl, rfl⟩
            refine sS1 @s4 ?_
            have h65 := hs6 _ _ h5
            have h66 := hs6 _ _ h6
            have hml : ((mrL g p i).map vi).length = g.letters.length := by simp [mrL_len]
            have hat := kmL_at (kfN g p) i
            rw [first_kfN] at hat
            have fnd := find_smE (kfN g p i) (kmL (kfN g p) i)
            have fnd2 := find_smE (kfN g p i) (kmL (kfN g p) (i + 1))
            rw [hat, Option.map_some] at fnd2
            cases hc : (kmL (kfN g p) i).find? (fun q => decide (kfN g p i = q.1)) with
            | some q =>
              have hk1 : kmL (kfN g p) (i + 1) = kmL (kfN g p) i := by rw [kmL, hc]
              rw [hk1] at fnd2
              refine sS4 @h65 @fnd2 @h66 @hml ?_
              refine hK2 _ _ ⟨i + 1, by omega, sT0, sT0, sT0, sT0, sT0, sT0, by refine sS0 ?_; rfl, (hsub.trans hs6).set hb6', ?_, ?_⟩ (by refine sS2 @ctrV_int @f23 ?_; omega)
              · rw [set_ne (Ne.symm ne65), hk1]; exact h65
              · rw [set_same, ← mrL_set]; exact congrArg _ (congrArg Cell.cells set_vi)
            | none =>
              have hk1 : kmL (kfN g p) (i + 1) = kmL (kfN g p) i ++ [(kfN g p i, (i : Int))] := by rw [kmL, hc]
              have hset := set_smE (v := (i : Int)) hc
              rw [hc, Option.map_none] at fnd
              rw [← hk1] at hset
              have h67 : (M6.put b5 (smE (kmL (kfN g p) (i + 1)))) b6 = .some ((mrL g p i).map vi) := by rw [put_ne ne65]; exact h66
              refine sS6 @h65 @fnd @hset @fnd2 @h67 @hml ?_
              refine hK2 _ _ ⟨i + 1, by omega, sT0, sT0, sT0, sT0, sT0, sT0, by refine sS0 ?_; rfl, ((hsub.trans hs6).put hb5).set hb6', ?_, ?_⟩ (by refine sS2 @ctrV_int @f23 ?_; omega)
              · rw [set_ne (Ne.symm ne65), put_same]
              · rw [set_same, ← mrL_set]; exact congrArg _ (congrArg Cell.cells set_vi)
      · obtain rfl : i = g.letters.length := by omega
        rw [mrL_all] at h6
        have hrc := rndF_cls g p
        have hrl := hrc.len
        rcases hg4.own with ⟨q1, _⟩ | ⟨b4', n4', ex4, q1, q2, q3⟩
        · simp at q1; subst q1; simp at hpl; omega
        have ne64 : b6 ≠ b4' := fun h => by subst h; rw [hb6'] at q2; cases q2
        have hn4 : n4' = p.length := by simpa using q3.symm
        have hrp := reps_le (rndF g p)
        refine sS4 @f1 @f3 @f4 @f6 ?_
        have heq := t_EqualO (ex := true) (ex' := ex4) h6 (hsub _ _ q2) ne64 hrl.symm hn4 (by omega) (by omega)
        rw [← q1] at heq
        refine heq.mono ?_
        rintro _ _ ⟨rfl, rfl⟩
        by_cases hst : rndF g p = p
        · refine sS1 @hst ?_
          exact hR _ _ ⟨p, by rw [hpz.det (.stop hst)] at hz; exact hz, hg4'.base hs1⟩
        · refine sS1 @hst ?_
          refine hK _ _ _ ?_ ⟨rndF g p, rfl, hrc, ?_, sT0, sT0, ?_⟩
          · have := reps_lt hp hst
            omega
          · cases hpz with
            | stop h => exact absurd h hst
            | go _ h => exact h
          · refine sS0 ?_
            exact ⟨hg4.sub.trans hsub, fun q hq => by cases hq; exact hg4.sub.none hb6', .inr ⟨b6, _, _, rfl, h6, by simp [hrl]⟩⟩
end Go.M2

namespace Go.M2
open Go.Proofs
variable {M : MH}
structure QO (tab : List (List Int)) (N : Nat) (st : Nat → Prop) (m : Nat → Bool) (row : List Int) : Prop where
  a : ∀ i, m i = true → i < N ∧ Rch tab st i
  b : ∀ i, st i → m i = true
  c : ∀ x ∈ row, 0 ≤ x ∧ m x.toNat = true
  d : ∀ i : Nat, m i = true → ¬ (i : Int) ∈ row → ∀ y ∈ tab.getD i [], m y.toNat = true
structure QI (tab : List (List Int)) (N : Nat) (st : Nat → Prop) (m : Nat → Bool) (row : List Int) (n j : Nat) : Prop where
  a : ∀ i, m i = true → i < N ∧ Rch tab st i
  b : ∀ i, st i → m i = true
  c : ∀ x ∈ row, 0 ≤ x ∧ m x.toNat = true
  d : ∀ i : Nat, m i = true → ¬ (i : Int) ∈ row → i ≠ n → ∀ y ∈ tab.getD i [], m y.toNat = true
  e : ∀ y ∈ (tab.getD n []).take j, m y.toNat = true
  n_ : m n = true
section
variable {tab : List (List Int)} {N : Nat} {st : Nat → Prop} {m : Nat → Bool} {row : List Int} {n j : Nat} {x : Int}
theorem QO.pop (h : QO tab N st m (x :: row)) : QI tab N st m row x.toNat 0 := by
  obtain ⟨hx0, hx1⟩ := h.c x (List.mem_cons_self ..)
  refine ⟨h.a, h.b, fun y hy => h.c y (List.mem_cons_of_mem _ hy), fun i hi hr hn => h.d i hi fun hm => ?_, fun y hy => by simp at hy, hx1⟩
  rcases List.mem_cons.1 hm with h1 | h1
  · omega
  · exact hr h1
theorem QI.done (h : QI tab N st m row n j) (hj : (tab.getD n []).length ≤ j) : QO tab N st m row := by
  refine ⟨h.a, h.b, h.c, fun i hi hr => ?_⟩
  by_cases e : i = n
  · subst e
    have := h.e
    rwa [List.take_of_length_le hj] at this
  · exact h.d i hi hr e
theorem QI.skip (h : QI tab N st m row n j) (hj : j < (tab.getD n []).length) (hm : m (tab.getD n [])[j].toNat = true) : QI tab N st m row n (j + 1) := by
  refine ⟨h.a, h.b, h.c, h.d, fun y hy => ?_, h.n_⟩
  rw [take_snoc hj, List.mem_append, List.mem_singleton] at hy
  rcases hy with h1 | rfl
  · exact h.e y h1
  · exact hm
theorem QI.push (h : QI tab N st m row n j) (hj : j < (tab.getD n []).length) (h0 : 0 ≤ (tab.getD n [])[j]) (hN : (tab.getD n [])[j].toNat < N) :
    QI tab N st (fun i => m i || decide (i = (tab.getD n [])[j].toNat)) (row ++ [(tab.getD n [])[j]]) n (j + 1) := by
  have up : ∀ i, m i = true → (m i || decide (i = (tab.getD n [])[j].toNat)) = true := fun i hi => by simp [hi]
  refine ⟨fun i hi => ?_, fun i hi => up i (h.b i hi), fun y hy => ?_, fun i hi hr hn y hy => ?_, fun y hy => ?_, up _ h.n_⟩
  · simp only [Bool.or_eq_true, decide_eq_true_eq] at hi
    rcases hi with h1 | rfl
    · exact h.a i h1
    · exact ⟨hN, .step (h.a n h.n_).2 (List.getElem_mem hj)⟩
  · rcases List.mem_append.1 hy with h1 | h1
    · exact ⟨(h.c y h1).1, up _ (h.c y h1).2⟩
    · rw [List.mem_singleton] at h1
      subst h1
      exact ⟨h0, by simp⟩
  · simp only [Bool.or_eq_true, decide_eq_true_eq] at hi
    rcases hi with h1 | h1
    · exact up _ (h.d i h1 (fun hm => hr (List.mem_append_left _ hm)) hn y hy)
    · exact absurd (List.mem_append_right _ (List.mem_singleton.2 (by omega))) hr
  · rw [take_snoc hj, List.mem_append, List.mem_singleton] at hy
    rcases hy with h1 | rfl
    · exact up _ (h.e y h1)
    · simp
theorem QO.final (h : QO tab N st m []) (i : Nat) : m i = rB tab st i := rB_closed h.b (fun i hi => (h.a i hi).2) (fun i hi => h.d i hi (by simp)) i
end
theorem Gr.wn {M0 M : MH} {v : V} {xs : List Int} (h : Gr 1 M0 M v (xs.map vi)) (h0 : 0 < xs.length) : Wn M0 M v xs := by
  rcases h.own with ⟨h1, _⟩ | ⟨b, n, ex, rfl, h1, h2⟩
  · have : xs = [] := by simpa using h1
    subst this; simp at h0
  · have hn : n = xs.length := by simp at h2; omega
    subst hn
    exact ⟨b, 0, ex, _, rfl, h1, by simp, by rw [List.drop_zero, List.take_of_length_le (by simp)], h.new b rfl, h.sub⟩
theorem Wn.base {M0 M1 M : MH} {v : V} {xs : List Int} (h : Wn M1 M v xs) (hs : Sub M0 M1) : Wn M0 M v xs := by
  obtain ⟨b, o, ex, l, rfl, h1, h2, h3, h4, h5⟩ := h
  exact ⟨b, o, ex, l, rfl, h1, h2, h3, hs.none h4, hs.trans h5⟩
end Go.M2

namespace Go.M2
open Go.Proofs
inductive Rk (tab : List (List Int)) (st : Nat → Prop) : Nat → Nat → Prop
  | zero {i : Nat} : st i → Rk tab st 0 i
  | succ {k i : Nat} {x : Int} : Rk tab st k i → x ∈ tab.getD i [] → Rk tab st (k + 1) x.toNat
open Classical in
noncomputable def dst (tab : List (List Int)) (st : Nat → Prop) (i : Nat) : Int := if ∃ k, Rk tab st k i then (leastOf fun k => Rk tab st k i : Nat) else -1
section
variable {tab : List (List Int)} {st : Nat → Prop} {i d : Nat}
theorem dst_of {k : Nat} (h : Rk tab st k i) : ∃ n : Nat, dst tab st i = (n : Int) ∧ Rk tab st n i ∧ n ≤ k := by
  have hs := leastOf_spec (p := fun k => Rk tab st k i) ⟨k, h⟩
  refine ⟨_, ?_, hs.1, hs.2 k h⟩
  unfold dst
  rw [if_pos ⟨k, h⟩]
theorem dst_ge (tab : List (List Int)) (st : Nat → Prop) (i : Nat) : -1 ≤ dst tab st i := by
  unfold dst
  split <;> omega
theorem dst_nat {n : Nat} (h : dst tab st i = (n : Int)) : Rk tab st n i ∧ ∀ k, Rk tab st k i → n ≤ k := by
  have hex : ∃ k, Rk tab st k i := by
    apply Classical.byContradiction
    intro hn
    unfold dst at h
    rw [if_neg hn] at h
    omega
  have hs := leastOf_spec (p := fun k => Rk tab st k i) hex
  have e : (leastOf fun k => Rk tab st k i) = n := by
    unfold dst at h
    rw [if_pos hex] at h
    omega
  rw [e] at hs
  exact hs
theorem dst_rch : 0 ≤ dst tab st i ↔ Rch tab st i := by
  constructor
  · intro h
    obtain ⟨n, hn⟩ : ∃ n : Nat, dst tab st i = (n : Int) := ⟨(dst tab st i).toNat, by omega⟩
    have h1 := (dst_nat hn).1
    clear hn h
    induction h1 with
    | zero h => exact .base h
    | succ _ hx ih => exact .step ih hx
  · intro h
    have : ∃ k, Rk tab st k i := by
      induction h with
      | base h => exact ⟨0, .zero h⟩
      | step _ hx ih => obtain ⟨k, hk⟩ := ih; exact ⟨k + 1, .succ hk hx⟩
    obtain ⟨k, hk⟩ := this
    obtain ⟨n, h1, _⟩ := dst_of hk
    omega
theorem dst_zero : dst tab st i = 0 ↔ st i := by
  constructor
  · intro h
    have h1 := (dst_nat (n := 0) h).1
    cases h1 with
    | zero h => exact h
  · intro h
    obtain ⟨n, h1, _, h2⟩ := dst_of (tab := tab) (.zero h)
    omega
theorem dst_pred (h : dst tab st i = ((d + 1 : Nat) : Int)) : ∃ (p : Nat) (x : Int), dst tab st p = (d : Int) ∧ x ∈ tab.getD p [] ∧ x.toNat = i := by
  obtain ⟨h1, h2⟩ := dst_nat h
  generalize hk : d + 1 = k at h1
  cases h1 with
  | zero h => omega
  | @succ k p x hp hx =>
    obtain ⟨n, q1, q2, q3⟩ := dst_of hp
    have := h2 _ (.succ q2 hx)
    exact ⟨p, x, by omega, hx, rfl⟩
theorem dst_next {x : Int} (h : dst tab st i = (d : Int)) (hx : x ∈ tab.getD i []) : 0 ≤ dst tab st x.toNat ∧ dst tab st x.toNat ≤ (d : Int) + 1 := by
  obtain ⟨n, q1, _, q2⟩ := dst_of (.succ (dst_nat h).1 hx)
  omega
theorem dst_all (h : ∀ i, dst tab st i ≠ ((d + 1 : Nat) : Int)) : ∀ i, dst tab st i ≤ (d : Int) := by
  have key : ∀ (n : Nat) (i : Nat), dst tab st i = ((d + 1 + n : Nat) : Int) → False := by
    intro n
    induction n with
    | zero => exact fun i hi => h i hi
    | succ n ih =>
      intro i hi
      obtain ⟨p, x, hp, _⟩ := dst_pred (d := d + 1 + n) hi
      exact ih p hp
  intro i
  rcases Int.lt_or_le (d : Int) (dst tab st i) with h1 | h1
  · exact (key ((dst tab st i).toNat - (d + 1)) i (by omega)).elim
  · exact h1
end
noncomputable def lv (tab : List (List Int)) (st : Nat → Prop) (d : Int) (i : Nat) : Int := if dst tab st i ≤ d then dst tab st i else -1
structure LvI (tab : List (List Int)) (N : Nat) (st : Nat → Prop) (d : Nat) (a : Nat → Bool) (n : Nat) : Prop where
  s : ∀ i, a i = true → i < N ∧ dst tab st i = ((d + 1 : Nat) : Int)
  c : ∀ p, p < n → dst tab st p = (d : Int) → ∀ y ∈ tab.getD p [], 0 ≤ lv tab st d y.toNat ∨ a y.toNat = true
noncomputable def lvA (tab : List (List Int)) (st : Nat → Prop) (d : Nat) (a : Nat → Bool) (i : Nat) : Int := if a i = true then (d : Int) + 1 else lv tab st d i
section
variable {tab : List (List Int)} {N : Nat} {st : Nat → Prop} {d n : Nat} {a : Nat → Bool}
theorem LvI.last (h : LvI tab N st d a N) (hst : ∀ i, Rch tab st i → i < N) (i : Nat) : lvA tab st d a i = lv tab st ((d : Int) + 1) i := by
  unfold lvA lv
  by_cases ha : a i = true
  · rw [if_pos ha, (h.s i ha).2, if_pos (by omega)]; omega
  · rw [if_neg ha]
    by_cases h1 : dst tab st i ≤ (d : Int)
    · rw [if_pos h1, if_pos (by omega)]
    · rw [if_neg h1]
      by_cases h2 : dst tab st i ≤ (d : Int) + 1
      · exfalso
        obtain ⟨p, x, hp, hx, rfl⟩ := dst_pred (d := d) (show dst tab st i = ((d + 1 : Nat) : Int) by omega)
        rcases h.c p (hst p (dst_rch.1 (by omega))) hp x hx with h3 | h3
        · unfold lv at h3
          rw [if_neg h1] at h3
          omega
        · exact ha h3
      · rw [if_neg h2]
theorem LvI.none (h : LvI tab N st d a N) (hst : ∀ i, Rch tab st i → i < N) (ha : ∀ i, a i = false) (i : Nat) : lvA tab st d a i = dst tab st i := by
  have hall := dst_all (tab := tab) (st := st) (d := d) fun j hj => by
    have h1 := h.last hst j
    unfold lvA lv at h1
    rw [ha j] at h1
    simp only [Bool.false_eq_true, if_false] at h1
    rw [if_neg (by omega), if_pos (by omega)] at h1
    omega
  unfold lvA lv
  rw [ha i, if_pos (hall i)]
  simp
theorem LvI.mono {a' : Nat → Bool} (h : LvI tab N st d a n) (h2 : ∀ i, a' i = true → i < N ∧ dst tab st i = ((d + 1 : Nat) : Int)) (h3 : ∀ i, a i = true → a' i = true) : LvI tab N st d a' n :=
  ⟨h2, fun p hp hd y hy => (h.c p hp hd y hy).imp id (h3 _)⟩
end
end Go.M2

namespace Go.M2
open Go.Proofs
variable {M : MH}
end Go.M2

namespace Go.M2
open Go.Proofs
variable {M : MH}
end Go.M2

namespace Go.M2
open Go.Proofs
variable {M : MH}
theorem toS_in {g : GrS} {p : List Int} (hp : Cls g p) {row : List Int} (hr : ∀ x ∈ row, 0 ≤ x ∧ x < (g.letters.length : Int)) : ∀ y ∈ toS p row, 0 ≤ y ∧ y < (g.letters.length : Int) := fun y hy => by
  obtain ⟨x, hx, rfl⟩ := List.mem_map.1 hy
  have h1 := hr x hx
  have hl := hp.len
  have hxt : x.toNat < p.length := by omega
  have h2 := hp.at_ x.toNat hxt
  rw [ix_at hxt]
  simp only [List.getD, List.getElem?_eq_getElem hxt, Option.getD_some] at h2
  omega
theorem t_l25Class {v w : V} {g : GrS} {p : List Int} {n : Nat} (hv : isGr g v) (hA : AlOk g) (hp : Cls g p) (hw : LI w p) (hn : n < g.letters.length) :
    VCall Tryd.prog n_spec_l25Class [v, w, .sc (.int .i64 n)] M (fun r M' => Gr 1 M M' r ((selL g.letters.length (inL (toS p (g.next.getD n [])))).map vi)) := by
  refine VCall.plain fun R hR => v_spec_l25Class rfl ?_
  obtain ⟨a, b, rfl, ha, hb⟩ := hv
  obtain ⟨n1, n4⟩ := hA.n0
  have hnx : g.next.length = g.letters.length := hA.nx.len
  have hn' : n < g.next.length := by omega
  have hr := hb.elt hn'
  have hrl := hA.ln _ (List.getElem_mem hn')
  have hrin : ∀ x ∈ g.next[n], 0 ≤ x ∧ x < (g.letters.length : Int) := hA.nx.in_ _ (List.getElem_mem hn')
  have hro : g.next.getD n [] = g.next[n] := by simp [List.getD, hn']
  rw [hro] at hR
  have hpl := hp.len
  refine sS0 ?_
  intro b3 hb3
  have m3 : (M.set b3 [a, V.sc (AV.int IntKind.i64 g.first), b]) b3 = .some [a, V.sc (AV.int IntKind.i64 g.first), b] := set_same
  have hs3 : Sub M (M.set b3 [a, V.sc (AV.int IntKind.i64 g.first), b]) := (Sub.refl M).set hb3
  generalize (M.set b3 [a, V.sc (AV.int IntKind.i64 g.first), b]) = M0 at *
  refine sS1 @hw.len ?_
  refine mks3 (by omega) (by simp [mostCells]; omega) (by simp [mostCells]; omega) ?_
  intro b7 hb7
  simp (maxSteps := 2000000) (disch := first | omega | assumption | exact idP rfl | exact idP (bL rfl)) only [go_sem, reduceIte, Nat.reduceEqDiff, wpV_kd, wpV_tH, zeros_vb, mkL_none]
  have ne73 : b7 ≠ b3 := fun h => by subst h; rw [hb7] at m3; cases m3
  refine loop_k (fun e M' => ∃ i : Nat, i ≤ g.next[n].length ∧ e 1 = w ∧ e 2 = .sc (.int .i64 n) ∧ e 3 = .sc (.ptr (some (b3, 0))) ∧ e 7 = .sc (.sl (some (b7, 0)) p.length p.length true 1) ∧ e 8 = .sc (.int .i64 i) ∧ Sub M0 M' ∧ M' b7 = .some ((mkL p.length (inL (toS p (g.next[n].take i)))).map vb)) (fun e _ => ctrV g.next[n].length (e 8)) ?_ ?_
  · refine ⟨0, by omega, sT0, sT0, sT0, sT0, by refine sS0 ?_; rfl, (Sub.refl _).set hb7, ?_⟩
    refine sS0 ?_
    rw [mkL_ext]
    intro i hi; simp [inL, toS]
  · rintro e M1 ⟨i, hi, e1, e2, e3, e7, e8, hsub, h7⟩ K hK
    have m13 := hsub _ _ m3
    refine sS8 @e1 @e2 @e3 @e7 @e8 @m13 @hb.iaddr @hr.len ?_
    refine cond_dec (fun h => ?_) (fun h => ?_)
    · have hi' : i < g.next[n].length := by omega
      have hx := hrin _ (List.getElem_mem hi')
      have hxt : g.next[n][i].toNat < p.length := by omega
      have hxi : g.next[n][i] < (p.length : Int) := by omega
      have hy := toS_in hp hrin (ix p g.next[n][i]) (List.mem_map.2 ⟨_, List.getElem_mem hi', rfl⟩)
      rw [ix_at hxt] at hy
      have hyt : p[g.next[n][i].toNat].toNat < p.length := by omega
      have hml : ((mkL p.length (inL (toS p (g.next[n].take i)))).map vb).length = p.length := by simp [mkL_len]
      simp (maxSteps := 2000000) (disch := first | omega | assumption | exact idP rfl | exact idP (bL rfl)) only [go_sem, reduceIte, Nat.reduceEqDiff, wpV_kd, wpV_tH, e1, e2, e3, e7, e8, m13, hb.iaddr, hr.iaddr, hr.at hi', hw.iaddr, hw.at hxt, h7, hml]
      refine hK _ _ ⟨i + 1, by omega, sT0, sT0, sT0, sT0, by refine sS0 ?_; rfl, hsub.set hb7, ?_⟩ (by refine sS2 @ctrV_int @e8 ?_; omega)
      rw [set_same, mkL_setv (q := inL (toS p (g.next[n].take (i + 1)))) fun q hq => ?_]
      rw [toS_snoc hi', ix_at hxt]
      simp only [inL]
      rw [Bool.eq_iff_iff]
      simp only [Bool.or_eq_true, decide_eq_true_eq, List.mem_append, List.mem_singleton]
      exact or_congr Iff.rfl (by omega)
    · obtain rfl : i = g.next[n].length := by omega
      rw [List.take_length, hpl] at h7
      refine sS1 @e7 ?_
      refine (VCall.give0 (⟨hs3.trans hsub, fun q hq => by cases hq; exact hs3.none hb7, .inr ⟨b7, _, _, rfl, h7, by simp [mkL_len, hpl]⟩⟩ : Gr 1 M M1 _ _) fun u M2 hu hs2 => (t_l4List hu.lb (by omega)).mono fun r M' hr => hr.base hs2).mono ?_
      intro r M2 hg2
      refine sS0 ?_
      exact hR _ _ hg2
theorem f_l25Class {v w : V} {g : GrS} {p : List Int} {n : Nat} (hv : isGr g v) (hA : AlOk g) (hp : Cls g p) (hw : LI w p) (hn : n < g.letters.length) :
    VCall Tryd.prog n_spec_l25Class [v, w, .sc (.int .i64 n)] M (fun r M' => M = M' ∧ LI r (selL g.letters.length (inL (toS p (g.next.getD n []))))) :=
  (VCall.fr1 (t_l25Class hv hA hp hw hn)).mono fun r M' ⟨h1, h2⟩ => ⟨h1, h2.li⟩
structure DnAt (R : Nat → Nat → Bool) (i k a : Nat) : Prop where
  le : a ≤ i
  ge : k ≤ a
  rel : R a i = true
  no : ∀ j, k ≤ j → j < a → R j i = false
theorem DnAt.init {R : Nat → Nat → Bool} {i : Nat} (h : R i i = true) : DnAt R i i i := ⟨Nat.le_refl _, Nat.le_refl _, h, fun j h1 h2 => by omega⟩
theorem DnAt.yes {R : Nat → Nat → Bool} {i k a : Nat} (h : DnAt R i (k + 1) a) (hr : R k i = true) : DnAt R i k k := ⟨by have := h.le; have := h.ge; omega, Nat.le_refl _, hr, fun j h1 h2 => by omega⟩
theorem DnAt.skip {R : Nat → Nat → Bool} {i k a : Nat} (h : DnAt R i (k + 1) a) (hr : R k i = false) : DnAt R i k a := ⟨h.le, by have := h.ge; omega, h.rel, fun j h1 h2 => by
  by_cases e : j = k
  · subst e; exact hr
  · exact h.no j (by omega) h2⟩
theorem DnAt.fin {R : Nat → Nat → Bool} {i a : Nat} (h : DnAt R i 0 a) (hii : R i i = true) : a = firstAt R i := by
  have h1 := firstAt_min h.rel h.le
  have h2 := firstAt_rel (R := R) hii
  rcases Nat.lt_or_ge (firstAt R i) a with h3 | h3
  · rw [h.no _ (Nat.zero_le _) h3] at h2; cases h2
  · omega
def clR (g : GrS) (p : List Int) (n : Nat) : List Int := selL g.letters.length (inL (toS p (g.next.getD n [])))
theorem clR_iff {g : GrS} {p : List Int} (hA : AlOk g) (hp : Cls g p) {i j : Nat} (hi : i < g.letters.length) (hj : j < g.letters.length) : clR g p i = clR g p j ↔ sameSet (toS p (g.next.getD i [])) (toS p (g.next.getD j [])) = true := by
  have hnx : g.next.length = g.letters.length := hA.nx.len
  have hin : ∀ i, i < g.letters.length → ∀ y ∈ toS p (g.next.getD i []), 0 ≤ y ∧ y < (g.letters.length : Int) := fun i hi => by
    have h : i < g.next.length := by omega
    rw [show g.next.getD i [] = g.next[i] by simp [List.getD, h]]
    exact toS_in hp (hA.nx.in_ _ (List.getElem_mem h))
  have mem : ∀ i, i < g.letters.length → ∀ x, x ∈ clR g p i ↔ x ∈ toS p (g.next.getD i []) := fun i hi x => by
    constructor
    · intro h
      obtain ⟨q, hq, rfl⟩ := List.mem_map.1 h
      have := (List.mem_filter.1 hq).2
      simpa [inL] using this
    · intro h
      have := hin i hi x h
      refine List.mem_map.2 ⟨x.toNat, List.mem_filter.2 ⟨List.mem_range.2 (by omega), ?_⟩, by omega⟩
      rw [show inL (toS p (g.next.getD i [])) x.toNat = decide (((x.toNat : Nat) : Int) ∈ toS p (g.next.getD i [])) from rfl, show ((x.toNat : Nat) : Int) = x by omega]
      simpa using h
  rw [sameSet_iff]
  constructor
  · intro e x
    rw [← mem i hi, ← mem j hj, e]
  · intro h
    exact asc_eq selL_asc selL_asc fun x => by
      have := h x
      rw [← mem i hi, ← mem j hj] at this
      exact this
theorem t_l25Round {v w : V} {g : GrS} {p : List Int} (hv : isGr g v) (hA : AlOk g) (hp : Cls g p) (hw : LI w p) :
    VCall Tryd.prog n_spec_l25Round [v, w] M (fun r M' => Gr 1 M M' r ((rndG g p).map vi)) := by
  refine VCall.plain fun R hR => v_spec_l25Round rfl ?_
  have hv0 := hv
  obtain ⟨a, b, rfl, ha, hb⟩ := hv
  obtain ⟨n1, n4⟩ := hA.n0
  have hpl := hp.len
  refine sS0 ?_
  intro b2 hb2
  have m2 : (M.set b2 [a, V.sc (AV.int IntKind.i64 g.first), b]) b2 = .some [a, V.sc (AV.int IntKind.i64 g.first), b] := set_same
  have hs2 : Sub M (M.set b2 [a, V.sc (AV.int IntKind.i64 g.first), b]) := (Sub.refl M).set hb2
  generalize (M.set b2 [a, V.sc (AV.int IntKind.i64 g.first), b]) = M0 at *
  intro b5 hb5
  refine loop_k (fun e M' => ∃ (i : Nat) (us : List V), i ≤ p.length ∧ e 1 = w ∧ e 2 = .sc (.ptr (some (b2, 0))) ∧ e 6 = .sc (.int .i64 i) ∧ Gr 1 M0 M' (e 5) us ∧ Cs (fun ys u => LI u ys) us ((List.range i).map (clR g p))) (fun e _ => ctrV p.length (e 6)) ?_ ?_
  · exact ⟨0, [], by omega, sT0, sT0, by refine sS0 ?_; rfl, by refine sS0 ?_; exact Gr.new' (Sub.refl _) hb5 rfl, .nil⟩
  · rintro e M1 ⟨i, us, hi, e1, e2, e6, hg, hc⟩ K hK
    have m12 := hg.sub _ _ m2
    have hul : us.length = i := by have := hc.1; simp at this; omega
    refine sS4 @e1 @e2 @e6 @hw.len ?_
    refine cond_dec (fun h => ?_) (fun h => ?_)
    · refine sS4 @e1 @e2 @e6 @m12 ?_
      refine (f_l25Class hv0 hA hp hw (by omega)).mono ?_
      rintro r _ ⟨rfl, hr⟩
      have hr1 := hr.one.1
      have hr2 := hr.one.2
      refine sS2 @hr1 @hr2 ?_
      intro bt hbt
      refine app_val hg hbt hr1 (by omega) (by omega) ?_
      intro s' M2 hg2 _
      refine sS1 @e6 ?_
      refine hK _ _ ⟨i + 1, us ++ [r], by omega, sT0, sT0, by refine sS0 ?_; rfl, by refine sS0 ?_; exact hg2, ?_⟩ (by refine sS2 @ctrV_int @e6 ?_; omega)
      rw [List.range_succ, List.map_append]
      exact hc.snoc hr
    · obtain rfl : i = p.length := by omega
      refine sS1 @e1 ?_
      intro b7 hb7
      refine loop_k (fun e' M' => ∃ i : Nat, i ≤ p.length ∧ e' 1 = w ∧ e' 5 = e 5 ∧ e' 8 = .sc (.int .i64 i) ∧ Gr 1 M1 M' (e' 7) (((List.range i).map fun i => (firstAt (rowR g p) i : Int)).map vi)) (fun e' _ => ctrV p.length (e' 8)) ?_ ?_
      · exact ⟨0, by omega, sT0, sT0, by refine sS0 ?_; rfl, by refine sS0 ?_; exact Gr.new' (Sub.refl _) hb7 rfl⟩
      · rintro e' M2 ⟨i, hi, f1, f5, f8, hg7⟩ K2 hK2
        have hgr := hg.more hg7.sub
        refine sS4 @f1 @f5 @f8 @hw.len ?_
        refine cond_dec (fun h => ?_) (fun h => ?_)
        · have hi' : i < p.length := by omega
          have hin : i < us.length := by omega
          obtain ⟨ui, hui, hli⟩ := hc.2 i (by simp; omega)
          simp only [List.getElem_map, List.getElem_range] at hli
          have ei : (i : Int) - 1 = ((i : Nat) : Int) - 1 := rfl
          refine sS3 @f1 @f5 @f8 ?_
          refine loop_k (fun e2 M' => M' = M2 ∧ ∃ m a : Nat, m ≤ i ∧ e2 1 = w ∧ e2 5 = e 5 ∧ e2 7 = e' 7 ∧ e2 8 = .sc (.int .i64 i) ∧ e2 9 = .sc (.int .i64 a) ∧ e2 10 = .sc (.int .i64 ((m : Int) - 1)) ∧ DnAt (rowR g p) i m a) (fun e2 _ => dnV (e2 10)) ?_ ?_
          · exact ⟨rfl, i, i, Nat.le_refl _, sT0, sT0, sT0, sT0, sT0, sT0, .init ((rowR_eqv g p).refl i)⟩
          · rintro e2 _ ⟨rfl, m, a', hm, k1, k5, k7, k8, k9, k10, hd⟩ K3 hK3
            refine sS6 @k1 @k5 @k7 @k8 @k9 @k10 ?_
            refine cond_dec (fun h2 => ?_) (fun h2 => ?_)
            · obtain ⟨q, rfl⟩ : ∃ q, m = q + 1 := ⟨m - 1, by omega⟩
              have eq : ((q + 1 : Nat) : Int) - 1 = (q : Int) := by omega
              have hq : q < p.length := by omega
              obtain ⟨uq, huq, hlq⟩ := hc.2 q (by simp; omega)
              simp only [List.getElem_map, List.getElem_range] at hlq
              have pa := hgr.at (by omega)
              have pi : iaddrV 1 (e 5) (.int .i64 (i : Int)) = _ := hgr.own.iaddr (by omega) (by omega)
              have pq : iaddrV 1 (e 5) (.int .i64 (q : Int)) = _ := hgr.own.iaddr (by omega) (by omega)
              have gq : p.getD q 0 = p[q] := by simp [List.getD, hq]
              have gi : p.getD i 0 = p[i] := by simp [List.getD, hi']
              have hql : (clR g p q).length ≤ 1048576 := by have : (clR g p q).length ≤ g.letters.length := selL_len; omega
              by_cases hc1 : p[q] = p[i]
              · simp (maxSteps := 2000000) (disch := first | omega | assumption | exact idP rfl | exact idP (bL rfl)) only [go_sem, reduceIte, Nat.reduceEqDiff, wpV_kd, wpV_tH, k1, k5, k7, k8, k9, k10, eq, hw.iaddr, hw.at hq, hw.at hi', hc1, pi, pq, pa, huq, hui]
                refine (t_l2Same hlq hli hql).mono ?_
                rintro _ _ ⟨rfl, rfl⟩
                by_cases hc2 : clR g p q = clR g p i
                · have hrr : rowR g p q i = true := by
                    simp only [rowR, gq, gi, hc1, decide_true, Bool.true_and]
                    exact (clR_iff hA hp (by omega) (by omega)).1 hc2
                  refine sS3 @hc2 @k10 @eq ?_
                  exact hK3 _ _ ⟨rfl, q, q, by omega, sT0, sT0, sT0, sT0, sT0, sT0, hd.yes hrr⟩ (by refine sS2 @k10 @eq ?_; omega)
                · have hrr : rowR g p q i = false := by
                    rw [Bool.eq_false_iff]
                    intro hh
                    simp only [rowR, Bool.and_eq_true] at hh
                    exact hc2 ((clR_iff hA hp (by omega) (by omega)).2 hh.2)
                  refine sS3 @hc2 @k10 @eq ?_
                  exact hK3 _ _ ⟨rfl, q, a', by omega, sT0, sT0, sT0, sT0, sT0, sT0, hd.skip hrr⟩ (by refine sS2 @k10 @eq ?_; omega)
              · have hrr : rowR g p q i = false := by
                  rw [Bool.eq_false_iff]
                  intro hh
                  simp only [rowR, Bool.and_eq_true, decide_eq_true_eq, gq, gi] at hh
                  exact hc1 hh.1
                simp (maxSteps := 2000000) (disch := first | omega | assumption | exact idP rfl | exact idP (bL rfl)) only [go_sem, reduceIte, Nat.reduceEqDiff, wpV_kd, wpV_tH, k1, k5, k7, k8, k9, k10, eq, hw.iaddr, hw.at hq, hw.at hi', hc1]
                exact hK3 _ _ ⟨rfl, q, a', by omega, sT0, sT0, sT0, sT0, sT0, sT0, hd.skip hrr⟩ (by refine sS2 @k10 @eq ?_; omega)
            · obtain rfl : m = 0 := by omega
              have ha' := hd.fin ((rowR_eqv g p).refl i)
              refine sS5 @k1 @k5 @k7 @k8 @k9 ?_
              intro bt hbt
              refine app_int hg7 hbt (by simp; omega) (by omega) ?_
              intro s' M4 hg8 _
              refine sS1 @k8 ?_
              refine hK2 _ _ ⟨i + 1, by omega, sT0, sT0, by refine sS0 ?_; rfl, ?_⟩ (by refine sS2 @ctrV_int @f8 ?_; omega)
              refine sS0 ?_
              rw [List.map_append, List.map_singleton, ← ha']
              exact hg8
        · obtain rfl : i = p.length := by omega
          refine sS0 ?_
          rw [hpl] at hg7
          exact hR _ _ (hg7.base (hs2.trans hg.sub))
end Go.M2

namespace Go.M2
open Go.Proofs
variable {M : MH}
inductive Run (F : List Int → List Int) : List Int → List (List Int) → Prop
  | stop {p : List Int} : F p = p → Run F p [p]
  | go {p : List Int} {rs : List (List Int)} : F p ≠ p → Run F (F p) rs → Run F p (p :: rs)
theorem Run.of {F : List Int → List Int} {p z : List Int} (h : Stab F p z) : ∃ rs, Run F p rs ∧ rs.getLast? = .some z := by
  induction h with
  | stop h => exact ⟨_, .stop h, rfl⟩
  | go h _ ih =>
    obtain ⟨rs, h1, h2⟩ := ih
    refine ⟨_, .go h h1, ?_⟩
    cases h1 <;> simpa using h2
theorem Run.pos {F : List Int → List Int} {p : List Int} {rs : List (List Int)} (h : Run F p rs) : 0 < rs.length := by cases h <;> simp
theorem Run.head {F : List Int → List Int} {p : List Int} {rs : List (List Int)} (h : Run F p rs) (h0 : 0 < rs.length) : rs[0] = p := by cases h <;> rfl
theorem Run.step {F : List Int → List Int} {p : List Int} {rs : List (List Int)} (h : Run F p rs) : ∀ k (hk : k < rs.length), (∀ h2 : k + 1 < rs.length, rs[k + 1] = F rs[k] ∧ F rs[k] ≠ rs[k]) ∧ (k + 1 = rs.length → F rs[k] = rs[k]) := by
  induction h with
  | stop h => intro k hk; simp at hk; subst hk; exact ⟨fun h2 => by simp at h2, fun _ => h⟩
  | @go p rs h h1 ih =>
    intro k hk
    cases k with
    | zero =>
      refine ⟨fun h2 => ?_, fun h2 => ?_⟩
      · simp only [List.getElem_cons_succ, List.getElem_cons_zero]
        have h3 : 0 < rs.length := by simpa using h2
        rw [h1.head h3]; exact ⟨rfl, h⟩
      · have := h1.pos; simp only [List.length_cons] at h2; omega
    | succ k =>
      have h3 := ih k (by simpa using hk)
      refine ⟨fun h2 => ?_, fun h2 => ?_⟩
      · simp only [List.getElem_cons_succ]; exact h3.1 (by simpa using h2)
      · simp only [List.getElem_cons_succ]; exact h3.2 (by simpa using h2)
theorem loop_fg {P : Program} {Q : PostV} {e : EnvV} {M : MH} {a : IR} (I : Nat → EnvV → MH → Prop) (n : Nat) (h0 : ∃ e0 M0, FzE e M e0 M0 ∧ I n e0 M0)
    (hr : ∀ n e M, I n e M → ∀ K : EnvV → MH → Prop, (∀ m e' M', m < n → I m e' M' → K e' M') → wpV P a (thenQV K Q) e M) : wpV P (.loop a) Q e M := by
  obtain ⟨e0, M0, hz, h0⟩ := h0
  refine loop_f (fun e M => ∃ n, I n e M) (fun e M => leastOf fun n => I n e M) ⟨e0, M0, hz, n, h0⟩ fun e M hI K hK => ?_
  have h1 := leastOf_spec hI
  exact hr _ e M h1.1 K fun m e' M' hm hI' => hK e' M' e' M' (.refl _ _) ⟨m, hI'⟩ (Nat.lt_of_le_of_lt ((leastOf_spec ⟨m, hI'⟩).2 m hI') hm)
theorem rndG_cls (g : Gr2) (p : List Int) : Cls g (rndG g p) := cls_of (rowR_eqv g p)
theorem cls0_cls (g : Gr2) : Cls g (cls0 g) := cls_of (letR_eqv g)
theorem Run.all {g : Gr2} {p : List Int} {rs : List (List Int)} (h : Run (rndG g) p rs) : Cls g p → ∀ r ∈ rs, Cls g r := by
  induction h with
  | stop h => intro hp r hr; rw [List.mem_singleton] at hr; subst hr; exact hp
  | go h h1 ih =>
    intro hp r hr
    rcases List.mem_cons.1 hr with rfl | hr
    · exact hp
    · exact ih (rndG_cls _ _) r hr
theorem f_l25Round {v w : V} {g : GrS} {p : List Int} (hv : isGr g v) (hA : AlOk g) (hp : Cls g p) (hw : LI w p) :
    VCall Tryd.prog n_spec_l25Round [v, w] M (fun r M' => M = M' ∧ LI r (rndG g p)) :=
  (VCall.fr1 (t_l25Round hv hA hp hw)).mono fun r M' ⟨h1, h2⟩ => ⟨h1, h2.li⟩
theorem t_l25Rounds {v : V} {g : GrS} {rs : List (List Int)} (hv : isGr g v) (hA : AlOk g) (hrun : Run (rndG g) (cls0 g) rs) (hrl : rs.length ≤ 1000000) :
    VCall Tryd.prog n_spec_l25Rounds [v] M (fun r M' => M = M' ∧ LII r rs) := by
  refine VCall.froz fun R hP hG => v_spec_l25Rounds rfl ?_
  have hv0 := hv
  obtain ⟨a, b, rfl, ha, hb⟩ := hv
  obtain ⟨n1, n4⟩ := hA.n0
  refine sS0 ?_
  intro b1 hb1
  have m1 : (M.set b1 [a, V.sc (AV.int IntKind.i64 g.first), b]) b1 = .some [a, V.sc (AV.int IntKind.i64 g.first), b] := set_same
  have hs1 : Sub M (M.set b1 [a, V.sc (AV.int IntKind.i64 g.first), b]) := (Sub.refl M).set hb1
  generalize (M.set b1 [a, V.sc (AV.int IntKind.i64 g.first), b]) = M0 at *
  intro b3 hb3
  refine loop_k (fun e M' => ∃ i : Nat, i ≤ g.letters.length ∧ e 1 = .sc (.ptr (some (b1, 0))) ∧ e 4 = .sc (.int .i64 i) ∧ Gr 1 M0 M' (e 3) (((List.range i).map fun i => (firstAt (letR g) i : Int)).map vi)) (fun e _ => ctrV g.letters.length (e 4)) ?_ ?_
  · exact ⟨0, by omega, sT0, by refine sS0 ?_; rfl, by refine sS0 ?_; exact Gr.new' (Sub.refl _) hb3 rfl⟩
  · rintro e M1 ⟨i, hi, e1, e4, hg⟩ K hK
    have m11 := hg.sub _ _ m1
    refine sS4 @e1 @e4 @m11 @ha.len ?_
    refine cond_dec (fun h => ?_) (fun h => ?_)
    · have hi' : i < g.letters.length := by omega
      have hli := ha.elt hi'
      refine sS2 @e1 @e4 ?_
      refine loop_k (fun e2 M' => M' = M1 ∧ ∃ m a' : Nat, m ≤ i ∧ e2 1 = .sc (.ptr (some (b1, 0))) ∧ e2 3 = e 3 ∧ e2 4 = .sc (.int .i64 i) ∧ e2 5 = .sc (.int .i64 a') ∧ e2 6 = .sc (.int .i64 ((m : Int) - 1)) ∧ DnAt (letR g) i m a') (fun e2 _ => dnV (e2 6)) ?_ ?_
      · exact ⟨rfl, i, i, Nat.le_refl _, sT0, sT0, sT0, sT0, sT0, .init ((letR_eqv g).refl i)⟩
      · rintro e2 _ ⟨rfl, m, a', hm, k1, k3, k4, k5, k6, hd⟩ K3 hK3
        refine sS5 @k1 @k3 @k4 @k5 @k6 ?_
        refine cond_dec (fun h2 => ?_) (fun h2 => ?_)
        · obtain ⟨q, rfl⟩ : ∃ q, m = q + 1 := ⟨m - 1, by omega⟩
          have eq : ((q + 1 : Nat) : Int) - 1 = (q : Int) := by omega
          have hq : q < g.letters.length := by omega
          have hlq := ha.elt hq
          have hql := hA.lt _ (List.getElem_mem hq)
          have gq : g.letters.getD q [] = g.letters[q] := by simp [List.getD, hq]
          have gi : g.letters.getD i [] = g.letters[i] := by simp [List.getD, hi']
          refine sS8 @k1 @k3 @k4 @k5 @k6 @eq @m11 @ha.iaddr ?_
          refine (t_l2Same hlq hli (by have := hql.1; omega)).mono ?_
          rintro _ _ ⟨rfl, rfl⟩
          by_cases hc : g.letters[q] = g.letters[i]
          · have hrr : letR g q i = true := by simp only [letR, gq, gi, hc, decide_true]
            refine sS3 @hc @k6 @eq ?_
            exact hK3 _ _ ⟨rfl, q, q, by omega, sT0, sT0, sT0, sT0, sT0, hd.yes hrr⟩ (by refine sS2 @k6 @eq ?_; omega)
          · have hrr : letR g q i = false := by simp only [letR, gq, gi, hc, decide_false]
            refine sS3 @hc @k6 @eq ?_
            exact hK3 _ _ ⟨rfl, q, a', by omega, sT0, sT0, sT0, sT0, sT0, hd.skip hrr⟩ (by refine sS2 @k6 @eq ?_; omega)
        · obtain rfl : m = 0 := by omega
          have ha' := hd.fin ((letR_eqv g).refl i)
          refine sS4 @k1 @k3 @k4 @k5 ?_
          intro bt hbt
          refine app_int hg hbt (by simp; omega) (by omega) ?_
          intro s' M4 hg8 _
          refine sS1 @k4 ?_
          refine hK _ _ ⟨i + 1, by omega, sT0, by refine sS0 ?_; rfl, ?_⟩ (by refine sS2 @ctrV_int @e4 ?_; omega)
          refine sS0 ?_
          rw [List.map_append, List.map_singleton, ← ha']
          exact hg8
    · obtain rfl : i = g.letters.length := by omega
      change Gr 1 M0 M1 (e 3) ((cls0 g).map vi) at hg
      have hcl := (cls0_cls g).len
      rcases hg.own with ⟨q1, _⟩ | ⟨b3', n3, ex3, q1, q2, q3⟩
      · simp at q1; rw [q1] at hcl; simp at hcl; omega
      have hn3 : n3 = (cls0 g).length := by simpa using q3.symm
      refine sS2 @e1 @q1 ?_
      intro b7 hb7
      have ne73 : b7 ≠ b3' := fun h => by subst h; rw [hb7] at q2; cases q2
      have hb7' : M0 b7 = none := hg.sub.none hb7
      have hb3' : M0 b3' = none := hg.new _ (by rw [q1]; rfl)
      have hp0 := hrun.pos
      have hst := hrun.step
      have hall := hrun.all (cls0_cls g)
      refine loop_fg (fun n e' M' => ∃ (k : Nat) (us : List V) (t : Bool), n = 2 * (rs.length - k) + (if t then 1 else 0) ∧ k < rs.length ∧ e' 1 = .sc (.ptr (some (b1, 0))) ∧ e' 8 = .sc (.bool t) ∧ Gr 1 M0 M' (e' 7) us ∧ Cs (fun ys u => LI u ys) us (rs.take (k + 1)) ∧ (t = false → k + 1 = rs.length)) _ ⟨_, _, FzE.cells (l := [.sc (.sl (some (b3', 0)) n3 n3 ex3 1)]) (l' := [.fs (some (b3', 0)) n3 n3 ex3 1 (((cls0 g).map vi).drop 0)]) set_same (.sl (by rw [set_ne (Ne.symm ne73)]; exact q2) (.refl _ _) (.nil _)) (by rw [del_ne ne73, set_same]), 0, [.fs (some (b3', 0)) n3 n3 ex3 1 (((cls0 g).map vi).drop 0)], true, rfl, hp0, sT0, sT0, ?_, ?_, fun h => by cases h⟩ ?_
      · refine sS0 ?_
        refine ⟨fun q l hq => ?_, fun q hq => by cases hq; exact hb7', .inr ⟨b7, 1, true, rfl, set_same, by simp⟩⟩
        have hq1 := hg.sub q l hq
        rw [set_ne (fun h => by subst h; rw [hb7'] at hq; cases hq), del_ne (fun h => by subst h; rw [hb3'] at hq; cases hq), set_ne (fun h => by subst h; rw [hb7'] at hq; cases hq)]
        exact hq1
      · rw [List.take_succ_eq_append_getElem hp0, List.take_zero, List.nil_append, hrun.head hp0]
        exact Cs.nil.snoc (x := cls0 g) (xs := []) (us := []) (li_own hn3)
      · rintro n e' M2 ⟨k, us, t, rfl, hk, f1, f8, hg7, hc, ht⟩ K2 hK2
        have hul : us.length = k + 1 := by have := hc.1; rw [List.length_take] at this; omega
        refine sS2 @f1 @f8 ?_
        cases t with
        | false =>
          have hke := ht rfl
          refine sS0 ?_
          refine hG _ _ 1 us (hg7.base hs1) fun u hu => ?_
          rw [hke, List.take_length] at hc
          exact hu.lsC hc
        | true =>
          have m12 := hg7.sub _ _ m1
          obtain ⟨u, hu1, hu2⟩ := hc.2 k (by rw [List.length_take]; omega)
          rw [List.getElem_take] at hu2
          have hcp := hall _ (List.getElem_mem hk)
          have pa := hg7.at (by omega)
          have pi : iaddrV 1 (e' 7) (.int .i64 (k : Int)) = _ := hg7.own.iaddr (by omega) (by omega)
          have hlen7 := hg7.len1
          rw [hul] at hlen7
          have ek : (((k + 1 : Nat) : Int) - 1) = (k : Int) := by omega
          refine sS8 @f1 @f8 @m12 @hlen7 @ek @pi @pa @hu1 ?_
          refine (f_l25Round hv0 hA hcp hu2).mono ?_
          rintro r _ ⟨rfl, hr⟩
          have hr1 := hr.one.1
          have hr2 := hr.one.2
          have hrl2 : (rndG g rs[k]).length ≤ 1048576 := by rw [(rndG_cls g _).len]; omega
          refine sS5 @pa @hu1 @hlen7 @ek @pi ?_
          refine (t_l2Same hr hu2 hrl2).mono ?_
          rintro _ _ ⟨rfl, rfl⟩
          have hsk := hst k hk
          by_cases hke : k + 1 = rs.length
          · have hfix := hsk.2 hke
            refine sS1 @hfix ?_
            exact hK2 _ _ _ (by simp) ⟨k, us, false, rfl, hk, sT0, sT0, by refine sS0 ?_; exact hg7, hc, fun _ => hke⟩
          · obtain ⟨h3, h4⟩ := hsk.1 (by omega)
            refine sS3 @h4 @hr1 @hr2 ?_
            intro bt hbt
            refine app_val hg7 hbt hr1 (by omega) (by omega) ?_
            intro s' M4 hg8 _
            refine sS0 ?_
            refine hK2 _ _ _ ?_ ⟨k + 1, us ++ [r], true, rfl, by omega, sT0, sT0, by refine sS0 ?_; exact hg8, ?_, fun h => by cases h⟩
            · simp; omega
            · rw [List.take_succ_eq_append_getElem (by omega)]
              refine hc.snoc ?_
              rw [h3]; exact hr
theorem asc_len {n : Int} {xs : List Int} (h : SetOk n xs) : (xs.length : Int) ≤ n ∨ xs = [] := by
  have key : ∀ i (hi : i < xs.length), (i : Int) ≤ xs[i] := by
    intro i
    induction i with
    | zero => intro hi; exact (h 0 hi hi).1.1
    | succ i ih =>
      intro hi
      have h1 := ih (by omega)
      have h2 := (h (i + 1) hi hi).2 (by omega)
      simp only [Nat.add_sub_cancel] at h2
      omega
  by_cases hx : xs = []
  · exact .inr hx
  · left
    have hl : 0 < xs.length := List.length_pos_iff.2 hx
    have h1 := key (xs.length - 1) (by omega)
    have h2 := (h (xs.length - 1) (by omega) (by omega)).1
    omega
theorem GrOk.al {g : GrS} {f : Int} (h : GrOk g f) : AlOk g where
  n0 := h.n0
  lt r hr := ⟨by have := (h.lt r hr).1; have := h.f0; omega, fun x hx => by have := (h.lt r hr).2 x hx; omega⟩
  nx := ⟨h.nn, fun row hr => (h.nx row hr).1, fun row hr x hx => setB_bd (h.nx row hr).2 hx⟩
  ln r hr := by
    have h1 := asc_len (h.nx r hr).2
    have h2 := h.n0
    rcases h1 with h1 | h1
    · omega
    · rw [h1]; simp
theorem Run.len {g : Gr2} {p : List Int} {rs : List (List Int)} (h : Run (rndG g) p rs) : Lett g p → Cls g p → rs.length + reps p ≤ g.letters.length + 1 := by
  induction h with
  | @stop p h =>
    intro _ hc
    have := reps_le p
    have := hc.len
    simp; omega
  | @go p rs h h1 ih =>
    intro hl hc
    rw [← rnd_eq hl] at h ih
    have h2 := ih (rndF_lett g p) (rndF_cls g p)
    have h3 := reps_lt hc h
    simp only [List.length_cons]; omega
theorem run_len {g : Gr2} {rs : List (List Int)} (hA : AlOk g) (h : Run (rndG g) (cls0 g) rs) : rs.length ≤ 1000000 := by
  have := h.len (cls0_lett g) (cls0_cls g)
  have := hA.n0
  omega
noncomputable def clsF (g : GrS) : List Int := open Classical in if h : ∃ z, Stab (rndF g) (List.replicate g.letters.length 0) z then h.choose else []
theorem clsF_spec {g : GrS} (hA : AlOk g) : Stab (rndF g) (List.replicate g.letters.length 0) (clsF g) := by
  have h : ∃ z, Stab (rndF g) (List.replicate g.letters.length 0) z := stab_ex g.letters.length _ zero_cls (by omega)
  unfold clsF
  rw [dif_pos h]
  exact h.choose_spec
theorem clsF_eq {g : GrS} {z : List Int} (h : Stab (rndF g) (List.replicate g.letters.length 0) z) : z = clsF g := by
  have h2 : ∃ z, Stab (rndF g) (List.replicate g.letters.length 0) z := ⟨z, h⟩
  unfold clsF
  rw [dif_pos h2]
  exact h.det h2.choose_spec
theorem clsF_cls {g : GrS} (hA : AlOk g) : Cls g (clsF g) := (clsF_spec hA).cls zero_cls
noncomputable def alF (g : GrS) (f : Int) : List Int := if grB g f = true then clsF g else []
theorem t_impAlikeIn {v : V} {g : GrS} {f : Int} (hv : isGr g v) (hz : GrSz g) : VCall Tryd.prog n_impl_AlikeIn [v, .sc (.int .i64 f)] M (fun r M' => Gr 1 M M' r ((alF g f).map vi)) := by
  refine VCall.plain fun R hR => v_impl_AlikeIn rfl ?_
  have hv0 := hv
  obtain ⟨a, b, rfl, ha, hb⟩ := hv
  (repeat' (first | ((with_reducible first | refine cond_dec (fun h => ?_) (fun h => ?_) | refine guardK_dec (fun h => ?_) (fun h => ?_) | refine guardD3_dec (fun h => ?_) (fun h => ?_)) <;> first | (exfalso; omega) | (simp (maxSteps := 2000000) (disch := first | omega | assumption | exact idP rfl | exact idP (bL rfl)) only [go_sem, reduceIte, Nat.reduceEqDiff, wpV_kd, wpV_tH, h]) | skip) | ((with_reducible first | refine cond_split (fun h => ?_) (fun h => ?_) | refine guardK_split (fun h => ?_) (fun h => ?_) | refine guardD3_split (fun h => ?_) (fun h => ?_)) <;> ((try simp only [Bool.not_eq_true', Bool.not_eq_false'] at h); first | (simp (maxSteps := 2000000) (disch := first | omega | assumption | exact idP rfl | exact idP (bL rfl)) only [go_sem, reduceIte, Nat.reduceEqDiff, wpV_kd, wpV_tH, h]) | skip)) | ((with_reducible refine (t_impGraphValid hv0 hz).mono ?_); rintro _ _ ⟨rfl, rfl⟩) | (with_reducible intro bk hbk; try have hnk := (fresh_set hbk).1) | (simp (maxSteps := 2000000) (disch := first | omega | assumption | exact idP rfl | exact idP (bL rfl)) only [go_sem, reduceIte, Nat.reduceEqDiff, wpV_kd, wpV_tH])))
  · refine hR _ _ ?_
    simp only [alF, h]
    exact .nil (sB)
  · have hok := grB_iff.1 h
    have hA := hok.al
    refine (t_alike hv0 hA).mono ?_
    rintro r M1 ⟨z, hz1, hg⟩
    have hze := clsF_eq hz1
    subst hze
    have hcl := (clsF_cls hA).len
    have hn := hA.n0
    refine sS0 ?_
    refine (VCall.give0 hg fun u M2 hu hs2 => (t_cloneInt hu.li (by omega)).mono fun r M' hr => hr.base hs2).mono ?_
    intro r M3 hg3
    refine sS0 ?_
    refine hR _ _ ?_
    simp only [alF, h, if_true]
    exact hg3.base (sB)
theorem t_specAlikeIn {v : V} {g : GrS} {f : Int} (hv : isGr g v) (hz : GrSz g) : VCall Tryd.prog n_spec_AlikeIn [v, .sc (.int .i64 f)] M (fun r M' => M = M' ∧ LI r (alF g f)) := by
  refine VCall.pure fun R hR => v_spec_AlikeIn rfl ?_
  have hv0 := hv
  obtain ⟨a, b, rfl, ha, hb⟩ := hv
  (repeat' (first | ((with_reducible first | refine cond_dec (fun h => ?_) (fun h => ?_) | refine guardK_dec (fun h => ?_) (fun h => ?_) | refine guardD3_dec (fun h => ?_) (fun h => ?_)) <;> first | (exfalso; omega) | (simp (maxSteps := 2000000) (disch := first | omega | assumption | exact idP rfl | exact idP (bL rfl)) only [go_sem, reduceIte, Nat.reduceEqDiff, wpV_kd, wpV_tH, h]) | skip) | ((with_reducible first | refine cond_split (fun h => ?_) (fun h => ?_) | refine guardK_split (fun h => ?_) (fun h => ?_) | refine guardD3_split (fun h => ?_) (fun h => ?_)) <;> ((try simp only [Bool.not_eq_true', Bool.not_eq_false'] at h); first | (simp (maxSteps := 2000000) (disch := first | omega | assumption | exact idP rfl | exact idP (bL rfl)) only [go_sem, reduceIte, Nat.reduceEqDiff, wpV_kd, wpV_tH, h]) | skip)) | ((with_reducible refine (t_specGraphValid hv0 hz).mono ?_); rintro _ _ ⟨rfl, rfl⟩) | (with_reducible intro bk hbk; try have hnk := (fresh_set hbk).1) | (simp (maxSteps := 2000000) (disch := first | omega | assumption | exact idP rfl | exact idP (bL rfl)) only [go_sem, reduceIte, Nat.reduceEqDiff, wpV_kd, wpV_tH])))
  · exact hR _ _ (sB) (by simp only [alF, h]; exact .nil)
  · have hok := grB_iff.1 h
    have hA := hok.al
    obtain ⟨rs, h1, h2⟩ := Run.of (stab_both hA.nx (clsF_spec hA))
    have hrl : rs.length ≤ 1000000 := run_len hA h1
    refine (t_l25Rounds hv0 hA h1 hrl).mono ?_
    rintro r _ ⟨rfl, hr⟩
    have hp := h1.pos
    have e1 : (((rs.length : Nat) : Int) - 1) = ((rs.length - 1 : Nat) : Int) := by omega
    refine sS3 @hr.len @e1 @hr.iaddr ?_
    refine hR _ _ (sB) ?_
    have h3 := hr.elt (show rs.length - 1 < rs.length by omega)
    have h4 : rs[rs.length - 1] = clsF g := by
      have := List.getLast?_eq_getElem? (l := rs)
      rw [h2, List.getElem?_eq_getElem (by omega)] at this
      simpa using this.symm
    rw [h4] at h3
    simpa [alF, h] using h3
end Go.M2

namespace Go.M2
open Go.Proofs
variable {M : MH}
def In {α : Type} (L : V → List α → Prop) (v : V) (ys : List α) : Prop := L v ys ∨ (v = .sc .emp ∧ ys = [])
theorem In.get {α : Type} {L : V → List α → Prop} {v : V} {ys : List α} (h : In L v ys) (h0 : 0 < ys.length) : L v ys := by
  rcases h with h | ⟨_, rfl⟩
  · exact h
  · simp at h0
theorem In.len {α : Type} {L : V → List α → Prop} {v : V} {ys : List α} (h : In L v ys) (hl : ∀ v ys, L v ys → lenF (er v) = .some (.int .i64 (ys.length : Int))) : lenF (er v) = .some (.int .i64 (ys.length : Int)) := by
  rcases h with h | ⟨rfl, rfl⟩
  · exact hl _ _ h
  · rfl
def mx : Nat := 9223372036854775807
def LenOk {α : Type} (xs : List α) : Prop := xs.length ≤ 9223372036854775807
def RuleFit (r : RuleS) : Prop := r.when_.length ≤ 1048576 ∧ r.sets.length ≤ 1048576 ∧ r.terms.length ≤ 1048576 ∧ ∀ ts ∈ r.terms, ts.length ≤ 1048576
def SysFit (s : SysS) : Prop := s.vars.length ≤ 1048576 ∧ s.rules.length ≤ 1048576 ∧ ∀ r ∈ s.rules, RuleFit r
end Go.M2

namespace Go.M2
open Go.Proofs
variable {M : MH}
end Go.M2

namespace Go.M2
open Go.Proofs
variable {M : MH}
end Go.M2

namespace Go.M2
open Go.Proofs
variable {M : MH}
def catV {α : Type} (enc : α → List V) (xs : List α) : List V := (xs.map enc).flatten
theorem catV_len {α : Type} {enc : α → List V} {sz : Nat} (he : ∀ x, (enc x).length = sz) : ∀ xs : List α, (catV enc xs).length = xs.length * sz
  | [] => by simp [catV]
  | x :: t => by
    have := catV_len he t
    simp only [catV, List.map_cons, List.flatten_cons, List.length_append, he, List.length_cons, Nat.succ_mul] at this ⊢
    omega
theorem catV_at {α : Type} {enc : α → List V} {sz : Nat} (he : ∀ x, (enc x).length = sz) {xs : List α} {i : Nat} (hi : i < xs.length) : ((catV enc xs).drop (i * sz)).take sz = enc xs[i] := by
  have e1 : xs = xs.take i ++ xs[i] :: xs.drop (i + 1) := by rw [← List.drop_eq_getElem_cons hi, List.take_append_drop]
  have e2 : catV enc xs = catV enc (xs.take i) ++ (enc xs[i] ++ catV enc (xs.drop (i + 1))) := by
    have e3 : catV enc xs = catV enc (xs.take i ++ xs[i] :: xs.drop (i + 1)) := congrArg (catV enc) e1
    rw [e3]
    simp only [catV, List.map_append, List.map_cons, List.flatten_append, List.flatten_cons]
  have h3 := catV_len he (xs.take i)
  have h4 : (xs.take i).length = i := by simp; omega
  rw [e2, List.drop_left' (by rw [h3, h4]), List.take_left' (he _)]
end Go.M2

namespace Go.M2
open Go.Proofs
variable {M : MH}
abbrev T3 := {l : List V // l.length = 3}
def z3 : T3 := ⟨[nil1, nil1, nil1], rfl⟩
end Go.M2

namespace Go.M2
open Go.Proofs
variable {M : MH}
theorem Mem.base {M0 M1 M : MH} {f : List (Nat × List V)} (h : Mem M1 M f) (hs : Sub M0 M1) : Mem M0 M f := ⟨hs.trans h.sub, fun p hp => hs.none (h.new p hp), h.nd, h.at_⟩
theorem Mem.tail {M0 M : MH} {p : Nat × List V} {f : List (Nat × List V)} (h : Mem M0 M (p :: f)) : Mem M0 M f := Mem.right (f := [p]) h
theorem Mem.hd {M0 M : MH} {b : Nat} {l : List V} {f : List (Nat × List V)} (h : Mem M0 M ((b, l) :: f)) : M b = .some l := h.at_ _ (List.mem_cons_self ..)
def One (v : V) : Prop := oneV v = true ∧ cellsV v = .some [v]
theorem Ow.flat {sz : Nat} {M : MH} {v : V} {l : List V} (h : Ow sz M v l) : flat v := by
  rcases h with ⟨_, k, rfl⟩ | ⟨b, n, ex, rfl, _⟩ <;> simp [Go.M2.flat]
theorem catV_flat {α : Type} {enc : α → List V} (he : ∀ x, flatL (enc x)) : ∀ xs : List α, flatL (catV enc xs)
  | [] => by simp [catV, flatL]
  | x :: t => flatL_all.2 fun v hv => by
    have ih := catV_flat he t
    simp only [catV, List.map_cons, List.flatten_cons, List.mem_append] at hv
    rcases hv with h1 | h1
    · exact flatL_all.1 (he x) v h1
    · exact flatL_all.1 ih v h1
theorem encT_flat (x : TermS) : flatL (encT x) := by simp [encT, flatL, flat]
end Go.M2

namespace Go.M2
open Go.Proofs
variable {M : MH}
end Go.M2

namespace Go.M2
open Go.Proofs
variable {M : MH}
theorem Tr.inv1 {x : V} {l' : List V} {fp : List (Nat × List V)} (h : Tr [x] l' fp) : (l' = [x] ∧ fp = []) ∨ (∃ b o n c ex k cs cs' g, x = .sc (.sl (some (b, o)) n c ex k) ∧ l' = [.fs (some (b, o)) n c ex k (cs'.drop o)] ∧ Tr cs cs' g ∧ fp = (b, cs) :: g) ∨ (∃ a a', l' = [V.agg a'] ∧ x = .agg a) ∨ (∃ a a', l' = [V.tup a'] ∧ x = .tup a) := by
  cases h with
  | keep v h1 => cases h1; exact .inl ⟨rfl, rfl⟩
  | sl h1 h2 => cases h2; exact .inr (.inl ⟨_, _, _, _, _, _, _, _, _, rfl, rfl, h1, by simp⟩)
  | agg h1 h2 => cases h2; exact .inr (.inr (.inl ⟨_, _, rfl, rfl⟩))
  | tup h1 h2 => cases h2; exact .inr (.inr (.inr ⟨_, _, rfl, rfl⟩))
theorem Tr.uncons {x : V} {t l' : List V} {fp : List (Nat × List V)} (h : Tr (x :: t) l' fp) : ∃ x' t' f1 f2, l' = x' :: t' ∧ fp = f1 ++ f2 ∧ Tr [x] [x'] f1 ∧ Tr t t' f2 := by
  obtain ⟨a', b', f1, f2, rfl, rfl, h1, h2⟩ := Tr.split (a := [x]) (b := t) (b' := []) (by simpa using h)
  have := h1.len
  match a', this with
  | [x'], _ => exact ⟨x', b', f1, f2, rfl, rfl, h1, h2⟩
theorem take_one {cs : List V} {j : Nat} (h : j < cs.length) : cs.take (j + 1) = cs.take j ++ [cs[j]] := List.take_succ_eq_append_getElem h
structure OwnS (M0 M : MH) (s : SysS) (x y : V) (x' y' : V) (fp : List (Nat × List V)) : Prop where
  tr : Tr [x, y] [x', y'] fp
  mem : Mem M0 M fp
  fl : flatL [x, y]
  ff : ∀ q ∈ fp, flatL q.2
  lx : LVar x' s.vars
  ly : LR y' s.rules
end Go.M2

namespace Go.M2
open Go.Proofs
variable {M : MH}
theorem SysFit.sz {s : SysS} (h : SysFit s) : SysSz s := ⟨h.1, h.2.1, fun r hr => (h.2.2 r hr).2.1⟩
end Go.M2

namespace Go.M2
open Go.Proofs
variable {M : MH}
theorem Dn.nil1 {k : Nat} : Dn M M (.sc (.sl none 0 0 true k)) (fun u => LI u []) := ⟨_, [], .refl _, .nil (Sub.refl _), by simp [flat], fun q hq => (by cases hq), .nil⟩
def Hd (M : MH) (v : V) (n : Nat) (k : Int) : Prop := (n = 0 ∧ ∃ q, v = .sc (.sl none 0 0 true q)) ∨ ∃ (b o c : Nat) (ex : Bool) (kk : Nat) (l : List V), v = .sc (.sl (some (b, o)) n c ex kk) ∧ M b = .some l ∧ ∀ i, i < n → l[o + i]? = .some (.sc (.int .i64 (k + i)))
end Go.M2

namespace Go.M2
open Go.Proofs
variable {M : MH}
theorem OwnS.more {M0 M M' : MH} {s : SysS} {x y x' y' : V} {fp : List (Nat × List V)} (h : OwnS M0 M s x y x' y' fp) (hs : Sub M M') : OwnS M0 M' s x y x' y' fp := ⟨h.tr, h.mem.more hs, h.fl, h.ff, h.lx, h.ly⟩
theorem OwnS.arg {M0 M : MH} {s : SysS} {x y x' y' : V} {fp : List (Nat × List V)} (h : OwnS M0 M s x y x' y' fp) : Tr [.agg [x, y]] [.agg [x', y']] fp := by
  have := Tr.agg h.tr Tr.nil
  rwa [List.append_nil] at this
end Go.M2

namespace Go.M2
open Go.Proofs
def EV {α : Type} (E : α → List V → Prop) : Heap → α → List AV → Prop := fun H x cs => ∃ vs : List V, erl vs = cs ∧ okL H vs ∧ E x vs
theorem erl_len : ∀ l : List V, (erl l).length = l.length
  | [] => rfl
  | v :: t => by simp only [erl, List.length_cons, erl_len t]
theorem erl_app : ∀ a b : List V, erl (a ++ b) = erl a ++ erl b
  | [], b => rfl
  | v :: t, b => by simp only [List.cons_append, erl, erl_app t b]
theorem okL_app {H : Heap} : ∀ {a b : List V}, okL H a → okL H b → okL H (a ++ b)
  | [], b, _, h => h
  | v :: t, b, h, k => by
    simp only [List.cons_append, okL] at h ⊢
    exact ⟨h.1, okL_app h.2 k⟩
theorem lift_cells {α : Type} {E : α → List V → Prop} {H : Heap} {b sz : Nat} : ∀ {xs : List α} {o : Nat}, (∀ i (h : i < xs.length), ∃ cs, cs.length = sz ∧ Rd H b (o + i * sz) cs ∧ EV E H xs[i] cs) →
    ∃ vs : List V, vs.length = xs.length * sz ∧ Rd H b o (erl vs) ∧ okL H vs ∧ ∀ i (h : i < xs.length), E xs[i] ((vs.drop (i * sz)).take sz)
  | [], o, _ => ⟨[], by simp, Rd.nil _ _ _, by simp [okL], fun i h => by simp at h⟩
  | x :: t, o, h => by
    obtain ⟨cs, h1, h2, us, h3, h4, h5⟩ := h 0 (by simp)
    obtain ⟨vs, k1, k2, k3, k4⟩ := lift_cells (xs := t) (o := o + sz) (E := E) (H := H) (b := b) (sz := sz) (fun i hi => by
      obtain ⟨cs, q1, q2, q3⟩ := h (i + 1) (by simp; omega)
      exact ⟨cs, q1, by rw [show o + sz + i * sz = o + (i + 1) * sz by rw [Nat.succ_mul]; omega]; exact q2, by simpa using q3⟩)
    have hu : us.length = sz := by rw [← erl_len, h3]; exact h1
    refine ⟨us ++ vs, by simp [hu, k1, Nat.succ_mul]; omega, ?_, okL_app h4 k3, fun i hi => ?_⟩
    · intro i y hy
      rw [erl_app] at hy
      by_cases hlt : i < (erl us).length
      · rw [List.getElem?_append_left hlt, h3] at hy
        have := h2 i y hy
        simpa using this
      · rw [List.getElem?_append_right (by omega)] at hy
        have e1 : (erl us).length = sz := by rw [erl_len]; exact hu
        rw [e1] at hy hlt
        have := k2 (i - sz) y hy
        rwa [show o + sz + (i - sz) = o + i by omega] at this
    · cases i with
      | zero => simpa [List.take_left' hu] using h5
      | succ i =>
        have := k4 i (by simpa using hi)
        have e2 : (us ++ vs).drop ((i + 1) * sz) = vs.drop (i * sz) := by
          rw [show (i + 1) * sz = us.length + i * sz by rw [Nat.succ_mul, hu]; omega, List.drop_append]
          simp
        rw [e2]
        simpa using this
theorem lift_slice {α : Type} {E : α → List V → Prop} {H : Heap} {sz : Nat} {v : AV} {xs : List α} (h : InS sz (EV E) H v xs) : ∃ v', er v' = v ∧ okV H v' ∧ In (Lc sz E) v' xs := by
  rcases h with ⟨A, c, ex, k, rfl, h⟩ | ⟨rfl, rfl⟩
  · obtain ⟨vs, h1, h2, h3, h4⟩ := lift_cells h
    exact ⟨.fs A xs.length c ex k vs, rfl, by simp only [okV]; exact ⟨h2, h3⟩, .inl (.inr ⟨A, c, ex, k, vs, rfl, by omega, fun i hi => h4 i hi⟩)⟩
  · exact ⟨.sc .emp, rfl, by simp [okV], .inr ⟨rfl, rfl⟩⟩
def E1 {α : Type} (E : α → V → Prop) : α → List V → Prop := fun a cs => ∃ u, cs = [u] ∧ E a u
theorem lc1_ls {α : Type} {E : α → V → Prop} {v : V} {ys : List α} (h : Lc 1 (E1 E) v ys) : Ls E v ys := by
  rcases h with h | ⟨A, c, ex, k, xs, rfl, hl, h⟩
  · exact .inl h
  · refine .inr ⟨A, c, ex, k, xs, rfl, by omega, fun i hi => ?_⟩
    obtain ⟨u, h1, h2⟩ := h i hi
    have h3 : xs[i]? = .some u := by
      have := congrArg (fun l => l[0]?) h1
      simpa [atN, List.getElem?_take, List.getElem?_drop] using this
    have h4 : at1 (.fs A ys.length c ex k xs) i = u := by
      simp [at1, List.getD_eq_getElem?_getD, h3]
    rw [h4]; exact h2
section
open Go.ChangeShapes Go.WideShapes Go.ChangeAt Go.RowKit
variable {HH : Type} {enc : TypeId × Value → HH} {P : Program} {W : World} {t e : TypeId} {fuel : Nat} {cs : List Value} {x : DataW HH × List MemPlace}
def LiftE {α : Type} (W : World) (E : α → List V → Prop) (a : α) (cs : List Value) : Prop := ∃ vs, erl vs = cs.map (avC W.heap.size) ∧ okL (heap0 W) vs ∧ E a vs
theorem in_list {α : Type} {E : α → List V → Prop} {good : α → Prop} {sz : Nat} (ht : P.underlying t = .some (.slice e)) (hsz : P.cellsOf e = sz) (h0 : 0 < sz)
    (he : ∀ n cs x, DataW.trod enc P W 0 (fun _ => true) true n e cs = .some x → ∃ a, LiftE W E a cs ∧ good a)
    (h : DataW.trod enc P W 0 (fun _ => true) true fuel t cs = .some x) : ∃ xs : List α, LiftE W (E1 (fun (ys : List α) u => In (Lc sz E) u ys)) xs cs ∧ (xs.length ≤ 9223372036854775807 ∧ ∀ a ∈ xs, good a) := by
  obtain ⟨v, xs, rfl, h1, h2, h3⟩ := in_slice (E := EV E) (good := good) ht hsz h0 (fun n cs x hx => by
    obtain ⟨a, ⟨vs, h1, h2, h3⟩, h4⟩ := he n cs x hx
    exact ⟨a, ⟨vs, h1, h2, h3⟩, h4⟩) h
  obtain ⟨u, k1, k2, k3⟩ := lift_slice h1
  exact ⟨xs, ⟨[u], by simp [erl, k1], by simp only [okL]; exact ⟨k2, trivial⟩, u, rfl, k3⟩, h3, h2⟩
theorem in_list1 {α : Type} {E : α → V → Prop} {good : α → Prop} (ht : P.underlying t = .some (.slice e)) (hsz : P.cellsOf e = 1)
    (he : ∀ n cs x, DataW.trod enc P W 0 (fun _ => true) true n e cs = .some x → ∃ a, LiftE W (E1 E) a cs ∧ good a)
    (h : DataW.trod enc P W 0 (fun _ => true) true fuel t cs = .some x) : ∃ xs : List α, LiftE W (E1 (fun (ys : List α) u => In (Ls E) u ys)) xs cs ∧ (xs.length ≤ 9223372036854775807 ∧ ∀ a ∈ xs, good a) := by
  obtain ⟨xs, ⟨vs, h1, h2, u, rfl, h3⟩, h4⟩ := in_list ht hsz (by omega) he h
  exact ⟨xs, ⟨[u], h1, h2, u, rfl, h3.imp lc1_ls id⟩, h4⟩
theorem LiftE.one {α : Type} {E : α → V → Prop} {a : α} {c : Value} (h : LiftE W (E1 E) a [c]) : ∃ u, er u = avC W.heap.size c ∧ okV (heap0 W) u ∧ E a u := by
  obtain ⟨vs, h1, h2, u, rfl, h3⟩ := h
  simp only [erl, List.map_cons, List.map_nil, List.cons.injEq, and_true] at h1
  simp only [okL] at h2
  exact ⟨u, h1, h2.1, h3⟩
end
theorem calls_of_vcall {P : Program} {f : FuncId} {vs : List Value} {vv : List V} {W : World} (h : VCall P f vv (fun _ => none) (fun r M' => (fun _ => none) = M' ∧ r = .sc (.bool true)))
    (he : vv.map er = vs.map (avT W.heap.size)) (ho : okL (heap0 W) vv) (hT : TabOk W := by exact trivial) : Calls P f vs.toArray W (fun e w' => e = .returned (.bool true) ∧ Go.RowKit.Below W.heap.size W w') := by
  refine calls_of_acall ?_ hT
  rw [← he]
  refine (h (heap0 W) (heap0 W) ⟨rfl, fun b _ => .inr rfl, fun b l hb => (by cases hb), fun b l hb => (by cases hb)⟩ ho).mono ?_
  rintro a H' ⟨r, M', F', rfl, _, _, _, _, rfl⟩
  rfl
end Go.M2

namespace Go.M2
open Go.Proofs
open Go.ChangeShapes Go.WideShapes Go.ChangeAt Go.RowKit
variable {HH : Type} {enc : TypeId × Value → HH} {W : World} {fuel : Nat} {cs : List Value} {x : DataW HH × List MemPlace}
end Go.M2

namespace Go.M2
open Go.Proofs
open Go.ChangeShapes Go.WideShapes Go.ChangeAt Go.RowKit
variable {M : MH}
variable {HH : Type} {enc : TypeId × Value → HH} {W : World} {fuel : Nat} {cs : List Value} {x : DataW HH × List MemPlace}
end Go.M2

namespace Go.M2
open Go.Proofs
variable {M : MH}
theorem Hd.frame {M' : MH} {v : V} {n : Nat} {k : Int} (h : Hd M v n k) (hb : ∀ b, blkV v = .some b → M' b = M b) : Hd M' v n k := by
  rcases h with h | ⟨b, o, c, ex, kk, l, rfl, hm, hl⟩
  · exact .inl h
  · exact .inr ⟨b, o, c, ex, kk, l, rfl, by rw [hb b rfl]; exact hm, hl⟩
def offN (rows : List (List Int)) (i : Nat) : Nat := (rows.take i).flatten.length
def HdS (M : MH) (v : V) (rows : List (List Int)) (k : Int) : Prop := (rows = [] ∧ ∃ q, v = .sc (.sl none 0 0 true q)) ∨ ∃ (b o c : Nat) (ex : Bool) (kk : Nat) (cs : List V), v = .sc (.sl (some (b, o)) rows.length c ex kk) ∧ M b = .some cs ∧ ∀ i (h : i < rows.length), ∃ u, cs[o + i]? = .some u ∧ Hd M u rows[i].length (k + offN rows i)
end Go.M2

namespace Go.M2
open Go.Proofs
variable {M : MH}
def KC : V → Prop
  | .fs (some _) n c _ k _ => k = 1 ∧ n ≤ c
  | _ => False
theorem KC.nn {v : V} (h : KC v) : isNilF .sl (er v) = .some false := by
  match v, h with
  | .fs (some a) n c ex k xs, _ => rfl
end Go.M2

namespace Go.M2
open Go.Proofs
variable {M : MH}
structure GrLen (g : GrS) : Prop where
  l1 : LenOk g.letters
  l2 : ∀ r ∈ g.letters, LenOk r
  n1 : LenOk g.next
  n2 : ∀ r ∈ g.next, LenOk r
structure OwnG (M0 M : MH) (g : GrS) (x y : V) (x' y' : V) (fp : List (Nat × List V)) : Prop where
  tr : Tr [x, y] [x', y'] fp
  mem : Mem M0 M fp
  fl : flatL [x, y]
  ff : ∀ q ∈ fp, flatL q.2
  lx : LII x' g.letters
  ly : LII y' g.next
theorem OwnG.more {M0 M M' : MH} {g : GrS} {x y x' y' : V} {fp : List (Nat × List V)} (h : OwnG M0 M g x y x' y' fp) (hs : Sub M M') : OwnG M0 M' g x y x' y' fp := ⟨h.tr, h.mem.more hs, h.fl, h.ff, h.lx, h.ly⟩
theorem OwnG.gr {M0 M : MH} {g : GrS} {x y x' y' : V} {fp : List (Nat × List V)} (h : OwnG M0 M g x y x' y' fp) : isGr g (.agg [x', .sc (.int .i64 g.first), y']) := ⟨x', y', rfl, h.lx, h.ly⟩
theorem OwnG.arg {M0 M : MH} {g : GrS} {x y x' y' : V} {fp : List (Nat × List V)} (h : OwnG M0 M g x y x' y' fp) : Tr [.agg [x, .sc (.int .i64 g.first), y]] [.agg [x', .sc (.int .i64 g.first), y']] fp := by
  obtain ⟨u1, r1, gx, gr, e1, e0, tx, t2⟩ := h.tr.uncons
  rw [List.cons.injEq] at e1
  obtain ⟨rfl, rfl⟩ := e1
  have := Tr.agg (tx.append (.keep (.sc (.int .i64 g.first)) t2)) Tr.nil
  rw [List.append_nil, ← e0] at this
  exact this
def nnG (v : V) : Prop := ∃ a n b, v = .agg [a, n, b] ∧ isNilF .sl (er b) = .some false
end Go.M2

namespace Go.M2
structure Bisim (g : Gr2) (R : Nat → Nat → Prop) : Prop where
  lett : ∀ i j, i < g.letters.length → j < g.letters.length → R i j → g.letters.getD i [] = g.letters.getD j []
  ahead : ∀ i j, i < g.letters.length → j < g.letters.length → R i j → ∀ x ∈ g.next.getD i [], ∃ y ∈ g.next.getD j [], R x.toNat y.toNat
  back : ∀ i j, i < g.letters.length → j < g.letters.length → R i j → ∀ y ∈ g.next.getD j [], ∃ x ∈ g.next.getD i [], R x.toNat y.toNat
theorem NextOk.at {g : Gr2} (hg : NextOk g) {i : Nat} {x : Int} (hx : x ∈ g.next.getD i []) : x.toNat < g.letters.length ∧ x = (x.toNat : Int) := by
  rcases Nat.lt_or_ge i g.next.length with h | h
  · have : g.next.getD i [] = g.next[i] := by simp [List.getD, h]
    rw [this] at hx
    have := hg.in_ _ (List.getElem_mem h) x hx
    omega
  · have : g.next.getD i [] = [] := by simp [List.getD, h]
    rw [this] at hx; cases hx
theorem mem_toS {p row : List Int} {c : Int} : c ∈ toS p row ↔ ∃ x ∈ row, p.getD x.toNat 0 = c := by
  simp [toS, ix, List.mem_map]
theorem bisim_rnd {g : Gr2} (hg : NextOk g) {R : Nat → Nat → Prop} (hb : Bisim g R) {p : List Int} (hp : ∀ i j, i < g.letters.length → j < g.letters.length → R i j → p.getD i 0 = p.getD j 0) :
    ∀ i j, i < g.letters.length → j < g.letters.length → R i j → (rndF g p).getD i 0 = (rndF g p).getD j 0 := by
  intro i j hi hj h
  unfold rndF
  rw [getD_range hi, getD_range hj]
  congr 1
  refine (firstAt_eq (keyR_eqv g p)).2 ?_
  simp only [keyR, Bool.and_eq_true, decide_eq_true_eq, sameSet_iff, mem_toS]
  refine ⟨⟨hb.lett i j hi hj h, hp i j hi hj h⟩, fun c => ⟨?_, ?_⟩⟩
  · rintro ⟨x, hx, rfl⟩
    obtain ⟨y, hy, hr⟩ := hb.ahead i j hi hj h x hx
    exact ⟨y, hy, (hp _ _ (hg.at hx).1 (hg.at hy).1 hr).symm⟩
  · rintro ⟨y, hy, rfl⟩
    obtain ⟨x, hx, hr⟩ := hb.back i j hi hj h y hy
    exact ⟨x, hx, hp _ _ (hg.at hx).1 (hg.at hy).1 hr⟩
theorem bisim_stab {g : Gr2} (hg : NextOk g) {R : Nat → Nat → Prop} (hb : Bisim g R) {p r : List Int} (h : Stab (rndF g) p r) :
    (∀ i j, i < g.letters.length → j < g.letters.length → R i j → p.getD i 0 = p.getD j 0) → ∀ i j, i < g.letters.length → j < g.letters.length → R i j → r.getD i 0 = r.getD j 0 := by
  induction h with
  | stop _ => exact id
  | go _ _ ih => intro hp; exact ih (bisim_rnd hg hb hp)
theorem getD_zeros {n i : Nat} : (List.replicate n (0 : Int)).getD i 0 = 0 := by
  simp only [List.getD]
  rw [List.getElem?_replicate]
  split <;> rfl
theorem bisim_alike {g : Gr2} (hg : NextOk g) {R : Nat → Nat → Prop} (hb : Bisim g R) {r : List Int} (h : Stab (rndF g) (List.replicate g.letters.length 0) r) {i j : Nat} (hi : i < g.letters.length) (hj : j < g.letters.length) (hr : R i j) : r.getD i 0 = r.getD j 0 :=
  bisim_stab hg hb h (fun i j _ _ _ => by rw [getD_zeros, getD_zeros]) i j hi hj hr
theorem stay_key {g : Gr2} {r : List Int} (hs : rndF g r = r) {i j : Nat} (hi : i < g.letters.length) (hj : j < g.letters.length) (h : r.getD i 0 = r.getD j 0) : keyR g r i j = true := by
  rw [← hs] at h
  unfold rndF at h
  rw [getD_range hi, getD_range hj] at h
  exact (firstAt_eq (keyR_eqv g r)).1 (by omega)
theorem stay_next {g : Gr2} {r : List Int} (hs : rndF g r = r) {i j : Nat} (hi : i < g.letters.length) (hj : j < g.letters.length) (h : r.getD i 0 = r.getD j 0) {x : Int} (hx : x ∈ g.next.getD i []) : ∃ y ∈ g.next.getD j [], r.getD y.toNat 0 = r.getD x.toNat 0 := by
  have := stay_key hs hi hj h
  simp only [keyR, Bool.and_eq_true, decide_eq_true_eq, sameSet_iff, mem_toS] at this
  exact (this.2 _).1 ⟨x, hx, rfl⟩
theorem stay_bisim {g : Gr2} {r : List Int} (hs : rndF g r = r) : Bisim g fun i j => r.getD i 0 = r.getD j 0 where
  lett i j hi hj h := by
    have := stay_key hs hi hj h
    simp only [keyR, Bool.and_eq_true, decide_eq_true_eq] at this
    exact this.1.1
  ahead i j hi hj h x hx := by
    obtain ⟨y, h1, h2⟩ := stay_next hs hi hj h hx
    exact ⟨y, h1, h2.symm⟩
  back i j hi hj h y hy := stay_next hs hj hi h.symm hy
def isRep (r : List Int) (i : Nat) : Bool := decide (r.getD i 0 = i)
def rank (r : List Int) (n : Nat) : Nat := ((List.range n).filter (isRep r)).length
def repsL (r : List Int) : List Nat := (List.range r.length).filter (isRep r)
theorem rank_succ (r : List Int) (n : Nat) : rank r (n + 1) = rank r n + if isRep r n then 1 else 0 := by
  unfold rank
  rw [List.range_succ, List.filter_append, List.length_append]
  simp only [List.filter_cons, List.filter_nil]
  split <;> simp
theorem rank_len {r : List Int} : rank r r.length = (repsL r).length := rfl
def atF (r : List Int) (n : Nat) : Nat := rank r (r.getD n 0).toNat
theorem rank_rep {r : List Int} : ∀ {n m : Nat}, m < n → isRep r m = true → ((List.range n).filter (isRep r))[rank r m]? = .some m
  | 0, m, h, _ => by omega
  | n + 1, m, h, hm => by
    rw [List.range_succ, List.filter_append]
    by_cases hmn : m < n
    · have ih := rank_rep hmn hm
      have hlt := (List.getElem?_eq_some_iff.1 ih).1
      rw [List.getElem?_append_left hlt]; exact ih
    · have : m = n := by omega
      subst this
      unfold rank
      rw [List.getElem?_append_right (Nat.le_refl _)]
      simp [hm]
theorem rank_inj {r : List Int} {a b : Nat} (ha : isRep r a = true) (hb : isRep r b = true) (h : rank r a = rank r b) : a = b := by
  have h1 := rank_rep (n := a + b + 1) (m := a) (by omega) ha
  have h2 := rank_rep (n := a + b + 1) (m := b) (by omega) hb
  rw [h, h2] at h1
  simpa using h1.symm
theorem Cls.rep {g : Gr2} {r : List Int} (h : Cls g r) {i : Nat} (hi : i < r.length) : isRep r (r.getD i 0).toNat = true ∧ (r.getD i 0).toNat ≤ i ∧ (((r.getD i 0).toNat : Nat) : Int) = r.getD i 0 := by
  obtain ⟨h1, h2, h3⟩ := h.at_ i hi
  have e : (((r.getD i 0).toNat : Nat) : Int) = r.getD i 0 := by omega
  refine ⟨?_, by omega, e⟩
  simp only [isRep, decide_eq_true_eq]
  rw [h3, e]
theorem atF_eq {g : Gr2} {r : List Int} (h : Cls g r) {i j : Nat} (hi : i < r.length) (hj : j < r.length) : atF r i = atF r j ↔ r.getD i 0 = r.getD j 0 := by
  constructor
  · intro e
    have := rank_inj (h.rep hi).1 (h.rep hj).1 e
    have h1 := (h.rep hi).2.2
    have h2 := (h.rep hj).2.2
    omega
  · intro e; simp only [atF, e]
theorem atF_lt {g : Gr2} {r : List Int} (h : Cls g r) {i : Nat} (hi : i < r.length) : atF r i < (repsL r).length := by
  have h1 := (h.rep hi).1
  have h2 := (h.rep hi).2.1
  exact (List.getElem?_eq_some_iff.1 (rank_rep (n := r.length) (by omega) h1)).1
theorem repsL_at {r : List Int} {k : Nat} (h : k < (repsL r).length) : (repsL r)[k] < r.length ∧ isRep r (repsL r)[k] = true := by
  have := List.getElem_mem h
  have h1 := List.mem_filter.1 this
  exact ⟨List.mem_range.1 h1.1, h1.2⟩
theorem rank_repsL {r : List Int} {k : Nat} (h : k < (repsL r).length) : rank r (repsL r)[k] = k := by
  obtain ⟨h1, h2⟩ := repsL_at h
  have h3 := rank_rep (n := r.length) h1 h2
  have h4 : (repsL r)[rank r (repsL r)[k]]? = .some (repsL r)[k] := h3
  have hnd : (repsL r).Nodup := List.nodup_range.filter _
  have h5 := (List.getElem?_eq_some_iff.1 h4)
  obtain ⟨h6, h7⟩ := h5
  have hp := List.pairwise_iff_getElem.1 hnd
  rcases Nat.lt_trichotomy (rank r (repsL r)[k]) k with h | h | h
  · exact absurd h7 (hp _ _ h6 (by assumption) h)
  · exact h
  · exact absurd h7.symm (hp _ _ (by assumption) h6 h)
theorem atF_rep {r : List Int} {k : Nat} (h : k < (repsL r).length) : atF r (repsL r)[k] = k := by
  have h2 := (repsL_at h).2
  simp only [isRep, decide_eq_true_eq] at h2
  unfold atF
  rw [h2]
  simpa using rank_repsL h
def ascL (m : Nat) (xs : List Int) : List Int := ((List.range m).filter fun (k : Nat) => xs.contains (k : Int)).map fun (k : Nat) => (k : Int)
theorem mem_ascL {m : Nat} {xs : List Int} {c : Int} : c ∈ ascL m xs ↔ c ∈ xs ∧ 0 ≤ c ∧ c < m := by
  simp only [ascL, List.mem_map, List.mem_filter, List.mem_range, List.contains_iff_mem]
  constructor
  · rintro ⟨k, ⟨h1, h2⟩, rfl⟩
    exact ⟨h2, by simp, by simpa using h1⟩
  · rintro ⟨h1, h2, h3⟩
    refine ⟨c.toNat, ⟨by omega, ?_⟩, ?_⟩
    · rw [show ((c.toNat : Nat) : Int) = c by omega]; exact h1
    · omega
def foldF (g : Gr2) (r : List Int) : Gr2 where
  letters := (repsL r).map fun n => g.letters.getD n []
  first := (atF r g.first.toNat : Int)
  next := (repsL r).map fun n => ascL (repsL r).length ((g.next.getD n []).map fun x => (atF r x.toNat : Int))
theorem foldF_len {g : Gr2} {r : List Int} : (foldF g r).letters.length = (repsL r).length := by simp [foldF]
theorem foldF_lett {g : Gr2} {r : List Int} {k : Nat} (h : k < (repsL r).length) : (foldF g r).letters.getD k [] = g.letters.getD (repsL r)[k] [] := by
  simp [foldF, List.getD, h]
theorem foldF_row {g : Gr2} {r : List Int} {k : Nat} (h : k < (repsL r).length) : (foldF g r).next.getD k [] = ascL (repsL r).length ((g.next.getD (repsL r)[k] []).map fun x => (atF r x.toNat : Int)) := by
  simp [foldF, List.getD, h]
theorem foldF_mem {g : Gr2} {r : List Int} (hg : NextOk g) (hr : Cls g r) {k : Nat} (h : k < (repsL r).length) {c : Int} : c ∈ (foldF g r).next.getD k [] ↔ ∃ x ∈ g.next.getD (repsL r)[k] [], (atF r x.toNat : Int) = c := by
  rw [foldF_row h, mem_ascL, List.mem_map]
  constructor
  · rintro ⟨⟨x, h1, h2⟩, _⟩; exact ⟨x, h1, h2⟩
  · rintro ⟨x, h1, rfl⟩
    have := atF_lt hr (i := x.toNat) (by rw [hr.len]; exact (hg.at h1).1)
    exact ⟨⟨x, h1, rfl⟩, by omega, by omega⟩
theorem foldF_ok {g : Gr2} {r : List Int} (hg : NextOk g) (hr : Cls g r) : NextOk (foldF g r) where
  len := by simp [foldF]
  some_ row hrow := by
    obtain ⟨k, hk, rfl⟩ := List.getElem_of_mem hrow
    have hk2 : k < (repsL r).length := by simpa [foldF] using hk
    have e : (foldF g r).next[k] = (foldF g r).next.getD k [] := by simp [List.getD, hk]
    have hn : (repsL r)[k] < g.next.length := by rw [hg.len, ← hr.len]; exact (repsL_at hk2).1
    have hne := hg.some_ _ (List.getElem_mem hn)
    obtain ⟨x, hx⟩ := List.exists_mem_of_ne_nil _ hne
    have hx' : x ∈ g.next.getD (repsL r)[k] [] := by simpa [List.getD, hn] using hx
    have := (foldF_mem hg hr hk2).2 ⟨x, hx', rfl⟩
    rw [e]
    intro h0; rw [h0] at this; cases this
  in_ row hrow x hx := by
    obtain ⟨k, hk, rfl⟩ := List.getElem_of_mem hrow
    have hk2 : k < (repsL r).length := by simpa [foldF] using hk
    have e : (foldF g r).next[k] = (foldF g r).next.getD k [] := by simp [List.getD, hk]
    rw [e, foldF_row hk2, mem_ascL] at hx
    rw [foldF_len]; exact ⟨hx.2.1, hx.2.2⟩
theorem foldF_discrete {g : Gr2} {r r' : List Int} (hg : NextOk g) (hs : Stab (rndF g) (List.replicate g.letters.length 0) r) (hs' : Stab (rndF (foldF g r)) (List.replicate (foldF g r).letters.length 0) r') :
    ∀ k, k < (repsL r).length → r'.getD k 0 = k := by
  have hr : Cls g r := hs.cls zero_cls
  have hf := foldF_ok hg hr
  have hr' : Cls (foldF g r) r' := hs'.cls zero_cls
  have hl := hr.len
  have hl' := hr'.len
  rw [foldF_len] at hl'
  have hst := hs.fix
  have hst' := hs'.fix
  have hb' := stay_bisim hst'
  have repof : ∀ i, i < g.letters.length → ∃ h : atF r i < (repsL r).length, r.getD (repsL r)[atF r i] 0 = r.getD i 0 := fun i hi => by
    have h := atF_lt hr (i := i) (by omega)
    refine ⟨h, ?_⟩
    have := (atF_eq hr (i := (repsL r)[atF r i]) (j := i) (repsL_at h).1 (by omega)).1 (atF_rep h)
    exact this
  have lt : ∀ k (h : k < (repsL r).length), (repsL r)[k] < g.letters.length := fun k h => by rw [← hl]; exact (repsL_at h).1
  have nextto : ∀ i, i < g.letters.length → ∀ c, c ∈ (foldF g r).next.getD (atF r i) [] ↔ ∃ x ∈ g.next.getD i [], (atF r x.toNat : Int) = c := by
    intro i hi c
    obtain ⟨h, e⟩ := repof i hi
    rw [foldF_mem hg hr h]
    constructor
    · rintro ⟨x, h1, rfl⟩
      obtain ⟨y, h2, h3⟩ := stay_next hst (lt _ h) hi e h1
      exact ⟨y, h2, by rw [(atF_eq hr (by rw [hl]; exact (hg.at h2).1) (by rw [hl]; exact (hg.at h1).1)).2 h3]⟩
    · rintro ⟨x, h1, rfl⟩
      obtain ⟨y, h2, h3⟩ := stay_next hst hi (lt _ h) e.symm h1
      exact ⟨y, h2, by rw [(atF_eq hr (by rw [hl]; exact (hg.at h2).1) (by rw [hl]; exact (hg.at h1).1)).2 h3]⟩
  have hle : ∀ i, i < g.letters.length → atF r i < (foldF g r).letters.length := fun i hi => by rw [foldF_len]; exact atF_lt hr (by omega)
  have lett : ∀ i, i < g.letters.length → (foldF g r).letters.getD (atF r i) [] = g.letters.getD i [] := fun i hi => by
    obtain ⟨h, e⟩ := repof i hi
    rw [foldF_lett h]
    have := stay_key hst (lt _ h) hi e
    simp only [keyR, Bool.and_eq_true, decide_eq_true_eq] at this
    exact this.1.1
  have key : Bisim g fun i j => r'.getD (atF r i) 0 = r'.getD (atF r j) 0 := by
    have ah : ∀ i j, i < g.letters.length → j < g.letters.length → r'.getD (atF r i) 0 = r'.getD (atF r j) 0 → ∀ x ∈ g.next.getD i [], ∃ y ∈ g.next.getD j [], r'.getD (atF r x.toNat) 0 = r'.getD (atF r y.toNat) 0 := by
      intro i j hi hj h x hx
      have h1 : (atF r x.toNat : Int) ∈ (foldF g r).next.getD (atF r i) [] := (nextto i hi _).2 ⟨x, hx, rfl⟩
      obtain ⟨c, h2, h3⟩ := stay_next hst' (hle i hi) (hle j hj) h h1
      obtain ⟨y, h4, rfl⟩ := (nextto j hj c).1 h2
      exact ⟨y, h4, by simpa using h3.symm⟩
    refine ⟨fun i j hi hj h => ?_, ah, fun i j hi hj h y hy => ?_⟩
    · have := hb'.lett _ _ (hle i hi) (hle j hj) h
      rwa [lett i hi, lett j hj] at this
    · obtain ⟨x, h1, h2⟩ := ah j i hj hi h.symm y hy
      exact ⟨x, h1, h2.symm⟩
  intro k hk
  obtain ⟨h1, h2, h3⟩ := hr'.at_ k (by omega)
  have hk2 : (r'.getD k 0).toNat < (repsL r).length := by omega
  have e : r'.getD (atF r (repsL r)[k]) 0 = r'.getD (atF r (repsL r)[(r'.getD k 0).toNat]) 0 := by
    rw [atF_rep hk, atF_rep hk2, h3]
  have h4 := bisim_alike hg key hs (lt _ hk) (lt _ hk2) e
  have h5 := (atF_eq hr (repsL_at hk).1 (repsL_at hk2).1).2 h4
  rw [atF_rep hk, atF_rep hk2] at h5
  omega
def bothG (g h : Gr2) : Gr2 := ⟨g.letters ++ h.letters, g.first, g.next ++ h.next.map fun row => row.map (· + (g.letters.length : Int))⟩
theorem bothG_ok {g h : Gr2} (hg : NextOk g) (hh : NextOk h) : NextOk (bothG g h) where
  len := by simp [bothG, hg.len, hh.len]
  some_ row hrow := by
    rcases List.mem_append.1 hrow with h1 | h1
    · exact hg.some_ row h1
    · obtain ⟨r0, h2, rfl⟩ := List.mem_map.1 h1
      intro e
      exact hh.some_ r0 h2 (List.map_eq_nil_iff.1 e)
  in_ row hrow x hx := by
    simp only [bothG, List.length_append]
    rcases List.mem_append.1 hrow with h1 | h1
    · have := hg.in_ row h1 x hx; omega
    · obtain ⟨r0, h2, rfl⟩ := List.mem_map.1 h1
      obtain ⟨y, h3, rfl⟩ := List.mem_map.1 hx
      have := hh.in_ r0 h2 y h3; omega
theorem getD_left {α : Type} {a b : List α} {d : α} {i : Nat} (h : i < a.length) : (a ++ b).getD i d = a.getD i d := by simp [List.getD, List.getElem?_append_left h]
theorem getD_right {α : Type} {a b : List α} {d : α} {i : Nat} (h : a.length ≤ i) : (a ++ b).getD i d = b.getD (i - a.length) d := by simp [List.getD, List.getElem?_append_right h]
theorem getD_mapL {a : List (List Int)} {f : List Int → List Int} {i : Nat} (h0 : f [] = []) : (a.map f).getD i [] = f (a.getD i []) := by
  simp only [List.getD, List.getElem?_map]
  cases a[i]? <;> simp [h0]
theorem foldF_same {g : Gr2} {r s : List Int} (hg : NextOk g) (h0 : 0 ≤ g.first) (h1 : g.first < (g.letters.length : Int)) (hs : Stab (rndF g) (List.replicate g.letters.length 0) r)
    (hb : Stab (rndF (bothG g (foldF g r))) (List.replicate (bothG g (foldF g r)).letters.length 0) s) : s.getD g.first.toNat 0 = s.getD (g.letters.length + (foldF g r).first.toNat) 0 := by
  have hr : Cls g r := hs.cls zero_cls
  have hf := foldF_ok hg hr
  have hl := hr.len
  have hst := hs.fix
  have lt : ∀ k (h : k < (repsL r).length), (repsL r)[k] < g.letters.length := fun k h => by rw [← hl]; exact (repsL_at h).1
  have hbl : (bothG g (foldF g r)).letters.length = g.letters.length + (repsL r).length := by simp [bothG, foldF]
  -- a node of g that a node stands for
  let nd : Nat → Nat := fun a => if a < g.letters.length then a else (repsL r).getD (a - g.letters.length) 0
  have ndlt : ∀ a, a < g.letters.length + (repsL r).length → nd a < g.letters.length := fun a ha => by
    simp only [nd]
    split
    · assumption
    · have hk : a - g.letters.length < (repsL r).length := by omega
      have := lt _ hk
      simpa [List.getD, hk] using this
  have lett : ∀ a, a < g.letters.length + (repsL r).length → (bothG g (foldF g r)).letters.getD a [] = g.letters.getD (nd a) [] := fun a ha => by
    simp only [bothG, nd]
    split
    · rename_i h; rw [getD_left h]
    · rename_i h
      have hk : a - g.letters.length < (repsL r).length := by omega
      rw [getD_right (by omega), foldF_lett hk]
      simp [List.getD, hk]
  have ndc : ∀ a x, a < g.letters.length + (repsL r).length → x ∈ (bothG g (foldF g r)).next.getD a [] → ∃ y ∈ g.next.getD (nd a) [], r.getD (nd x.toNat) 0 = r.getD y.toNat 0 := fun a x ha hx => by
    simp only [bothG] at hx
    rcases Nat.lt_or_ge a g.letters.length with h | h
    · rw [getD_left (by rw [hg.len]; exact h)] at hx
      refine ⟨x, by simpa [nd, h] using hx, ?_⟩
      simp [nd, (hg.at hx).1]
    · have hk : a - g.letters.length < (repsL r).length := by omega
      rw [getD_right (by rw [hg.len]; exact h), getD_mapL rfl, hg.len] at hx
      obtain ⟨c, h2, rfl⟩ := List.mem_map.1 hx
      obtain ⟨y, h3, rfl⟩ := (foldF_mem hg hr hk).1 h2
      have hya := atF_lt hr (i := y.toNat) (by rw [hl]; exact (hg.at h3).1)
      have e1 : ((atF r y.toNat : Int) + (g.letters.length : Int)).toNat - g.letters.length = atF r y.toNat := by omega
      have e2 : ¬ ((atF r y.toNat : Int) + (g.letters.length : Int)).toNat < g.letters.length := by omega
      refine ⟨y, by simpa [nd, show ¬ a < g.letters.length by omega, List.getD, hk] using h3, ?_⟩
      have e3 : nd ((atF r y.toNat : Int) + (g.letters.length : Int)).toNat = (repsL r)[atF r y.toNat] := by
        simp only [nd, if_neg e2, e1, List.getD, List.getElem?_eq_getElem hya, Option.getD_some]
      rw [e3]
      exact (atF_eq hr (repsL_at hya).1 (by rw [hl]; exact (hg.at h3).1)).1 (atF_rep hya)
  have nda : ∀ a y, a < g.letters.length + (repsL r).length → y ∈ g.next.getD (nd a) [] → ∃ x ∈ (bothG g (foldF g r)).next.getD a [], r.getD (nd x.toNat) 0 = r.getD y.toNat 0 := fun a y ha hy => by
    simp only [bothG]
    rcases Nat.lt_or_ge a g.letters.length with h | h
    · rw [getD_left (by rw [hg.len]; exact h)]
      simp only [nd, h, if_true] at hy
      exact ⟨y, hy, by simp [nd, (hg.at hy).1]⟩
    · have hk : a - g.letters.length < (repsL r).length := by omega
      rw [getD_right (by rw [hg.len]; exact h), getD_mapL rfl, hg.len]
      have hy' : y ∈ g.next.getD (repsL r)[a - g.letters.length] [] := by simpa [nd, show ¬ a < g.letters.length by omega, List.getD, hk] using hy
      have h2 := (foldF_mem hg hr hk).2 ⟨y, hy', rfl⟩
      have hya := atF_lt hr (i := y.toNat) (by rw [hl]; exact (hg.at hy').1)
      refine ⟨_, List.mem_map.2 ⟨_, h2, rfl⟩, ?_⟩
      have e1 : ((atF r y.toNat : Int) + (g.letters.length : Int)).toNat - g.letters.length = atF r y.toNat := by omega
      have e2 : ¬ ((atF r y.toNat : Int) + (g.letters.length : Int)).toNat < g.letters.length := by omega
      have e3 : nd ((atF r y.toNat : Int) + (g.letters.length : Int)).toNat = (repsL r)[atF r y.toNat] := by
        simp only [nd, if_neg e2, e1, List.getD, List.getElem?_eq_getElem hya, Option.getD_some]
      rw [e3]
      exact (atF_eq hr (repsL_at hya).1 (by rw [hl]; exact (hg.at hy').1)).1 (atF_rep hya)
  have ah : ∀ i j, i < (bothG g (foldF g r)).letters.length → j < (bothG g (foldF g r)).letters.length → r.getD (nd i) 0 = r.getD (nd j) 0 → ∀ x ∈ (bothG g (foldF g r)).next.getD i [], ∃ y ∈ (bothG g (foldF g r)).next.getD j [], r.getD (nd x.toNat) 0 = r.getD (nd y.toNat) 0 := by
    intro i j hi hj h x hx
    rw [hbl] at hi hj
    obtain ⟨y, h2, h3⟩ := ndc i x hi hx
    obtain ⟨z, h4, h5⟩ := stay_next hst (ndlt i hi) (ndlt j hj) h h2
    obtain ⟨u, h6, h7⟩ := nda j z hj h4
    exact ⟨u, h6, by rw [h3, h7, h5]⟩
  have key : Bisim (bothG g (foldF g r)) fun a b => r.getD (nd a) 0 = r.getD (nd b) 0 := by
    refine ⟨fun i j hi hj h => ?_, ah, fun i j hi hj h y hy => ?_⟩
    · rw [hbl] at hi hj
      rw [lett i hi, lett j hj]
      exact (stay_bisim hst).lett _ _ (ndlt i hi) (ndlt j hj) h
    · obtain ⟨x, h2, h3⟩ := ah j i hj hi h.symm y hy
      exact ⟨x, h2, h3.symm⟩
  have hfi : (foldF g r).first = (atF r g.first.toNat : Int) := rfl
  have hat := atF_lt hr (i := g.first.toNat) (by omega)
  refine bisim_alike (bothG_ok hg hf) key hb (by rw [hbl]; omega) (by rw [hbl, hfi]; omega) ?_
  have e1 : nd g.first.toNat = g.first.toNat := by simp only [nd]; rw [if_pos (by omega)]
  have e2 : nd (g.letters.length + (foldF g r).first.toNat) = (repsL r)[atF r g.first.toNat] := by
    simp only [nd]
    rw [if_neg (by omega), hfi, show g.letters.length + ((atF r g.first.toNat : Nat) : Int).toNat - g.letters.length = atF r g.first.toNat by omega]
    simp [List.getD, hat]
  rw [e1, e2]
  exact ((atF_eq hr (repsL_at hat).1 (by omega)).1 (atF_rep hat)).symm
end Go.M2

namespace Go.M2
open Go.Proofs
variable {M : MH}
structure Fo (M0 M : MH) (b6 : Nat) (vL : V) (us : List V) (vN : V) (ws : List V) (f : Int) : Prop where
  bx : M b6 = .some [vL, .sc (.int .i64 f), vN]
  fr : M0 b6 = none
  gl : Gr 1 M0 M vL us
  gn : Gr 1 M0 M vN ws
  nl : blkV vL ≠ some b6
  nn : blkV vN ≠ some b6
  ne : ∀ b, blkV vL = .some b → blkV vN ≠ some b
theorem Fo.more {M0 M M' : MH} {b6 : Nat} {vL vN : V} {us ws : List V} {f : Int} (h : Fo M0 M b6 vL us vN ws f) (hs : Sub M M') : Fo M0 M' b6 vL us vN ws f :=
  ⟨hs _ _ h.bx, h.fr, h.gl.more hs, h.gn.more hs, h.nl, h.nn, h.ne⟩
theorem Gr.keepB {M0 M M' : MH} {v : V} {us : List V} (h : Gr 1 M0 M v us) (hs : Sub M0 M') (hk : ∀ b l, blkV v = .some b → M b = .some l → M' b = .some l) : Gr 1 M0 M' v us := by
  refine ⟨hs, h.new, ?_⟩
  rcases h.own with h1 | ⟨b, n, ex, rfl, h2, h3⟩
  · exact .inl h1
  · exact .inr ⟨b, n, ex, rfl, hk b _ rfl h2, h3⟩
theorem Fo.appL {M0 M : MH} {b6 : Nat} {vL vN u : V} {us ws : List V} {f : Int} {K : V → MH → Prop} {by_ bt c k : Nat} {ex : Bool} (h : Fo M0 M b6 vL us vN ws f) (hbt : M bt = none) (hu : oneV u = true) (hb : us.length + 1 ≤ 34359738368) (hby : by_ ≤ 32)
    (hk : ∀ s' M', M' b6 = .some [vL, .sc (.int .i64 f), vN] → Fo M0 (M'.set b6 [s', .sc (.int .i64 f), vN]) b6 s' (us ++ [u]) vN ws f → (∀ (b : Nat) (l : Cell), M b = .some l → b ≠ b6 → blkV vL ≠ some b → (M'.set b6 [s', .sc (.int .i64 f), vN]) b = .some l ∧ blkV s' ≠ some b) → K s' M') : appV 1 by_ vL (.sc (.sl (some (bt, 0)) 1 c ex k)) (M.set bt [u]) K := by
  refine app_val h.gl hbt hu hb hby fun s' M' hg hoth => ?_
  obtain ⟨o1, o2⟩ := hoth _ _ h.bx h.nl
  have hsN : ∀ b l, blkV vN = .some b → M b = .some l → M' b = .some l ∧ blkV s' ≠ some b := fun b l hb hl => hoth _ _ hl fun e => h.ne b e hb
  refine hk s' M' o1 ⟨set_same, h.fr, ?_, ?_, o2, h.nn, ?_⟩ fun b l hl hb6 hbL => ⟨by rw [set_ne hb6]; exact (hoth _ _ hl hbL).1, (hoth _ _ hl hbL).2⟩
  · exact hg.keepB (hg.sub.set h.fr) fun b l hb hl => by rw [set_ne (fun e => o2 (by rw [hb, e]))]; exact hl
  · exact h.gn.keepB (hg.sub.set h.fr) fun b l hb hl => by rw [set_ne (fun e => h.nn (by rw [hb, e]))]; exact (hsN b l hb hl).1
  · intro b hb1 hb2
    rcases h.gn.own with ⟨_, k, rfl⟩ | ⟨b', n, ex, rfl, h2, h3⟩
    · simp [blkV] at hb2
    · exact (hsN b' _ rfl h2).2 (by rw [hb1]; exact hb2.symm)
theorem Fo.appN {M0 M : MH} {b6 : Nat} {vL vN u : V} {us ws : List V} {f : Int} {K : V → MH → Prop} {by_ bt c k : Nat} {ex : Bool} (h : Fo M0 M b6 vL us vN ws f) (hbt : M bt = none) (hu : oneV u = true) (hb : ws.length + 1 ≤ 34359738368) (hby : by_ ≤ 32)
    (hk : ∀ s' M', M' b6 = .some [vL, .sc (.int .i64 f), vN] → Fo M0 (M'.set b6 [vL, .sc (.int .i64 f), s']) b6 vL us s' (ws ++ [u]) f → K s' M') : appV 1 by_ vN (.sc (.sl (some (bt, 0)) 1 c ex k)) (M.set bt [u]) K := by
  refine app_val h.gn hbt hu hb hby fun s' M' hg hoth => ?_
  obtain ⟨o1, o2⟩ := hoth _ _ h.bx h.nn
  have hsN : ∀ b l, blkV vL = .some b → M b = .some l → M' b = .some l ∧ blkV s' ≠ some b := fun b l hb hl => hoth _ _ hl fun e => h.ne b hb e
  refine hk s' M' o1 ⟨set_same, h.fr, ?_, ?_, h.nl, o2, ?_⟩
  · exact h.gl.keepB (hg.sub.set h.fr) fun b l hb hl => by rw [set_ne (fun e => h.nl (by rw [hb, e]))]; exact (hsN b l hb hl).1
  · exact hg.keepB (hg.sub.set h.fr) fun b l hb hl => by rw [set_ne (fun e => o2 (by rw [hb, e]))]; exact hl
  · intro b hb1 hb2
    rcases h.gl.own with ⟨_, k, rfl⟩ | ⟨b', n, ex, rfl, h2, h3⟩
    · simp [blkV] at hb1
    · exact (hsN b' _ rfl h2).2 (by rw [hb2]; exact hb1.symm)
theorem Fo.appNF {M0 M : MH} {b6 : Nat} {vL vN row : V} {us ws r : List V} {f : Int} {K : V → MH → Prop} {by_ bt c k : Nat} {ex : Bool} (h : Fo M0 M b6 vL us vN ws f) (hr : Gr 1 M0 M row r) (n6 : blkV row ≠ some b6) (nL : ∀ b, blkV row = .some b → blkV vL ≠ some b) (nN : ∀ b, blkV row = .some b → blkV vN ≠ some b)
    (hbt : M bt = none) (hb : ws.length + 1 ≤ 34359738368) (hby : by_ ≤ 32)
    (hk : ∀ s' M' u, M' b6 = .some [vL, .sc (.int .i64 f), vN] → Fo M0 (M'.set b6 [vL, .sc (.int .i64 f), s']) b6 vL us s' (ws ++ [u]) f → Fr 1 u r → K s' M') : appV 1 by_ vN (.sc (.sl (some (bt, 0)) 1 c ex k)) (M.set bt [row]) K := by
  refine gr_appF h.gn hr nN hbt ?_ (by simp [mostCells]; omega) fun s' M' u hg hF hoth => ?_
  · have : (ws.length + 1) * by_ ≤ (ws.length + 1) * 32 := Nat.mul_le_mul_left _ hby
    simp [mostCells]; omega
  obtain ⟨o1, o2⟩ := hoth _ _ h.bx h.nn n6
  have hsN : ∀ b l, blkV vL = .some b → M b = .some l → M' b = .some l ∧ blkV s' ≠ some b := fun b l hb hl => hoth _ _ hl (fun e => h.ne b hb e) fun e => nL b e hb
  refine hk s' M' u o1 ⟨set_same, h.fr, ?_, ?_, h.nl, o2, ?_⟩ hF
  · exact h.gl.keepB (hg.sub.set h.fr) fun b l hb hl => by rw [set_ne (fun e => h.nl (by rw [hb, e]))]; exact (hsN b l hb hl).1
  · exact hg.keepB (hg.sub.set h.fr) fun b l hb hl => by rw [set_ne (fun e => o2 (by rw [hb, e]))]; exact hl
  · intro b hb1 hb2
    rcases h.gl.own with ⟨_, k, rfl⟩ | ⟨b', n, ex, rfl, h2, h3⟩
    · simp [blkV] at hb1
    · exact (hsN b' _ rfl h2).2 (by rw [hb2]; exact hb1.symm)
theorem Fo.tr {M0 M : MH} {b6 : Nat} {vL vN : V} {us ws : List V} {f : Int} (h : Fo M0 M b6 vL us vN ws f) : ∃ vL' vN' M2, Fr 1 vL' us ∧ Fr 1 vN' ws ∧ Sub M0 M2 ∧ (∀ {fn : FuncId} {R : V → MH → Prop}, VCall Tryd.prog fn [.agg [vL', .sc (.int .i64 f), vN']] M2 R → VCall Tryd.prog fn [.agg [vL, .sc (.int .i64 f), vN]] M R) := by
  have key : ∀ {v : V} {l : List V} {M' : MH}, Gr 1 M0 M' v l → ∃ v' M2, Fr 1 v' l ∧ Sub M0 M2 ∧ (∀ b, blkV v ≠ some b → M2 b = M' b) ∧ ∀ {t t' : List V} {M3 : MH}, Fz M2 t M3 t' → Fz M' (v :: t) M3 (v' :: t') := by
    intro v l M' hg
    rcases hg.own with ⟨rfl, k, rfl⟩ | ⟨b, n, ex, rfl, h2, h3⟩
    · exact ⟨_, M', .inl ⟨rfl, k, rfl⟩, hg.sub, fun _ _ => rfl, fun h => .keep _ h⟩
    · refine ⟨.fs (some (b, 0)) n n ex 1 (l.drop 0), M'.del b, .inr ⟨_, _, _, _, _, by rw [List.drop_zero], by omega⟩, fun i x hi => ?_, fun q hq => ?_, fun h => .sl h2 (.refl _ _) h⟩
      · have hb := hg.new b rfl
        rw [del_ne (fun e => by subst e; rw [hb] at hi; cases hi)]; exact hg.sub i x hi
      · rw [del_ne (fun e => hq (by subst e; rfl))]
  obtain ⟨vL', M2, f1, s1, k1, z1⟩ := key h.gl
  have hgn : Gr 1 M0 M2 vN ws := h.gn.keepB s1 fun b l hb hl => by rw [k1 b (fun e => h.ne b e hb)]; exact hl
  obtain ⟨vN', M3, f2, s2, k2, z2⟩ := key hgn
  exact ⟨vL', vN', M3, f1, f2, s2, fun hcall => VCall.give (.agg (z1 (.keep _ (z2 (.nil _)))) (.nil _)) hcall⟩
def GtOk (g h : GrS) (f : Int) : Prop := GrOk g f ∧ GrOk h f ∧ g.letters.length + h.letters.length ≤ 400
theorem GtOk.al {g h : GrS} {f : Int} (k : GtOk g h f) : AlOk (bothG g h) where
  n0 := by have := k.1.n0; have := k.2.2; simp [bothG]; omega
  lt r hr := by
    rcases List.mem_append.1 hr with h1 | h1
    · exact k.1.al.lt r h1
    · exact k.2.1.al.lt r h1
  nx := bothG_ok k.1.al.nx k.2.1.al.nx
  ln r hr := by
    rcases List.mem_append.1 hr with h1 | h1
    · exact k.1.al.ln r h1
    · obtain ⟨r0, h2, rfl⟩ := List.mem_map.1 h1
      rw [List.length_map]; exact k.2.1.al.ln r0 h2
noncomputable def smB (g h : GrS) (f : Int) : Bool := @decide (GtOk g h f ∧ (clsF (bothG g h)).getD g.first.toNat 0 = (clsF (bothG g h)).getD (h.first.toNat + g.letters.length) 0) (Classical.propDecidable _)
theorem smB_false {g h : GrS} {f : Int} (k : ¬ GtOk g h f) : smB g h f = false := by
  unfold smB; exact @decide_eq_false _ (Classical.propDecidable _) fun hh => k hh.1
theorem smB_eq {g h : GrS} {f : Int} (k : GtOk g h f) : smB g h f = decide ((clsF (bothG g h)).getD g.first.toNat 0 = (clsF (bothG g h)).getD (h.first.toNat + g.letters.length) 0) := by
  rw [Bool.eq_iff_iff, decide_eq_true_iff]
  unfold smB
  rw [@decide_eq_true_iff _ (Classical.propDecidable _)]
  exact ⟨fun hh => hh.2, fun hh => ⟨k, hh⟩⟩
end Go.M2

namespace Go.M2
open Go.Proofs
variable {M : MH}
theorem Run.keep {g : Gr2} {p : List Int} {rs : List (List Int)} (h : Run (rndG g) p rs) {a b : Nat} (ha : a < g.letters.length) (hb : b < g.letters.length) : ∀ z, rs.getLast? = .some z → z.getD a 0 = z.getD b 0 → ∀ r ∈ rs, r.getD a 0 = r.getD b 0 := by
  induction h with
  | @stop p h =>
    intro z hz he r hr
    rw [List.mem_singleton] at hr; subst hr
    simp at hz; subst hz; exact he
  | @go p rs h h1 ih =>
    intro z hz he r hr
    have hz' : rs.getLast? = .some z := by
      cases h1 <;> simpa using hz
    have h2 := ih z hz' he
    rcases List.mem_cons.1 hr with rfl | hr
    · have hp := h1.pos
      have h3 := h2 _ (List.getElem_mem hp)
      rw [h1.head hp] at h3
      unfold rndG at h3
      rw [getD_range ha, getD_range hb] at h3
      have h4 := (firstAt_eq (rowR_eqv g _) (i := a) (j := b)).1 (Int.ofNat_inj.1 h3)
      simp only [rowR, Bool.and_eq_true, decide_eq_true_eq] at h4
      exact h4.1
    · exact h2 r hr
end Go.M2

namespace Go.M2
open Go.Proofs
variable {M : MH}
theorem Gr.fzA {M0 : MH} {v : V} {l : List V} (h : Gr 1 M0 M v l) : ∃ (A : MH → MH) (v' : V), Fr 1 v' l ∧ (∀ X, Sub X M → Sub (A X) M) ∧ (∀ X b, blkV v ≠ some b → A X b = X b) ∧ ∀ X : MH, (∀ b, blkV v = .some b → X b = none) → ∀ {t t' : List V} {M3 : MH}, Fz X t M3 t' → Fz (A X) (v :: t) M3 (v' :: t') := by
  rcases h.own with ⟨rfl, k, rfl⟩ | ⟨b, n, ex, rfl, h2, h3⟩
  · exact ⟨id, _, .inl ⟨rfl, k, rfl⟩, fun _ h => h, fun _ _ _ => rfl, fun X _ _ _ _ h => .keep _ h⟩
  · refine ⟨fun X => X.set b l, .fs (some (b, 0)) n n ex 1 (l.drop 0), .inr ⟨_, _, _, _, _, by rw [List.drop_zero], by omega⟩, fun X hX i x hi => ?_, fun X q hq => ?_, fun X hX t t' M3 hz => ?_⟩
    · have hi : X.set b l i = .some x := hi
      by_cases e : i = b
      · subst e; rw [set_same] at hi; cases hi; exact h2
      · rw [set_ne e] at hi; exact hX i x hi
    · exact set_ne fun e => hq (by rw [e]; rfl)
    · exact .sl set_same (by rw [del_set (hX b rfl)]; exact .refl _ _) hz
theorem fz_pair {M' : MH} {vL vN c : V} {us ws : List V} (hl : Gr 1 M M' vL us) (hn : Gr 1 M M' vN ws) (hne : ∀ b, blkV vL = .some b → blkV vN ≠ some b) :
    ∃ M1 vL' vN', Sub M1 M' ∧ Fz M1 [.agg [vL, c, vN]] M [.agg [vL', c, vN']] ∧ Fr 1 vL' us ∧ Fr 1 vN' ws := by
  obtain ⟨A, vL', f1, s1, k1, z1⟩ := hl.fzA
  obtain ⟨B, vN', f2, s2, k2, z2⟩ := hn.fzA
  refine ⟨A (B M), vL', vN', s1 _ (s2 _ hl.sub), .agg (z1 _ (fun b hb => ?_) (.keep _ (z2 _ (fun b hb => hn.new b hb) (.nil _)))) (.nil _), f1, f2⟩
  rw [k2 M b (hne b hb)]; exact hl.new b hb
theorem selL_ascL {m : Nat} {xs : List Int} : selL m (inL xs) = ascL m xs := by
  unfold selL ascL
  congr 1
  refine List.filter_congr fun k _ => ?_
  simp [inL, List.contains_iff_mem, Bool.eq_iff_iff]
noncomputable def fgF (g : GrS) (f : Int) : GrS := if grB g f = true then foldF g (clsF g) else ⟨[], 0, []⟩
theorem f_l3Copy {v : V} {xs : List Int} (hv : LI v xs) (hl : xs.length ≤ 1048576) : VCall Tryd.prog n_spec_l3Copy [v] M (fun r M' => M = M' ∧ LI r xs) :=
  (VCall.fr1 (t_l3Copy hv hl)).mono fun r M' ⟨h1, h2⟩ => ⟨h1, h2.li⟩
def RL (r : List Int) (i : Nat) : List Nat := (List.range i).filter (isRep r)
theorem RL_succ {r : List Int} {i : Nat} : RL r (i + 1) = if isRep r i = true then RL r i ++ [i] else RL r i := by
  unfold RL
  rw [List.range_succ, List.filter_append]
  by_cases h : isRep r i = true
  · simp [h]
  · simp [h]
theorem RL_len {r : List Int} {i : Nat} : (RL r i).length = rank r i := rfl
theorem RL_le {r : List Int} {i : Nat} : (RL r i).length ≤ i := by
  have := List.length_filter_le (isRep r) (List.range i)
  simpa [RL] using this
def fRow (g : GrS) (r : List Int) (n : Nat) : List Int := ascL (repsL r).length ((g.next.getD n []).map fun x => (atF r x.toNat : Int))
theorem t_specFoldedGraph {v : V} {g : GrS} {f : Int} (hv : isGr g v) (hz : GrSz g) : VCall Tryd.prog n_spec_FoldedGraph [v, .sc (.int .i64 f)] M (fun r M' => M = M' ∧ isGr (fgF g f) r) := by
  refine VCall.of fun R hR => v_spec_FoldedGraph rfl ?_
  have hv0 := hv
  obtain ⟨a, b, rfl, ha, hb⟩ := hv
  (repeat' (first | ((with_reducible first | refine cond_dec (fun h => ?_) (fun h => ?_) | refine guardK_dec (fun h => ?_) (fun h => ?_) | refine guardD3_dec (fun h => ?_) (fun h => ?_)) <;> first | (exfalso; omega) | (simp (maxSteps := 2000000) (disch := first | omega | assumption | exact idP rfl | exact idP (bL rfl)) only [go_sem, reduceIte, Nat.reduceEqDiff, wpV_kd, wpV_tH, h]) | skip) | ((with_reducible first | refine cond_split (fun h => ?_) (fun h => ?_) | refine guardK_split (fun h => ?_) (fun h => ?_) | refine guardD3_split (fun h => ?_) (fun h => ?_)) <;> ((try simp only [Bool.not_eq_true', Bool.not_eq_false'] at h); first | (simp (maxSteps := 2000000) (disch := first | omega | assumption | exact idP rfl | exact idP (bL rfl)) only [go_sem, reduceIte, Nat.reduceEqDiff, wpV_kd, wpV_tH, h]) | skip)) | (with_reducible intro bk hbk; try have hnk := (fresh_set hbk).1) | (simp (maxSteps := 2000000) (disch := first | omega | assumption | exact idP rfl | exact idP (bL rfl)) only [go_sem, reduceIte, Nat.reduceEqDiff, wpV_kd, wpV_tH])))
  refine (t_specAlikeIn hv0 hz).mono ?_
  rintro cv _ ⟨rfl, hcv⟩
  rename_i b2 hb2
  have m2 : ((M.set b2 [a, V.sc (AV.int IntKind.i64 g.first), b]).set bk [V.sc (AV.sl none 0 0 true 0), V.sc (AV.int IntKind.i64 0), V.sc (AV.sl none 0 0 true 0)]) b2 = .some [a, V.sc (AV.int IntKind.i64 g.first), b] := by rw [set_ne (Ne.symm hnk), set_same]
  have m4 : ((M.set b2 [a, V.sc (AV.int IntKind.i64 g.first), b]).set bk [V.sc (AV.sl none 0 0 true 0), V.sc (AV.int IntKind.i64 0), V.sc (AV.sl none 0 0 true 0)]) bk = .some [V.sc (AV.sl none 0 0 true 0), V.sc (AV.int IntKind.i64 0), V.sc (AV.sl none 0 0 true 0)] := set_same
  have hs0 : Sub M ((M.set b2 [a, V.sc (AV.int IntKind.i64 g.first), b]).set bk [V.sc (AV.sl none 0 0 true 0), V.sc (AV.int IntKind.i64 0), V.sc (AV.sl none 0 0 true 0)]) := sB
  have hbk0 : M bk = none := (fresh_set hbk).2
  generalize ((M.set b2 [a, V.sc (AV.int IntKind.i64 g.first), b]).set bk [V.sc (AV.sl none 0 0 true 0), V.sc (AV.int IntKind.i64 0), V.sc (AV.sl none 0 0 true 0)]) = M0 at *
  refine sS0 ?_
  intro b6 hb6
  have n64 : b6 ≠ bk := fun e => by subst e; rw [hb6] at m4; cases m4
  have hb60 : M b6 = none := hs0.none hb6
  by_cases hok : ¬ grB g f = true
  · have hal : alF g f = [] := by simp only [alF, if_neg hok]
    have hfg : fgF g f = ⟨[], 0, []⟩ := by simp only [fgF, if_neg hok]
    rw [hal] at hcv
    have hlen := hcv.len
    have m44 : (M0.set b6 [V.sc (AV.sl none 0 0 true 0), V.sc (AV.int IntKind.i64 0), V.sc (AV.sl none 0 0 true 0)]) bk = .some [V.sc (AV.sl none 0 0 true 0), V.sc (AV.int IntKind.i64 0), V.sc (AV.sl none 0 0 true 0)] := by rw [set_ne (Ne.symm n64)]; exact m4
    refine sS2 @hlen @m44 ?_
    refine cond_dec (fun _ => ?_) (fun hh => absurd rfl hh)
    refine sS1 @m44 ?_
    refine hR _ (.agg [.sc (.sl none 0 0 true 0), .sc (.int .i64 0), .sc (.sl none 0 0 true 0)]) _ M M ?_ (.refl _ _) ⟨rfl, by rw [hfg]; exact ⟨_, _, rfl, .nil, .nil⟩⟩
    exact (hs0.set hb60).set hbk0
  · have hok := Classical.not_not.1 hok
    have hG := grB_iff.1 hok
    have hA := hG.al
    have hal : alF g f = clsF g := by simp only [alF, if_pos hok]
    have hfg : fgF g f = foldF g (clsF g) := by simp only [fgF, if_pos hok]
    rw [hal] at hcv
    have hcl := clsF_cls hA
    have hpl := hcl.len
    have hn0 := hA.n0
    have hnz : ¬ (((clsF g).length : Nat) : Int) = 0 := by omega
    generalize clsF g = r at *
    refine sS2 @hcv.len @hnz ?_
    have mB6 : (M0.set b6 [V.sc (AV.sl none 0 0 true 0), V.sc (AV.int IntKind.i64 0), V.sc (AV.sl none 0 0 true 0)]) b6 = .some [V.sc (AV.sl none 0 0 true 0), V.sc (AV.int IntKind.i64 0), V.sc (AV.sl none 0 0 true 0)] := set_same
    have sB : Sub M0 (M0.set b6 [V.sc (AV.sl none 0 0 true 0), V.sc (AV.int IntKind.i64 0), V.sc (AV.sl none 0 0 true 0)]) := (Sub.refl _).set hb6
    have mB2 := sB _ _ m2
    have mB4 := sB _ _ m4
    generalize (M0.set b6 [V.sc (AV.sl none 0 0 true 0), V.sc (AV.int IntKind.i64 0), V.sc (AV.sl none 0 0 true 0)]) = MB at *
    intro b7 hb7
    refine loop_k (fun e M' => ∃ i : Nat, i ≤ r.length ∧ e 2 = .sc (.ptr (some (b2, 0))) ∧ e 4 = .sc (.ptr (some (bk, 0))) ∧ e 5 = cv ∧ e 6 = .sc (.ptr (some (b6, 0))) ∧ e 8 = .sc (.int .i64 (rank r i : Nat)) ∧ e 9 = .sc (.int .i64 i) ∧ Gr 1 MB M' (e 7) (((List.range i).map fun n => (atF r n : Int)).map vi)) (fun e _ => ctrV r.length (e 9)) ?_ ?_
    · exact ⟨0, by omega, sT0, sT0, sT0, sT0, by refine sS0 ?_; rfl, by refine sS0 ?_; rfl, by refine sS0 ?_; exact Gr.new' (Sub.refl _) hb7 rfl⟩
    · rintro e M1 ⟨i, hi, e2, e4, e5, e6, e8, e9, hg7⟩ K hK
      refine sS7 @e2 @e4 @e5 @e6 @e8 @e9 @hcv.len ?_
      refine cond_dec (fun hc => ?_) (fun hc => ?_)
      · have hi' : i < r.length := by omega
        have hat := hcl.at_ i hi'
        have gi : r.getD i 0 = r[i] := by simp [List.getD, hi']
        rw [gi] at hat
        have hrk : rank r i ≤ i := RL_le
        by_cases hrep : r[i] = (i : Int)
        · have hR1 : isRep r i = true := by simp only [isRep, gi, hrep, decide_true]
          have ha1 : (atF r i : Int) = (rank r i : Int) := by simp only [atF, gi, hrep, Int.toNat_natCast]
          have hr1 : (rank r (i + 1) : Int) = (rank r i : Int) + 1 := by rw [rank_succ, if_pos hR1]; omega
          simp (maxSteps := 2000000) (disch := first | omega | assumption | exact idP rfl | exact idP (bL rfl)) only [go_sem, reduceIte, Nat.reduceEqDiff, wpV_kd, wpV_tH, e2, e4, e5, e6, e8, e9, hcv.iaddr, hcv.at hi', hrep]
          intro bt hbt
          refine app_int hg7 hbt (by simp; omega) (by omega) ?_
          intro s' M4 hg8 _
          refine sS2 @e8 @e9 ?_
          refine hK _ _ ⟨i + 1, by omega, sT0, sT0, sT0, sT0, by refine sS0 ?_; rw [hr1], by refine sS0 ?_; rfl, ?_⟩ (by refine sS2 @ctrV_int @e9 ?_; omega)
          refine sS0 ?_
          rw [List.map_append, List.map_singleton, ha1]
          exact hg8
        · have hR1 : isRep r i = false := by simp only [isRep, gi, hrep, decide_false]
          have hk : r[i].toNat < i := by omega
          have hk2 : r[i] < (i : Int) := by omega
          have ha1 : (atF r i : Int) = (atF r r[i].toNat : Int) := by
            simp only [atF, gi]
            rw [hat.2.2]
          have hr1 : (rank r (i + 1) : Int) = (rank r i : Int) := by rw [rank_succ, if_neg (by rw [hR1]; simp)]; omega
          have pa := hg7.at (by simp; omega)
          have pi : iaddrV 1 (e 7) (.int .i64 r[i]) = _ := hg7.own.iaddr hat.1 (by simp; omega)
          have pn : (((List.range i).map fun n => (atF r n : Int)).map vi)[r[i].toNat]? = .some (.sc (.int .i64 (atF r r[i].toNat : Int))) := by simp [hk, vi]
          simp (maxSteps := 2000000) (disch := first | omega | assumption | exact idP rfl | exact idP (bL rfl)) only [go_sem, reduceIte, Nat.reduceEqDiff, wpV_kd, wpV_tH, e2, e4, e5, e6, e8, e9, hcv.iaddr, hcv.at hi', hrep, pi, pa, pn]
          intro bt hbt
          refine app_int hg7 hbt (by simp; omega) (by omega) ?_
          intro s' M4 hg8 _
          refine sS2 @e8 @e9 ?_
          refine hK _ _ ⟨i + 1, by omega, sT0, sT0, sT0, sT0, by refine sS0 ?_; rw [hr1], by refine sS0 ?_; rfl, ?_⟩ (by refine sS2 @ctrV_int @e9 ?_; omega)
          refine sS0 ?_
          rw [List.map_append, List.map_singleton, ha1]
          exact hg8
      · obtain rfl : i = r.length := by omega
        have m16 := hg7.sub _ _ mB6
        have m12 := hg7.sub _ _ mB2
        have m14 := hg7.sub _ _ mB4
        have hfs := hG.fs
        have pa := hg7.at (by simp; omega)
        have pi : iaddrV 1 (e 7) (.int .i64 g.first) = _ := hg7.own.iaddr hfs.1 (by simp; omega)
        have pn : (((List.range r.length).map fun n => (atF r n : Int)).map vi)[g.first.toNat]? = .some (.sc (.int .i64 (atF r g.first.toNat : Int))) := by
          have : g.first.toNat < r.length := by omega
          simp [this, vi]
        have n76 : blkV (e 7) ≠ some b6 := fun hh => by have := hg7.new _ hh; rw [mB6] at this; cases this
        have sM6 : Sub M (M1.del b6) := (hs0.trans (sB.trans hg7.sub)).del hb60
        have hg70 : Gr 1 M (M1.del b6) (e 7) _ := (hg7.base (hs0.trans sB)).keepB sM6 fun b l hb hl => by rw [del_ne (fun hh => n76 (by rw [hb, hh]))]; exact hl
        have n26 : b2 ≠ b6 := fun hh => by subst hh; rw [m2] at hb6; cases hb6
        have q2 : (M1.del b6) b2 = .some [a, V.sc (AV.int IntKind.i64 g.first), b] := by rw [del_ne n26]; exact m12
        have q4 : (M1.del b6) bk = .some [V.sc (AV.sl none 0 0 true 0), V.sc (AV.int IntKind.i64 0), V.sc (AV.sl none 0 0 true 0)] := by rw [del_ne (Ne.symm n64)]; exact m14
        have sd : Sub (M1.del b6) M1 := fun j x hx => by
          by_cases hh : j = b6
          · subst hh; rw [del_same] at hx; cases hx
          · rw [del_ne hh] at hx; exact hx
        have hfo0 : Fo (M1.del b6) (M1.set b6 [.sc (.sl none 0 0 true 0), .sc (.int .i64 (atF r g.first.toNat : Int)), .sc (.sl none 0 0 true 0)]) b6 (.sc (.sl none 0 0 true 0)) [] (.sc (.sl none 0 0 true 0)) [] (atF r g.first.toNat : Int) :=
          ⟨set_same, del_same, .nil (sd.set del_same), .nil (sd.set del_same), by simp [blkV], by simp [blkV], fun b hb => by simp [blkV] at hb⟩
        simp (maxSteps := 2000000) (disch := first | omega | assumption | exact idP rfl | exact idP (bL rfl)) only [go_sem, reduceIte, Nat.reduceEqDiff, wpV_kd, wpV_tH, e2, e4, e5, e6, e8, m12, m16, pi, pa, pn]
        generalize M1.del b6 = M6 at *
        refine loop_k (fun e' M' => ∃ (i : Nat) (vL vN : V) (us ws : List V), i ≤ r.length ∧ e' 2 = .sc (.ptr (some (b2, 0))) ∧ e' 4 = .sc (.ptr (some (bk, 0))) ∧ e' 5 = cv ∧ e' 6 = .sc (.ptr (some (b6, 0))) ∧ e' 7 = e 7 ∧ e' 8 = .sc (.int .i64 (rank r r.length : Nat)) ∧ e' 10 = .sc (.int .i64 i) ∧ Fo M6 M' b6 vL us vN ws (atF r g.first.toNat : Int) ∧ Cs (fun ys u => LI u ys) us ((RL r i).map fun n => g.letters.getD n []) ∧ Cs (fun ys u => LI u ys) ws ((RL r i).map (fRow g r))) (fun e' _ => ctrV r.length (e' 10)) ?_ ?_
        · exact ⟨0, _, _, [], [], by omega, sT0, sT0, sT0, sT0, sT0, sT0, by refine sS0 ?_; rfl, hfo0, .nil, .nil⟩
        · rintro e' M2 ⟨i, vL, vN, us, ws, hi, f2, f4, f5, f6, f7, f8, f10, hfo, hcu, hcw⟩ K2 hK2
          have hul : us.length ≤ i := by have := hcu.1; rw [List.length_map] at this; have := RL_le (r := r) (i := i); omega
          have hwl : ws.length ≤ i := by have := hcw.1; rw [List.length_map] at this; have := RL_le (r := r) (i := i); omega
          refine sS8 @f2 @f4 @f5 @f6 @f7 @f8 @f10 @hcv.len ?_
          refine cond_dec (fun hc => ?_) (fun hc => ?_)
          · have hi' : i < r.length := by omega
            have gi : r.getD i 0 = r[i] := by simp [List.getD, hi']
            by_cases hrep : r[i] = (i : Int)
            · have hR1 : isRep r i = true := by simp only [isRep, gi, hrep, decide_true]
              have hil : i < g.letters.length := by omega
              have hl := ha.elt hil
              have hll := hA.lt _ (List.getElem_mem hil)
              have m22 := hfo.gl.sub _ _ q2
              have hbx := hfo.bx
              simp (maxSteps := 2000000) (disch := first | omega | assumption | exact idP rfl | exact idP (bL rfl)) only [go_sem, reduceIte, Nat.reduceEqDiff, wpV_kd, wpV_tH, f2, f4, f5, f6, f7, f8, f10, hcv.iaddr, hcv.at hi', hrep, hbx, m22, ha.iaddr]
              refine (f_l3Copy hl (by omega)).mono ?_
              rintro w _ ⟨rfl, hw⟩
              have w1 := hw.one.1
              have w2 := hw.one.2
              refine sS3 @w1 @w2 @hbx ?_
              intro bt hbt
              refine hfo.appL hbt w1 (by omega) (by omega) ?_
              intro s' M3 q1 hfo2 hoth
              have c1 := hfo2.gl.one.2
              have c0 := hfo2.gl.one.1
              refine sS3 @q1 @c1 @c0 ?_
              generalize M3.set b6 [s', .sc (.int .i64 (atF r g.first.toNat : Int)), vN] = M4 at *
              have hrk : rank r r.length ≤ r.length := RL_le
              refine mks3 (by omega) (by simp [mostCells]; omega) (by simp [mostCells]; omega) ?_
              intro b11 hb11
              simp (maxSteps := 2000000) (disch := first | omega | assumption | exact idP rfl | exact idP (bL rfl)) only [go_sem, reduceIte, Nat.reduceEqDiff, wpV_kd, wpV_tH, zeros_vb, mkL_none]
              have hin : i < g.next.length := by have : g.next.length = g.letters.length := hA.nx.len; omega
              have hrow := hb.elt hin
              have hrl := hA.ln _ (List.getElem_mem hin)
              have hrin : ∀ x ∈ g.next[i], 0 ≤ x ∧ x < (g.letters.length : Int) := hA.nx.in_ _ (List.getElem_mem hin)
              have hg74 := hg70.more hfo2.gl.sub
              have pa4 := hg74.at (by simp; omega)
              have m42 := hfo2.gl.sub _ _ q2
              have hs11 : Sub M4 (M4.set b11 ((mkL (rank r r.length) fun _ => false).map vb)) := (Sub.refl _).set hb11
              refine loop_k (fun e2 M' => ∃ k : Nat, k ≤ g.next[i].length ∧ e2 2 = .sc (.ptr (some (b2, 0))) ∧ e2 4 = .sc (.ptr (some (bk, 0))) ∧ e2 5 = cv ∧ e2 6 = .sc (.ptr (some (b6, 0))) ∧ e2 7 = e 7 ∧ e2 8 = .sc (.int .i64 (rank r r.length : Nat)) ∧ e2 10 = .sc (.int .i64 i) ∧ e2 11 = .sc (.sl (some (b11, 0)) (rank r r.length) (rank r r.length) true 1) ∧ e2 12 = .sc (.int .i64 k) ∧ Sub M4 M' ∧ M' b11 = .some ((mkL (rank r r.length) (inL ((g.next[i].take k).map fun x => (atF r x.toNat : Int)))).map vb)) (fun e2 _ => ctrV g.next[i].length (e2 12)) ?_ ?_
              · refine ⟨0, by omega, sT0, sT0, sT0, sT0, sT0, sT0, sT0, sT0, by refine sS0 ?_; rfl, hs11, ?_⟩
                refine sS0 ?_
                rw [mkL_ext]
                intro q hq; simp [inL]
              · rintro e2 M5 ⟨k, hk, k2, k4, k5, k6, k7, k8, k10, k11, k12, hsub, hm11⟩ K3 hK3
                have m52 := hsub _ _ m42
                have pa5 := hsub _ _ pa4
                simp (maxSteps := 2000000) (disch := first | omega | assumption | exact idP rfl | exact idP (bL rfl)) only [go_sem, reduceIte, Nat.reduceEqDiff, wpV_kd, wpV_tH, k2, k4, k5, k6, k7, k8, k10, k11, k12, m52, hb.iaddr, hrow.len]
                refine cond_dec (fun hd => ?_) (fun hd => ?_)
                · have hk1 : k < g.next[i].length := by omega
                  have hx := hrin _ (List.getElem_mem hk1)
                  have hxt : g.next[i][k].toNat < r.length := by omega
                  have hlt := atF_lt hcl hxt
                  rw [← rank_len] at hlt
                  have px : iaddrV 1 (e 7) (.int .i64 g.next[i][k]) = _ := hg74.own.iaddr hx.1 (by simp; omega)
                  have pnx : (((List.range r.length).map fun n => (atF r n : Int)).map vi)[g.next[i][k].toNat]? = .some (.sc (.int .i64 (atF r g.next[i][k].toNat : Int))) := by simp [hxt, vi]
                  have hml : ((mkL (rank r r.length) (inL ((g.next[i].take k).map fun x => (atF r x.toNat : Int)))).map vb).length = rank r r.length := by simp [mkL_len]
                  simp (maxSteps := 2000000) (disch := first | omega | assumption | exact idP rfl | exact idP (bL rfl)) only [go_sem, reduceIte, Nat.reduceEqDiff, wpV_kd, wpV_tH, k2, k4, k5, k6, k7, k8, k10, k11, k12, m52, hb.iaddr, hrow.iaddr, hrow.at hk1, px, pa5, pnx, hm11, hml]
                  refine hK3 _ _ ⟨k + 1, by omega, sT0, sT0, sT0, sT0, sT0, sT0, sT0, sT0, by refine sS0 ?_; rfl, hsub.set hb11, ?_⟩ (by refine sS2 @ctrV_int @k12 ?_; omega)
                  rw [set_same, mkL_setv (q := inL ((g.next[i].take (k + 1)).map fun x => (atF r x.toNat : Int))) fun q hq => ?_]
                  rw [take_snoc hk1, List.map_append, List.map_singleton]
                  simp only [inL]
                  rw [Bool.eq_iff_iff]
                  simp only [Bool.or_eq_true, decide_eq_true_eq, List.mem_append, List.mem_singleton]
                  exact or_congr Iff.rfl (by omega)
                · obtain rfl : k = g.next[i].length := by omega
                  rw [List.take_length] at hm11
                  have hfo5 := hfo2.more hsub
                  have hbx5 := hfo5.bx
                  have hgm : Gr 1 M4 M5 (.sc (.sl (some (b11, 0)) (rank r r.length) (rank r r.length) true 1)) ((mkL (rank r r.length) (inL (g.next[i].map fun x => (atF r x.toNat : Int)))).map vb) := ⟨hsub, fun q hq => by cases hq; exact hb11, .inr ⟨b11, _, _, rfl, hm11, by simp [mkL_len]⟩⟩
                  refine sS9 @k2 @k4 @k5 @k6 @k7 @k8 @k10 @k11 @hbx5 ?_
                  refine VCall.give0 hgm fun u M6' hu hs6 => (f_l4List hu.lb (by omega)).mono ?_
                  rintro row _ ⟨rfl, hr2⟩
                  have hfo6 := hfo2.more hs6
                  have hbx6 := hfo6.bx
                  have r1 := hr2.one.1
                  have r2 := hr2.one.2
                  refine sS3 @hbx6 @r1 @r2 ?_
                  intro bt2 hbt2
                  refine hfo6.appN hbt2 r1 (by omega) (by omega) ?_
                  intro s2 M7 q2' hfo7
                  have d1 := hfo7.gn.one.2
                  have d0 := hfo7.gn.one.1
                  refine sS4 @q2' @d1 @d0 @f10 ?_
                  refine hK2 _ _ ⟨i + 1, _, _, _, _, by omega, sT0, sT0, sT0, sT0, sT0, sT0, by refine sS0 ?_; rfl, hfo7, ?_, ?_⟩ (by refine sS2 @ctrV_int @f10 ?_; omega)
                  · rw [RL_succ, if_pos hR1, List.map_append, List.map_singleton]
                    refine hcu.snoc ?_
                    rw [show g.letters.getD i [] = g.letters[i] by simp [List.getD, hil]]
                    exact hw
                  · rw [RL_succ, if_pos hR1, List.map_append, List.map_singleton]
                    refine hcw.snoc ?_
                    rw [show fRow g r i = selL (rank r r.length) (inL (g.next[i].map fun x => (atF r x.toNat : Int))) by rw [selL_ascL, fRow, rank_len, show g.next.getD i [] = g.next[i] by simp [List.getD, hin]]]
                    exact hr2
            · have hR1 : isRep r i = false := by simp only [isRep, gi, hrep, decide_false]
              simp (maxSteps := 2000000) (disch := first | omega | assumption | exact idP rfl | exact idP (bL rfl)) only [go_sem, reduceIte, Nat.reduceEqDiff, wpV_kd, wpV_tH, f2, f4, f5, f6, f7, f8, f10, hcv.iaddr, hcv.at hi', hrep]
              refine hK2 _ _ ⟨i + 1, _, _, _, _, by omega, sT0, sT0, sT0, sT0, sT0, sT0, by refine sS0 ?_; rfl, hfo, ?_, ?_⟩ (by refine sS2 @ctrV_int @f10 ?_; omega)
              · rw [RL_succ, if_neg (by rw [hR1]; simp)]; exact hcu
              · rw [RL_succ, if_neg (by rw [hR1]; simp)]; exact hcw
          · obtain rfl : i = r.length := by omega
            have hbx := hfo.bx
            have m24 := hfo.gl.sub _ _ q4
            have o1 := hfo.gl.one.1
            have o2 := hfo.gl.one.2
            have o3 := hfo.gn.one.1
            have o4 := hfo.gn.one.2
            refine sS9 @f2 @f4 @f6 @hbx @m24 @o1 @o2 @o3 @o4 ?_
            have hnb : ∀ {v : V} {l : List V}, Gr 1 M6 M2 v l → blkV v ≠ some bk := fun hg hh => by
              have := hg.new _ hh; rw [q4] at this; cases this
            have hsf : Sub M (M2.set bk [vL, V.sc (AV.int IntKind.i64 (atF r g.first.toNat : Int)), vN]) := (sM6.trans hfo.gl.sub).set hbk0
            have gl2 : Gr 1 M (M2.set bk [vL, V.sc (AV.int IntKind.i64 (atF r g.first.toNat : Int)), vN]) vL us := (hfo.gl.base sM6).keepB hsf fun b l hb hl => by rw [set_ne (fun hh => hnb hfo.gl (by rw [hb, hh]))]; exact hl
            have gn2 : Gr 1 M (M2.set bk [vL, V.sc (AV.int IntKind.i64 (atF r g.first.toNat : Int)), vN]) vN ws := (hfo.gn.base sM6).keepB hsf fun b l hb hl => by rw [set_ne (fun hh => hnb hfo.gn (by rw [hb, hh]))]; exact hl
            obtain ⟨Mz, vL', vN', z1, z2, z3, z4⟩ := fz_pair (c := V.sc (AV.int IntKind.i64 (atF r g.first.toNat : Int))) gl2 gn2 hfo.ne
            exact hR _ _ _ _ _ z1 z2 ⟨rfl, by rw [hfg]; exact ⟨vL', vN', rfl, z3.lsC hcu, z4.lsC hcw⟩⟩
end Go.M2

namespace Go.M2
open Go.Proofs
variable {M : MH}
theorem bin_xorN {a b : Int} (h0 : 0 ≤ a) (h1 : a < 4611686018427387904) (h2 : 0 ≤ b) (h3 : b < 4611686018427387904) :
    ∃ c : Int, binF .xor (.int .i64 a) (.int .i64 b) = .some (.int .i64 c) ∧ 0 ≤ c ∧ c < 4611686018427387904 := by
  have ea : (BitVec.ofInt 64 a).toNat = a.toNat := by rw [BitVec.toNat_ofInt]; omega
  have eb : (BitVec.ofInt 64 b).toNat = b.toNat := by rw [BitVec.toNat_ofInt]; omega
  have hlt : a.toNat ^^^ b.toNat < 2 ^ 62 := Nat.xor_lt_two_pow (by omega) (by omega)
  have hlt' : a.toNat ^^^ b.toNat < 4611686018427387904 := hlt
  refine ⟨((a.toNat ^^^ b.toNat : Nat) : Int), ?_, by omega, by omega⟩
  have e : (BitVec.ofInt IntKind.i64.bits a ^^^ BitVec.ofInt IntKind.i64.bits b).toNat = a.toNat ^^^ b.toNat := by
    show (BitVec.ofInt 64 a ^^^ BitVec.ofInt 64 b).toNat = _
    rw [BitVec.toNat_xor, ea, eb]
  simp only [binF, isSh, intBin, Bool.false_eq_true, if_false, if_true, e]
  rw [wrap_in (by omega) (by omega)]
theorem kd_cut {P : Program} {Q : PostV} {e : EnvV} {l : List GOp} {s : List (Nat × List Nat)} {k : List Nat} (A : EnvV → MH → Prop) (h : ∀ K : EnvV → MH → Prop, (∀ e' M', A e' M' → K e' M') → wpDV P l s K e M)
    (hQ : ∀ e' M', A e' M' → Q .normal (keepV k e') M') : wpV P (.kd l s k) Q e M := by
  rw [wpV_kd]; exact h _ hQ
def isU (n : Int) (u : V) : Prop := u = .sc (.int .u8 n) ∧ 0 ≤ n ∧ n ≤ 255
abbrev LU : V → List Int → Prop := Ls isU
abbrev XU : V → List Int → Prop := In LU
theorem LU.at {v : V} {ys : List Int} (h : LU v ys) {i : Nat} (hi : i < ys.length) : ∃ n : Int, at1 v i = .sc (.int .u8 n) ∧ 0 ≤ n ∧ n ≤ 255 := by
  obtain ⟨h1, h2, h3⟩ := h.elt hi
  exact ⟨_, h1, h2, h3⟩
def rdC (w : V) (p : Int) : List V := [w, .sc (.int .i64 p)]
structure Rdr (w : V) (code : List Int) : Prop where
  u : XU w code
  l : code.length ≤ 2000
theorem t_pick {rb : Nat} {w : V} {code : List Int} {p n : Int} (hr : Rdr w code) (hm : M rb = .some (rdC w p)) (h0 : 0 ≤ p) (h1 : p ≤ 1099511627776) :
    VCall Tryd.prog n_spec_l40Rd_pick [.sc (.ptr (some (rb, 0))), .sc (.int .i64 n)] M (fun r M' => M' = M.set rb (rdC w (p + 1)) ∧ ∃ k : Int, r = .sc (.int .i64 k) ∧ 0 ≤ k ∧ (1 ≤ n → k < n) ∧ (n < 1 → k = 0)) := by
  refine VCall.plain fun R hR => v_spec_l40Rd_pick rfl ?_
  obtain ⟨hw, hl⟩ := hr
  have hlen := hw.len fun _ _ h => h.len
  simp only [rdC] at hm
  by_cases hn : n < 1
  · have hd : decide (n < 1) = true := by simp [hn]
    refine sS2 @hm @hd ?_
    exact hR _ _ ⟨rfl, _, rfl, by omega, by omega, fun _ => by omega⟩
  have hd : decide (n < 1) = false := by simp [hn]
  by_cases hz : code.length = 0
  · have hz2 : decide ((code.length : Int) = 0) = true := by simp [hz]
    refine sS4 @hm @hd @hlen @hz2 ?_
    exact hR _ _ ⟨rfl, _, rfl, by omega, by omega, fun _ => by omega⟩
  have hz2 : decide ((code.length : Int) = 0) = false := decide_eq_false (by omega)
  have hw' : LU w code := hw.get (by omega)
  have e1 : p + 1 - 1 = p := by omega
  simp (maxSteps := 2000000) (disch := first | omega | assumption | exact idP rfl | exact idP (bL rfl)) only [go_sem, reduceIte, Nat.reduceEqDiff, wpV_tH, hm, hd, hlen, hz2, e1]
  refine cond_dec (fun hk => ?_) (fun hk => ?_)
  · obtain ⟨c, hc, c0, c1⟩ := hw'.at (i := p.toNat) (by omega)
    refine sS2 @hw'.iaddr @hc ?_
    have := Int.emod_nonneg c (b := n) (by omega)
    have := Int.emod_lt_of_pos c (b := n) (by omega)
    exact hR _ _ ⟨rfl, _, rfl, by omega, fun _ => by omega, fun _ => by omega⟩
  simp (maxSteps := 2000000) (disch := first | omega | assumption | exact idP rfl | exact idP (bL rfl)) only [go_sem, reduceIte, Nat.reduceEqDiff, wpV_tH]
  have hN : (0 : Int) < (code.length : Int) := by omega
  have m1 := Int.emod_nonneg p (b := (code.length : Int)) (by omega)
  have m2 := Int.emod_lt_of_pos p hN
  have m3 := Int.emod_nonneg (p * 7 + 3) (b := (code.length : Int)) (by omega)
  have m4 := Int.emod_lt_of_pos (p * 7 + 3) hN
  have m5 : 0 ≤ p / (code.length : Int) := Int.ediv_nonneg h0 (by omega)
  have m6 : p / (code.length : Int) ≤ p := Int.ediv_le_self _ h0
  generalize hq1 : p % (code.length : Int) = q1 at *
  generalize hq2 : (p * 7 + 3) % (code.length : Int) = q2 at *
  generalize hq3 : p / (code.length : Int) = q3 at *
  obtain ⟨c, hc, c0, c1⟩ := hw'.at (i := q1.toNat) (by omega)
  obtain ⟨c', hc', c0', c1'⟩ := hw'.at (i := q2.toNat) (by omega)
  refine kd_cut (fun e' M' => M' = M.set rb [w, .sc (.int .i64 (p + 1))] ∧ e' 1 = .sc (.int .i64 n) ∧ ∃ x : Int, e' 6 = .sc (.int .i64 x) ∧ 0 ≤ x ∧ x < 4611686018427387904) ?_ ?_
  · intro K hK
    refine sS7 @hlen @hw'.iaddr @hc @hc' @hq1 @hq2 @hq3 ?_
    exact hK _ _ ⟨rfl, sT0, _, by refine sS0 ?_; rfl, by omega, by omega⟩
  rintro e' _ ⟨rfl, e1, x, e6, x0, x1⟩
  obtain ⟨y, hy, y0, y1⟩ := bin_xorN (a := x) (b := x / 64) x0 x1 (by omega) (by omega)
  refine sS3 @e1 @e6 @hy ?_
  have := Int.emod_nonneg y (b := n) (by omega)
  have := Int.emod_lt_of_pos y (b := n) (by omega)
  exact hR _ _ ⟨rfl, _, rfl, by omega, fun _ => by omega, fun _ => by omega⟩
end Go.M2

namespace Go.M2
open Go.Proofs
variable {M : MH}
section
variable {M0 M M' : MH} {rb : Nat} {X Y l : List V}
theorem Sub.rd (h : Sub (M0.set rb X) M) : Sub (M0.set rb Y) (M.set rb Y) := fun b l hb => by
  by_cases e : b = rb
  · subst e; rw [set_same] at hb ⊢; exact hb
  · rw [set_ne e] at hb ⊢; exact h b l (by rw [set_ne e]; exact hb)
theorem Gr.rd {sz : Nat} {s : V} (h : Gr sz (M0.set rb X) M s l) : Gr sz (M0.set rb Y) (M.set rb Y) s l := by
  have hne : ∀ b, blkV s = .some b → b ≠ rb := fun b hb e => by
    have := h.new b hb
    rw [e, set_same] at this; cases this
  refine ⟨h.sub.rd, fun b hb => ?_, ?_⟩
  · rw [set_ne (hne b hb)]
    have := h.new b hb
    rwa [set_ne (hne b hb)] at this
  · rcases h.own with ⟨e, k, e2⟩ | ⟨b, n, ex, rfl, h1, h2⟩
    · exact .inl ⟨e, k, e2⟩
    · exact .inr ⟨b, n, ex, rfl, by rw [set_ne (hne b rfl)]; exact h1, h2⟩
theorem Mem.rd {fp : List (Nat × List V)} (h : Mem (M0.set rb X) M fp) : Mem (M0.set rb Y) (M.set rb Y) fp := by
  have hne : ∀ p ∈ fp, p.1 ≠ rb := fun p hp e => by
    have := h.new p hp
    rw [e, set_same] at this; cases this
  refine ⟨h.sub.rd, fun p hp => ?_, h.nd, fun p hp => ?_⟩
  · have := h.new p hp
    rw [set_ne (hne p hp)] at this ⊢; exact this
  · rw [set_ne (hne p hp)]; exact h.at_ p hp
end
structure RS (M0 : MH) (rb : Nat) (w : V) (M : MH) (p : Int) : Prop where
  at_ : M rb = .some (rdC w p)
  sub : Sub (M0.set rb (rdC w p)) M
section
variable {M0 M M' : MH} {rb b : Nat} {w : V} {p q : Int} {l : List V}
theorem RS.start (h : M rb = .some (rdC w p)) : RS M rb w M p := ⟨h, by rw [set_id h]; exact Sub.refl M⟩
theorem RS.set (h : RS M0 rb w M p) (q : Int) : RS M0 rb w (M.set rb (rdC w q)) q := ⟨set_same, h.sub.rd⟩
theorem RS.more (h : RS M0 rb w M p) (hs : Sub M M') : RS M0 rb w M' p := ⟨hs _ _ h.at_, h.sub.trans hs⟩
theorem RS.to (h : RS M0 rb w M p) (hs : Sub (M.set rb (rdC w q)) M') : RS M0 rb w M' q := (h.set q).more hs
theorem RS.ne (h : RS M0 rb w M p) (hb : M b = none) : b ≠ rb := fun e => by rw [e, h.at_] at hb; cases hb
theorem RS.gone (h : RS M0 rb w M p) (hb : M b = none) : M0 b = none := by
  have := h.sub.none hb
  rwa [set_ne (h.ne hb)] at this
end
def fpG (v : V) (l : List V) : List (Nat × List V) := match blkV v with
  | some b => [(b, l)]
  | none => []
def OwS (sz : Nat) (v : V) (l : List V) : Prop := (l = [] ∧ ∃ k, v = .sc (.sl none 0 0 true k)) ∨ ∃ b n ex, v = .sc (.sl (some (b, 0)) n n ex sz) ∧ l.length = n * sz
theorem Ow.sh {sz : Nat} {v : V} {l : List V} (h : Ow sz M v l) : OwS sz v l ∧ ∀ q ∈ fpG v l, M q.1 = .some q.2 := by
  rcases h with ⟨rfl, k, rfl⟩ | ⟨b, n, ex, rfl, h1, h2⟩
  · exact ⟨.inl ⟨rfl, k, rfl⟩, fun q hq => (by cases hq)⟩
  · exact ⟨.inr ⟨b, n, ex, rfl, h2⟩, fun q hq => by simp [fpG, blkV] at hq; subst hq; exact h1⟩
theorem OwS.ow {sz : Nat} {v : V} {l : List V} (h : OwS sz v l) (hm : ∀ q ∈ fpG v l, M q.1 = .some q.2) : Ow sz M v l := by
  rcases h with ⟨rfl, k, rfl⟩ | ⟨b, n, ex, rfl, h2⟩
  · exact .inl ⟨rfl, k, rfl⟩
  · exact .inr ⟨b, n, ex, rfl, hm (b, l) (by simp [fpG, blkV]), h2⟩
theorem OwS.tr {sz : Nat} {v : V} {l l' : List V} {g : List (Nat × List V)} (h : OwS sz v l) (ht : Tr l l' g) : ∃ u, Tr [v] [u] (fpG v l ++ g) ∧ Fr sz u l' := by
  rcases h with ⟨rfl, k, rfl⟩ | ⟨b, n, ex, rfl, h2⟩
  · cases ht
    exact ⟨_, .refl _, .inl ⟨rfl, k, rfl⟩⟩
  · exact ⟨_, by simpa [fpG, blkV] using Tr.sl (o := 0) (n := n) (c := n) (k := sz) (ex := ex) (b := b) ht .nil, .inr ⟨(b, 0), n, n, ex, sz, by simp, by rw [ht.len, h2]⟩⟩
theorem OwS.one {sz : Nat} {v : V} {l : List V} (h : OwS sz v l) : One v := by
  rcases h with ⟨rfl, k, rfl⟩ | ⟨b, n, ex, rfl, h2⟩ <;> exact ⟨rfl, rfl⟩
theorem Mem.app {B M M' : MH} {sz' : Nat} {s s' : V} {l l' : List V} {f : List (Nat × List V)} (h : Mem B M (fpG s l ++ f)) (hg : Gr sz' B M' s' l') (ho : Oth M M' s s') : Mem B M' (fpG s' l' ++ f) := by
  have hf := h.right
  have hsf : ∀ p ∈ f, blkV s ≠ some p.1 := fun p hp e => by
    have hnd := h.nd
    simp only [fpG, e, Nd2, List.cons_append, List.nil_append, List.map_cons, List.nodup_cons, List.mem_map] at hnd
    exact hnd.1 ⟨p, hp, rfl⟩
  have hat : ∀ p ∈ f, M' p.1 = .some p.2 := fun p hp => (ho _ _ (hf.at_ p hp) (hsf p hp)).1
  have hne : ∀ p ∈ f, blkV s' ≠ some p.1 := fun p hp => (ho _ _ (hf.at_ p hp) (hsf p hp)).2
  refine ⟨hg.sub, fun p hp => ?_, ?_, fun p hp => ?_⟩
  · rcases List.mem_append.1 hp with h1 | h1
    · exact hg.new _ (by simp only [fpG] at h1; split at h1 <;> simp_all)
    · exact hf.new p h1
  · cases hb : blkV s' with
    | none => simpa [fpG, hb] using hf.nd
    | some b =>
      simp only [fpG, hb, Nd2, List.cons_append, List.nil_append, List.map_cons, List.nodup_cons, List.mem_map]
      exact ⟨fun ⟨p, hp, e⟩ => hne p hp (by rw [hb, e]), hf.nd⟩
  · rcases List.mem_append.1 hp with h1 | h1
    · exact hg.own.sh.2 p h1
    · exact hat p h1
theorem Gr.mem {B M : MH} {sz : Nat} {s : V} {l : List V} (h : Gr sz B M s l) : Mem B M (fpG s l) := by
  refine ⟨h.sub, fun p hp => h.new _ (by simp only [fpG] at hp; split at hp <;> simp_all), ?_, fun p hp => h.own.sh.2 p hp⟩
  unfold fpG
  split <;> simp [Nd2]
theorem Mem.gr {B M : MH} {sz : Nat} {s : V} {l : List V} {f : List (Nat × List V)} (h : Mem B M (fpG s l ++ f)) (ho : OwS sz s l) : Gr sz B M s l :=
  ⟨h.sub, fun b hb => h.new (b, l) (List.mem_append_left _ (by simp [fpG, hb])), ho.ow fun q hq => h.at_ q (List.mem_append_left _ hq)⟩
section
variable {P : Program} {f : FuncId} {args : List V}
theorem VCall.frB {q : MH → V → Prop} (h : VCall P f args M (fun r M' => ∃ B r' g, Tr [r] [r'] g ∧ Mem B M' g ∧ q B r')) : VCall P f args M (fun r M' => q M' r) :=
  VCall.of fun R hR => h.mono fun r M' => by
    rintro ⟨B, r', g, h1, h2, h3⟩
    let M1 : MH := fun i => if inF g i then M' i else B i
    have e : delF M1 g = B := by
      funext i
      simp only [delF, M1]
      split
      · rename_i hin
        obtain ⟨l, hl⟩ := inF_iff.1 hin
        exact (h2.new _ hl).symm
      · rfl
    have hz := h1.fz (M := M1) (fun q hq => by simp only [M1]; rw [if_pos (inF_iff.2 ⟨q.2, hq⟩)]; exact h2.at_ q hq) h2.nd
    rw [e] at hz
    refine hR r r' M' M1 B (fun i l hi => ?_) hz h3
    simp only [M1] at hi
    split at hi
    · exact hi
    · exact h2.sub _ _ hi
variable {args' : List V} {R R' : V → MH → Prop} {fp : List (Nat × List V)}
end
section
variable {P : Program} {f : FuncId} {a1 a2 : List V} {rb : Nat} {w : V} {p : Int}
end
theorem t_num {rb : Nat} {w v : V} {code xs : List Int} {p : Int} (hr : Rdr w code) (hm : M rb = .some (rdC w p)) (h0 : 0 ≤ p) (h1 : p ≤ 1099511627776) (hv : LI v xs) (hx : 0 < xs.length) (hl : xs.length ≤ 1048576) :
    VCall Tryd.prog n_spec_l40Rd_num [.sc (.ptr (some (rb, 0))), v] M (fun r M' => M' = M.set rb (rdC w (p + 1)) ∧ ∃ x ∈ xs, r = .sc (.int .i64 x)) := by
  refine VCall.plain fun R hR => v_spec_l40Rd_num rfl ?_
  refine sS1 @hv.len ?_
  refine (t_pick hr hm h0 h1).mono ?_
  rintro _ _ ⟨rfl, k, rfl, k0, k1, _⟩
  have hk := k1 (by omega)
  simp (maxSteps := 2000000) (disch := first | omega | assumption | exact idP rfl | exact idP (bL rfl)) only [go_sem, reduceIte, Nat.reduceEqDiff, wpV_kd, wpV_tH, hv.iaddr, LI.at hv (i := k.toNat) (by omega)]
  exact hR _ _ ⟨rfl, _, List.getElem_mem _, rfl⟩
theorem t_numL {rb b n : Nat} {w : V} {code : List Int} {l : List V} {p : Int} (xs : List Int) (hr : Rdr w code) (hb : M b = none) (hm : M rb = .some (rdC w p)) (h0 : 0 ≤ p) (h1 : p ≤ 1099511627776) (e : l = xs.map vi) (hn : n = xs.length) (hx : 0 < xs.length) (hl : xs.length ≤ 1048576) :
    VCall Tryd.prog n_spec_l40Rd_num [.sc (.ptr (some (rb, 0))), .sc (.sl (some (b, 0)) n n true 1)] (M.set b l) (fun r M' => M' = M.set rb (rdC w (p + 1)) ∧ ∃ x ∈ xs, r = .sc (.int .i64 x)) := by
  subst e hn
  have hz : Fz (M.set b (xs.map vi)) [.sc (.ptr (some (rb, 0))), .sc (.sl (some (b, 0)) xs.length xs.length true 1)] M [.sc (.ptr (some (rb, 0))), .fs (some (b, 0)) xs.length xs.length true 1 ((xs.map vi).drop 0)] := by
    refine .keep _ (.sl set_same (by rw [del_set hb]; exact Fz.refl M _) (.nil M))
  exact VCall.give hz (t_num hr hm h0 h1 (Fr.li (.inr ⟨_, _, _, _, _, rfl, by simp⟩)) hx hl)
end Go.M2

namespace Go.M2
open Go.Proofs
variable {M : MH}
def DT (p d : Int) (m n : Nat) (c : List V) (p' : Int) : Prop := p ≤ p' ∧ p' ≤ p + d ∧ ∃ ts : List TermS, c = catV encT ts ∧ m ≤ ts.length ∧ ts.length ≤ n
theorem DT.flat {p d p' : Int} {m n : Nat} {c : List V} (h : DT p d m n c p') : flatL c := by
  obtain ⟨_, _, ts, rfl, _⟩ := h
  exact catV_flat encT_flat ts
theorem Fr.lt {u : V} {ts : List TermS} (h : Fr 4 u (catV encT ts)) : LT u ts := h.lc (by omega) (catV_len (sz := 4) (enc := encT) (fun _ => rfl) ts) fun i hi => catV_at (sz := 4) (enc := encT) (fun _ => rfl) hi
def VarB (v : VarS) : Prop := -20000 ≤ v.low ∧ v.low ≤ 20000 ∧ -20000 ≤ v.high ∧ v.high ≤ 20000
end Go.M2

namespace Go.M2
open Go.Proofs
variable {M : MH}
theorem RS.set' {M0 M M' : MH} {rb : Nat} {w : V} {p q : Int} (h : RS M0 rb w M p) (e : M' = M.set rb (rdC w q)) : RS M0 rb w M' q := e ▸ h.set q
theorem Gr.rd' {M0 M M' : MH} {rb sz : Nat} {X Y l : List V} {s : V} (h : Gr sz (M0.set rb X) M s l) (e : M' = M.set rb Y) : Gr sz (M0.set rb Y) M' s l := e ▸ h.rd
theorem Gr.off {B M : MH} {sz b : Nat} {s : V} {l x : List V} (h : Gr sz B M s l) (hb : blkV s ≠ some b) (hB : B b = none) : Gr sz B (M.set b x) s l := by
  refine ⟨fun i l' hi => ?_, h.new, ?_⟩
  · rw [set_ne (fun e => by subst e; rw [hB] at hi; cases hi)]; exact h.sub i l' hi
  · rcases h.own with ⟨e, k, e2⟩ | ⟨b', n, ex, rfl, h1, h2⟩
    · exact .inl ⟨e, k, e2⟩
    · exact .inr ⟨b', n, ex, rfl, by rw [set_ne (fun e => hb (by simp [blkV, e]))]; exact h1, h2⟩
theorem RS.off {M0 M : MH} {rb b : Nat} {w : V} {p : Int} {x : List V} (h : RS M0 rb w M p) (hb : b ≠ rb) (h0 : M0 b = none) : RS M0 rb w (M.set b x) p := by
  refine ⟨by rw [set_ne (Ne.symm hb)]; exact h.at_, fun i l' hi => ?_⟩
  rw [set_ne (fun e => by subst e; rw [set_ne hb, h0] at hi; cases hi)]; exact h.sub i l' hi
structure TK (M0 M : MH) (rb : Nat) (w : V) (p : Int) (s9 s10 : V) (ts : List TermS) (ks : List Int) : Prop where
  rs : RS M0 rb w M p
  g9 : Gr 4 (M0.set rb (rdC w p)) M s9 (catV encT ts)
  g10 : Gr 1 (M0.set rb (rdC w p)) M s10 (ks.map vi)
  sep : ∀ b, blkV s10 = .some b → blkV s9 ≠ some b
  len : ts.length = ks.length
section
variable {M0 M M' : MH} {rb : Nat} {w s9 s10 : V} {p q : Int} {ts : List TermS} {ks : List Int} {K : V → MH → Prop}
theorem TK.rd' (h : TK M0 M rb w p s9 s10 ts ks) (e : M' = M.set rb (rdC w q)) : TK M0 M' rb w q s9 s10 ts ks := ⟨h.rs.set' e, h.g9.rd' e, h.g10.rd' e, h.sep, h.len⟩
theorem TK.more (h : TK M0 M rb w p s9 s10 ts ks) (hs : Sub M M') : TK M0 M' rb w p s9 s10 ts ks := ⟨h.rs.more hs, h.g9.more hs, h.g10.more hs, h.sep, h.len⟩
structure TK.Off (M0 : MH) (rb : Nat) (s9 s10 : V) (b : Nat) : Prop where
  n : b ≠ rb
  z : M0 b = none
  a : blkV s9 ≠ some b
  c : blkV s10 ≠ some b
theorem TK.new (h : TK M0 M rb w p s9 s10 ts ks) {b : Nat} (hb : M b = none) : TK.Off M0 rb s9 s10 b := by
  refine ⟨h.rs.ne hb, h.rs.gone hb, fun e => ?_, fun e => ?_⟩
  · rcases h.g9.own with ⟨_, k, rfl⟩ | ⟨b', n, ex, rfl, h1, h2⟩
    · cases e
    · simp only [blkV, Option.some.injEq] at e; subst e; rw [hb] at h1; cases h1
  · rcases h.g10.own with ⟨_, k, rfl⟩ | ⟨b', n, ex, rfl, h1, h2⟩
    · cases e
    · simp only [blkV, Option.some.injEq] at e; subst e; rw [hb] at h1; cases h1
theorem TK.off (h : TK M0 M rb w p s9 s10 ts ks) {b : Nat} {x : List V} (hb : TK.Off M0 rb s9 s10 b) : TK M0 (M.set b x) rb w p s9 s10 ts ks := by
  have hB : (M0.set rb (rdC w p)) b = none := by rw [set_ne hb.n]; exact hb.z
  exact ⟨h.rs.off hb.n hb.z, h.g9.off hb.a hB, h.g10.off hb.c hB, h.sep, h.len⟩
end
end Go.M2

namespace Go.M2
open Go.Proofs
variable {M : MH}
end Go.M2

namespace Go.M2
open Go.Proofs
variable {M : MH}
inductive RulesO : List V → List (Nat × List V) → List RuleS → Prop
  | nil : RulesO [] [] []
  | cons {a a' b c : V} {ints : List Int} {rows cells : List V} {ga fp : List (Nat × List V)} {ws : List TermS} {terms : List (List TermS)} {rs : List RuleS} : One a → Tr [a] [a'] ga → LT a' ws → OwS 1 b (ints.map vi) → OwS 1 c rows → Cs (fun ts u => LT u ts) rows terms → RulesO cells fp rs →
    RulesO (a :: b :: c :: cells) (ga ++ (fpG b (ints.map vi) ++ (fpG c rows ++ fp))) (⟨ws, ints, terms⟩ :: rs)
theorem OwS.len1 {v : V} {l : List V} (h : OwS 1 v l) : lenF (er v) = .some (.int .i64 (l.length : Int)) := by
  rcases h with ⟨rfl, k, rfl⟩ | ⟨b, n, ex, rfl, h2⟩
  · rfl
  · rw [show l.length = n by omega]; rfl
theorem RulesO.len {cells : List V} {fp : List (Nat × List V)} {rs : List RuleS} (h : RulesO cells fp rs) : cells.length = rs.length * 3 := by
  induction h with
  | nil => rfl
  | cons _ _ _ _ _ _ _ ih => simp [ih]; omega
theorem RulesO.app {cells c2 : List V} {fp f2 : List (Nat × List V)} {rs r2 : List RuleS} (h : RulesO cells fp rs) (k : RulesO c2 f2 r2) : RulesO (cells ++ c2) (fp ++ f2) (rs ++ r2) := by
  induction h with
  | nil => exact k
  | cons h1 h0 h2 h3 h4 h5 _ ih => simpa [List.append_assoc] using RulesO.cons h1 h0 h2 h3 h4 h5 ih
theorem RulesO.tr {cells : List V} {fp : List (Nat × List V)} {rs : List RuleS} (h : RulesO cells fp rs) : ∃ cells', Tr cells cells' fp ∧ ∀ i (h : i < rs.length), isRule rs[i] ((cells'.drop (i * 3)).take 3) := by
  induction h with
  | nil => exact ⟨[], .nil, fun i h => by simp at h⟩
  | @cons a a' b c ints rows cells ga fp ws terms rs h1 h0 h2 h3 h4 h5 _ ih =>
    obtain ⟨cs', t1, t2⟩ := ih
    obtain ⟨ub, tb, fb⟩ := h3.tr (Tr.refl _)
    obtain ⟨uc, tc, fc⟩ := h4.tr (Tr.refl _)
    rw [List.append_nil] at tb tc
    refine ⟨a' :: ub :: uc :: cs', ?_, fun i hi => ?_⟩
    · have := h0.append (tb.append (tc.append t1))
      simpa using this
    · cases i with
      | zero => exact ⟨a', ub, uc, by simp, h2, fb.li, fc.lsC h5⟩
      | succ i =>
        have hi' : i < rs.length := by simpa using hi
        have := t2 i hi'
        rw [show (i + 1) * 3 = i * 3 + 3 by omega]
        simpa using this
theorem fpG_one {s : V} {l : List V} {b : Nat} (h : blkV s = .some b) : fpG s l = [(b, l)] := by simp [fpG, h]
theorem Ow.base {M0 M : MH} {rb sz : Nat} {X l : List V} {v : V} (h : Ow sz M0 v l) (hne : blkV v ≠ some rb) (hs : Sub (M0.set rb X) M) : Ow sz M v l := by
  rcases h with ⟨e, k, e2⟩ | ⟨b, n, ex, rfl, h1, h2⟩
  · exact .inl ⟨e, k, e2⟩
  · exact .inr ⟨b, n, ex, rfl, hs _ _ (by rw [set_ne (fun e => hne (by simp [blkV, e]))]; exact h1), h2⟩
theorem Ow.lenV {M : MH} {v : V} {vs : List VarS} (h : Ow 3 M v (catV encVar vs)) : lenF (er v) = .some (.int .i64 (vs.length : Int)) := by
  obtain ⟨n, h1, _, h2, _⟩ := h.len
  have := catV_len (sz := 3) (enc := encVar) (fun _ => rfl) vs
  rw [h1]
  congr 3
  omega
structure RuSt (M0 M : MH) (rb : Nat) (w : V) (p : Int) (bx : Nat) (a bI cT out : V) (ints : List Int) (rows cells : List V) (fp : List (Nat × List V)) (ws : List TermS) (terms : List (List TermS)) (rl : List RuleS) : Prop where
  rs : RS M0 rb w M p
  mem : Mem (M0.set rb (rdC w p)) M ((bx, [a, bI, cT]) :: (fpG bI (ints.map vi) ++ (fpG cT rows ++ (fpG out cells ++ fp))))
  oa : One a
  la : LT a ws
  ob : OwS 1 bI (ints.map vi)
  oc : OwS 1 cT rows
  cc : Cs (fun ts u => LT u ts) rows terms
  oo : OwS 3 out cells
  ru : RulesO cells fp rl
theorem Mem.rd' {M0 M M' : MH} {rb : Nat} {X Y : List V} {fp : List (Nat × List V)} (h : Mem (M0.set rb X) M fp) (e : M' = M.set rb Y) : Mem (M0.set rb Y) M' fp := e ▸ h.rd
section
variable {M0 M M' : MH} {rb bx : Nat} {w a bI cT out : V} {p q : Int} {ints : List Int} {rows cells : List V} {fp : List (Nat × List V)} {ws : List TermS} {terms : List (List TermS)} {rs : List RuleS} {K : V → MH → Prop}
theorem RuSt.rd' (h : RuSt M0 M rb w p bx a bI cT out ints rows cells fp ws terms rs) (e : M' = M.set rb (rdC w q)) : RuSt M0 M' rb w q bx a bI cT out ints rows cells fp ws terms rs :=
  ⟨h.rs.set' e, h.mem.rd' e, h.oa, h.la, h.ob, h.oc, h.cc, h.oo, h.ru⟩
end
def RuleB (r : RuleS) : Prop := r.when_.length ≤ 81 ∧ r.sets.length ≤ 6 ∧ r.terms.length ≤ 6 ∧ ∀ ts ∈ r.terms, ts.length ≤ 20
end Go.M2

namespace Go.M2
open Go.Proofs
variable {M : MH}
structure Fot (M0 M : MH) (b6 : Nat) (vL : V) (us us' : List V) (fL : List (Nat × List V)) (vN : V) (ws ws' : List V) (fN : List (Nat × List V)) (f : Int) : Prop where
  mem : Mem M0 M ((b6, [vL, .sc (.int .i64 f), vN]) :: (fpG vL us ++ (fpG vN ws ++ (fL ++ fN))))
  ol : OwS 1 vL us
  on : OwS 1 vN ws
  tl : Tr us us' fL
  tn : Tr ws ws' fN
  dl : flatL us
  dn : flatL ws
  el : ∀ q ∈ fL, flatL q.2
  en : ∀ q ∈ fN, flatL q.2
  al : us.all oneV = true
  an : ws.all oneV = true
theorem flatL_snoc {us : List V} {u : V} (h : flatL us) (k : flat u) : flatL (us ++ [u]) := flatL_all.2 fun w hw => by
  rcases List.mem_append.1 hw with h1 | h1
  · exact flatL_all.1 h w h1
  · rw [List.mem_singleton] at h1; subst h1; exact k
theorem Fot.pushL {M0 M M2 : MH} {b6 : Nat} {vL vN u u' : V} {us us' ws ws' : List V} {fL fN gu : List (Nat × List V)} {f : Int} {K : V → MH → Prop} {by_ bt c k : Nat} {ex : Bool} (h : Fot M0 M b6 vL us us' fL vN ws ws' fN f) (ho : oneV u = true) (ht : Tr [u] [u'] gu) (hm : Mem M M2 gu) (hf : flat u) (hg : ∀ q ∈ gu, flatL q.2) (hbt : M2 bt = none) (hb : us.length + 1 ≤ 34359738368) (hby : by_ ≤ 32)
    (hk : ∀ s' M', M' b6 = .some [vL, .sc (.int .i64 f), vN] → One s' → Fot M0 (M'.set b6 [s', .sc (.int .i64 f), vN]) b6 s' (us ++ [u]) (us' ++ [u']) (fL ++ gu) vN ws ws' fN f → K s' M') : appV 1 by_ vL (.sc (.sl (some (bt, 0)) 1 c ex k)) (M2.set bt [u]) K := by
  have m0 := h.mem.add hm
  have m1 : Mem M0 M2 (fpG vL us ++ ((b6, [vL, .sc (.int .i64 f), vN]) :: (fpG vN ws ++ ((fL ++ gu) ++ fN)))) := by
    refine m0.perm ?_
    rw [List.cons_append]
    refine List.Perm.trans ?_ List.perm_middle.symm
    refine List.Perm.cons _ ?_
    rw [List.append_assoc, List.append_assoc, List.append_assoc, List.append_assoc]
    refine List.Perm.append_left _ (List.Perm.append_left _ (List.Perm.append_left _ List.perm_append_comm))
  refine app_val (m1.gr h.ol) hbt ho hb hby fun s' M' h1 h2 => ?_
  have m2 := (m1.app h1 h2).perm List.perm_middle
  have m3 := m2.upd (l' := [s', .sc (.int .i64 f), vN])
  refine hk s' M' m2.hd h1.one ⟨m3, h1.own.sh.1, h.on, h.tl.append ht, h.tn, flatL_snoc h.dl hf, h.dn, fun q hq => ?_, h.en, by simp [h.al, ho], h.an⟩
  rcases List.mem_append.1 hq with q1 | q1
  · exact h.el q q1
  · exact hg q q1
theorem Fot.pushN {M0 M M2 : MH} {b6 : Nat} {vL vN u u' : V} {us us' ws ws' : List V} {fL fN gu : List (Nat × List V)} {f : Int} {K : V → MH → Prop} {by_ bt c k : Nat} {ex : Bool} (h : Fot M0 M b6 vL us us' fL vN ws ws' fN f) (ho : oneV u = true) (ht : Tr [u] [u'] gu) (hm : Mem M M2 gu) (hf : flat u) (hg : ∀ q ∈ gu, flatL q.2) (hbt : M2 bt = none) (hb : ws.length + 1 ≤ 34359738368) (hby : by_ ≤ 32)
    (hk : ∀ s' M', M' b6 = .some [vL, .sc (.int .i64 f), vN] → One s' → Fot M0 (M'.set b6 [vL, .sc (.int .i64 f), s']) b6 vL us us' fL s' (ws ++ [u]) (ws' ++ [u']) (fN ++ gu) f → K s' M') : appV 1 by_ vN (.sc (.sl (some (bt, 0)) 1 c ex k)) (M2.set bt [u]) K := by
  have m0 := h.mem.add hm
  have m1 : Mem M0 M2 (fpG vN ws ++ ((b6, [vL, .sc (.int .i64 f), vN]) :: (fpG vL us ++ (fL ++ (fN ++ gu))))) := by
    refine m0.perm ?_
    rw [List.cons_append]
    refine List.Perm.trans ?_ List.perm_middle.symm
    refine List.Perm.cons _ ?_
    rw [List.append_assoc, List.append_assoc, List.append_assoc]
    exact List.perm_append_comm_assoc _ _ _
  refine app_val (m1.gr h.on) hbt ho hb hby fun s' M' h1 h2 => ?_
  have m2 := (m1.app h1 h2).perm List.perm_middle
  have m3 := m2.upd (l' := [vL, .sc (.int .i64 f), s'])
  have m4 : Mem M0 (M'.set b6 [vL, .sc (.int .i64 f), s']) ((b6, [vL, .sc (.int .i64 f), s']) :: (fpG vL us ++ (fpG s' (ws ++ [u]) ++ (fL ++ (fN ++ gu))))) := m3.perm (List.Perm.cons _ (List.perm_append_comm_assoc _ _ _))
  refine hk s' M' m2.hd h1.one ⟨m4, h.ol, h1.own.sh.1, h.tl, h.tn.append ht, h.dl, flatL_snoc h.dn hf, h.el, fun q hq => ?_, h.al, by simp [h.an, ho]⟩
  rcases List.mem_append.1 hq with q1 | q1
  · exact h.en q q1
  · exact hg q q1
end Go.M2

namespace Go.M2
open Go.Proofs
def imE (l : List (Int × Int)) : List (AV × AV) := l.map fun p => (.int .i64 p.1, .int .i64 p.2)
theorem find_imE (k : Int) : ∀ l, findM .i (.int .i64 k) (imE l) = .some ((l.find? fun p => decide (k = p.1)).map fun p => .int .i64 p.2)
  | [] => rfl
  | (a, v) :: t => by
    rw [show imE ((a, v) :: t) = (.int .i64 a, .int .i64 v) :: imE t from rfl, findM, keyF_i, List.find?_cons]
    by_cases h : k = a
    · simp [h]
    · simp only [h, decide_false]
      exact find_imE k t
theorem set_imE {k v : Int} : ∀ {l : List (Int × Int)}, (l.find? fun p => decide (k = p.1)) = none → setM .i (.int .i64 k) (.int .i64 v) (imE l) = .some (imE (l ++ [(k, v)]))
  | [], _ => rfl
  | (a, u) :: t, hn => by
    rw [List.find?_cons] at hn
    by_cases h : k = a
    · simp [h] at hn
    · simp only [h, decide_false] at hn
      rw [show imE ((a, u) :: t) = (.int .i64 a, .int .i64 u) :: imE t from rfl, setM, keyF_i]
      simp only [h, decide_false]
      rw [set_imE hn]; rfl
def rkL (r : List Int) (i : Nat) : List (Int × Int) := (RL r i).map fun (n : Nat) => ((n : Int), (rank r n : Int))
theorem rkL_len {r : List Int} {i : Nat} : (rkL r i).length = rank r i := by rw [rkL, List.length_map, RL_len]
theorem rkL_none {r : List Int} {i : Nat} : (rkL r i).find? (fun p => decide ((i : Int) = p.1)) = none := by
  rw [List.find?_eq_none]
  intro p hp
  obtain ⟨n, hn, rfl⟩ := List.mem_map.1 hp
  have := List.mem_range.1 (List.mem_filter.1 hn).1
  simp; omega
theorem rkL_some {r : List Int} {i m : Nat} (hm : m < i) (hr : isRep r m = true) : (rkL r i).find? (fun p => decide ((m : Int) = p.1)) = .some ((m : Int), (rank r m : Int)) := by
  cases h : (rkL r i).find? fun p => decide ((m : Int) = p.1) with
  | none =>
    have := List.find?_eq_none.1 h ((m : Int), (rank r m : Int)) (List.mem_map.2 ⟨m, List.mem_filter.2 ⟨List.mem_range.2 hm, hr⟩, rfl⟩)
    simp at this
  | some p =>
    have h1 := List.find?_some h
    obtain ⟨n, hn, e⟩ := List.mem_map.1 (List.mem_of_find?_eq_some h)
    subst e
    simp only [decide_eq_true_eq] at h1
    have : m = n := by omega
    subst this; rfl
theorem rkL_succ {r : List Int} {i : Nat} : rkL r (i + 1) = if isRep r i = true then rkL r i ++ [((i : Int), (rank r i : Int))] else rkL r i := by
  unfold rkL
  rw [RL_succ]
  split <;> simp
theorem rkL_at {g : GrS} {r : List Int} (h : Cls g r) {x : Nat} (hx : x < r.length) : findM .i (.int .i64 (r.getD x 0)) (imE (rkL r r.length)) = .some (some (.int .i64 (atF r x : Int))) := by
  obtain ⟨h1, h2, h3⟩ := h.rep hx
  rw [← h3, find_imE, rkL_some (by omega) h1]; rfl
theorem comp_ascL {m : Nat} {xs : List Int} (h : ∀ x ∈ xs, 0 ≤ x ∧ x < (m : Int)) : compF (sortI xs) = ascL m xs := by
  rw [← selL_ascL]
  refine asc_eq (compF_asc sortI_sorted) selL_asc fun x => ?_
  rw [mem_compF, mem_sortI, selL_ascL, mem_ascL]
  exact ⟨fun hx => ⟨hx, h x hx⟩, fun hx => hx.1⟩
end Go.M2
