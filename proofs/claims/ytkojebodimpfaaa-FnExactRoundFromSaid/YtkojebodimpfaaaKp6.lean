/- Contracts of a law's frame: copies of rules and systems. -/
import Derived.Test.YtkojebodimpfaaaKp5
import Derived.Test.YtkojebodimpfaaaChecked
set_option linter.unusedVariables false
set_option linter.unusedSimpArgs false
set_option maxRecDepth 10000
set_option maxHeartbeats 4000000
namespace Go.M2
open Go.Proofs
variable {M : MH}
theorem f_toTermSS {v : V} {xs : List (List TermS)} (hv : XTT v xs) (hl : xs.length ≤ 1048576) (hx : ∀ ts ∈ xs, ts.length ≤ 1048576) : VCall Try.prog n_laws_toTermSS [v] M (fun r M' => M = M' ∧ LTT r xs) := by
  refine VCall.froz fun R hP hG => v_laws_toTermSS rfl ?_
  have hlen := hv.len fun _ _ h => h.len
  simp (maxSteps := 2000000) (disch := first | omega | assumption | exact idP rfl | exact idP (bL rfl)) only [go_sem, reduceIte, Nat.reduceEqDiff, hlen]
  refine mks3 (by omega) (by simp [mostCells]; omega) (by simp [mostCells]; omega) ?_
  intro b3 hb3
  simp (maxSteps := 2000000) (disch := first | omega | assumption | exact idP rfl | exact idP (bL rfl)) only [go_sem, reduceIte, Nat.reduceEqDiff, zeros_nil]
  refine loop_k (fun e M' => ∃ (i : Nat) (us : List V), i ≤ xs.length ∧ e 0 = v ∧ e 3 = .sc (.sl (some (b3, 0)) xs.length xs.length true 1) ∧ e 4 = .sc (.int .i64 i) ∧ Sub M M' ∧ M' b3 = some (us ++ List.replicate (xs.length - i) nil1) ∧ Cs (fun ts u => LT u ts) us (xs.take i)) (fun e _ => ctrV xs.length (e 4)) ?_ ?_
  · exact ⟨0, [], by omega, by simp (maxSteps := 2000000) (disch := first | omega | assumption | exact idP rfl | exact idP (bL rfl)) only [go_sem, reduceIte, Nat.reduceEqDiff], by simp (maxSteps := 2000000) (disch := first | omega | assumption | exact idP rfl | exact idP (bL rfl)) only [go_sem, reduceIte, Nat.reduceEqDiff], by simp (maxSteps := 2000000) (disch := first | omega | assumption | exact idP rfl | exact idP (bL rfl)) only [go_sem, reduceIte, Nat.reduceEqDiff]; rfl, (Sub.refl _).set hb3, by simp (maxSteps := 2000000) (disch := first | omega | assumption | exact idP rfl | exact idP (bL rfl)) only [go_sem, reduceIte, Nat.reduceEqDiff]; simp, .nil⟩
  · rintro e M1 ⟨i, us, hi, e0, e3, e4, hsub, hm, hc⟩ K hK
    have hul : us.length = i := by have := hc.1; simp at this; omega
    simp (maxSteps := 2000000) (disch := first | omega | assumption | exact idP rfl | exact idP (bL rfl)) only [go_sem, reduceIte, Nat.reduceEqDiff, e0, e3, e4, hlen]
    refine cond_dec (fun h => ?_) (fun h => ?_)
    · have hi' : i < xs.length := by omega
      have hv' := hv.get (by omega)
      obtain ⟨q, hq⟩ : ∃ q, xs.length - i = q + 1 := ⟨xs.length - i - 1, by omega⟩
      rw [hq, List.replicate_succ] at hm
      simp (maxSteps := 2000000) (disch := first | omega | assumption | exact idP rfl | exact idP (bL rfl)) only [go_sem, reduceIte, Nat.reduceEqDiff, e0, e3, e4, hv'.iaddr]
      refine (f_toTermS (hv'.elt hi') (hx _ (List.getElem_mem hi'))).mono ?_
      rintro r _ ⟨rfl, hr⟩
      have hr1 := hr.one.1
      have hr2 := hr.one.2
      have hsm : (us ++ nil1 :: List.replicate q nil1).set i r = us ++ r :: List.replicate q nil1 := set_mid hul
      have hnl3 : i < (us ++ nil1 :: List.replicate q nil1).length := by simp; omega
      simp (maxSteps := 2000000) (disch := first | omega | assumption | exact idP rfl | exact idP (bL rfl)) only [go_sem, reduceIte, Nat.reduceEqDiff, e0, e3, e4, hm, hr2, hsm]
      refine hK _ _ ⟨i + 1, us ++ [r], by omega, by simp (maxSteps := 2000000) (disch := first | omega | assumption | exact idP rfl | exact idP (bL rfl)) only [go_sem, reduceIte, Nat.reduceEqDiff], by simp (maxSteps := 2000000) (disch := first | omega | assumption | exact idP rfl | exact idP (bL rfl)) only [go_sem, reduceIte, Nat.reduceEqDiff], by simp (maxSteps := 2000000) (disch := first | omega | assumption | exact idP rfl | exact idP (bL rfl)) only [go_sem, reduceIte, Nat.reduceEqDiff]; rfl, hsub.set hb3, by simp (maxSteps := 2000000) (disch := first | omega | assumption | exact idP rfl | exact idP (bL rfl)) only [go_sem, reduceIte, Nat.reduceEqDiff]; simp [show xs.length - (i + 1) = q by omega], ?_⟩ (by simp (maxSteps := 2000000) (disch := first | omega | assumption | exact idP rfl | exact idP (bL rfl)) only [go_sem, reduceIte, Nat.reduceEqDiff, ctrV_int, e4]; omega)
      rw [take_snoc hi']
      exact hc.snoc hr
    · obtain rfl : i = xs.length := by omega
      rw [List.take_length] at hc
      simp (maxSteps := 2000000) (disch := first | omega | assumption | exact idP rfl | exact idP (bL rfl)) only [go_sem, reduceIte, Nat.reduceEqDiff, e3]
      exact hG _ _ 1 us ⟨hsub, fun b' h' => by simp [blkV] at h'; subst h'; exact hb3, .inr ⟨b3, _, true, rfl, by simpa using hm, by omega⟩⟩ fun u hu => hu.lsC hc
theorem f_toRule {cs : List V} {r : RuleS} (hv : isRuleX r cs) (hf : RuleFit r) : VCall Try.prog n_laws_toRule [.agg cs] M (fun r' M' => M = M' ∧ ∃ ds, r' = .agg ds ∧ isRule r ds) := by
  refine VCall.pure fun R hR => v_laws_toRule rfl ?_
  obtain ⟨a, b, c, rfl, ha, hb, hc⟩ := hv
  obtain ⟨f1, f2, f3, f4⟩ := hf
  simp (maxSteps := 2000000) (disch := first | omega | assumption | exact idP rfl | exact idP (bL rfl)) only [go_sem, reduceIte, Nat.reduceEqDiff]
  intro b1 hb1
  try simp (maxSteps := 2000000) (disch := first | omega | assumption | exact idP rfl | exact idP (bL rfl)) only [go_sem, reduceIte, Nat.reduceEqDiff]
  intro b2 hb2
  try simp (maxSteps := 2000000) (disch := first | omega | assumption | exact idP rfl | exact idP (bL rfl)) only [go_sem, reduceIte, Nat.reduceEqDiff]
  intro b3 hb3
  have n21 := (fresh_set hb2).1
  have n32 := (fresh_set hb3).1
  have n31 := (fresh_set (fresh_set hb3).2).1
  simp (maxSteps := 2000000) (disch := first | omega | assumption | exact idP rfl | exact idP (bL rfl)) only [go_sem, reduceIte, Nat.reduceEqDiff]
  refine (f_toTermS ha f1).mono ?_
  rintro x _ ⟨rfl, hx⟩
  have hx1 := hx.one.1
  have hx2 := hx.one.2
  simp (maxSteps := 2000000) (disch := first | omega | assumption | exact idP rfl | exact idP (bL rfl)) only [go_sem, reduceIte, Nat.reduceEqDiff, hx2]
  refine (f_toIntS hb f2).mono ?_
  rintro y _ ⟨rfl, hy⟩
  have hy1 := hy.one.1
  have hy2 := hy.one.2
  simp (maxSteps := 2000000) (disch := first | omega | assumption | exact idP rfl | exact idP (bL rfl)) only [go_sem, reduceIte, Nat.reduceEqDiff, hy2]
  refine (f_toTermSS hc f3 f4).mono ?_
  rintro z _ ⟨rfl, hz⟩
  have hz1 := hz.one.1
  have hz2 := hz.one.2
  simp (maxSteps := 2000000) (disch := first | omega | assumption | exact idP rfl | exact idP (bL rfl)) only [go_sem, reduceIte, Nat.reduceEqDiff, hz2]
  refine hR _ _ ?_ ⟨_, rfl, x, y, z, rfl, hx, hy, hz⟩
  repeat (first | exact Sub.refl _ | assumption | (refine Sub.set ?_ (fresh_set hb2).2) | (refine Sub.set ?_ (fresh_set (fresh_set hb3).2).2) | (refine Sub.set' ?_ (by assumption)))
abbrev T3 := {l : List V // l.length = 3}
def z3 : T3 := ⟨[nil1, nil1, nil1], rfl⟩
theorem f_toRuleS {v : V} {xs : List RuleS} (hv : XR v xs) (hl : xs.length ≤ 1048576) (hx : ∀ r ∈ xs, RuleFit r) : VCall Try.prog n_laws_toRuleS [v] M (fun r M' => M = M' ∧ LR r xs) := by
  refine VCall.froz fun R hP hG => v_laws_toRuleS rfl ?_
  have hlen := hv.len fun _ _ h => h.len
  have henc : ∀ x : T3, x.val.length = 3 := fun x => x.property
  simp (maxSteps := 2000000) (disch := first | omega | assumption | exact idP rfl | exact idP (bL rfl)) only [go_sem, reduceIte, Nat.reduceEqDiff, hlen]
  refine mks3 (by omega) (by simp [mostCells]; omega) (by simp [mostCells]; omega) ?_
  intro b3 hb3
  simp (maxSteps := 2000000) (disch := first | omega | assumption | exact idP rfl | exact idP (bL rfl)) only [go_sem, reduceIte, Nat.reduceEqDiff, zeros_cat (enc := fun x : T3 => x.val) (z := z3) (zs := [AV.sl none 0 0 true 0, AV.sl none 0 0 true 0, AV.sl none 0 0 true 0]) rfl]
  refine loop_k (fun e M' => ∃ (i : Nat) (us : List T3), i ≤ xs.length ∧ us.length = i ∧ e 0 = v ∧ e 3 = .sc (.sl (some (b3, 0)) xs.length xs.length true 3) ∧ e 4 = .sc (.int .i64 i) ∧ Sub M M' ∧ M' b3 = some (catV (fun x : T3 => x.val) us ++ catV (fun x : T3 => x.val) (List.replicate (xs.length - i) z3)) ∧ ∀ j (h1 : j < xs.length) (h2 : j < us.length), isRule xs[j] us[j].val) (fun e _ => ctrV xs.length (e 4)) ?_ ?_
  · exact ⟨0, [], by omega, rfl, by simp (maxSteps := 2000000) (disch := first | omega | assumption | exact idP rfl | exact idP (bL rfl)) only [go_sem, reduceIte, Nat.reduceEqDiff], by simp (maxSteps := 2000000) (disch := first | omega | assumption | exact idP rfl | exact idP (bL rfl)) only [go_sem, reduceIte, Nat.reduceEqDiff], by simp (maxSteps := 2000000) (disch := first | omega | assumption | exact idP rfl | exact idP (bL rfl)) only [go_sem, reduceIte, Nat.reduceEqDiff]; rfl, (Sub.refl _).set hb3, by simp (maxSteps := 2000000) (disch := first | omega | assumption | exact idP rfl | exact idP (bL rfl)) only [go_sem, reduceIte, Nat.reduceEqDiff]; simp [catV], fun j _ h => by simp at h⟩
  · rintro e M1 ⟨i, us, hi, hul, e0, e3, e4, hsub, hm, hc⟩ K hK
    simp (maxSteps := 2000000) (disch := first | omega | assumption | exact idP rfl | exact idP (bL rfl)) only [go_sem, reduceIte, Nat.reduceEqDiff, e0, e3, e4, hlen]
    refine cond_dec (fun h => ?_) (fun h => ?_)
    · have hi' : i < xs.length := by omega
      have hv' := hv.get (by omega)
      have hcs := hv'.elt hi'
      have hrule := hcs
      obtain ⟨c1, c2, c3, hat, _, _, _⟩ := hcs
      rw [hat] at hrule
      simp (maxSteps := 2000000) (disch := first | omega | assumption | exact idP rfl | exact idP (bL rfl)) only [go_sem, reduceIte, Nat.reduceEqDiff, e0, e3, e4, hv'.iaddr, hat]
      refine (f_toRule hrule (hx _ (List.getElem_mem hi'))).mono ?_
      rintro _ _ ⟨rfl, ds, rfl, hr⟩
      have hr0 := hr
      obtain ⟨x, y, z, rfl, hx1, hx2, hx3⟩ := hr
      simp (maxSteps := 2000000) (disch := first | omega | assumption | exact idP rfl | exact idP (bL rfl)) only [go_sem, reduceIte, Nat.reduceEqDiff, e0, e3, e4, hm]
      refine ⟨rfl, by simp [hx1.one.1, hx2.one.1, hx3.one.1], ?_, ?_⟩
      · rw [List.length_append, catV_len henc, catV_len henc, hul, List.length_replicate]; omega
      rw [show xs.length - i = (xs.length - (i + 1)) + 1 by omega, cat_set (x := (⟨[x, y, z], rfl⟩ : T3)) henc (by rw [hul])]
      simp (maxSteps := 2000000) (disch := first | omega | assumption | exact idP rfl | exact idP (bL rfl)) only [go_sem, reduceIte, Nat.reduceEqDiff, e0, e3, e4]
      refine hK _ _ ⟨i + 1, us ++ [⟨[x, y, z], rfl⟩], by omega, by simp [hul], by simp (maxSteps := 2000000) (disch := first | omega | assumption | exact idP rfl | exact idP (bL rfl)) only [go_sem, reduceIte, Nat.reduceEqDiff], by simp (maxSteps := 2000000) (disch := first | omega | assumption | exact idP rfl | exact idP (bL rfl)) only [go_sem, reduceIte, Nat.reduceEqDiff], by simp (maxSteps := 2000000) (disch := first | omega | assumption | exact idP rfl | exact idP (bL rfl)) only [go_sem, reduceIte, Nat.reduceEqDiff]; rfl, hsub.set hb3, by simp (maxSteps := 2000000) (disch := first | omega | assumption | exact idP rfl | exact idP (bL rfl)) only [go_sem, reduceIte, Nat.reduceEqDiff], fun j h1 h2 => ?_⟩ (by simp (maxSteps := 2000000) (disch := first | omega | assumption | exact idP rfl | exact idP (bL rfl)) only [go_sem, reduceIte, Nat.reduceEqDiff, ctrV_int, e4]; omega)
      by_cases hj : j < us.length
      · rw [List.getElem_append_left hj]; exact hc j h1 hj
      · obtain rfl : j = us.length := by simp at h2; omega
        subst hul
        simpa using hr0
    · obtain rfl : i = xs.length := by omega
      simp (maxSteps := 2000000) (disch := first | omega | assumption | exact idP rfl | exact idP (bL rfl)) only [go_sem, reduceIte, Nat.reduceEqDiff, e3]
      exact hG _ _ 3 (catV (fun x : T3 => x.val) us) ⟨hsub, fun b' h' => by simp [blkV] at h'; subst h'; exact hb3, .inr ⟨b3, _, true, rfl, by simpa [catV] using hm, by rw [catV_len henc, hul]⟩⟩ fun u hu => hu.lc (by omega) (by rw [catV_len henc, hul]) fun j hj => by rw [catV_at henc (by omega)]; exact hc j hj (by omega)
theorem f_toSystem {v : V} {s : SysS} (hv : isSysX s v) (hf : SysFit s) : VCall Try.prog n_laws_toSystem [v] M (fun r' M' => M = M' ∧ isSys s r') := by
  refine VCall.pure fun R hR => v_laws_toSystem rfl ?_
  obtain ⟨a, b, rfl, ha, hb⟩ := hv
  obtain ⟨f1, f2, f3⟩ := hf
  simp (maxSteps := 2000000) (disch := first | omega | assumption | exact idP rfl | exact idP (bL rfl)) only [go_sem, reduceIte, Nat.reduceEqDiff]
  intro b1 hb1
  try simp (maxSteps := 2000000) (disch := first | omega | assumption | exact idP rfl | exact idP (bL rfl)) only [go_sem, reduceIte, Nat.reduceEqDiff]
  intro b2 hb2
  try simp (maxSteps := 2000000) (disch := first | omega | assumption | exact idP rfl | exact idP (bL rfl)) only [go_sem, reduceIte, Nat.reduceEqDiff]
  intro b3 hb3
  have n21 := (fresh_set hb2).1
  have n32 := (fresh_set hb3).1
  have n31 := (fresh_set (fresh_set hb3).2).1
  simp (maxSteps := 2000000) (disch := first | omega | assumption | exact idP rfl | exact idP (bL rfl)) only [go_sem, reduceIte, Nat.reduceEqDiff]
  refine (f_toVarS ha f1).mono ?_
  rintro x _ ⟨rfl, hx⟩
  have hx1 := hx.one.1
  have hx2 := hx.one.2
  simp (maxSteps := 2000000) (disch := first | omega | assumption | exact idP rfl | exact idP (bL rfl)) only [go_sem, reduceIte, Nat.reduceEqDiff, hx2]
  refine (f_toRuleS hb f2 f3).mono ?_
  rintro y _ ⟨rfl, hy⟩
  have hy1 := hy.one.1
  have hy2 := hy.one.2
  simp (maxSteps := 2000000) (disch := first | omega | assumption | exact idP rfl | exact idP (bL rfl)) only [go_sem, reduceIte, Nat.reduceEqDiff, hy2]
  refine hR _ _ ?_ ⟨x, y, rfl, hx, hy⟩
  repeat (first | exact Sub.refl _ | assumption | (refine Sub.set ?_ (fresh_set hb2).2) | (refine Sub.set ?_ (fresh_set (fresh_set hb3).2).2) | (refine Sub.set' ?_ (by assumption)))
end Go.M2

namespace Go.M2
open Go.Proofs
variable {M : MH}
theorem SysFit.sz {s : SysS} (h : SysFit s) : SysSz s := ⟨h.1, h.2.1, fun r hr => (h.2.2 r hr).2.1⟩
end Go.M2

namespace Go.M2
open Go.Proofs
def EV {α : Type} (E : α → List V → Prop) : Heap → α → List AV → Prop := fun H x cs => ∃ vs : List V, erl vs = cs ∧ okL H vs ∧ E x vs
theorem erl_len : ∀ l : List V, (erl l).length = l.length
  | [] => rfl
  | v :: t => by simp only [erl, List.length_cons, erl_len t]
theorem erl_app : ∀ a b : List V, erl (a ++ b) = erl a ++ erl b
  | [], b => rfl
  | v :: t, b => by simp only [List.cons_append, erl, erl_app t b]
theorem okL_app {H : Heap} : ∀ {a b : List V}, okL H a → okL H b → okL H (a ++ b)
  | [], b, _, h => h
  | v :: t, b, h, k => by
    simp only [List.cons_append, okL] at h ⊢
    exact ⟨h.1, okL_app h.2 k⟩
theorem lift_cells {α : Type} {E : α → List V → Prop} {H : Heap} {b sz : Nat} : ∀ {xs : List α} {o : Nat}, (∀ i (h : i < xs.length), ∃ cs, cs.length = sz ∧ Rd H b (o + i * sz) cs ∧ EV E H xs[i] cs) →
    ∃ vs : List V, vs.length = xs.length * sz ∧ Rd H b o (erl vs) ∧ okL H vs ∧ ∀ i (h : i < xs.length), E xs[i] ((vs.drop (i * sz)).take sz)
  | [], o, _ => ⟨[], by simp, Rd.nil _ _ _, by simp [okL], fun i h => by simp at h⟩
  | x :: t, o, h => by
    obtain ⟨cs, h1, h2, us, h3, h4, h5⟩ := h 0 (by simp)
    obtain ⟨vs, k1, k2, k3, k4⟩ := lift_cells (xs := t) (o := o + sz) (E := E) (H := H) (b := b) (sz := sz) (fun i hi => by
      obtain ⟨cs, q1, q2, q3⟩ := h (i + 1) (by simp; omega)
      exact ⟨cs, q1, by rw [show o + sz + i * sz = o + (i + 1) * sz by rw [Nat.succ_mul]; omega]; exact q2, by simpa using q3⟩)
    have hu : us.length = sz := by rw [← erl_len, h3]; exact h1
    refine ⟨us ++ vs, by simp [hu, k1, Nat.succ_mul]; omega, ?_, okL_app h4 k3, fun i hi => ?_⟩
    · intro i y hy
      rw [erl_app] at hy
      by_cases hlt : i < (erl us).length
      · rw [List.getElem?_append_left hlt, h3] at hy
        have := h2 i y hy
        simpa using this
      · rw [List.getElem?_append_right (by omega)] at hy
        have e1 : (erl us).length = sz := by rw [erl_len]; exact hu
        rw [e1] at hy hlt
        have := k2 (i - sz) y hy
        rwa [show o + sz + (i - sz) = o + i by omega] at this
    · cases i with
      | zero => simpa [List.take_left' hu] using h5
      | succ i =>
        have := k4 i (by simpa using hi)
        have e2 : (us ++ vs).drop ((i + 1) * sz) = vs.drop (i * sz) := by
          rw [show (i + 1) * sz = us.length + i * sz by rw [Nat.succ_mul, hu]; omega, List.drop_append]
          simp
        rw [e2]
        simpa using this
theorem lift_slice {α : Type} {E : α → List V → Prop} {H : Heap} {sz : Nat} {v : AV} {xs : List α} (h : InS sz (EV E) H v xs) : ∃ v', er v' = v ∧ okV H v' ∧ In (Lc sz E) v' xs := by
  rcases h with ⟨A, c, ex, k, rfl, h⟩ | ⟨rfl, rfl⟩
  · obtain ⟨vs, h1, h2, h3, h4⟩ := lift_cells h
    exact ⟨.fs A xs.length c ex k vs, rfl, by simp only [okV]; exact ⟨h2, h3⟩, .inl (.inr ⟨A, c, ex, k, vs, rfl, by omega, fun i hi => h4 i hi⟩)⟩
  · exact ⟨.sc .emp, rfl, by simp [okV], .inr ⟨rfl, rfl⟩⟩
def E1 {α : Type} (E : α → V → Prop) : α → List V → Prop := fun a cs => ∃ u, cs = [u] ∧ E a u
theorem lc1_ls {α : Type} {E : α → V → Prop} {v : V} {ys : List α} (h : Lc 1 (E1 E) v ys) : Ls E v ys := by
  rcases h with h | ⟨A, c, ex, k, xs, rfl, hl, h⟩
  · exact .inl h
  · refine .inr ⟨A, c, ex, k, xs, rfl, by omega, fun i hi => ?_⟩
    obtain ⟨u, h1, h2⟩ := h i hi
    have h3 : xs[i]? = some u := by
      have := congrArg (fun l => l[0]?) h1
      simpa [atN, List.getElem?_take, List.getElem?_drop] using this
    have h4 : at1 (.fs A ys.length c ex k xs) i = u := by
      simp [at1, List.getD_eq_getElem?_getD, h3]
    rw [h4]; exact h2
section
open Go.ChangeShapes Go.WideShapes Go.ChangeAt Go.RowKit
variable {HH : Type} {enc : TypeId × Value → HH} {P : Program} {W : World} {t e : TypeId} {fuel : Nat} {cs : List Value} {x : DataW HH × List MemPlace}
def LiftE {α : Type} (W : World) (E : α → List V → Prop) (a : α) (cs : List Value) : Prop := ∃ vs, erl vs = cs.map (avC W.heap.size) ∧ okL (heap0 W) vs ∧ E a vs
theorem in_list {α : Type} {E : α → List V → Prop} {good : α → Prop} {sz : Nat} (ht : P.underlying t = some (.slice e)) (hsz : P.cellsOf e = sz) (h0 : 0 < sz)
    (he : ∀ n cs x, DataW.trod enc P W 0 (fun _ => true) true n e cs = some x → ∃ a, LiftE W E a cs ∧ good a)
    (h : DataW.trod enc P W 0 (fun _ => true) true fuel t cs = some x) : ∃ xs : List α, LiftE W (E1 (fun (ys : List α) u => In (Lc sz E) u ys)) xs cs ∧ (xs.length ≤ 9223372036854775807 ∧ ∀ a ∈ xs, good a) := by
  obtain ⟨v, xs, rfl, h1, h2, h3⟩ := in_slice (E := EV E) (good := good) ht hsz h0 (fun n cs x hx => by
    obtain ⟨a, ⟨vs, h1, h2, h3⟩, h4⟩ := he n cs x hx
    exact ⟨a, ⟨vs, h1, h2, h3⟩, h4⟩) h
  obtain ⟨u, k1, k2, k3⟩ := lift_slice h1
  exact ⟨xs, ⟨[u], by simp [erl, k1], by simp only [okL]; exact ⟨k2, trivial⟩, u, rfl, k3⟩, h3, h2⟩
theorem in_list1 {α : Type} {E : α → V → Prop} {good : α → Prop} (ht : P.underlying t = some (.slice e)) (hsz : P.cellsOf e = 1)
    (he : ∀ n cs x, DataW.trod enc P W 0 (fun _ => true) true n e cs = some x → ∃ a, LiftE W (E1 E) a cs ∧ good a)
    (h : DataW.trod enc P W 0 (fun _ => true) true fuel t cs = some x) : ∃ xs : List α, LiftE W (E1 (fun (ys : List α) u => In (Ls E) u ys)) xs cs ∧ (xs.length ≤ 9223372036854775807 ∧ ∀ a ∈ xs, good a) := by
  obtain ⟨xs, ⟨vs, h1, h2, u, rfl, h3⟩, h4⟩ := in_list ht hsz (by omega) he h
  exact ⟨xs, ⟨[u], h1, h2, u, rfl, h3.imp lc1_ls id⟩, h4⟩
theorem in_n (ht : P.underlying t = some (.int .i64)) (h : DataW.trod enc P W 0 (fun _ => true) true fuel t cs = some x) : ∃ n, LiftE W (E1 isI) n cs ∧ (-9223372036854775808 ≤ n ∧ n ≤ 9223372036854775807) := by
  obtain ⟨n, rfl, h1⟩ := in_int ht h
  exact ⟨n, ⟨[.sc (.int .i64 n)], rfl, by simp [okL, okV], _, rfl, rfl⟩, h1⟩
theorem LiftE.one {α : Type} {E : α → V → Prop} {a : α} {c : Value} (h : LiftE W (E1 E) a [c]) : ∃ u, er u = avC W.heap.size c ∧ okV (heap0 W) u ∧ E a u := by
  obtain ⟨vs, h1, h2, u, rfl, h3⟩ := h
  simp only [erl, List.map_cons, List.map_nil, List.cons.injEq, and_true] at h1
  simp only [okL] at h2
  exact ⟨u, h1, h2.1, h3⟩
end
theorem calls_of_vcall {P : Program} {f : FuncId} {vs : List Value} {vv : List V} {W : World} (h : VCall P f vv (fun _ => none) (fun r M' => (fun _ => none) = M' ∧ r = .sc (.bool true)))
    (he : vv.map er = vs.map (avT W.heap.size)) (ho : okL (heap0 W) vv) : Calls P f vs.toArray W (fun e w' => e = .returned (.bool true) ∧ Go.RowKit.Below W.heap.size W w') := by
  refine calls_of_acall ?_
  rw [← he]
  refine (h (heap0 W) (heap0 W) ⟨rfl, fun b _ => .inr rfl, fun b l hb => by cases hb⟩ ho).mono ?_
  rintro a H' ⟨r, M', F', rfl, _, _, _, _, rfl⟩
  rfl
end Go.M2

namespace Go.M2
open Go.Proofs
open Go.ChangeShapes Go.WideShapes Go.ChangeAt Go.RowKit
variable {HH : Type} {enc : TypeId × Value → HH} {W : World} {fuel : Nat} {cs : List Value} {x : DataW HH × List MemPlace}
theorem list4 {α : Type} {l : List α} (h : l.length = 4) : ∃ a b c d, l = [a, b, c, d] := by
  match l, h with
  | [a, b, c, d], _ => exact ⟨a, b, c, d, rfl⟩
theorem list3 {α : Type} {l : List α} (h : l.length = 3) : ∃ a b c, l = [a, b, c] := by
  match l, h with
  | [a, b, c], _ => exact ⟨a, b, c, rfl⟩
theorem in_i64 (h : DataW.trod enc Try.prog W 0 (fun _ => true) true fuel 3 cs = some x) : ∃ n : Int, cs = [.int .i64 n] := by
  obtain ⟨n, h1, _⟩ := in_int Try.underlying3 h
  exact ⟨n, h1⟩
theorem in_term (h : DataW.trod enc Try.prog W 0 (fun _ => true) true fuel 138 cs = some x) : ∃ t : TermS, LiftE W isT t cs ∧ True := by
  have c3 : Try.prog.cellsOf 3 = 1 := by kernel_rfl
  obtain ⟨xs, n, _, _, hl, hxl, hf⟩ := DataW.trod_struct Try.underlying138 h
  have hxl : xs.length = 4 := hxl
  have hl : cs.length = 4 := hl.trans (by kernel_rfl)
  obtain ⟨a, b, c, d, rfl⟩ := list4 hl
  have f0 := hf 0 ⟨ "Op", 3, 0, false, "", "", 0⟩ rfl
  have f1 := hf 1 ⟨ "N", 3, 1, false, "", "", 8⟩ rfl
  have f2 := hf 2 ⟨ "A", 3, 2, false, "", "", 16⟩ rfl
  have f3 := hf 3 ⟨ "B", 3, 3, false, "", "", 24⟩ rfl
  rw [List.getElem?_eq_getElem (by omega), c3] at f0 f1 f2 f3
  obtain ⟨n0, e0⟩ := in_i64 f0
  obtain ⟨n1, e1⟩ := in_i64 f1
  obtain ⟨n2, e2⟩ := in_i64 f2
  obtain ⟨n3, e3⟩ := in_i64 f3
  simp only [List.drop_zero, List.drop_succ_cons, List.take_succ_cons, List.take_zero, List.cons.injEq, and_true] at e0 e1 e2 e3
  subst e0 e1 e2 e3
  exact ⟨⟨n0, n1, n2, n3⟩, ⟨encT ⟨n0, n1, n2, n3⟩, rfl, by simp [encT, okL, okV], rfl⟩, trivial⟩
theorem in_var (h : DataW.trod enc Try.prog W 0 (fun _ => true) true fuel 94 cs = some x) : ∃ t : VarS, LiftE W isVar t cs ∧ True := by
  have c3 : Try.prog.cellsOf 3 = 1 := by kernel_rfl
  obtain ⟨xs, n, _, _, hl, hxl, hf⟩ := DataW.trod_struct Try.underlying94 h
  have hxl : xs.length = 3 := hxl
  have hl : cs.length = 3 := hl.trans (by kernel_rfl)
  obtain ⟨a, b, c, rfl⟩ := list3 hl
  have f0 := hf 0 ⟨ "Low", 3, 0, false, "", "", 0⟩ rfl
  have f1 := hf 1 ⟨ "High", 3, 1, false, "", "", 8⟩ rfl
  have f2 := hf 2 ⟨ "First", 3, 2, false, "", "", 16⟩ rfl
  rw [List.getElem?_eq_getElem (by omega), c3] at f0 f1 f2
  obtain ⟨n0, e0⟩ := in_i64 f0
  obtain ⟨n1, e1⟩ := in_i64 f1
  obtain ⟨n2, e2⟩ := in_i64 f2
  simp only [List.drop_zero, List.drop_succ_cons, List.take_succ_cons, List.take_zero, List.cons.injEq, and_true] at e0 e1 e2
  subst e0 e1 e2
  exact ⟨⟨n0, n1, n2⟩, ⟨encVar ⟨n0, n1, n2⟩, rfl, by simp [encVar, okL, okV], rfl⟩, trivial⟩
theorem in_ints (h : DataW.trod enc Try.prog W 0 (fun _ => true) true fuel 26 cs = some x) : ∃ ns : List Int, LiftE W (E1 (fun (ys : List Int) u => XI u ys)) ns cs ∧ LenOk ns := by
  obtain ⟨ns, h1, h2, _⟩ := in_list1 (E := isI) (good := fun n => -9223372036854775808 ≤ n ∧ n ≤ 9223372036854775807) Try.underlying26 (by kernel_rfl) (fun n cs x h => in_n Try.underlying3 h) h
  exact ⟨ns, h1, h2⟩
theorem in_terms (h : DataW.trod enc Try.prog W 0 (fun _ => true) true fuel 86 cs = some x) : ∃ ts : List TermS, LiftE W (E1 (fun (ys : List TermS) u => XT u ys)) ts cs ∧ LenOk ts := by
  obtain ⟨ns, h1, h2, _⟩ := in_list (E := isT) (good := fun _ => True) (sz := 4) Try.underlying86 (by kernel_rfl) (by omega) (fun n cs x h => in_term h) h
  exact ⟨ns, h1, h2⟩
theorem in_vars (h : DataW.trod enc Try.prog W 0 (fun _ => true) true fuel 22 cs = some x) : ∃ ts : List VarS, LiftE W (E1 (fun (ys : List VarS) u => XVar u ys)) ts cs ∧ LenOk ts := by
  obtain ⟨ns, h1, h2, _⟩ := in_list (E := isVar) (good := fun _ => True) (sz := 3) Try.underlying22 (by kernel_rfl) (by omega) (fun n cs x h => in_var h) h
  exact ⟨ns, h1, h2⟩
theorem in_termss (h : DataW.trod enc Try.prog W 0 (fun _ => true) true fuel 87 cs = some x) : ∃ ts : List (List TermS), LiftE W (E1 (fun (ys : List (List TermS)) u => XTT u ys)) ts cs ∧ (LenOk ts ∧ ∀ t ∈ ts, LenOk t) :=
  in_list1 (E := fun (ts : List TermS) u => XT u ts) (good := fun ts => LenOk ts) Try.underlying87 (by kernel_rfl) (fun n cs x h => in_terms h) h
theorem in_rule (h : DataW.trod enc Try.prog W 0 (fun _ => true) true fuel 89 cs = some x) : ∃ r : RuleS, LiftE W isRuleX r cs ∧ RuleLen r := by
  obtain ⟨xs, n, _, _, hl, hxl, hf⟩ := DataW.trod_struct Try.underlying89 h
  have hxl : xs.length = 3 := hxl
  have hl : cs.length = 3 := hl.trans (by kernel_rfl)
  have c1 : Try.prog.cellsOf 86 = 1 := by kernel_rfl
  have c2 : Try.prog.cellsOf 26 = 1 := by kernel_rfl
  have c3 : Try.prog.cellsOf 87 = 1 := by kernel_rfl
  obtain ⟨a, b, c, rfl⟩ := list3 hl
  have f0 := hf 0 ⟨ "When", 86, 0, false, "", "", 0⟩ rfl
  have f1 := hf 1 ⟨ "Sets", 26, 1, false, "", "", 24⟩ rfl
  have f2 := hf 2 ⟨ "Terms", 87, 2, false, "", "", 48⟩ rfl
  rw [List.getElem?_eq_getElem (by omega)] at f0 f1 f2
  simp only [c1, c2, c3, List.drop_zero, List.drop_succ_cons, List.take_succ_cons, List.take_zero] at f0 f1 f2
  obtain ⟨n0, e0, g0⟩ := in_terms f0
  obtain ⟨n1, e1, g1⟩ := in_ints f1
  obtain ⟨n2, e2, g2, g3⟩ := in_termss f2
  obtain ⟨u0, p0, q0, r0⟩ := e0.one
  obtain ⟨u1, p1, q1, r1⟩ := e1.one
  obtain ⟨u2, p2, q2, r2⟩ := e2.one
  exact ⟨⟨n0, n1, n2⟩, ⟨[u0, u1, u2], by simp [erl, p0, p1, p2], by simp only [okL]; exact ⟨q0, q1, q2, trivial⟩, u0, u1, u2, rfl, r0, r1, r2⟩, g0, g1, g2, g3⟩
theorem in_rules (h : DataW.trod enc Try.prog W 0 (fun _ => true) true fuel 23 cs = some x) : ∃ rs : List RuleS, LiftE W (E1 (fun (ys : List RuleS) u => XR u ys)) rs cs ∧ (LenOk rs ∧ ∀ r ∈ rs, RuleLen r) :=
  in_list (E := isRuleX) (good := RuleLen) (sz := 3) Try.underlying23 (by kernel_rfl) (by omega) (fun n cs x h => in_rule h) h
def UpV {α : Type} (W : World) (E : α → V → Prop) (a : α) (v : Value) : Prop := ∃ u, er u = avT W.heap.size v ∧ okV (heap0 W) u ∧ E a u
theorem up_system {v : Value} (hv : ∃ a, v = .agg a) (h : DataW.trod enc Try.prog W 0 (fun _ => true) true fuel 25 v.cells.toList = some x) : ∃ s : SysS, UpV W (fun (s : SysS) u => isSysX s u) s v ∧ SysLen s := by
  obtain ⟨cs, rfl⟩ := hv
  have c1 : Try.prog.cellsOf 22 = 1 := by kernel_rfl
  have c2 : Try.prog.cellsOf 23 = 1 := by kernel_rfl
  obtain ⟨xs, n, _, _, hl, hxl, hf⟩ := DataW.trod_struct Try.underlying25 h
  have hxl : xs.length = 2 := hxl
  have hl : cs.toList.length = 2 := hl.trans (by kernel_rfl)
  obtain ⟨a, b, hab⟩ : ∃ a b, cs.toList = [a, b] := by
    match hcs : cs.toList, hl with
    | [a, b], _ => exact ⟨a, b, rfl⟩
  have f0 := hf 0 ⟨ "Vars", 22, 0, false, "", "", 0⟩ rfl
  have f1 := hf 1 ⟨ "Rules", 23, 1, false, "", "", 24⟩ rfl
  rw [List.getElem?_eq_getElem (by omega)] at f0 f1
  simp only [Value.cells, hab, c1, c2, List.drop_zero, List.drop_succ_cons, List.take_succ_cons, List.take_zero] at f0 f1
  obtain ⟨n0, e0, g0⟩ := in_vars f0
  obtain ⟨n1, e1, g1, g2⟩ := in_rules f1
  obtain ⟨u0, p0, q0, r0⟩ := e0.one
  obtain ⟨u1, p1, q1, r1⟩ := e1.one
  refine ⟨⟨n0, n1⟩, ⟨.agg [u0, u1], ?_, by simp only [okV, okL]; exact ⟨q0, q1, trivial⟩, u0, u1, rfl, r0, r1⟩, g0, g1, g2⟩
  simp [er, erl, avT, hab, p0, p1]
theorem avT_sl {N : Nat} {v : Value} (h : ∀ a, v ≠ .agg a) : avT N v = avC N v := by
  unfold avT
  split
  · rename_i a; exact absurd rfl (h a)
  · rfl
theorem up_ints {v : Value} (hv : ∀ a, v ≠ .agg a) (h : DataW.trod enc Try.prog W 0 (fun _ => true) true fuel 26 v.cells.toList = some x) : ∃ ns : List Int, UpV W (fun (ns : List Int) u => XI u ns) ns v ∧ LenOk ns := by
  obtain ⟨ns, e, g⟩ := in_ints h
  have hc : v.cells.toList = [v] := by
    cases v <;> first | rfl | exact absurd rfl (hv _)
  rw [hc] at e
  obtain ⟨u, p, q, r⟩ := e.one
  exact ⟨ns, ⟨u, by rw [avT_sl hv]; exact p, q, r⟩, g⟩
end Go.M2

namespace Go.M2
open Go.Proofs
variable {M : MH}
end Go.M2

namespace Go.M2
open Go.Proofs
variable {M : MH}
end Go.M2

namespace Go.M2
open Go.Proofs
variable {M : MH}
end Go.M2

namespace Go.M2
open Go.Proofs
variable {M : MH}
end Go.M2

namespace Go.M2
open Go.Proofs
variable {M : MH}
theorem Mem.base {M0 M1 M : MH} {f : List (Nat × List V)} (h : Mem M1 M f) (hs : Sub M0 M1) : Mem M0 M f := ⟨hs.trans h.sub, fun p hp => hs.none (h.new p hp), h.nd, h.at_⟩
theorem Mem.tail {M0 M : MH} {p : Nat × List V} {f : List (Nat × List V)} (h : Mem M0 M (p :: f)) : Mem M0 M f := Mem.right (f := [p]) h
theorem Mem.hd {M0 M : MH} {b : Nat} {l : List V} {f : List (Nat × List V)} (h : Mem M0 M ((b, l) :: f)) : M b = some l := h.at_ _ (List.mem_cons_self ..)
def DnL (M0 M : MH) (l : List V) (p : List V → Prop) : Prop := ∃ l' fp, Tr l l' fp ∧ Mem M0 M fp ∧ flatL l ∧ (∀ q ∈ fp, flatL q.2) ∧ p l'
def One (v : V) : Prop := oneV v = true ∧ cellsV v = some [v]
theorem Ow.flat {sz : Nat} {M : MH} {v : V} {l : List V} (h : Ow sz M v l) : flat v := by
  rcases h with ⟨_, k, rfl⟩ | ⟨b, n, ex, rfl, _⟩ <;> simp [Go.M2.flat]
theorem catV_flat {α : Type} {enc : α → List V} (he : ∀ x, flatL (enc x)) : ∀ xs : List α, flatL (catV enc xs)
  | [] => by simp [catV, flatL]
  | x :: t => flatL_all.2 fun v hv => by
    have ih := catV_flat he t
    simp only [catV, List.map_cons, List.flatten_cons, List.mem_append] at hv
    rcases hv with h1 | h1
    · exact flatL_all.1 (he x) v h1
    · exact flatL_all.1 ih v h1
theorem encT_flat (x : TermS) : flatL (encT x) := by simp [encT, flatL, flat]
theorem encVar_flat (x : VarS) : flatL (encVar x) := by simp [encVar, flatL, flat]
theorem d_toTermS {v : V} {xs : List TermS} (hv : XT v xs) (hl : xs.length ≤ 1048576) : VCall Try.prog n_laws_toTermS [v] M (fun r M' => One r ∧ Dn M M' r (fun u => LT u xs)) :=
  (x_toTermS hv hl).mono fun r M' h => ⟨h.one, h.dn (catV_flat encT_flat xs) fun u hu => hu.lc (by omega) (catV_len (sz := 4) (enc := encT) (fun _ => rfl) xs) fun i hi => catV_at (sz := 4) (enc := encT) (fun _ => rfl) hi⟩
theorem d_toVarS {v : V} {xs : List VarS} (hv : XVar v xs) (hl : xs.length ≤ 1048576) : VCall Try.prog n_laws_toVarS [v] M (fun r M' => One r ∧ Dn M M' r (fun u => LVar u xs)) :=
  (x_toVarS hv hl).mono fun r M' h => ⟨h.one, h.dn (catV_flat encVar_flat xs) fun u hu => hu.lc (by omega) (catV_len (sz := 3) (enc := encVar) (fun _ => rfl) xs) fun i hi => catV_at (sz := 3) (enc := encVar) (fun _ => rfl) hi⟩
theorem d_toIntS {v : V} {xs : List Int} (hv : XI v xs) (hl : xs.length ≤ 1048576) : VCall Try.prog n_laws_toIntS [v] M (fun r M' => One r ∧ Dn M M' r (fun u => LI u xs)) :=
  (x_toIntS hv hl).mono fun r M' h => ⟨h.one, h.dn (flatL_vi xs) fun u hu => hu.li⟩
theorem d_toTermSS {v : V} {xs : List (List TermS)} (hv : XTT v xs) (hl : xs.length ≤ 1048576) (hx : ∀ ts ∈ xs, ts.length ≤ 1048576) : VCall Try.prog n_laws_toTermSS [v] M (fun r M' => One r ∧ Dn M M' r (fun u => LTT u xs)) := by
  refine VCall.plain fun R hR => v_laws_toTermSS rfl ?_
  have hlen := hv.len fun _ _ h => h.len
  simp (maxSteps := 2000000) (disch := first | omega | assumption | exact idP rfl | exact idP (bL rfl)) only [go_sem, reduceIte, Nat.reduceEqDiff, hlen]
  refine mks3 (by omega) (by simp [mostCells]; omega) (by simp [mostCells]; omega) ?_
  intro b3 hb3
  simp (maxSteps := 2000000) (disch := first | omega | assumption | exact idP rfl | exact idP (bL rfl)) only [go_sem, reduceIte, Nat.reduceEqDiff, zeros_nil]
  refine loop_k (fun e M' => ∃ (i : Nat) (us us' : List V) (fp : List (Nat × List V)), i ≤ xs.length ∧ e 0 = v ∧ e 3 = .sc (.sl (some (b3, 0)) xs.length xs.length true 1) ∧ e 4 = .sc (.int .i64 i) ∧ Tr us us' fp ∧ Mem M M' ((b3, us ++ List.replicate (xs.length - i) nil1) :: fp) ∧ flatL us ∧ (∀ q ∈ fp, flatL q.2) ∧ Cs (fun ts u => LT u ts) us' (xs.take i)) (fun e _ => ctrV xs.length (e 4)) ?_ ?_
  · exact ⟨0, [], [], [], by omega, by simp (maxSteps := 2000000) (disch := first | omega | assumption | exact idP rfl | exact idP (bL rfl)) only [go_sem, reduceIte, Nat.reduceEqDiff], by simp (maxSteps := 2000000) (disch := first | omega | assumption | exact idP rfl | exact idP (bL rfl)) only [go_sem, reduceIte, Nat.reduceEqDiff], by simp (maxSteps := 2000000) (disch := first | omega | assumption | exact idP rfl | exact idP (bL rfl)) only [go_sem, reduceIte, Nat.reduceEqDiff]; rfl, .nil, by simpa using (Mem.nil (Sub.refl M)).new1 hb3, by simp [flatL], fun q hq => (by cases hq), .nil⟩
  · rintro e M1 ⟨i, us, us', fp, hi, e0, e3, e4, htr, hmem, hfl, hff, hc⟩ K hK
    have hul : us.length = i := by have := hc.1; have h2 := htr.len; simp at this; omega
    have hm := hmem.hd
    simp (maxSteps := 2000000) (disch := first | omega | assumption | exact idP rfl | exact idP (bL rfl)) only [go_sem, reduceIte, Nat.reduceEqDiff, e0, e3, e4, hlen]
    refine cond_dec (fun h => ?_) (fun h => ?_)
    · have hi' : i < xs.length := by omega
      have hv' := hv.get (by omega)
      obtain ⟨q, hq⟩ : ∃ q, xs.length - i = q + 1 := ⟨xs.length - i - 1, by omega⟩
      rw [hq, List.replicate_succ] at hm hmem
      simp (maxSteps := 2000000) (disch := first | omega | assumption | exact idP rfl | exact idP (bL rfl)) only [go_sem, reduceIte, Nat.reduceEqDiff, e0, e3, e4, hv'.iaddr]
      refine (d_toTermS (hv'.elt hi') (hx _ (List.getElem_mem hi'))).mono ?_
      rintro r M2 ⟨⟨hr1, hr2⟩, r', g, t1, t2, t3, t4, hr⟩
      have hmem2 := hmem.add t2
      rw [List.cons_append] at hmem2
      have hm2 := hmem2.hd
      have hsm : (us ++ nil1 :: List.replicate q nil1).set i r = us ++ r :: List.replicate q nil1 := set_mid hul
      have hnl3 : i < (us ++ nil1 :: List.replicate q nil1).length := by simp; omega
      simp (maxSteps := 2000000) (disch := first | omega | assumption | exact idP rfl | exact idP (bL rfl)) only [go_sem, reduceIte, Nat.reduceEqDiff, e0, e3, e4, hm2, hr2, hsm]
      refine hK _ _ ⟨i + 1, us ++ [r], us' ++ [r'], fp ++ g, by omega, by simp (maxSteps := 2000000) (disch := first | omega | assumption | exact idP rfl | exact idP (bL rfl)) only [go_sem, reduceIte, Nat.reduceEqDiff], by simp (maxSteps := 2000000) (disch := first | omega | assumption | exact idP rfl | exact idP (bL rfl)) only [go_sem, reduceIte, Nat.reduceEqDiff], by simp (maxSteps := 2000000) (disch := first | omega | assumption | exact idP rfl | exact idP (bL rfl)) only [go_sem, reduceIte, Nat.reduceEqDiff]; rfl, htr.append t1, ?_, ?_, ?_, ?_⟩ (by simp (maxSteps := 2000000) (disch := first | omega | assumption | exact idP rfl | exact idP (bL rfl)) only [go_sem, reduceIte, Nat.reduceEqDiff, ctrV_int, e4]; omega)
      · have := hmem2.upd (l' := us ++ r :: List.replicate q nil1)
        simpa [show xs.length - (i + 1) = q by omega] using this
      · exact flatL_all.2 fun w hw => by
          rcases List.mem_append.1 hw with h1 | h1
          · exact flatL_all.1 hfl w h1
          · rw [List.mem_singleton] at h1; subst h1; exact t3
      · intro w hw
        rcases List.mem_append.1 hw with h1 | h1
        · exact hff w h1
        · exact t4 w h1
      · rw [take_snoc hi']
        exact hc.snoc hr
    · obtain rfl : i = xs.length := by omega
      rw [List.take_length] at hc
      simp (maxSteps := 2000000) (disch := first | omega | assumption | exact idP rfl | exact idP (bL rfl)) only [go_sem, reduceIte, Nat.reduceEqDiff, e3]
      simp only [Nat.sub_self, List.replicate_zero, List.append_nil] at hmem
      have hul' : us'.length = xs.length := hc.1
      refine hR _ _ ⟨⟨rfl, rfl⟩, .fs (some (b3, 0)) xs.length xs.length true 1 (us'.drop 0), (b3, us) :: (fp ++ []), .sl htr .nil, by simpa using hmem, by simp [flat], fun q hq => ?_, ?_⟩
      · simp only [List.append_nil, List.mem_cons] at hq
        rcases hq with rfl | h1
        · exact hfl
        · exact hff q h1
      · exact Fr.lsC (us := us') (.inr ⟨_, _, _, _, _, by rw [List.drop_zero], by omega⟩) hc
theorem d_toRule {cs : List V} {r : RuleS} (hv : isRuleX r cs) (hf : RuleFit r) : VCall Try.prog n_laws_toRule [.agg cs] M (fun r' M' => ∃ ds, r' = .agg ds ∧ ds.length = 3 ∧ ds.all oneV = true ∧ DnL M M' ds (isRule r)) := by
  refine VCall.plain fun R hR => v_laws_toRule rfl ?_
  obtain ⟨a, b, c, rfl, ha, hb, hc⟩ := hv
  obtain ⟨f1, f2, f3, f4⟩ := hf
  simp (maxSteps := 2000000) (disch := first | omega | assumption | exact idP rfl | exact idP (bL rfl)) only [go_sem, reduceIte, Nat.reduceEqDiff]
  intro b1 hb1
  try simp (maxSteps := 2000000) (disch := first | omega | assumption | exact idP rfl | exact idP (bL rfl)) only [go_sem, reduceIte, Nat.reduceEqDiff]
  intro b2 hb2
  try simp (maxSteps := 2000000) (disch := first | omega | assumption | exact idP rfl | exact idP (bL rfl)) only [go_sem, reduceIte, Nat.reduceEqDiff]
  intro b3 hb3
  have n21 := (fresh_set hb2).1
  have n32 := (fresh_set hb3).1
  have n31 := (fresh_set (fresh_set hb3).2).1
  have m0 := (((Mem.nil (Sub.refl M)).new1 hb1).new1 hb2).new1 (l := [.sc (.sl none 0 0 true 0), .sc (.sl none 0 0 true 0), .sc (.sl none 0 0 true 0)]) hb3
  simp (maxSteps := 2000000) (disch := first | omega | assumption | exact idP rfl | exact idP (bL rfl)) only [go_sem, reduceIte, Nat.reduceEqDiff]
  refine (d_toTermS ha f1).mono ?_
  rintro x M2 ⟨⟨hx1, hx2⟩, x', gx, tx, mx, fx, ffx, hx⟩
  have m1 := m0.add mx
  simp only [List.cons_append, List.nil_append] at m1
  have q1 := m1.hd
  have q2 := m1.tail.hd
  have q3 := m1.tail.tail.hd
  simp (maxSteps := 2000000) (disch := first | omega | assumption | exact idP rfl | exact idP (bL rfl)) only [go_sem, reduceIte, Nat.reduceEqDiff, q1, q2, q3, hx2]
  have m2 := m1.upd (l' := [x, nil1, nil1])
  simp only [nil1] at m2
  refine (d_toIntS hb f2).mono ?_
  rintro y M3 ⟨⟨hy1, hy2⟩, y', gy, ty, my, fy, ffy, hy⟩
  have m3 := m2.add my
  simp only [List.cons_append, List.nil_append] at m3
  have q1 := m3.hd
  have q2 := m3.tail.hd
  have q3 := m3.tail.tail.hd
  simp (maxSteps := 2000000) (disch := first | omega | assumption | exact idP rfl | exact idP (bL rfl)) only [go_sem, reduceIte, Nat.reduceEqDiff, q1, q2, q3, hy2]
  have m4 := m3.upd (l' := [x, y, nil1])
  simp only [nil1] at m4
  refine (d_toTermSS hc f3 f4).mono ?_
  rintro z M4 ⟨⟨hz1, hz2⟩, z', gz, tz, mz, fz, ffz, hz⟩
  have m5 := m4.add mz
  simp only [List.cons_append, List.nil_append] at m5
  have q1 := m5.hd
  have q2 := m5.tail.hd
  have q3 := m5.tail.tail.hd
  simp (maxSteps := 2000000) (disch := first | omega | assumption | exact idP rfl | exact idP (bL rfl)) only [go_sem, reduceIte, Nat.reduceEqDiff, q1, q2, q3, hz2]
  have m6 := (m5.upd (l' := [x, y, z])).perm (List.Perm.swap ..)
  have m7 := m6.upd (l' := [x, y, z])
  refine hR _ _ ⟨[x, y, z], rfl, rfl, by simp [hx1, hy1, hz1], [x', y', z'], gx ++ gy ++ gz, (tx.append ty).append tz, m7.tail.tail.tail, ?_, fun q hq => ?_, x', y', z', rfl, hx, hy, hz⟩
  · simp only [flatL]; exact ⟨fx, fy, fz, trivial⟩
  · rcases List.mem_append.1 hq with h1 | h1
    · rcases List.mem_append.1 h1 with h2 | h2
      · exact ffx q h2
      · exact ffy q h2
    · exact ffz q h1
theorem d_toRuleS {v : V} {xs : List RuleS} (hv : XR v xs) (hl : xs.length ≤ 1048576) (hx : ∀ r ∈ xs, RuleFit r) : VCall Try.prog n_laws_toRuleS [v] M (fun r M' => One r ∧ Dn M M' r (fun u => LR u xs)) := by
  refine VCall.plain fun R hR => v_laws_toRuleS rfl ?_
  have hlen := hv.len fun _ _ h => h.len
  have henc : ∀ x : T3, x.val.length = 3 := fun x => x.property
  simp (maxSteps := 2000000) (disch := first | omega | assumption | exact idP rfl | exact idP (bL rfl)) only [go_sem, reduceIte, Nat.reduceEqDiff, hlen]
  refine mks3 (by omega) (by simp [mostCells]; omega) (by simp [mostCells]; omega) ?_
  intro b3 hb3
  simp (maxSteps := 2000000) (disch := first | omega | assumption | exact idP rfl | exact idP (bL rfl)) only [go_sem, reduceIte, Nat.reduceEqDiff, zeros_cat (enc := fun x : T3 => x.val) (z := z3) (zs := [AV.sl none 0 0 true 0, AV.sl none 0 0 true 0, AV.sl none 0 0 true 0]) rfl]
  refine loop_k (fun e M' => ∃ (i : Nat) (us us' : List T3) (fp : List (Nat × List V)), i ≤ xs.length ∧ us.length = i ∧ us'.length = i ∧ e 0 = v ∧ e 3 = .sc (.sl (some (b3, 0)) xs.length xs.length true 3) ∧ e 4 = .sc (.int .i64 i) ∧ Tr (catV (fun x : T3 => x.val) us) (catV (fun x : T3 => x.val) us') fp ∧ Mem M M' ((b3, catV (fun x : T3 => x.val) us ++ catV (fun x : T3 => x.val) (List.replicate (xs.length - i) z3)) :: fp) ∧ flatL (catV (fun x : T3 => x.val) us) ∧ (∀ q ∈ fp, flatL q.2) ∧ ∀ j (h1 : j < xs.length) (h2 : j < us'.length), isRule xs[j] us'[j].val) (fun e _ => ctrV xs.length (e 4)) ?_ ?_
  · exact ⟨0, [], [], [], by omega, rfl, rfl, by simp (maxSteps := 2000000) (disch := first | omega | assumption | exact idP rfl | exact idP (bL rfl)) only [go_sem, reduceIte, Nat.reduceEqDiff], by simp (maxSteps := 2000000) (disch := first | omega | assumption | exact idP rfl | exact idP (bL rfl)) only [go_sem, reduceIte, Nat.reduceEqDiff], by simp (maxSteps := 2000000) (disch := first | omega | assumption | exact idP rfl | exact idP (bL rfl)) only [go_sem, reduceIte, Nat.reduceEqDiff]; rfl, .nil, by simpa [catV] using (Mem.nil (Sub.refl M)).new1 hb3, by simp [catV, flatL], fun q hq => (by cases hq), fun j _ h => by simp at h⟩
  · rintro e M1 ⟨i, us, us', fp, hi, hul, hul', e0, e3, e4, htr, hmem, hfl, hff, hc⟩ K hK
    have hm := hmem.hd
    simp (maxSteps := 2000000) (disch := first | omega | assumption | exact idP rfl | exact idP (bL rfl)) only [go_sem, reduceIte, Nat.reduceEqDiff, e0, e3, e4, hlen]
    refine cond_dec (fun h => ?_) (fun h => ?_)
    · have hi' : i < xs.length := by omega
      have hv' := hv.get (by omega)
      have hcs := hv'.elt hi'
      have hrule := hcs
      obtain ⟨c1, c2, c3, hat, _, _, _⟩ := hcs
      rw [hat] at hrule
      simp (maxSteps := 2000000) (disch := first | omega | assumption | exact idP rfl | exact idP (bL rfl)) only [go_sem, reduceIte, Nat.reduceEqDiff, e0, e3, e4, hv'.iaddr, hat]
      refine (d_toRule hrule (hx _ (List.getElem_mem hi'))).mono ?_
      rintro _ M2 ⟨ds, rfl, hd3, hd1, ds', g, t1, t2, t3, t4, hr⟩
      have hmem2 := hmem.add t2
      rw [List.cons_append] at hmem2
      have hm2 := hmem2.hd
      have hd3' : ds'.length = 3 := by rw [t1.len, hd3]
      simp (maxSteps := 2000000) (disch := first | omega | assumption | exact idP rfl | exact idP (bL rfl)) only [go_sem, reduceIte, Nat.reduceEqDiff, e0, e3, e4, hm2]
      refine ⟨hd3, hd1, ?_, ?_⟩
      · rw [List.length_append, catV_len henc, catV_len henc, hul, List.length_replicate]; omega
      rw [show xs.length - i = (xs.length - (i + 1)) + 1 by omega, cat_set (x := (⟨ds, hd3⟩ : T3)) henc (by rw [hul])]
      simp (maxSteps := 2000000) (disch := first | omega | assumption | exact idP rfl | exact idP (bL rfl)) only [go_sem, reduceIte, Nat.reduceEqDiff, e0, e3, e4]
      have hca : catV (fun x : T3 => x.val) (us ++ [⟨ds, hd3⟩]) = catV (fun x : T3 => x.val) us ++ ds := catV_snoc
      have hca' : catV (fun x : T3 => x.val) (us' ++ [⟨ds', hd3'⟩]) = catV (fun x : T3 => x.val) us' ++ ds' := catV_snoc
      refine hK _ _ ⟨i + 1, us ++ [⟨ds, hd3⟩], us' ++ [⟨ds', hd3'⟩], fp ++ g, by omega, by simp [hul], by simp [hul'], by simp (maxSteps := 2000000) (disch := first | omega | assumption | exact idP rfl | exact idP (bL rfl)) only [go_sem, reduceIte, Nat.reduceEqDiff], by simp (maxSteps := 2000000) (disch := first | omega | assumption | exact idP rfl | exact idP (bL rfl)) only [go_sem, reduceIte, Nat.reduceEqDiff], by simp (maxSteps := 2000000) (disch := first | omega | assumption | exact idP rfl | exact idP (bL rfl)) only [go_sem, reduceIte, Nat.reduceEqDiff]; rfl, ?_, ?_, ?_, ?_, fun j h1 h2 => ?_⟩ (by simp (maxSteps := 2000000) (disch := first | omega | assumption | exact idP rfl | exact idP (bL rfl)) only [go_sem, reduceIte, Nat.reduceEqDiff, ctrV_int, e4]; omega)
      · rw [hca, hca']; exact htr.append t1
      · exact hmem2.upd
      · rw [hca]
        exact flatL_all.2 fun w hw => by
          rcases List.mem_append.1 hw with h1 | h1
          · exact flatL_all.1 hfl w h1
          · exact flatL_all.1 t3 w h1
      · intro w hw
        rcases List.mem_append.1 hw with h1 | h1
        · exact hff w h1
        · exact t4 w h1
      · by_cases hj : j < us'.length
        · rw [List.getElem_append_left hj]; exact hc j h1 hj
        · obtain rfl : j = us'.length := by simp at h2; omega
          have e9 : us'.length = i := hul'
          simp only [List.getElem_append_right (Nat.le_refl _), Nat.sub_self, List.getElem_cons_zero]
          simp only [e9]
          exact hr
    · obtain rfl : i = xs.length := by omega
      simp (maxSteps := 2000000) (disch := first | omega | assumption | exact idP rfl | exact idP (bL rfl)) only [go_sem, reduceIte, Nat.reduceEqDiff, e3]
      have hcz : catV (fun x : T3 => x.val) (List.replicate (xs.length - xs.length) z3) = [] := by simp [catV]
      rw [hcz, List.append_nil] at hmem
      have hcl := catV_len henc us'
      refine hR _ _ ⟨⟨rfl, rfl⟩, .fs (some (b3, 0)) xs.length xs.length true 3 ((catV (fun x : T3 => x.val) us').drop 0), (b3, catV (fun x : T3 => x.val) us) :: (fp ++ []), .sl htr .nil, by simpa using hmem, by simp [flat], fun q hq => ?_, ?_⟩
      · simp only [List.append_nil, List.mem_cons] at hq
        rcases hq with rfl | h1
        · exact hfl
        · exact hff q h1
      · exact Fr.lc (l := catV (fun x : T3 => x.val) us') (.inr ⟨_, _, _, _, _, by rw [List.drop_zero], by rw [hcl, hul']⟩) (by omega) (by rw [hcl, hul']) fun j hj => by rw [catV_at henc (by omega)]; exact hc j hj (by omega)
theorem d_toSystem {v : V} {s : SysS} (hv : isSysX s v) (hf : SysFit s) : VCall Try.prog n_laws_toSystem [v] M (fun r' M' => ∃ x y, r' = .agg [x, y] ∧ One x ∧ One y ∧ DnL M M' [x, y] (fun l => ∃ x' y', l = [x', y'] ∧ LVar x' s.vars ∧ LR y' s.rules)) := by
  refine VCall.plain fun R hR => v_laws_toSystem rfl ?_
  obtain ⟨a, b, rfl, ha, hb⟩ := hv
  obtain ⟨f1, f2, f3⟩ := hf
  simp (maxSteps := 2000000) (disch := first | omega | assumption | exact idP rfl | exact idP (bL rfl)) only [go_sem, reduceIte, Nat.reduceEqDiff]
  intro b1 hb1
  try simp (maxSteps := 2000000) (disch := first | omega | assumption | exact idP rfl | exact idP (bL rfl)) only [go_sem, reduceIte, Nat.reduceEqDiff]
  intro b2 hb2
  try simp (maxSteps := 2000000) (disch := first | omega | assumption | exact idP rfl | exact idP (bL rfl)) only [go_sem, reduceIte, Nat.reduceEqDiff]
  intro b3 hb3
  have n21 := (fresh_set hb2).1
  have n32 := (fresh_set hb3).1
  have n31 := (fresh_set (fresh_set hb3).2).1
  have m0 := (((Mem.nil (Sub.refl M)).new1 hb1).new1 hb2).new1 (l := [.sc (.sl none 0 0 true 0), .sc (.sl none 0 0 true 0)]) hb3
  simp (maxSteps := 2000000) (disch := first | omega | assumption | exact idP rfl | exact idP (bL rfl)) only [go_sem, reduceIte, Nat.reduceEqDiff]
  refine (d_toVarS ha f1).mono ?_
  rintro x M2 ⟨⟨hx1, hx2⟩, x', gx, tx, mx, fx, ffx, hx⟩
  have m1 := m0.add mx
  simp only [List.cons_append, List.nil_append] at m1
  have q1 := m1.hd
  have q2 := m1.tail.hd
  have q3 := m1.tail.tail.hd
  simp (maxSteps := 2000000) (disch := first | omega | assumption | exact idP rfl | exact idP (bL rfl)) only [go_sem, reduceIte, Nat.reduceEqDiff, q1, q2, q3, hx2]
  have m2 := m1.upd (l' := [x, nil1])
  simp only [nil1] at m2
  refine (d_toRuleS hb f2 f3).mono ?_
  rintro y M3 ⟨⟨hy1, hy2⟩, y', gy, ty, my, fy, ffy, hy⟩
  have m3 := m2.add my
  simp only [List.cons_append, List.nil_append] at m3
  have q1 := m3.hd
  have q2 := m3.tail.hd
  have q3 := m3.tail.tail.hd
  simp (maxSteps := 2000000) (disch := first | omega | assumption | exact idP rfl | exact idP (bL rfl)) only [go_sem, reduceIte, Nat.reduceEqDiff, q1, q2, q3, hy2]
  have m6 := (m3.upd (l' := [x, y])).perm (List.Perm.swap ..)
  have m7 := m6.upd (l' := [x, y])
  refine hR _ _ ⟨x, y, rfl, ⟨hx1, hx2⟩, ⟨hy1, hy2⟩, [x', y'], gx ++ gy, tx.append ty, m7.tail.tail.tail, ?_, fun q hq => ?_, x', y', rfl, hx, hy⟩
  · simp only [flatL]; exact ⟨fx, fy, trivial⟩
  · rcases List.mem_append.1 hq with h2 | h2
    · exact ffx q h2
    · exact ffy q h2
end Go.M2

namespace Go.M2
open Go.Proofs
variable {M : MH}
def LfM (sz : Nat) (M : MH) (v : V) (ok : Nat → Prop) : Prop := (∃ q, v = .sc (.sl none 0 0 true q)) ∨ ∃ b o n c ex kk l, v = .sc (.sl (some (b, o)) n c ex kk) ∧ M b = some l ∧ (0 < n → o + n * sz ≤ l.length) ∧ n ≤ 1048576 ∧ ok b
def mkPost (M : MH) (k d : Int) (ok : Nat → Prop) : V → MH → Prop := fun r M' => ∃ k' : Int, r = .sc (.int .i64 k') ∧ k ≤ k' ∧ k' ≤ k + d ∧ ∀ q, ¬ ok q → M' q = M q
theorem t_markIntS {v : V} {k : Int} {ok : Nat → Prop} (hv : LfM 1 M v ok) (hk : 0 ≤ k) (hk2 : k ≤ 9000000000000000000) : VCall Try.prog n_laws_markIntS [v, .sc (.int .i64 k)] M (mkPost M k 1048576 ok) := by
  refine VCall.plain fun R hR => v_laws_markIntS rfl ?_
  rcases hv with ⟨q, rfl⟩ | ⟨b, o, n, c, ex, kk, l, rfl, hm, hl, hn, hok⟩
  · simp (maxSteps := 2000000) (disch := first | omega | assumption | exact idP rfl | exact idP (bL rfl)) only [go_sem, reduceIte, Nat.reduceEqDiff]
    refine loop_k (fun e M' => M' = M ∧ e 0 = .sc (.sl none 0 0 true q) ∧ e 1 = .sc (.int .i64 k) ∧ e 5 = .sc (.int .i64 0)) (fun e _ => 0) ⟨rfl, by simp (maxSteps := 2000000) (disch := first | omega | assumption | exact idP rfl | exact idP (bL rfl)) only [go_sem, reduceIte, Nat.reduceEqDiff], by simp (maxSteps := 2000000) (disch := first | omega | assumption | exact idP rfl | exact idP (bL rfl)) only [go_sem, reduceIte, Nat.reduceEqDiff], by simp (maxSteps := 2000000) (disch := first | omega | assumption | exact idP rfl | exact idP (bL rfl)) only [go_sem, reduceIte, Nat.reduceEqDiff]⟩ ?_
    rintro e _ ⟨rfl, e0, e1, e5⟩ K hK
    simp (maxSteps := 2000000) (disch := first | omega | assumption | exact idP rfl | exact idP (bL rfl)) only [go_sem, reduceIte, Nat.reduceEqDiff, e0, e1, e5]
    exact hR _ _ ⟨k, rfl, by omega, by omega, fun q _ => rfl⟩
  · simp (maxSteps := 2000000) (disch := first | omega | assumption | exact idP rfl | exact idP (bL rfl)) only [go_sem, reduceIte, Nat.reduceEqDiff]
    refine loop_k (fun e M' => ∃ (i : Nat) (l' : List V), i ≤ n ∧ e 0 = .sc (.sl (some (b, o)) n c ex kk) ∧ e 1 = .sc (.int .i64 (k + i)) ∧ e 5 = .sc (.int .i64 i) ∧ (∀ q, q ≠ b → M' q = M q) ∧ M' b = some l' ∧ l'.length = l.length) (fun e _ => ctrV n (e 5)) ?_ ?_
    · exact ⟨0, l, by omega, by simp (maxSteps := 2000000) (disch := first | omega | assumption | exact idP rfl | exact idP (bL rfl)) only [go_sem, reduceIte, Nat.reduceEqDiff], by simp (maxSteps := 2000000) (disch := first | omega | assumption | exact idP rfl | exact idP (bL rfl)) only [go_sem, reduceIte, Nat.reduceEqDiff]; simp, by simp (maxSteps := 2000000) (disch := first | omega | assumption | exact idP rfl | exact idP (bL rfl)) only [go_sem, reduceIte, Nat.reduceEqDiff]; rfl, fun _ _ => rfl, hm, rfl⟩
    · rintro e M1 ⟨i, l', hi, e0, e1, e5, hq, hm1, hl1⟩ K hK
      simp (maxSteps := 2000000) (disch := first | omega | assumption | exact idP rfl | exact idP (bL rfl)) only [go_sem, reduceIte, Nat.reduceEqDiff, e0, e1, e5]
      refine cond_dec (fun h => ?_) (fun h => ?_)
      · have hl := hl (by omega)
        have hso : o + i * 1 < l'.length := by omega
        have hso2 : o + i < l'.length := by omega
        simp (maxSteps := 2000000) (disch := first | omega | assumption | exact idP rfl | exact idP (bL rfl)) only [go_sem, reduceIte, Nat.reduceEqDiff, e0, e1, e5, hm1]
        exact hK _ _ ⟨i + 1, _, by omega, by simp (maxSteps := 2000000) (disch := first | omega | assumption | exact idP rfl | exact idP (bL rfl)) only [go_sem, reduceIte, Nat.reduceEqDiff, e0], by simp (maxSteps := 2000000) (disch := first | omega | assumption | exact idP rfl | exact idP (bL rfl)) only [go_sem, reduceIte, Nat.reduceEqDiff]; rw [Int.natCast_add, Int.add_assoc]; rfl, by simp (maxSteps := 2000000) (disch := first | omega | assumption | exact idP rfl | exact idP (bL rfl)) only [go_sem, reduceIte, Nat.reduceEqDiff]; rfl, fun q hqb => by rw [set_ne hqb]; exact hq q hqb, set_same, by simp [hl1]⟩ (by simp (maxSteps := 2000000) (disch := first | omega | assumption | exact idP rfl | exact idP (bL rfl)) only [go_sem, reduceIte, Nat.reduceEqDiff, ctrV_int, e5]; omega)
      · obtain rfl : i = n := by omega
        simp (maxSteps := 2000000) (disch := first | omega | assumption | exact idP rfl | exact idP (bL rfl)) only [go_sem, reduceIte, Nat.reduceEqDiff, e1]
        exact hR _ _ ⟨_, rfl, by omega, by omega, fun q hq1 => hq q fun e => hq1 (by rw [e]; exact hok)⟩
theorem t_markVarS {v : V} {k : Int} {ok : Nat → Prop} (hv : LfM 3 M v ok) (hk : 0 ≤ k) (hk2 : k ≤ 9000000000000000000) : VCall Try.prog n_laws_markVarS [v, .sc (.int .i64 k)] M (mkPost M k 3145728 ok) := by
  refine VCall.plain fun R hR => v_laws_markVarS rfl ?_
  rcases hv with ⟨q, rfl⟩ | ⟨b, o, n, c, ex, kk, l, rfl, hm, hl, hn, hok⟩
  · simp (maxSteps := 2000000) (disch := first | omega | assumption | exact idP rfl | exact idP (bL rfl)) only [go_sem, reduceIte, Nat.reduceEqDiff]
    refine loop_k (fun e M' => M' = M ∧ e 0 = .sc (.sl none 0 0 true q) ∧ e 1 = .sc (.int .i64 k) ∧ e 5 = .sc (.int .i64 0)) (fun e _ => 0) ⟨rfl, by simp (maxSteps := 2000000) (disch := first | omega | assumption | exact idP rfl | exact idP (bL rfl)) only [go_sem, reduceIte, Nat.reduceEqDiff], by simp (maxSteps := 2000000) (disch := first | omega | assumption | exact idP rfl | exact idP (bL rfl)) only [go_sem, reduceIte, Nat.reduceEqDiff], by simp (maxSteps := 2000000) (disch := first | omega | assumption | exact idP rfl | exact idP (bL rfl)) only [go_sem, reduceIte, Nat.reduceEqDiff]⟩ ?_
    rintro e _ ⟨rfl, e0, e1, e5⟩ K hK
    simp (maxSteps := 2000000) (disch := first | omega | assumption | exact idP rfl | exact idP (bL rfl)) only [go_sem, reduceIte, Nat.reduceEqDiff, e0, e1, e5]
    exact hR _ _ ⟨k, rfl, by omega, by omega, fun q _ => rfl⟩
  · simp (maxSteps := 2000000) (disch := first | omega | assumption | exact idP rfl | exact idP (bL rfl)) only [go_sem, reduceIte, Nat.reduceEqDiff]
    refine loop_k (fun e M' => ∃ (i : Nat) (l' : List V), i ≤ n ∧ e 0 = .sc (.sl (some (b, o)) n c ex kk) ∧ e 1 = .sc (.int .i64 (k + 3 * i)) ∧ e 5 = .sc (.int .i64 i) ∧ (∀ q, q ≠ b → M' q = M q) ∧ M' b = some l' ∧ l'.length = l.length) (fun e _ => ctrV n (e 5)) ?_ ?_
    · exact ⟨0, l, by omega, by simp (maxSteps := 2000000) (disch := first | omega | assumption | exact idP rfl | exact idP (bL rfl)) only [go_sem, reduceIte, Nat.reduceEqDiff], by simp (maxSteps := 2000000) (disch := first | omega | assumption | exact idP rfl | exact idP (bL rfl)) only [go_sem, reduceIte, Nat.reduceEqDiff]; simp, by simp (maxSteps := 2000000) (disch := first | omega | assumption | exact idP rfl | exact idP (bL rfl)) only [go_sem, reduceIte, Nat.reduceEqDiff]; rfl, fun _ _ => rfl, hm, rfl⟩
    · rintro e M1 ⟨i, l', hi, e0, e1, e5, hq, hm1, hl1⟩ K hK
      simp (maxSteps := 2000000) (disch := first | omega | assumption | exact idP rfl | exact idP (bL rfl)) only [go_sem, reduceIte, Nat.reduceEqDiff, e0, e1, e5]
      refine cond_dec (fun h => ?_) (fun h => ?_)
      · have hl := hl (by omega)
        have hso : o + i * 3 < l'.length := by omega
        have hso2 : ∀ x, o + i * 3 + 1 < (l'.set (o + i * 3) x).length := fun x => by rw [List.length_set]; omega
        have hso3 : ∀ x y, o + i * 3 + 2 < ((l'.set (o + i * 3) x).set (o + i * 3 + 1) y).length := fun x y => by rw [List.length_set, List.length_set]; omega
        have hs2 := hso2 (.sc (.int .i64 (k + 3 * (i : Int))))
        have hs3 := hso3 (.sc (.int .i64 (k + 3 * (i : Int)))) (.sc (.int .i64 (k + 3 * (i : Int) + 1)))
        simp (maxSteps := 2000000) (disch := first | omega | assumption | exact idP rfl | exact idP (bL rfl)) only [go_sem, reduceIte, Nat.reduceEqDiff, e0, e1, e5, hm1]
        exact hK _ _ ⟨i + 1, _, by omega, by simp (maxSteps := 2000000) (disch := first | omega | assumption | exact idP rfl | exact idP (bL rfl)) only [go_sem, reduceIte, Nat.reduceEqDiff, e0], by simp (maxSteps := 2000000) (disch := first | omega | assumption | exact idP rfl | exact idP (bL rfl)) only [go_sem, reduceIte, Nat.reduceEqDiff]; congr 2; omega, by simp (maxSteps := 2000000) (disch := first | omega | assumption | exact idP rfl | exact idP (bL rfl)) only [go_sem, reduceIte, Nat.reduceEqDiff]; rfl, fun q hqb => by simp only [MH.set, if_neg hqb]; exact hq q hqb, set_same, by simp [hl1]⟩ (by simp (maxSteps := 2000000) (disch := first | omega | assumption | exact idP rfl | exact idP (bL rfl)) only [go_sem, reduceIte, Nat.reduceEqDiff, ctrV_int, e5]; omega)
      · obtain rfl : i = n := by omega
        simp (maxSteps := 2000000) (disch := first | omega | assumption | exact idP rfl | exact idP (bL rfl)) only [go_sem, reduceIte, Nat.reduceEqDiff, e1]
        exact hR _ _ ⟨_, rfl, by omega, by omega, fun q hq1 => hq q fun e => hq1 (by rw [e]; exact hok)⟩
theorem t_markTermS {v : V} {k : Int} {ok : Nat → Prop} (hv : LfM 4 M v ok) (hk : 0 ≤ k) (hk2 : k ≤ 9000000000000000000) : VCall Try.prog n_laws_markTermS [v, .sc (.int .i64 k)] M (mkPost M k 4194304 ok) := by
  refine VCall.plain fun R hR => v_laws_markTermS rfl ?_
  rcases hv with ⟨q, rfl⟩ | ⟨b, o, n, c, ex, kk, l, rfl, hm, hl, hn, hok⟩
  · simp (maxSteps := 2000000) (disch := first | omega | assumption | exact idP rfl | exact idP (bL rfl)) only [go_sem, reduceIte, Nat.reduceEqDiff]
    refine loop_k (fun e M' => M' = M ∧ e 0 = .sc (.sl none 0 0 true q) ∧ e 1 = .sc (.int .i64 k) ∧ e 5 = .sc (.int .i64 0)) (fun e _ => 0) ⟨rfl, by simp (maxSteps := 2000000) (disch := first | omega | assumption | exact idP rfl | exact idP (bL rfl)) only [go_sem, reduceIte, Nat.reduceEqDiff], by simp (maxSteps := 2000000) (disch := first | omega | assumption | exact idP rfl | exact idP (bL rfl)) only [go_sem, reduceIte, Nat.reduceEqDiff], by simp (maxSteps := 2000000) (disch := first | omega | assumption | exact idP rfl | exact idP (bL rfl)) only [go_sem, reduceIte, Nat.reduceEqDiff]⟩ ?_
    rintro e _ ⟨rfl, e0, e1, e5⟩ K hK
    simp (maxSteps := 2000000) (disch := first | omega | assumption | exact idP rfl | exact idP (bL rfl)) only [go_sem, reduceIte, Nat.reduceEqDiff, e0, e1, e5]
    exact hR _ _ ⟨k, rfl, by omega, by omega, fun q _ => rfl⟩
  · simp (maxSteps := 2000000) (disch := first | omega | assumption | exact idP rfl | exact idP (bL rfl)) only [go_sem, reduceIte, Nat.reduceEqDiff]
    refine loop_k (fun e M' => ∃ (i : Nat) (l' : List V), i ≤ n ∧ e 0 = .sc (.sl (some (b, o)) n c ex kk) ∧ e 1 = .sc (.int .i64 (k + 4 * i)) ∧ e 5 = .sc (.int .i64 i) ∧ (∀ q, q ≠ b → M' q = M q) ∧ M' b = some l' ∧ l'.length = l.length) (fun e _ => ctrV n (e 5)) ?_ ?_
    · exact ⟨0, l, by omega, by simp (maxSteps := 2000000) (disch := first | omega | assumption | exact idP rfl | exact idP (bL rfl)) only [go_sem, reduceIte, Nat.reduceEqDiff], by simp (maxSteps := 2000000) (disch := first | omega | assumption | exact idP rfl | exact idP (bL rfl)) only [go_sem, reduceIte, Nat.reduceEqDiff]; simp, by simp (maxSteps := 2000000) (disch := first | omega | assumption | exact idP rfl | exact idP (bL rfl)) only [go_sem, reduceIte, Nat.reduceEqDiff]; rfl, fun _ _ => rfl, hm, rfl⟩
    · rintro e M1 ⟨i, l', hi, e0, e1, e5, hq, hm1, hl1⟩ K hK
      simp (maxSteps := 2000000) (disch := first | omega | assumption | exact idP rfl | exact idP (bL rfl)) only [go_sem, reduceIte, Nat.reduceEqDiff, e0, e1, e5]
      refine cond_dec (fun h => ?_) (fun h => ?_)
      · have hl := hl (by omega)
        have hso : o + i * 4 < l'.length := by omega
        have hso2 : ∀ x, o + i * 4 + 1 < (l'.set (o + i * 4) x).length := fun x => by rw [List.length_set]; omega
        have hso3 : ∀ x y, o + i * 4 + 2 < ((l'.set (o + i * 4) x).set (o + i * 4 + 1) y).length := fun x y => by rw [List.length_set, List.length_set]; omega
        have hso4 : ∀ x y z, o + i * 4 + 3 < (((l'.set (o + i * 4) x).set (o + i * 4 + 1) y).set (o + i * 4 + 2) z).length := fun x y z => by rw [List.length_set, List.length_set, List.length_set]; omega
        have hs2 := hso2 (.sc (.int .i64 (k + 4 * (i : Int))))
        have hs3 := hso3 (.sc (.int .i64 (k + 4 * (i : Int)))) (.sc (.int .i64 (k + 4 * (i : Int) + 1)))
        have hs4 := hso4 (.sc (.int .i64 (k + 4 * (i : Int)))) (.sc (.int .i64 (k + 4 * (i : Int) + 1))) (.sc (.int .i64 (k + 4 * (i : Int) + 1 + 1)))
        simp (maxSteps := 2000000) (disch := first | omega | assumption | exact idP rfl | exact idP (bL rfl)) only [go_sem, reduceIte, Nat.reduceEqDiff, e0, e1, e5, hm1]
        exact hK _ _ ⟨i + 1, _, by omega, by simp (maxSteps := 2000000) (disch := first | omega | assumption | exact idP rfl | exact idP (bL rfl)) only [go_sem, reduceIte, Nat.reduceEqDiff, e0], by simp (maxSteps := 2000000) (disch := first | omega | assumption | exact idP rfl | exact idP (bL rfl)) only [go_sem, reduceIte, Nat.reduceEqDiff]; congr 2; omega, by simp (maxSteps := 2000000) (disch := first | omega | assumption | exact idP rfl | exact idP (bL rfl)) only [go_sem, reduceIte, Nat.reduceEqDiff]; rfl, fun q hqb => by simp only [MH.set, if_neg hqb]; exact hq q hqb, set_same, by simp [hl1]⟩ (by simp (maxSteps := 2000000) (disch := first | omega | assumption | exact idP rfl | exact idP (bL rfl)) only [go_sem, reduceIte, Nat.reduceEqDiff, ctrV_int, e5]; omega)
      · obtain rfl : i = n := by omega
        simp (maxSteps := 2000000) (disch := first | omega | assumption | exact idP rfl | exact idP (bL rfl)) only [go_sem, reduceIte, Nat.reduceEqDiff, e1]
        exact hR _ _ ⟨_, rfl, by omega, by omega, fun q hq1 => hq q fun e => hq1 (by rw [e]; exact hok)⟩
end Go.M2

namespace Go.M2
open Go.Proofs
variable {M : MH}
theorem Tr.inv1 {x : V} {l' : List V} {fp : List (Nat × List V)} (h : Tr [x] l' fp) : (l' = [x] ∧ fp = []) ∨ (∃ b o n c ex k cs cs' g, x = .sc (.sl (some (b, o)) n c ex k) ∧ l' = [.fs (some (b, o)) n c ex k (cs'.drop o)] ∧ Tr cs cs' g ∧ fp = (b, cs) :: g) ∨ (∃ a a', l' = [V.agg a'] ∧ x = .agg a) ∨ (∃ a a', l' = [V.tup a'] ∧ x = .tup a) := by
  cases h with
  | keep v h1 => cases h1; exact .inl ⟨rfl, rfl⟩
  | sl h1 h2 => cases h2; exact .inr (.inl ⟨_, _, _, _, _, _, _, _, _, rfl, rfl, h1, by simp⟩)
  | agg h1 h2 => cases h2; exact .inr (.inr (.inl ⟨_, _, rfl, rfl⟩))
  | tup h1 h2 => cases h2; exact .inr (.inr (.inr ⟨_, _, rfl, rfl⟩))
theorem Tr.uncons {x : V} {t l' : List V} {fp : List (Nat × List V)} (h : Tr (x :: t) l' fp) : ∃ x' t' f1 f2, l' = x' :: t' ∧ fp = f1 ++ f2 ∧ Tr [x] [x'] f1 ∧ Tr t t' f2 := by
  obtain ⟨a', b', f1, f2, rfl, rfl, h1, h2⟩ := Tr.split (a := [x]) (b := t) (b' := []) (by simpa using h)
  have := h1.len
  match a', this with
  | [x'], _ => exact ⟨x', b', f1, f2, rfl, rfl, h1, h2⟩
theorem Tr.win {x x' : V} {fp : List (Nat × List V)} {sz : Nat} {α : Type} {E : α → List V → Prop} {ys : List α} (h : Tr [x] [x'] fp) (hf : flat x) (hx : Lc sz E x' ys) :
    (∃ q, x = .sc (.sl none 0 0 true q) ∧ ys = []) ∨ ∃ b o c ex k cs cs' g, x = .sc (.sl (some (b, o)) ys.length c ex k) ∧ Tr cs cs' g ∧ fp = (b, cs) :: g ∧ (0 < ys.length * sz → o + ys.length * sz ≤ cs.length) ∧ ∀ i (hi : i < ys.length), E ys[i] ((cs'.drop (o + i * sz)).take sz) := by
  rcases h.inv1 with ⟨h1, h2⟩ | ⟨b, o, n, c, ex, k, cs, cs', g, rfl, h1, h2, rfl⟩ | ⟨a, a', h1, rfl⟩ | ⟨a, a', h1, rfl⟩
  · rw [List.cons.injEq] at h1
    obtain ⟨rfl, _⟩ := h1
    rcases hx with ⟨rfl, q, rfl⟩ | ⟨A, c, ex, k, zs, rfl, _⟩
    · exact .inl ⟨q, rfl, rfl⟩
    · simp [flat] at hf
  · rw [List.cons.injEq] at h1
    obtain ⟨rfl, _⟩ := h1
    rcases hx with ⟨_, q, h3⟩ | ⟨A, c2, ex2, k2, zs, h3, h4, h5⟩
    · cases h3
    · injection h3 with e1 e2 e3 e4 e5 e6
      subst e2 e6
      refine .inr ⟨b, o, c, ex, k, cs, cs', g, rfl, h2, rfl, ?_, fun i hi => ?_⟩
      · have := h2.len
        rw [List.length_drop] at h4
        intro h0
        omega
      · have := h5 i hi
        simpa [atN, List.drop_drop, Nat.add_comm] using this
  · rw [List.cons.injEq] at h1
    obtain ⟨rfl, _⟩ := h1
    rcases hx with ⟨_, q, h3⟩ | ⟨A, c2, ex2, k2, zs, h3, _⟩ <;> cases h3
  · rw [List.cons.injEq] at h1
    obtain ⟨rfl, _⟩ := h1
    rcases hx with ⟨_, q, h3⟩ | ⟨A, c2, ex2, k2, zs, h3, _⟩ <;> cases h3
theorem ls_lc {α : Type} {E : α → V → Prop} {v : V} {ys : List α} (h : Ls E v ys) : Lc 1 (fun a cs => ∃ u, cs = [u] ∧ E a u) v ys := by
  rcases h with h | ⟨A, c, ex, k, xs, rfl, hl, h⟩
  · exact .inl h
  · refine .inr ⟨A, c, ex, k, xs, rfl, by omega, fun i hi => ?_⟩
    have h2 := h i hi
    have h3 : i < xs.length := by omega
    refine ⟨xs[i], ?_, by simpa [at1, List.getD, h3] using h2⟩
    simp only [atN, Nat.mul_one]
    rw [List.drop_eq_getElem_cons h3, List.take_succ_cons, List.take_zero]
theorem inF_mem {fp : List (Nat × List V)} {p : Nat × List V} (h : p ∈ fp) : inF fp p.1 = true := inF_iff.2 ⟨p.2, h⟩
theorem inF_append {f g : List (Nat × List V)} {q : Nat} : inF (f ++ g) q = (inF f q || inF g q) := by simp [inF]
theorem leaf_of {sz : Nat} {x x' : V} {fp : List (Nat × List V)} {α : Type} {E : α → List V → Prop} {ys : List α} {M : MH} (h : Tr [x] [x'] fp) (hf : flat x) (hx : Lc sz E x' ys) (hs : 0 < sz) (hl : ys.length ≤ 1048576) (hm : ∀ p ∈ fp, M p.1 = some p.2) : LfM sz M x (fun q => inF fp q = true) := by
  rcases h.win hf hx with ⟨q, rfl, _⟩ | ⟨b, o, c, ex, k, cs, cs', g, rfl, h2, rfl, h3, _⟩
  · exact .inl ⟨q, rfl⟩
  · exact .inr ⟨b, o, ys.length, c, ex, k, cs, rfl, hm (b, cs) (List.mem_cons_self ..), fun h0 => h3 (Nat.mul_pos h0 hs), hl, inF_mem (p := (b, cs)) (List.mem_cons_self ..)⟩
theorem nd_hd {b : Nat} {cs : List V} {g : List (Nat × List V)} (h : Nd2 ((b, cs) :: g)) : inF g b = false ∧ Nd2 g := by
  have hn : (b :: g.map (·.1)).Nodup := h
  obtain ⟨n1, n2⟩ := List.nodup_cons.1 hn
  refine ⟨?_, n2⟩
  cases hb : inF g b with
  | false => rfl
  | true =>
    obtain ⟨l, hl⟩ := inF_iff.1 hb
    exact absurd (List.mem_map_of_mem hl) n1
theorem nd_sep {f g : List (Nat × List V)} (h : Nd2 (f ++ g)) {p : Nat × List V} (hp : p ∈ g) : inF f p.1 = false := by
  cases hb : inF f p.1 with
  | false => rfl
  | true =>
    obtain ⟨l, hl⟩ := inF_iff.1 hb
    have h1 := (Nd2.append h).2.2 _ hl
    simp only at h1
    rw [inF_mem hp] at h1; cases h1
theorem take_one {cs : List V} {j : Nat} (h : j < cs.length) : cs.take (j + 1) = cs.take j ++ [cs[j]] := List.take_succ_eq_append_getElem h
theorem t_markTermSS {v v' : V} {fp : List (Nat × List V)} {tss : List (List TermS)} {k : Int} (ht : Tr [v] [v'] fp) (hf : flat v) (hff : ∀ q ∈ fp, flatL q.2) (hv : LTT v' tss) (hn : Nd2 fp) (hm : ∀ p ∈ fp, M p.1 = some p.2) (hl : tss.length ≤ 1048576) (hl2 : ∀ ts ∈ tss, ts.length ≤ 1048576) (hk : 0 ≤ k) (hk2 : k ≤ 8900000000000000000) :
    VCall Try.prog n_laws_markTermSS [v, .sc (.int .i64 k)] M (mkPost M k 4398046511104 (fun q => inF fp q = true)) := by
  refine VCall.plain fun R hR => v_laws_markTermSS rfl ?_
  rcases ht.win hf (ls_lc hv) with ⟨q, rfl, rfl⟩ | ⟨b, o, c, ex, kk, cs, cs', g, rfl, h2, rfl, h3, h4⟩
  · simp (maxSteps := 2000000) (disch := first | omega | assumption | exact idP rfl | exact idP (bL rfl)) only [go_sem, reduceIte, Nat.reduceEqDiff]
    refine loop_k (fun e M' => M' = M ∧ e 0 = .sc (.sl none 0 0 true q) ∧ e 1 = .sc (.int .i64 k) ∧ e 5 = .sc (.int .i64 0)) (fun e _ => 0) ⟨rfl, by simp (maxSteps := 2000000) (disch := first | omega | assumption | exact idP rfl | exact idP (bL rfl)) only [go_sem, reduceIte, Nat.reduceEqDiff], by simp (maxSteps := 2000000) (disch := first | omega | assumption | exact idP rfl | exact idP (bL rfl)) only [go_sem, reduceIte, Nat.reduceEqDiff], by simp (maxSteps := 2000000) (disch := first | omega | assumption | exact idP rfl | exact idP (bL rfl)) only [go_sem, reduceIte, Nat.reduceEqDiff]⟩ ?_
    rintro e _ ⟨rfl, e0, e1, e5⟩ K hK
    simp (maxSteps := 2000000) (disch := first | omega | assumption | exact idP rfl | exact idP (bL rfl)) only [go_sem, reduceIte, Nat.reduceEqDiff, e0, e1, e5]
    exact hR _ _ ⟨k, rfl, by omega, by omega, fun q _ => rfl⟩
  · obtain ⟨hbg, hng⟩ := nd_hd hn
    have hmb : M b = some cs := hm (b, cs) (List.mem_cons_self ..)
    have hmg : ∀ p ∈ g, M p.1 = some p.2 := fun p hp => hm p (List.mem_cons_of_mem _ hp)
    have hfc : flatL cs := hff (b, cs) (List.mem_cons_self ..)
    have hgo : ∀ q, inF g q = true → inF ((b, cs) :: g) q = true := fun q hq => by
      obtain ⟨l, hl⟩ := inF_iff.1 hq
      exact inF_iff.2 ⟨l, List.mem_cons_of_mem _ hl⟩
    simp (maxSteps := 2000000) (disch := first | omega | assumption | exact idP rfl | exact idP (bL rfl)) only [go_sem, reduceIte, Nat.reduceEqDiff]
    refine loop_k (fun e M' => ∃ (i : Nat) (k' : Int) (g1 g2 : List (Nat × List V)) (l1 l2 : List V), i ≤ tss.length ∧ e 0 = .sc (.sl (some (b, o)) tss.length c ex kk) ∧ e 1 = .sc (.int .i64 k') ∧ e 5 = .sc (.int .i64 i) ∧ k ≤ k' ∧ k' ≤ k + 4194304 * i ∧ Tr (cs.take (o + i)) l1 g1 ∧ Tr (cs.drop (o + i)) l2 g2 ∧ g = g1 ++ g2 ∧ cs' = l1 ++ l2 ∧ ∀ q, inF g1 q = false → M' q = M q) (fun e _ => ctrV tss.length (e 5)) ?_ ?_
    · obtain ⟨l1, l2, g1, g2, rfl, rfl, h5, h6⟩ := Tr.split (a := cs.take o) (b := cs.drop o) (b' := []) (by rw [List.take_append_drop]; exact h2)
      exact ⟨0, k, g1, g2, l1, l2, by omega, by simp (maxSteps := 2000000) (disch := first | omega | assumption | exact idP rfl | exact idP (bL rfl)) only [go_sem, reduceIte, Nat.reduceEqDiff], by simp (maxSteps := 2000000) (disch := first | omega | assumption | exact idP rfl | exact idP (bL rfl)) only [go_sem, reduceIte, Nat.reduceEqDiff], by simp (maxSteps := 2000000) (disch := first | omega | assumption | exact idP rfl | exact idP (bL rfl)) only [go_sem, reduceIte, Nat.reduceEqDiff]; rfl, by omega, by omega, h5, h6, rfl, rfl, fun _ _ => rfl⟩
    · rintro e M1 ⟨i, k', g1, g2, l1, l2, hi, e0, e1, e5, k1, k2, t1, t2, rfl, rfl, hq⟩ K hK
      simp (maxSteps := 2000000) (disch := first | omega | assumption | exact idP rfl | exact idP (bL rfl)) only [go_sem, reduceIte, Nat.reduceEqDiff, e0, e1, e5]
      refine cond_dec (fun h => ?_) (fun h => ?_)
      · have hi' : i < tss.length := by omega
        have h3 := h3 (by omega)
        have hj : o + i < cs.length := by omega
        have hcx : cs[o + i]? = some cs[o + i] := List.getElem?_eq_getElem hj
        have hcx2 : cs[o + i * 1]? = some cs[o + i] := by rw [Nat.mul_one]; exact hcx
        rw [List.drop_eq_getElem_cons hj] at t2
        obtain ⟨x', r', gx, gr, rfl, rfl, t3, t4⟩ := t2.uncons
        have hl1 : l1.length = o + i := by rw [t1.len, List.length_take]; omega
        obtain ⟨u, h5, h6⟩ := h4 i hi'
        rw [Nat.mul_one, List.drop_left' hl1, List.take_succ_cons, List.take_zero, List.cons.injEq] at h5
        obtain ⟨rfl, _⟩ := h5
        have hb1 : M1 b = some cs := by
          rw [hq b (by rw [inF_append] at hbg; simp only [Bool.or_eq_false_iff] at hbg; exact hbg.1)]; exact hmb
        simp (maxSteps := 2000000) (disch := first | omega | assumption | exact idP rfl | exact idP (bL rfl)) only [go_sem, reduceIte, Nat.reduceEqDiff, e0, e1, e5, hb1, hcx, hcx2]
        refine (t_markTermS (leaf_of t3 (flatL_all.1 hfc _ (List.getElem_mem hj)) h6 (by omega) (hl2 _ (List.getElem_mem hi')) (fun p hp => ?_)) (by omega) (by omega)).mono ?_
        · rw [hq p.1 (nd_sep hng (List.mem_append_left _ hp))]
          exact hmg p (List.mem_append_right _ (List.mem_append_left _ hp))
        · rintro _ M2 ⟨k3, rfl, p1, p2, p3⟩
          simp (maxSteps := 2000000) (disch := first | omega | assumption | exact idP rfl | exact idP (bL rfl)) only [go_sem, reduceIte, Nat.reduceEqDiff, e0, e1, e5]
          refine hK _ _ ⟨i + 1, k3, g1 ++ gx, gr, l1 ++ [x'], r', by omega, by simp (maxSteps := 2000000) (disch := first | omega | assumption | exact idP rfl | exact idP (bL rfl)) only [go_sem, reduceIte, Nat.reduceEqDiff, e0], by simp (maxSteps := 2000000) (disch := first | omega | assumption | exact idP rfl | exact idP (bL rfl)) only [go_sem, reduceIte, Nat.reduceEqDiff], by simp (maxSteps := 2000000) (disch := first | omega | assumption | exact idP rfl | exact idP (bL rfl)) only [go_sem, reduceIte, Nat.reduceEqDiff]; rfl, by omega, by omega, ?_, t4, by simp, by simp, fun q hq2 => ?_⟩ (by simp (maxSteps := 2000000) (disch := first | omega | assumption | exact idP rfl | exact idP (bL rfl)) only [go_sem, reduceIte, Nat.reduceEqDiff, ctrV_int, e5]; omega)
          · rw [← Nat.add_assoc, take_one hj]; exact t1.append t3
          · rw [inF_append, Bool.or_eq_false_iff] at hq2
            rw [p3 q (fun hc => by have hc : inF gx q = true := hc; rw [hq2.2] at hc; cases hc)]
            exact hq q hq2.1
      · obtain rfl : i = tss.length := by omega
        simp (maxSteps := 2000000) (disch := first | omega | assumption | exact idP rfl | exact idP (bL rfl)) only [go_sem, reduceIte, Nat.reduceEqDiff, e1]
        refine hR _ _ ⟨k', rfl, k1, by omega, fun q hq1 => hq q ?_⟩
        cases hc : inF g1 q with
        | false => rfl
        | true => exact absurd (hgo q (by rw [inF_append, hc]; rfl)) hq1
theorem t_markRuleS {v v' : V} {fp : List (Nat × List V)} {rs : List RuleS} {k : Int} (ht : Tr [v] [v'] fp) (hf : flat v) (hff : ∀ q ∈ fp, flatL q.2) (hv : LR v' rs) (hn : Nd2 fp) (hm : ∀ p ∈ fp, M p.1 = some p.2) (hl : rs.length ≤ 1048576) (hl2 : ∀ r ∈ rs, RuleFit r) (hk : 0 ≤ k) (hk2 : k ≤ 4000000000000000000) :
    VCall Try.prog n_laws_markRuleS [v, .sc (.int .i64 k)] M (mkPost M k 4700000000000000000 (fun q => inF fp q = true)) := by
  refine VCall.plain fun R hR => v_laws_markRuleS rfl ?_
  rcases ht.win hf hv with ⟨q, rfl, rfl⟩ | ⟨b, o, c, ex, kk, cs, cs', g, rfl, h2, rfl, h3, h4⟩
  · simp (maxSteps := 2000000) (disch := first | omega | assumption | exact idP rfl | exact idP (bL rfl)) only [go_sem, reduceIte, Nat.reduceEqDiff]
    refine loop_k (fun e M' => M' = M ∧ e 0 = .sc (.sl none 0 0 true q) ∧ e 1 = .sc (.int .i64 k) ∧ e 5 = .sc (.int .i64 0)) (fun e _ => 0) ⟨rfl, by simp (maxSteps := 2000000) (disch := first | omega | assumption | exact idP rfl | exact idP (bL rfl)) only [go_sem, reduceIte, Nat.reduceEqDiff], by simp (maxSteps := 2000000) (disch := first | omega | assumption | exact idP rfl | exact idP (bL rfl)) only [go_sem, reduceIte, Nat.reduceEqDiff], by simp (maxSteps := 2000000) (disch := first | omega | assumption | exact idP rfl | exact idP (bL rfl)) only [go_sem, reduceIte, Nat.reduceEqDiff]⟩ ?_
    rintro e _ ⟨rfl, e0, e1, e5⟩ K hK
    simp (maxSteps := 2000000) (disch := first | omega | assumption | exact idP rfl | exact idP (bL rfl)) only [go_sem, reduceIte, Nat.reduceEqDiff, e0, e1, e5]
    exact hR _ _ ⟨k, rfl, by omega, by omega, fun q _ => rfl⟩
  · obtain ⟨hbg, hng⟩ := nd_hd hn
    have hmb : M b = some cs := hm (b, cs) (List.mem_cons_self ..)
    have hmg : ∀ p ∈ g, M p.1 = some p.2 := fun p hp => hm p (List.mem_cons_of_mem _ hp)
    have hfc : flatL cs := hff (b, cs) (List.mem_cons_self ..)
    have hfg : ∀ q ∈ g, flatL q.2 := fun q hq => hff q (List.mem_cons_of_mem _ hq)
    have hgo : ∀ q, inF g q = true → inF ((b, cs) :: g) q = true := fun q hq => by
      obtain ⟨l, hl⟩ := inF_iff.1 hq
      exact inF_iff.2 ⟨l, List.mem_cons_of_mem _ hl⟩
    simp (maxSteps := 2000000) (disch := first | omega | assumption | exact idP rfl | exact idP (bL rfl)) only [go_sem, reduceIte, Nat.reduceEqDiff]
    refine loop_k (fun e M' => ∃ (i : Nat) (k' : Int) (g1 g2 : List (Nat × List V)) (l1 l2 : List V), i ≤ rs.length ∧ e 0 = .sc (.sl (some (b, o)) rs.length c ex kk) ∧ e 1 = .sc (.int .i64 k') ∧ e 5 = .sc (.int .i64 i) ∧ k ≤ k' ∧ k' ≤ k + 4398051753984 * i ∧ Tr (cs.take (o + i * 3)) l1 g1 ∧ Tr (cs.drop (o + i * 3)) l2 g2 ∧ g = g1 ++ g2 ∧ cs' = l1 ++ l2 ∧ ∀ q, inF g1 q = false → M' q = M q) (fun e _ => ctrV rs.length (e 5)) ?_ ?_
    · obtain ⟨l1, l2, g1, g2, rfl, rfl, h5, h6⟩ := Tr.split (a := cs.take o) (b := cs.drop o) (b' := []) (by rw [List.take_append_drop]; exact h2)
      exact ⟨0, k, g1, g2, l1, l2, by omega, by simp (maxSteps := 2000000) (disch := first | omega | assumption | exact idP rfl | exact idP (bL rfl)) only [go_sem, reduceIte, Nat.reduceEqDiff], by simp (maxSteps := 2000000) (disch := first | omega | assumption | exact idP rfl | exact idP (bL rfl)) only [go_sem, reduceIte, Nat.reduceEqDiff], by simp (maxSteps := 2000000) (disch := first | omega | assumption | exact idP rfl | exact idP (bL rfl)) only [go_sem, reduceIte, Nat.reduceEqDiff]; rfl, by omega, by omega, by simpa using h5, by simpa using h6, rfl, rfl, fun _ _ => rfl⟩
    · rintro e M1 ⟨i, k', g1, g2, l1, l2, hi, e0, e1, e5, k1, k2, t1, t2, rfl, rfl, hq⟩ K hK
      simp (maxSteps := 2000000) (disch := first | omega | assumption | exact idP rfl | exact idP (bL rfl)) only [go_sem, reduceIte, Nat.reduceEqDiff, e0, e1, e5]
      refine cond_dec (fun h => ?_) (fun h => ?_)
      · have hi' : i < rs.length := by omega
        have h3 := h3 (by omega)
        have j0 : o + i * 3 < cs.length := by omega
        have j1 : o + i * 3 + 1 < cs.length := by omega
        have j2 : o + i * 3 + 2 < cs.length := by omega
        have c0 : cs[o + i * 3]? = some cs[o + i * 3] := List.getElem?_eq_getElem j0
        have c00 : cs[o + i * 3 + 0]? = some cs[o + i * 3] := c0
        have c1 : cs[o + i * 3 + 1]? = some cs[o + i * 3 + 1] := List.getElem?_eq_getElem j1
        have c2 : cs[o + i * 3 + 2]? = some cs[o + i * 3 + 2] := List.getElem?_eq_getElem j2
        have hfl := hl2 _ (List.getElem_mem hi')
        obtain ⟨f1, f2, f3, f4⟩ := hfl
        rw [List.drop_eq_getElem_cons j0, List.drop_eq_getElem_cons j1, List.drop_eq_getElem_cons j2] at t2
        obtain ⟨x', r1, gx, w1, rfl, rfl, tx, t3⟩ := t2.uncons
        obtain ⟨y', r2, gy, w2, rfl, rfl, ty, t4⟩ := t3.uncons
        obtain ⟨z', r3, gz, w3, rfl, rfl, tz, t5⟩ := t4.uncons
        have hl1 : l1.length = o + i * 3 := by rw [t1.len, List.length_take]; omega
        obtain ⟨u1, u2, u3, h5, hx, hy, hz⟩ := h4 i hi'
        rw [List.drop_left' hl1] at h5
        simp only [List.take_succ_cons, List.take_zero, List.cons.injEq, and_true] at h5
        obtain ⟨rfl, rfl, rfl⟩ := h5
        have sep : ∀ p, p ∈ gx ++ (gy ++ (gz ++ w3)) → inF g1 p.1 = false := fun p hp => nd_sep hng hp
        have hn2 := (Nd2.append hng).2.1
        have hb1 : ∀ M2 : MH, (∀ q, inF (g1 ++ (gx ++ (gy ++ (gz ++ w3)))) q = false → M2 q = M q) → M2 b = some cs := fun M2 hM2 => by rw [hM2 b hbg]; exact hmb
        have i1 : ∀ q, inF (g1 ++ (gx ++ (gy ++ (gz ++ w3)))) q = false → M1 q = M q := fun q hq2 => hq q (by rw [inF_append, Bool.or_eq_false_iff] at hq2; exact hq2.1)
        have b1 := hb1 M1 i1
        simp (maxSteps := 2000000) (disch := first | omega | assumption | exact idP rfl | exact idP (bL rfl)) only [go_sem, reduceIte, Nat.reduceEqDiff, e0, e1, e5, b1, c0, c00, c1, c2]
        refine (t_markTermS (leaf_of tx (flatL_all.1 hfc _ (List.getElem_mem j0)) hx (by omega) f1 (fun p hp => ?_)) (by omega) (by omega)).mono ?_
        · rw [hq p.1 (sep p (List.mem_append_left _ hp))]
          exact hmg p (List.mem_append_right _ (List.mem_append_left _ hp))
        rintro _ M2 ⟨k3, rfl, p1, p2, p3⟩
        have m2 : ∀ q, inF gx q = false → M2 q = M1 q := fun q hq2 => p3 q (fun hc => by have hc : inF gx q = true := hc; rw [hq2] at hc; cases hc)
        have b2 := hb1 M2 fun q hq2 => by
          rw [m2 q (by simp only [inF_append, Bool.or_eq_false_iff] at hq2; exact hq2.2.1)]; exact i1 q hq2
        simp (maxSteps := 2000000) (disch := first | omega | assumption | exact idP rfl | exact idP (bL rfl)) only [go_sem, reduceIte, Nat.reduceEqDiff, e0, e1, e5, b2, c0, c00, c1, c2]
        refine (t_markIntS (leaf_of ty (flatL_all.1 hfc _ (List.getElem_mem j1)) (ls_lc hy) (by omega) f2 (fun p hp => ?_)) (by omega) (by omega)).mono ?_
        · rw [m2 p.1 (nd_sep hn2 (List.mem_append_left _ hp)), hq p.1 (sep p (List.mem_append_right _ (List.mem_append_left _ hp)))]
          exact hmg p (List.mem_append_right _ (List.mem_append_right _ (List.mem_append_left _ hp)))
        rintro _ M3 ⟨k4, rfl, p4, p5, p6⟩
        have m3 : ∀ q, inF gy q = false → M3 q = M2 q := fun q hq2 => p6 q (fun hc => by have hc : inF gy q = true := hc; rw [hq2] at hc; cases hc)
        have b3 := hb1 M3 fun q hq2 => by
          simp only [inF_append, Bool.or_eq_false_iff] at hq2
          rw [m3 q hq2.2.2.1, m2 q hq2.2.1]; exact hq q hq2.1
        simp (maxSteps := 2000000) (disch := first | omega | assumption | exact idP rfl | exact idP (bL rfl)) only [go_sem, reduceIte, Nat.reduceEqDiff, e0, e1, e5, b3, c0, c00, c1, c2]
        have hn3 := (Nd2.append hn2).2.1
        refine (t_markTermSS tz (flatL_all.1 hfc _ (List.getElem_mem j2)) (fun q hq2 => hfg q (List.mem_append_right _ (List.mem_append_right _ (List.mem_append_right _ (List.mem_append_left _ hq2))))) hz (Nd2.append (Nd2.append hn3).2.1).1 (fun p hp => ?_) f3 f4 (by omega) (by omega)).mono ?_
        · rw [m3 p.1 (nd_sep hn3 (List.mem_append_left _ hp)), m2 p.1 (nd_sep hn2 (List.mem_append_right _ (List.mem_append_left _ hp))), hq p.1 (sep p (List.mem_append_right _ (List.mem_append_right _ (List.mem_append_left _ hp))))]
          exact hmg p (List.mem_append_right _ (List.mem_append_right _ (List.mem_append_right _ (List.mem_append_left _ hp))))
        rintro _ M4 ⟨k5, rfl, p7, p8, p9⟩
        have m4 : ∀ q, inF gz q = false → M4 q = M3 q := fun q hq2 => p9 q (fun hc => by have hc : inF gz q = true := hc; rw [hq2] at hc; cases hc)
        simp (maxSteps := 2000000) (disch := first | omega | assumption | exact idP rfl | exact idP (bL rfl)) only [go_sem, reduceIte, Nat.reduceEqDiff, e0, e1, e5]
        refine hK _ _ ⟨i + 1, k5, g1 ++ (gx ++ (gy ++ gz)), w3, l1 ++ [x', y', z'], r3, by omega, by simp (maxSteps := 2000000) (disch := first | omega | assumption | exact idP rfl | exact idP (bL rfl)) only [go_sem, reduceIte, Nat.reduceEqDiff, e0], by simp (maxSteps := 2000000) (disch := first | omega | assumption | exact idP rfl | exact idP (bL rfl)) only [go_sem, reduceIte, Nat.reduceEqDiff], by simp (maxSteps := 2000000) (disch := first | omega | assumption | exact idP rfl | exact idP (bL rfl)) only [go_sem, reduceIte, Nat.reduceEqDiff]; rfl, by omega, by omega, ?_, ?_, by simp, by simp, fun q hq2 => ?_⟩ (by simp (maxSteps := 2000000) (disch := first | omega | assumption | exact idP rfl | exact idP (bL rfl)) only [go_sem, reduceIte, Nat.reduceEqDiff, ctrV_int, e5]; omega)
        · rw [show o + (i + 1) * 3 = o + i * 3 + 1 + 1 + 1 by omega, take_one j2, take_one j1, take_one j0, List.append_assoc, List.append_assoc]
          exact t1.append (tx.append (ty.append tz))
        · rw [show o + (i + 1) * 3 = o + i * 3 + 1 + 1 + 1 by omega]; exact t5
        · simp only [inF_append, Bool.or_eq_false_iff] at hq2
          rw [m4 q hq2.2.2.2, m3 q hq2.2.2.1, m2 q hq2.2.1]
          exact hq q hq2.1
      · obtain rfl : i = rs.length := by omega
        simp (maxSteps := 2000000) (disch := first | omega | assumption | exact idP rfl | exact idP (bL rfl)) only [go_sem, reduceIte, Nat.reduceEqDiff, e1]
        refine hR _ _ ⟨k', rfl, k1, by omega, fun q hq1 => hq q ?_⟩
        cases hc : inF g1 q with
        | false => rfl
        | true => exact absurd (hgo q (by rw [inF_append, hc]; rfl)) hq1
structure OwnS (M0 M : MH) (s : SysS) (x y : V) (x' y' : V) (fp : List (Nat × List V)) : Prop where
  tr : Tr [x, y] [x', y'] fp
  mem : Mem M0 M fp
  fl : flatL [x, y]
  ff : ∀ q ∈ fp, flatL q.2
  lx : LVar x' s.vars
  ly : LR y' s.rules
theorem OwnS.sys {M0 M : MH} {s : SysS} {x y x' y' : V} {fp : List (Nat × List V)} (h : OwnS M0 M s x y x' y' fp) : isSys s (.agg [x', y']) := ⟨x', y', rfl, h.lx, h.ly⟩
theorem o_toSystem {v : V} {s : SysS} (hv : isSysX s v) (hf : SysFit s) : VCall Try.prog n_laws_toSystem [v] M (fun r' M' => ∃ x y x' y' fp, r' = .agg [x, y] ∧ One x ∧ One y ∧ OwnS M M' s x y x' y' fp) :=
  (d_toSystem hv hf).mono fun r M' ⟨x, y, h1, h2, h3, l', fp, t1, t2, t3, t4, x', y', h4, h5, h6⟩ => ⟨x, y, x', y', fp, h1, h2, h3, by subst h4; exact ⟨t1, t2, t3, t4, h5, h6⟩⟩
theorem t_markSystem {M0 : MH} {s : SysS} {x y x' y' : V} {fp : List (Nat × List V)} {k : Int} (h : OwnS M0 M s x y x' y' fp) (hf : SysFit s) (hk : 0 ≤ k) (hk2 : k ≤ 3000000000000000000) :
    VCall Try.prog n_laws_markSystem [.agg [x, y], .sc (.int .i64 k)] M (fun r M' => ∃ k' : Int, r = .sc (.int .i64 k') ∧ k ≤ k' ∧ k' ≤ 7800000000000000000 ∧ Sub M0 M' ∧ ∀ q l, M q = some l → inF fp q = false → M' q = some l) := by
  refine VCall.plain fun R hR => v_laws_markSystem rfl ?_
  obtain ⟨f1, f2, f3⟩ := hf
  obtain ⟨u1, r1, gx, gr, e1, rfl, tx, t2⟩ := h.tr.uncons
  obtain ⟨u2, r2, gy, gr2, e2, rfl, ty, t3⟩ := t2.uncons
  rw [List.cons.injEq] at e1
  obtain ⟨rfl, rfl⟩ := e1
  rw [List.cons.injEq] at e2
  obtain ⟨rfl, rfl⟩ := e2
  cases t3
  have hfl := h.fl
  simp only [flatL] at hfl
  have hnd := h.mem.nd
  rw [List.append_nil] at hnd
  have hat := h.mem.at_
  have hff := h.ff
  simp only [List.append_nil] at hat hff
  simp (maxSteps := 2000000) (disch := first | omega | assumption | exact idP rfl | exact idP (bL rfl)) only [go_sem, reduceIte, Nat.reduceEqDiff]
  intro b2 hb2
  have hne : ∀ q l, M q = some l → q ≠ b2 := fun q l hq e => by subst e; rw [hb2] at hq; cases hq
  refine (t_markVarS (leaf_of tx hfl.1 h.lx (by omega) f1 (fun p hp => ?_)) hk (by omega)).mono ?_
  · rw [set_ne (hne _ _ (hat p (List.mem_append_left _ hp)))]; exact hat p (List.mem_append_left _ hp)
  rintro _ M2 ⟨k3, rfl, p1, p2, p3⟩
  have m2 : ∀ q, inF gx q = false → M2 q = (M.set b2 [x, y]) q := fun q hq2 => p3 q (fun hc => by have hc : inF gx q = true := hc; rw [hq2] at hc; cases hc)
  have hb2x : inF gx b2 = false := by
    cases hc : inF gx b2 with
    | false => rfl
    | true =>
      obtain ⟨l, hl⟩ := inF_iff.1 hc
      have := hat _ (List.mem_append_left _ hl)
      rw [hb2] at this; cases this
  have q2 : M2 b2 = some [x, y] := by rw [m2 b2 hb2x]; exact set_same
  simp (maxSteps := 2000000) (disch := first | omega | assumption | exact idP rfl | exact idP (bL rfl)) only [go_sem, reduceIte, Nat.reduceEqDiff, q2]
  refine (t_markRuleS ty hfl.2.1 (fun q hq => hff q (List.mem_append_right _ hq)) h.ly (Nd2.append hnd).2.1 (fun p hp => ?_) f2 f3 (by omega) (by omega)).mono ?_
  · rw [m2 p.1 (nd_sep hnd hp), set_ne (hne _ _ (hat p (List.mem_append_right _ hp)))]; exact hat p (List.mem_append_right _ hp)
  rintro _ M3 ⟨k4, rfl, p4, p5, p6⟩
  have m3 : ∀ q, inF gy q = false → M3 q = M2 q := fun q hq2 => p6 q (fun hc => by have hc : inF gy q = true := hc; rw [hq2] at hc; cases hc)
  simp (maxSteps := 2000000) (disch := first | omega | assumption | exact idP rfl | exact idP (bL rfl)) only [go_sem, reduceIte, Nat.reduceEqDiff]
  have keep : ∀ q l, M q = some l → inF (gx ++ gy) q = false → M3 q = some l := fun q l hq hn => by
    rw [inF_append, Bool.or_eq_false_iff] at hn
    rw [m3 q hn.2, m2 q hn.1, set_ne (hne q l hq)]; exact hq
  refine hR _ _ ⟨k4, rfl, by omega, by omega, fun q l hq => keep q l (h.mem.sub q l hq) ?_, fun q l hq hn => keep q l hq (by simpa using hn)⟩
  cases hc : inF (gx ++ gy) q with
  | false => rfl
  | true =>
    obtain ⟨l2, hl⟩ := inF_iff.1 hc
    have := h.mem.new _ (by simpa using hl)
    simp only at this
    rw [this] at hq; cases hq
end Go.M2

namespace Go.M2
open Go.Proofs
variable {M : MH}
theorem Dn.nil1 {k : Nat} : Dn M M (.sc (.sl none 0 0 true k)) (fun u => LI u []) := ⟨_, [], .refl _, .nil (Sub.refl _), by simp [flat], fun q hq => (by cases hq), .nil⟩
theorem Gr.dnI {M' : MH} {v : V} {ys : List Int} (h : Gr 1 M M' v (ys.map vi)) : Dn M M' v (fun u => LI u ys) := h.dn (flatL_vi ys) fun u hu => hu.li
def Hd (M : MH) (v : V) (n : Nat) (k : Int) : Prop := (n = 0 ∧ ∃ q, v = .sc (.sl none 0 0 true q)) ∨ ∃ b o c ex kk l, v = .sc (.sl (some (b, o)) n c ex kk) ∧ M b = some l ∧ ∀ i, i < n → l[o + i]? = some (.sc (.int .i64 (k + i)))
theorem t_heldIntS {v : V} {n : Nat} {k : Int} (hv : Hd M v n k) (hn : n ≤ 1048576) (hk : 0 ≤ k) (hk2 : k ≤ 9000000000000000000) : VCall Try.prog n_laws_heldIntS [v, .sc (.int .i64 k)] M (fun r M' => M = M' ∧ r = .sc (.int .i64 (k + n))) := by
  refine VCall.pure fun R hR => v_laws_heldIntS rfl ?_
  rcases hv with ⟨rfl, q, rfl⟩ | ⟨b, o, c, ex, kk, l, rfl, hm, hl⟩
  · simp (maxSteps := 2000000) (disch := first | omega | assumption | exact idP rfl | exact idP (bL rfl)) only [go_sem, reduceIte, Nat.reduceEqDiff]
    refine loop_k (fun e M' => M' = M ∧ e 0 = .sc (.sl none 0 0 true q) ∧ e 1 = .sc (.int .i64 k) ∧ e 5 = .sc (.int .i64 0)) (fun e _ => 0) ⟨rfl, by simp (maxSteps := 2000000) (disch := first | omega | assumption | exact idP rfl | exact idP (bL rfl)) only [go_sem, reduceIte, Nat.reduceEqDiff], by simp (maxSteps := 2000000) (disch := first | omega | assumption | exact idP rfl | exact idP (bL rfl)) only [go_sem, reduceIte, Nat.reduceEqDiff], by simp (maxSteps := 2000000) (disch := first | omega | assumption | exact idP rfl | exact idP (bL rfl)) only [go_sem, reduceIte, Nat.reduceEqDiff]⟩ ?_
    rintro e _ ⟨rfl, e0, e1, e5⟩ K hK
    simp (maxSteps := 2000000) (disch := first | omega | assumption | exact idP rfl | exact idP (bL rfl)) only [go_sem, reduceIte, Nat.reduceEqDiff, e0, e1, e5]
    exact hR _ _ (by (repeat (first | exact Sub.refl _ | assumption | (refine Sub.set' ?_ (by assumption))))) (by rw [Int.natCast_zero, Int.add_zero]; rfl)
  · simp (maxSteps := 2000000) (disch := first | omega | assumption | exact idP rfl | exact idP (bL rfl)) only [go_sem, reduceIte, Nat.reduceEqDiff]
    refine loop_k (fun e M' => M' = M ∧ ∃ i : Nat, i ≤ n ∧ e 0 = .sc (.sl (some (b, o)) n c ex kk) ∧ e 1 = .sc (.int .i64 (k + i)) ∧ e 5 = .sc (.int .i64 i)) (fun e _ => ctrV n (e 5)) ?_ ?_
    · exact ⟨rfl, 0, by omega, by simp (maxSteps := 2000000) (disch := first | omega | assumption | exact idP rfl | exact idP (bL rfl)) only [go_sem, reduceIte, Nat.reduceEqDiff], by simp (maxSteps := 2000000) (disch := first | omega | assumption | exact idP rfl | exact idP (bL rfl)) only [go_sem, reduceIte, Nat.reduceEqDiff]; simp, by simp (maxSteps := 2000000) (disch := first | omega | assumption | exact idP rfl | exact idP (bL rfl)) only [go_sem, reduceIte, Nat.reduceEqDiff]; rfl⟩
    · rintro e _ ⟨rfl, i, hi, e0, e1, e5⟩ K hK
      simp (maxSteps := 2000000) (disch := first | omega | assumption | exact idP rfl | exact idP (bL rfl)) only [go_sem, reduceIte, Nat.reduceEqDiff, e0, e1, e5]
      refine cond_dec (fun h => ?_) (fun h => ?_)
      · have h1 := hl i (by omega)
        have h2 : l[o + i * 1]? = some (.sc (.int .i64 (k + i))) := by rw [Nat.mul_one]; exact h1
        (repeat' (first | ((first | with_reducible refine cond_dec (fun h => ?_) (fun h => ?_) | with_reducible refine guardK_dec (fun h => ?_) (fun h => ?_) | with_reducible refine guardD3_dec (fun h => ?_) (fun h => ?_)) <;> first | (exfalso; omega) | (simp (maxSteps := 2000000) (disch := first | omega | assumption | exact idP rfl | exact idP (bL rfl)) only [go_sem, reduceIte, Nat.reduceEqDiff, h, e0, e1, e5, hm, h1, h2]) | skip) | ((first | with_reducible refine cond_split (fun h => ?_) (fun h => ?_) | with_reducible refine guardK_split (fun h => ?_) (fun h => ?_) | with_reducible refine guardD3_split (fun h => ?_) (fun h => ?_)) <;> ((try simp only [Bool.not_eq_true', Bool.not_eq_false'] at h); first | (simp (maxSteps := 2000000) (disch := first | omega | assumption | exact idP rfl | exact idP (bL rfl)) only [go_sem, reduceIte, Nat.reduceEqDiff, h, e0, e1, e5, hm, h1, h2]) | skip)) | (with_reducible intro bk hbk; try have hnk := (fresh_set hbk).1) | (simp (maxSteps := 2000000) (disch := first | omega | assumption | exact idP rfl | exact idP (bL rfl)) only [go_sem, reduceIte, Nat.reduceEqDiff, e0, e1, e5, hm, h1, h2])))
        exact hK _ _ ⟨rfl, i + 1, by omega, by simp (maxSteps := 2000000) (disch := first | omega | assumption | exact idP rfl | exact idP (bL rfl)) only [go_sem, reduceIte, Nat.reduceEqDiff, e0], by simp (maxSteps := 2000000) (disch := first | omega | assumption | exact idP rfl | exact idP (bL rfl)) only [go_sem, reduceIte, Nat.reduceEqDiff, e1]; rw [Int.natCast_add, Int.add_assoc]; rfl, by simp (maxSteps := 2000000) (disch := first | omega | assumption | exact idP rfl | exact idP (bL rfl)) only [go_sem, reduceIte, Nat.reduceEqDiff, e5]; rfl⟩ (by simp (maxSteps := 2000000) (disch := first | omega | assumption | exact idP rfl | exact idP (bL rfl)) only [go_sem, reduceIte, Nat.reduceEqDiff, ctrV_int, e5]; omega)
      · obtain rfl : i = n := by omega
        simp (maxSteps := 2000000) (disch := first | omega | assumption | exact idP rfl | exact idP (bL rfl)) only [go_sem, reduceIte, Nat.reduceEqDiff, e1]
        exact hR _ _ (by (repeat (first | exact Sub.refl _ | assumption | (refine Sub.set' ?_ (by assumption))))) rfl
end Go.M2

namespace Go.M2
open Go.Proofs
variable {M : MH}
theorem flat_bool {b : Bool} : ∀ r : V, r = .sc (.bool b) → flat r := fun r h => by subst h; simp [flat]
theorem l_eqIntS {v v' w : V} {fp : List (Nat × List V)} {xs : List Int} (ht : Tr [v] [v'] fp) (hv : LI v' xs) (hm : ∀ p ∈ fp, M p.1 = some p.2) (hn : Nd2 fp) (hw : LI w xs) (hl : xs.length ≤ 1048576) : VCall Try.prog n_laws_eqIntS [v, w] M (fun r M' => M = M' ∧ r = .sc (.bool true)) := by
  have h2 : Tr [v, w] [v', w] (fp ++ []) := ht.append (.keep w .nil)
  rw [List.append_nil] at h2
  refine VCall.lendP h2 hm hn flat_bool fun M' => (x_eqIntS hv hw hl).mono fun r M'' ⟨h3, h4⟩ => ⟨h3, by rw [h4]; simp⟩
theorem OwnS.more {M0 M M' : MH} {s : SysS} {x y x' y' : V} {fp : List (Nat × List V)} (h : OwnS M0 M s x y x' y' fp) (hs : Sub M M') : OwnS M0 M' s x y x' y' fp := ⟨h.tr, h.mem.more hs, h.fl, h.ff, h.lx, h.ly⟩
theorem OwnS.arg {M0 M : MH} {s : SysS} {x y x' y' : V} {fp : List (Nat × List V)} (h : OwnS M0 M s x y x' y' fp) : Tr [.agg [x, y]] [.agg [x', y']] fp := by
  have := Tr.agg h.tr Tr.nil
  rwa [List.append_nil] at this
theorem l_eqSystem {M0 : MH} {s : SysS} {x y x' y' w : V} {fp : List (Nat × List V)} (h : OwnS M0 M s x y x' y' fp) (hw : isSys s w) (hf : SysFit s) : VCall Try.prog n_laws_eqSystem [.agg [x, y], w] M (fun r M' => M = M' ∧ r = .sc (.bool true)) := by
  have h2 : Tr [.agg [x, y], w] [.agg [x', y'], w] (fp ++ []) := h.arg.append (.keep w .nil)
  rw [List.append_nil] at h2
  exact VCall.lendP h2 h.mem.at_ h.mem.nd flat_bool fun M' => x_eqSystem h.sys hw hf
end Go.M2

namespace Go.M2
open Go.Proofs
variable {M : MH}
theorem t_Equal {v w : V} {xs ys : List Int} (hv : LI v xs) (hw : LI w ys) (hl : xs.length ≤ 1048576) (hl2 : ys.length ≤ 1048576) : VCall Try.prog n_slices_Equal_Sint_int [v, w] M (fun r M' => M = M' ∧ r = .sc (.bool (decide (xs = ys)))) := by
  refine VCall.pure fun R hR => v_slices_Equal_Sint_int rfl ?_
  simp (maxSteps := 2000000) (disch := first | omega | assumption | exact idP rfl | exact idP (bL rfl)) only [go_sem, reduceIte, Nat.reduceEqDiff, hv.len, hw.len]
  refine cond_dec (fun h => ?_) (fun h => ?_)
  · simp (maxSteps := 2000000) (disch := first | omega | assumption | exact idP rfl | exact idP (bL rfl)) only [go_sem, reduceIte, Nat.reduceEqDiff]
    have : ¬ xs = ys := fun e => h (by rw [e])
    exact hR _ _ (by (repeat (first | exact Sub.refl _ | assumption | (refine Sub.set' ?_ (by assumption))))) (by simp [this])
  · have hll : xs.length = ys.length := by omega
    simp (maxSteps := 2000000) (disch := first | omega | assumption | exact idP rfl | exact idP (bL rfl)) only [go_sem, reduceIte, Nat.reduceEqDiff, hv.len]
    refine loop_k (fun e M' => M' = M ∧ ∃ i : Nat, i ≤ xs.length ∧ e 0 = v ∧ e 1 = w ∧ e 12 = .sc (.int .i64 xs.length) ∧ e 13 = .sc (.int .i64 i) ∧ ∀ j (h1 : j < xs.length) (h2 : j < ys.length), j < i → xs[j] = ys[j]) (fun e _ => ctrV xs.length (e 13)) ?_ ?_
    · exact ⟨rfl, 0, by omega, by simp (maxSteps := 2000000) (disch := first | omega | assumption | exact idP rfl | exact idP (bL rfl)) only [go_sem, reduceIte, Nat.reduceEqDiff], by simp (maxSteps := 2000000) (disch := first | omega | assumption | exact idP rfl | exact idP (bL rfl)) only [go_sem, reduceIte, Nat.reduceEqDiff], by simp (maxSteps := 2000000) (disch := first | omega | assumption | exact idP rfl | exact idP (bL rfl)) only [go_sem, reduceIte, Nat.reduceEqDiff], by simp (maxSteps := 2000000) (disch := first | omega | assumption | exact idP rfl | exact idP (bL rfl)) only [go_sem, reduceIte, Nat.reduceEqDiff]; rfl, fun j _ _ h => by omega⟩
    · rintro e _ ⟨rfl, i, hi, e0, e1, e12, e13, hj⟩ K hK
      simp (maxSteps := 2000000) (disch := first | omega | assumption | exact idP rfl | exact idP (bL rfl)) only [go_sem, reduceIte, Nat.reduceEqDiff, e0, e1, e12, e13]
      refine cond_dec (fun hc => ?_) (fun hc => ?_)
      · have h1 : i < xs.length := by omega
        have h2 : i < ys.length := by omega
        simp (maxSteps := 2000000) (disch := first | omega | assumption | exact idP rfl | exact idP (bL rfl)) only [go_sem, reduceIte, Nat.reduceEqDiff, e0, e1, e12, e13, hv.iaddr, hw.iaddr, hv.at h1, hw.at h2]
        refine cond_dec (fun hn => ?_) (fun hn => ?_)
        · simp (maxSteps := 2000000) (disch := first | omega | assumption | exact idP rfl | exact idP (bL rfl)) only [go_sem, reduceIte, Nat.reduceEqDiff]
          have : ¬ xs = ys := fun e => hn (by simp only [e])
          exact hR _ _ (by (repeat (first | exact Sub.refl _ | assumption | (refine Sub.set' ?_ (by assumption))))) (by simp [this])
        · simp (maxSteps := 2000000) (disch := first | omega | assumption | exact idP rfl | exact idP (bL rfl)) only [go_sem, reduceIte, Nat.reduceEqDiff, e0, e1, e12, e13]
          refine hK _ _ ⟨rfl, i + 1, by omega, by simp (maxSteps := 2000000) (disch := first | omega | assumption | exact idP rfl | exact idP (bL rfl)) only [go_sem, reduceIte, Nat.reduceEqDiff, e0], by simp (maxSteps := 2000000) (disch := first | omega | assumption | exact idP rfl | exact idP (bL rfl)) only [go_sem, reduceIte, Nat.reduceEqDiff, e1], by simp (maxSteps := 2000000) (disch := first | omega | assumption | exact idP rfl | exact idP (bL rfl)) only [go_sem, reduceIte, Nat.reduceEqDiff, e12], by simp (maxSteps := 2000000) (disch := first | omega | assumption | exact idP rfl | exact idP (bL rfl)) only [go_sem, reduceIte, Nat.reduceEqDiff, e13]; rfl, fun j q1 q2 q3 => ?_⟩ (by simp (maxSteps := 2000000) (disch := first | omega | assumption | exact idP rfl | exact idP (bL rfl)) only [go_sem, reduceIte, Nat.reduceEqDiff, ctrV_int, e13]; omega)
          by_cases e : j = i
          · subst e; exact Classical.byContradiction hn
          · exact hj j q1 q2 (by omega)
      · obtain rfl : i = xs.length := by omega
        simp (maxSteps := 2000000) (disch := first | omega | assumption | exact idP rfl | exact idP (bL rfl)) only [go_sem, reduceIte, Nat.reduceEqDiff]
        have : xs = ys := List.ext_getElem hll fun j q1 q2 => hj j q1 q2 q1
        exact hR _ _ (by (repeat (first | exact Sub.refl _ | assumption | (refine Sub.set' ?_ (by assumption))))) (by simp [this])
end Go.M2

namespace Go.M2
open Go.Proofs
open Go.ChangeShapes Go.WideShapes Go.ChangeAt Go.RowKit
variable {M : MH}
theorem x_eqIntSS {v w : V} {xs : List (List Int)} (hv : LII v xs) (hw : LII w xs) (hl : xs.length ≤ 1048576) (hl2 : ∀ ts ∈ xs, ts.length ≤ 1048576) : VCall Try.prog n_laws_eqIntSS [v, w] M (fun r M' => M = M' ∧ r = .sc (.bool true)) := by
  refine VCall.pure fun R hR => v_laws_eqIntSS rfl ?_
  (repeat' (first | ((first | with_reducible refine cond_dec (fun h => ?_) (fun h => ?_) | with_reducible refine guardK_dec (fun h => ?_) (fun h => ?_) | with_reducible refine guardD3_dec (fun h => ?_) (fun h => ?_)) <;> first | (exfalso; omega) | (simp (maxSteps := 2000000) (disch := first | omega | assumption | exact idP rfl | exact idP (bL rfl)) only [go_sem, reduceIte, Nat.reduceEqDiff, h, hv.len, hw.len]) | skip) | ((first | with_reducible refine cond_split (fun h => ?_) (fun h => ?_) | with_reducible refine guardK_split (fun h => ?_) (fun h => ?_) | with_reducible refine guardD3_split (fun h => ?_) (fun h => ?_)) <;> ((try simp only [Bool.not_eq_true', Bool.not_eq_false'] at h); first | (simp (maxSteps := 2000000) (disch := first | omega | assumption | exact idP rfl | exact idP (bL rfl)) only [go_sem, reduceIte, Nat.reduceEqDiff, h, hv.len, hw.len]) | skip)) | (with_reducible intro bk hbk; try have hnk := (fresh_set hbk).1) | (simp (maxSteps := 2000000) (disch := first | omega | assumption | exact idP rfl | exact idP (bL rfl)) only [go_sem, reduceIte, Nat.reduceEqDiff, hv.len, hw.len])))
  refine loop_k (fun e M' => M' = M ∧ ∃ i : Nat, i ≤ xs.length ∧ e 0 = v ∧ e 1 = w ∧ e 5 = .sc (.int .i64 i)) (fun e _ => ctrV xs.length (e 5)) ?_ ?_
  · exact ⟨rfl, 0, by omega, by simp (maxSteps := 2000000) (disch := first | omega | assumption | exact idP rfl | exact idP (bL rfl)) only [go_sem, reduceIte, Nat.reduceEqDiff], by simp (maxSteps := 2000000) (disch := first | omega | assumption | exact idP rfl | exact idP (bL rfl)) only [go_sem, reduceIte, Nat.reduceEqDiff], by simp (maxSteps := 2000000) (disch := first | omega | assumption | exact idP rfl | exact idP (bL rfl)) only [go_sem, reduceIte, Nat.reduceEqDiff]; rfl⟩
  · rintro e _ ⟨rfl, i, hi, e0, e1, e5⟩ K hK
    simp (maxSteps := 2000000) (disch := first | omega | assumption | exact idP rfl | exact idP (bL rfl)) only [go_sem, reduceIte, Nat.reduceEqDiff, e0, e1, e5, hv.len]
    refine cond_dec (fun h => ?_) (fun h => ?_)
    · have hi' : i < xs.length := by omega
      simp (maxSteps := 2000000) (disch := first | omega | assumption | exact idP rfl | exact idP (bL rfl)) only [go_sem, reduceIte, Nat.reduceEqDiff, e0, e1, e5, hv.iaddr, hw.iaddr]
      refine (x_eqIntS (hv.elt hi') (hw.elt hi') (hl2 _ (List.getElem_mem hi'))).mono ?_
      rintro _ _ ⟨rfl, rfl⟩
      have ei : decide (xs[i] = xs[i]) = true := by simp
      simp (maxSteps := 2000000) (disch := first | omega | assumption | exact idP rfl | exact idP (bL rfl)) only [go_sem, reduceIte, Nat.reduceEqDiff, ei, e0, e1, e5]
      exact hK _ _ ⟨rfl, i + 1, by omega, by simp (maxSteps := 2000000) (disch := first | omega | assumption | exact idP rfl | exact idP (bL rfl)) only [go_sem, reduceIte, Nat.reduceEqDiff, e0], by simp (maxSteps := 2000000) (disch := first | omega | assumption | exact idP rfl | exact idP (bL rfl)) only [go_sem, reduceIte, Nat.reduceEqDiff, e1], by simp (maxSteps := 2000000) (disch := first | omega | assumption | exact idP rfl | exact idP (bL rfl)) only [go_sem, reduceIte, Nat.reduceEqDiff, e5]; rfl⟩ (by simp (maxSteps := 2000000) (disch := first | omega | assumption | exact idP rfl | exact idP (bL rfl)) only [go_sem, reduceIte, Nat.reduceEqDiff, ctrV_int, e5]; omega)
    · obtain rfl : i = xs.length := by omega
      simp (maxSteps := 2000000) (disch := first | omega | assumption | exact idP rfl | exact idP (bL rfl)) only [go_sem, reduceIte, Nat.reduceEqDiff]
      exact hR _ _ (by (repeat (first | exact Sub.refl _ | assumption | (refine Sub.set' ?_ (by assumption))))) rfl
variable {HH : Type} {enc : TypeId × Value → HH} {W : World} {fuel : Nat} {cs : List Value} {x : DataW HH × List MemPlace}
end Go.M2

namespace Go.M2
open Go.Proofs
variable {M : MH}
theorem Gr.out {M0 Mb M Mr : MH} {v : V} {us : List V} {fp g : List (Nat × List V)} (h : Gr 1 Mb M v us) (hm : Mem M0 Mb fp) (k : Mem M Mr g) : ∃ Mb', Gr 1 Mb' Mr v us ∧ Mem M0 Mb' (fp ++ g) := by
  have key : Sub Mb (fun i => if blkV v = some i then none else Mr i) := fun i l hi => by
    have hne : blkV v ≠ some i := fun e => by rw [h.new i e] at hi; cases hi
    simp only [hne, if_false]; exact k.sub _ _ (h.sub _ _ hi)
  refine ⟨fun i => if blkV v = some i then none else Mr i, ⟨fun i l hi => ?_, fun b hb => by simp [hb], h.own.sub k.sub⟩, hm.add ⟨key, fun p hp => h.sub.none (k.new p hp), k.nd, fun p hp => ?_⟩⟩
  · have hi : (if blkV v = some i then none else Mr i) = some l := hi
    split at hi
    · cases hi
    · exact hi
  · have hne : blkV v ≠ some p.1 := fun e => by
      have h1 := k.new p hp
      rcases h.own with ⟨rfl, q, rfl⟩ | ⟨b', n, ex, rfl, h2, _⟩
      · simp [blkV] at e
      · simp [blkV] at e; subst e; rw [h1] at h2; cases h2
    simp only [hne, if_false]; exact k.at_ p hp
def RT (M0 M : MH) (v : V) (rows : List (List Int)) : Prop :=
  ∃ us us' fp Mb, Gr 1 Mb M v us ∧ Mem M0 Mb fp ∧ Tr us us' fp ∧ flatL us ∧ (∀ q ∈ fp, flatL q.2) ∧ us.all oneV = true ∧ Cs isL us' rows
section
variable {M0 M1 M2 : MH} {v u : V} {rows : List (List Int)} {ys : List Int}
theorem RT.sub (h : RT M0 M1 v rows) : Sub M0 M1 := by
  obtain ⟨us, us', fp, Mb, hg, hm, _⟩ := h
  exact hm.sub.trans hg.sub
theorem RT.nil {k : Nat} (h : Sub M0 M1) : RT M0 M1 (.sc (.sl none 0 0 true k)) [] := ⟨[], [], [], M1, .nil (Sub.refl _), .nil h, .nil, by simp [flatL], fun q hq => (by cases hq), rfl, .nil⟩
theorem RT.len (h : RT M0 M1 v rows) : lenF (er v) = some (.int .i64 (rows.length : Int)) := by
  obtain ⟨us, us', fp, Mb, hg, hm, ht, _, _, _, hc⟩ := h
  rw [hg.len1, ← hc.1, ht.len]
theorem RT.one (h : RT M0 M1 v rows) : One v := by
  obtain ⟨us, us', fp, Mb, hg, _⟩ := h
  exact hg.one
theorem RT.more (h : RT M0 M1 v rows) (hs : Sub M1 M2) : RT M0 M2 v rows := by
  obtain ⟨us, us', fp, Mb, hg, hm, h⟩ := h
  obtain ⟨Mb', g1, m1⟩ := hg.out hm (Mem.nil hs)
  rw [List.append_nil] at m1
  exact ⟨us, us', fp, Mb', g1, m1, h⟩
theorem RT.base {Mz : MH} (h : RT M0 M1 v rows) (hs : Sub Mz M0) : RT Mz M1 v rows := by
  obtain ⟨us, us', fp, Mb, hg, hm, h⟩ := h
  exact ⟨us, us', fp, Mb, hg, hm.base hs, h⟩
theorem RT.tree (h : RT M0 M1 v rows) : ∃ v' fp, Tr [v] [v'] fp ∧ Mem M0 M1 fp ∧ flat v ∧ (∀ q ∈ fp, flatL q.2) ∧ LII v' rows := by
  obtain ⟨us, us', fp, Mb, hg, hm, ht, hf, hff, _, hc⟩ := h
  rcases hg.own with ⟨rfl, k, rfl⟩ | ⟨b, n, ex, rfl, hb, hl⟩
  · cases ht
    have : rows = [] := List.eq_nil_of_length_eq_zero hc.1.symm
    subst this
    exact ⟨_, [], .refl _, .nil (hm.sub.trans hg.sub), by simp [flat], fun q hq => (by cases hq), .nil⟩
  · have hnew : Mb b = none := hg.new b rfl
    refine ⟨.fs (some (b, 0)) n n ex 1 (us'.drop 0), (b, us) :: (fp ++ []), .sl ht .nil, ?_, by simp [flat], fun q hq => ?_, ?_⟩
    · have k : Mem Mb M1 [(b, us)] := ⟨hg.sub, fun p hp => by simp at hp; subst hp; exact hnew, by simp [Nd2], fun p hp => by simp at hp; subst hp; exact hb⟩
      rw [List.append_nil]
      exact (hm.add k).perm List.perm_append_comm
    · simp only [List.append_nil, List.mem_cons] at hq
      rcases hq with rfl | h1
      · exact hf
      · exact hff q h1
    · have := ht.len
      exact Fr.lsC (us := us') (.inr ⟨_, _, _, _, _, by rw [List.drop_zero], by omega⟩) hc
theorem RT.dn (h : RT M0 M1 v rows) : Dn M0 M1 v (fun u => LII u rows) := h.tree
theorem RT.row (h : RT M0 M1 v rows) {i : Nat} (hi : i < rows.length) : ∃ (us : List V) (u u' : V) (g : List (Nat × List V)), (∀ {k : IntKind} {a : Int}, 0 ≤ a → a < (rows.length : Int) → iaddrV 1 v (.int k a) = some (.sc (.ptr (some (oB v, a.toNat))))) ∧ M1 (oB v) = some us ∧ us[i]? = some u ∧ One u ∧ Tr [u] [u'] g ∧ Nd2 g ∧ (∀ p ∈ g, M1 p.1 = some p.2) ∧ (∀ p ∈ g, M0 p.1 = none) ∧ LI u' rows[i] := by
  obtain ⟨us, us', fp, Mb, hg, hm, ht, hf, hff, ho, hc⟩ := h
  have hul : us.length = rows.length := by rw [← ht.len]; exact hc.1
  have hiu : i < us.length := by omega
  have hsp : us = us.take i ++ (us[i] :: us.drop (i + 1)) := by rw [← List.drop_eq_getElem_cons hiu, List.take_append_drop]
  rw [hsp] at ht
  obtain ⟨a', b', f1, f2, rfl, rfl, t1, t2⟩ := Tr.split (a := us.take i) (b := us[i] :: us.drop (i + 1)) (b' := []) ht
  obtain ⟨x', r', g1, g2, rfl, rfl, t3, t4⟩ := t2.uncons
  have hal : a'.length = i := by rw [t1.len, List.length_take]; omega
  have hmg : Mem M0 Mb g1 := hm.right.left
  have h4 := hc.2 i hi
  rw [List.getElem?_append_right (by omega), hal, Nat.sub_self] at h4
  obtain ⟨w, h5, h6⟩ := h4
  simp only [List.getElem?_cons_zero, Option.some.injEq] at h5
  subst h5
  have o1 := List.all_eq_true.1 ho _ (List.getElem_mem hiu)
  have fl := flatL_all.1 hf _ (List.getElem_mem hiu)
  refine ⟨us, us[i], x', g1, fun h0 h1 => hg.own.iaddr h0 (by rw [hul]; exact h1), hg.at (by omega), List.getElem?_eq_getElem hiu, ⟨o1, ?_⟩, t3, hmg.nd, fun p hp => hg.sub _ _ (hmg.at_ p hp), hmg.new, h6⟩
  rcases t3.inv1 with ⟨h1, h2⟩ | ⟨b, o, n, c, ex, k, cs, cs', g, h0, _⟩ | ⟨a, a', _, h0⟩ | ⟨a, a', _, h0⟩
  · simp only [List.cons.injEq, and_true] at h1
    rw [← h1]; exact h6.one.2
  · rw [h0]; rfl
  · rw [h0] at o1; exact absurd o1 (by simp [oneV, er, oneA])
  · rw [h0] at o1; exact absurd o1 (by simp [oneV, er, oneA])
theorem RT.snoc {s' : V} {M' : MH} {us us' : List V} {fp g : List (Nat × List V)} {u' : V} {Mb' : MH} (h1 : Gr 1 Mb' M' s' (us ++ [u])) (m1 : Mem M0 Mb' (fp ++ g)) (ht : Tr us us' fp) (htu : Tr [u] [u'] g) (hf : flatL us) (hfu : flat u) (hff : ∀ q ∈ fp, flatL q.2) (hfg : ∀ q ∈ g, flatL q.2)
    (ho : us.all oneV = true) (hou : oneV u = true) (hc : Cs isL us' rows) (hu : LI u' ys) : RT M0 M' s' (rows ++ [ys]) := by
  refine ⟨us ++ [u], us' ++ [u'], fp ++ g, Mb', h1, m1, ht.append htu, ?_, ?_, by simp [ho, hou], hc.snoc (x := ys) hu⟩
  · exact flatL_all.2 fun w hw => by
      rcases List.mem_append.1 hw with h2 | h2
      · exact flatL_all.1 hf w h2
      · rw [List.mem_singleton] at h2; subst h2; exact hfu
  · intro w hw
    rcases List.mem_append.1 hw with h2 | h2
    · exact hff w h2
    · exact hfg w h2
theorem app_rowO {K : V → MH → Prop} {by_ bt c k : Nat} {ex : Bool} (h : RT M0 M1 v rows) (ho : oneV u = true) (hd : Dn M1 M2 u (fun u' => LI u' ys)) (hbt : M2 bt = none) (hb : rows.length + 1 ≤ 34359738368) (hby : by_ ≤ 32)
    (hk : ∀ s' M' us', RT M0 M' s' (rows ++ [ys]) → M' (oB s') = some us' → us'[rows.length]? = some u → K s' M') : appV 1 by_ v (.sc (.sl (some (bt, 0)) 1 c ex k)) (M2.set bt [u]) K := by
  obtain ⟨us, us', fp, Mb, hg, hm, ht, hf, hff, hos, hc⟩ := h
  obtain ⟨u', g, tg, mg, fu, fg, hu⟩ := hd
  obtain ⟨Mb', g1, m1⟩ := hg.out hm mg
  have hul : us.length = rows.length := by rw [← ht.len]; exact hc.1
  exact app_val g1 hbt ho (by omega) hby fun s' M' h1 _ => hk s' M' (us ++ [u]) (RT.snoc h1 m1 ht tg hf fu hff fg hos ho hc hu) (h1.at (by simp)) (by rw [← hul]; simp)
theorem t_cloneRows (h : RT M0 M v rows) (hl : rows.length ≤ 1048576) : VCall Try.prog n_impl_clone_Sint [v] M (fun r M' => RT M0 M' r rows) := by
  obtain ⟨us, us', fp, Mb, hg, hm, ht, hf, hff, hos, hc⟩ := h
  have hul : us.length = rows.length := by rw [← ht.len]; exact hc.1
  have fin : ∀ r M', Gr 1 M M' r us → RT M0 M' r rows := fun r M' h1 => ⟨us, us', fp, M, h1, hm.more hg.sub, ht, hf, hff, hos, hc⟩
  refine VCall.plain fun R hR => v_impl_clone_Sint rfl ?_
  have hlen := hg.len1
  simp (maxSteps := 2000000) (disch := first | omega | assumption | exact idP rfl | exact idP (bL rfl)) only [go_sem, reduceIte, Nat.reduceEqDiff, hlen]
  refine cond_dec (fun h => ?_) (fun h => ?_)
  · simp (maxSteps := 2000000) (disch := first | omega | assumption | exact idP rfl | exact idP (bL rfl)) only [go_sem, reduceIte, Nat.reduceEqDiff]
    have : us = [] := List.eq_nil_of_length_eq_zero (by omega)
    subst this
    exact hR _ _ (fin _ _ (.nil (Sub.refl _)))
  · simp (maxSteps := 2000000) (disch := first | omega | assumption | exact idP rfl | exact idP (bL rfl)) only [go_sem, reduceIte, Nat.reduceEqDiff, hlen]
    refine mks3 (by omega) (by simp [mostCells]; omega) (by simp [mostCells]; omega) ?_
    intro b3 hb3
    rcases hg.own with ⟨rfl, q, rfl⟩ | ⟨b, n, ex, rfl, hb, hn⟩
    · exact absurd rfl h
    have hne : b ≠ b3 := fun e => by subst e; rw [hb3] at hb; cases hb
    have hz : ((zeros [AV.sl none 0 0 true 0] us.length).map V.sc).length = us.length := by simp [zeros_length]
    simp (maxSteps := 2000000) (disch := first | omega | assumption | exact idP rfl | exact idP (bL rfl)) only [go_sem, reduceIte, Nat.reduceEqDiff]
    generalize hZ : (zeros [AV.sl none 0 0 true 0] us.length).map V.sc = Z at hz ⊢
    refine copy_own (t := us.length) (ls := us) (ld := Z) (by rw [set_ne hne]; exact hb) set_same (by omega) (by omega) (by omega) (by omega) (by simpa using hos) ?_
    simp only [List.drop_zero, List.take_length]
    rw [setAtG_all _ _ _ (by omega)]
    simp (maxSteps := 2000000) (disch := first | omega | assumption | exact idP rfl | exact idP (bL rfl)) only [go_sem, reduceIte, Nat.reduceEqDiff]
    exact hR _ _ (fin _ _ (Gr.new' (Sub.refl _) hb3 (by simp)))
end
def uResO (M M' : MH) (r : V) : Option (List Int) → Prop
  | none => r = .tup [.sc (.sl none 0 0 true 0), .sc (.bool false)] ∧ Sub M M'
  | some xs => ∃ u, r = .tup [u, .sc (.bool true)] ∧ Gr 1 M M' u (xs.map vi)
end Go.M2

namespace Go.M2
open Go.Proofs
variable {M : MH}
theorem o_use {v w : V} {s : SysS} {st : List Int} {k : Nat} (hv : isSys s v) (hs : SysOk s) (hw : LI w st) (hin : StIn s.vars st) (hk : k < s.rules.length) :
    VCall Try.prog n_impl_use [v, w, .sc (.int .i64 k)] M (fun r M' => uResO M M' r (useR s.vars s.rules[k] st)) := by
  refine VCall.plain fun R hR => v_impl_use rfl ?_
  obtain ⟨a, b, rfl, ha, hb⟩ := hv
  obtain ⟨x, y, z, hat, hx, hy, hz⟩ := hb.elt hk
  have h1 := hs.v1
  have h5 := hs.v5
  have hl := hin.1
  have hok := hin.ok hs
  obtain ⟨hw2, hst, hsets⟩ := hs.rules _ (List.getElem_mem hk)
  obtain ⟨kw, hkw⟩ := kind_some hw2
  have hx1 := hx.one.1
  have hy1 := hy.one.1
  have hz1 := hz.one.1
  (repeat' (first | ((first | with_reducible refine cond_dec (fun h => ?_) (fun h => ?_) | with_reducible refine guardK_dec (fun h => ?_) (fun h => ?_) | with_reducible refine guardD3_dec (fun h => ?_) (fun h => ?_)) <;> first | (exfalso; omega) | (simp (maxSteps := 2000000) (disch := first | omega | assumption | exact idP rfl | exact idP (bL rfl)) only [go_sem, reduceIte, Nat.reduceEqDiff, h, hb.len, hb.iaddr, hat]) | skip) | ((first | with_reducible refine cond_split (fun h => ?_) (fun h => ?_) | with_reducible refine guardK_split (fun h => ?_) (fun h => ?_) | with_reducible refine guardD3_split (fun h => ?_) (fun h => ?_)) <;> ((try simp only [Bool.not_eq_true', Bool.not_eq_false'] at h); first | (simp (maxSteps := 2000000) (disch := first | omega | assumption | exact idP rfl | exact idP (bL rfl)) only [go_sem, reduceIte, Nat.reduceEqDiff, h, hb.len, hb.iaddr, hat]) | skip)) | ((with_reducible refine (t_eval hx hw hkw hok (by omega)).mono ?_); rintro _ _ ⟨rfl, rfl⟩) | (with_reducible intro bk hbk; try have hnk := (fresh_set hbk).1) | (simp (maxSteps := 2000000) (disch := first | omega | assumption | exact idP rfl | exact idP (bL rfl)) only [go_sem, reduceIte, Nat.reduceEqDiff, hb.len, hb.iaddr, hat])))
  · refine hR _ _ ?_
    rename_i h
    simp only [useR, h, if_true, uResO]
    exact ⟨trivial, by (repeat (first | exact Sub.refl _ | assumption | (refine Sub.set' ?_ (by assumption))))⟩
  · rename_i b3 hb3
    have hev := h
    refine (t_cloneInt hw (by omega)).mono ?_
    rintro r M1 hg
    have hm8 : M1 bk = some [x, y, z] := hg.sub _ _ (by simp (maxSteps := 2000000) (disch := first | omega | assumption | exact idP rfl | exact idP (bL rfl)) only [go_sem, reduceIte, Nat.reduceEqDiff])
    simp (maxSteps := 2000000) (disch := first | omega | assumption | exact idP rfl | exact idP (bL rfl)) only [go_sem, reduceIte, Nat.reduceEqDiff, hm8, hy.len]
    refine loop_k (fun e M' => ∃ i : Nat, i ≤ s.rules[k].sets.length ∧ e 1 = w ∧ e 3 = .sc (.ptr (some (b3, 0))) ∧ e 8 = .sc (.ptr (some (bk, 0))) ∧ e 25 = y ∧ e 26 = .sc (.int .i64 s.rules[k].sets.length) ∧ e 27 = .sc (.int .i64 i) ∧ Gr 1 ((M.set b3 [a, b]).set bk [x, y, z]) M' (e 9) ((setsF st s.rules[k].terms s.rules[k].sets i).map vi)) (fun e _ => ctrV s.rules[k].sets.length (e 27)) ?_ ?_
    · exact ⟨0, by omega, by simp (maxSteps := 2000000) (disch := first | omega | assumption | exact idP rfl | exact idP (bL rfl)) only [go_sem, reduceIte, Nat.reduceEqDiff], by simp (maxSteps := 2000000) (disch := first | omega | assumption | exact idP rfl | exact idP (bL rfl)) only [go_sem, reduceIte, Nat.reduceEqDiff], by simp (maxSteps := 2000000) (disch := first | omega | assumption | exact idP rfl | exact idP (bL rfl)) only [go_sem, reduceIte, Nat.reduceEqDiff], by simp (maxSteps := 2000000) (disch := first | omega | assumption | exact idP rfl | exact idP (bL rfl)) only [go_sem, reduceIte, Nat.reduceEqDiff], by simp (maxSteps := 2000000) (disch := first | omega | assumption | exact idP rfl | exact idP (bL rfl)) only [go_sem, reduceIte, Nat.reduceEqDiff], by simp (maxSteps := 2000000) (disch := first | omega | assumption | exact idP rfl | exact idP (bL rfl)) only [go_sem, reduceIte, Nat.reduceEqDiff]; rfl, by simp (maxSteps := 2000000) (disch := first | omega | assumption | exact idP rfl | exact idP (bL rfl)) only [go_sem, reduceIte, Nat.reduceEqDiff]; exact hg⟩
    · rintro e M2 ⟨i, hi, e1, e3, e8, e25, e26, e27, hg⟩ K2 hK2
      have hm3 : M2 b3 = some [a, b] := hg.sub _ _ (by simp (maxSteps := 2000000) (disch := first | omega | assumption | exact idP rfl | exact idP (bL rfl)) only [go_sem, reduceIte, Nat.reduceEqDiff])
      have hm8 : M2 bk = some [x, y, z] := hg.sub _ _ (by simp (maxSteps := 2000000) (disch := first | omega | assumption | exact idP rfl | exact idP (bL rfl)) only [go_sem, reduceIte, Nat.reduceEqDiff])
      have hsl := setsF_len st s.rules[k].terms s.rules[k].sets i
      have hle := sets_le hsets (by omega)
      simp (maxSteps := 2000000) (disch := first | omega | assumption | exact idP rfl | exact idP (bL rfl)) only [go_sem, reduceIte, Nat.reduceEqDiff, e26, e27]
      refine cond_dec (fun h => ?_) (fun h => ?_)
      · have hi' : i < s.rules[k].sets.length := by omega
        have hi2 : i < s.rules[k].terms.length := by omega
        obtain ⟨ki, hki⟩ := kind_some (hsets.kind hi' hi2)
        have hset := (hsets i hi').1
        have hat8 := hg.at (by rw [len_vi]; omega)
        have hia : ∀ {k : IntKind} {a : Int}, 0 ≤ a → a < (st.length : Int) → iaddrV 1 (e 9) (.int k a) = some (.sc (.ptr (some (oB (e 9), a.toNat)))) := fun q1 q2 => hg.own.iaddr q1 (by rw [len_vi, hsl]; exact q2)
        have hso : s.rules[k].sets[i].toNat < ((setsF st s.rules[k].terms s.rules[k].sets i).map vi).length := by rw [len_vi]; omega
        simp (maxSteps := 2000000) (disch := first | omega | assumption | exact idP rfl | exact idP (bL rfl)) only [go_sem, reduceIte, Nat.reduceEqDiff, e1, e3, e8, e25, e27, hm8, hy.iaddr, hy.at hi', hz.iaddr]
        refine (t_eval (hz.elt hi2) hw hki hok (by omega)).mono ?_
        rintro _ _ ⟨rfl, rfl⟩
        simp (maxSteps := 2000000) (disch := first | omega | assumption | exact idP rfl | exact idP (bL rfl)) only [go_sem, reduceIte, Nat.reduceEqDiff, e1, e3, e8, e25, e26, e27, hm8, hia, hat8]
        refine hK2 _ _ ⟨i + 1, by omega, by simp (maxSteps := 2000000) (disch := first | omega | assumption | exact idP rfl | exact idP (bL rfl)) only [go_sem, reduceIte, Nat.reduceEqDiff], by simp (maxSteps := 2000000) (disch := first | omega | assumption | exact idP rfl | exact idP (bL rfl)) only [go_sem, reduceIte, Nat.reduceEqDiff], by simp (maxSteps := 2000000) (disch := first | omega | assumption | exact idP rfl | exact idP (bL rfl)) only [go_sem, reduceIte, Nat.reduceEqDiff], by simp (maxSteps := 2000000) (disch := first | omega | assumption | exact idP rfl | exact idP (bL rfl)) only [go_sem, reduceIte, Nat.reduceEqDiff], by simp (maxSteps := 2000000) (disch := first | omega | assumption | exact idP rfl | exact idP (bL rfl)) only [go_sem, reduceIte, Nat.reduceEqDiff], by simp (maxSteps := 2000000) (disch := first | omega | assumption | exact idP rfl | exact idP (bL rfl)) only [go_sem, reduceIte, Nat.reduceEqDiff]; rfl, ?_⟩ (by simp (maxSteps := 2000000) (disch := first | omega | assumption | exact idP rfl | exact idP (bL rfl)) only [go_sem, reduceIte, Nat.reduceEqDiff, ctrV_int, e27]; omega)
        simp (maxSteps := 2000000) (disch := first | omega | assumption | exact idP rfl | exact idP (bL rfl)) only [go_sem, reduceIte, Nat.reduceEqDiff]
        have := hg.setO (l' := (setsF st s.rules[k].terms s.rules[k].sets (i + 1)).map vi) (by rw [len_vi]; omega) (by simp [setsF_len])
        simp only [setsF, getD_eq hi', getD_eq hi2] at this ⊢
        rw [← set_vi] at this ⊢
        exact this
      · obtain rfl : i = s.rules[k].sets.length := by omega
        simp (maxSteps := 2000000) (disch := first | omega | assumption | exact idP rfl | exact idP (bL rfl)) only [go_sem, reduceIte, Nat.reduceEqDiff, hm3, e3]
        refine (VCall.lend1 hg.own flat_eq fun u M' hu => t_inRange ha hu.li (by omega)).mono ?_
        rintro _ _ ⟨rfl, rfl⟩
        have hsub : Sub M ((M.set b3 [a, b]).set bk [x, y, z]) := by (repeat (first | exact Sub.refl _ | assumption | (refine Sub.set' ?_ (by assumption))))
        cases hib : inB s.vars (setsF st s.rules[k].terms s.rules[k].sets s.rules[k].sets.length) with
        | false =>
          simp (maxSteps := 2000000) (disch := first | omega | assumption | exact idP rfl | exact idP (bL rfl)) only [go_sem, reduceIte, Nat.reduceEqDiff]
          refine hR _ _ ?_
          have : useR s.vars s.rules[k] st = none := by simp [useR, hev, hib]
          rw [this]
          exact ⟨rfl, hsub.trans hg.sub⟩
        | true =>
          simp (maxSteps := 2000000) (disch := first | omega | assumption | exact idP rfl | exact idP (bL rfl)) only [go_sem, reduceIte, Nat.reduceEqDiff]
          have : useR s.vars s.rules[k] st = some (setsF st s.rules[k].terms s.rules[k].sets s.rules[k].sets.length) := by simp [useR, hev, hib]
          refine hR _ _ ?_
          rw [this]
          exact ⟨_, rfl, ⟨hsub.trans hg.sub, fun b' h' => hsub.none (hg.new b' h'), hg.own⟩⟩
end Go.M2

namespace Go.M2
open Go.Proofs
variable {M : MH}
noncomputable def inS (s : SysS) (st : List Int) : Bool := sysB s && inB s.vars st
theorem t_impInRange {v w : V} {s : SysS} {st : List Int} (hv : isSys s v) (hz : SysSz s) (hw : LI w st) : VCall Try.prog n_impl_InRange [v, w] M (fun r M' => M = M' ∧ r = .sc (.bool (inS s st))) := by
  refine VCall.pure fun R hR => v_impl_InRange rfl ?_
  have hv0 := hv
  obtain ⟨a, b, rfl, ha, hb⟩ := hv
  (repeat' (first | ((first | with_reducible refine cond_dec (fun h => ?_) (fun h => ?_) | with_reducible refine guardK_dec (fun h => ?_) (fun h => ?_) | with_reducible refine guardD3_dec (fun h => ?_) (fun h => ?_)) <;> first | (exfalso; omega) | (simp (maxSteps := 2000000) (disch := first | omega | assumption | exact idP rfl | exact idP (bL rfl)) only [go_sem, reduceIte, Nat.reduceEqDiff, h]) | skip) | ((first | with_reducible refine cond_split (fun h => ?_) (fun h => ?_) | with_reducible refine guardK_split (fun h => ?_) (fun h => ?_) | with_reducible refine guardD3_split (fun h => ?_) (fun h => ?_)) <;> ((try simp only [Bool.not_eq_true', Bool.not_eq_false'] at h); first | (simp (maxSteps := 2000000) (disch := first | omega | assumption | exact idP rfl | exact idP (bL rfl)) only [go_sem, reduceIte, Nat.reduceEqDiff, h]) | skip)) | ((with_reducible refine (t_impSystemValid hv0 hz).mono ?_); rintro _ _ ⟨rfl, rfl⟩) | (with_reducible intro bk hbk; try have hnk := (fresh_set hbk).1) | (simp (maxSteps := 2000000) (disch := first | omega | assumption | exact idP rfl | exact idP (bL rfl)) only [go_sem, reduceIte, Nat.reduceEqDiff])))
  · have hs := (sysB_iff s).1 h
    (repeat' (first | ((first | with_reducible refine cond_dec (fun h => ?_) (fun h => ?_) | with_reducible refine guardK_dec (fun h => ?_) (fun h => ?_) | with_reducible refine guardD3_dec (fun h => ?_) (fun h => ?_)) <;> first | (exfalso; omega) | (simp (maxSteps := 2000000) (disch := first | omega | assumption | exact idP rfl | exact idP (bL rfl)) only [go_sem, reduceIte, Nat.reduceEqDiff, h]) | skip) | ((first | with_reducible refine cond_split (fun h => ?_) (fun h => ?_) | with_reducible refine guardK_split (fun h => ?_) (fun h => ?_) | with_reducible refine guardD3_split (fun h => ?_) (fun h => ?_)) <;> ((try simp only [Bool.not_eq_true', Bool.not_eq_false'] at h); first | (simp (maxSteps := 2000000) (disch := first | omega | assumption | exact idP rfl | exact idP (bL rfl)) only [go_sem, reduceIte, Nat.reduceEqDiff, h]) | skip)) | ((with_reducible refine (t_inRange ha hw hs.v5).mono ?_); rintro _ _ ⟨rfl, rfl⟩) | (with_reducible intro bk hbk; try have hnk := (fresh_set hbk).1) | (simp (maxSteps := 2000000) (disch := first | omega | assumption | exact idP rfl | exact idP (bL rfl)) only [go_sem, reduceIte, Nat.reduceEqDiff])))
    exact hR _ _ (by (repeat (first | exact Sub.refl _ | assumption | (refine Sub.set' ?_ (by assumption))))) (by simp [inS, h])
  · exact hR _ _ (by (repeat (first | exact Sub.refl _ | assumption | (refine Sub.set' ?_ (by assumption))))) (by simp [inS, h])
theorem t_InRange {v w : V} {s : SysS} {st : List Int} (hv : isSys s v) (hw : LI w st) : VCall Try.prog n_spec_InRange [v, w] M (fun r M' => M = M' ∧ r = .sc (.bool (inS s st))) := by
  refine VCall.pure fun R hR => v_spec_InRange rfl ?_
  have hv0 := hv
  obtain ⟨a, b, rfl, ha, hb⟩ := hv
  (repeat' (first | ((first | with_reducible refine cond_dec (fun h => ?_) (fun h => ?_) | with_reducible refine guardK_dec (fun h => ?_) (fun h => ?_) | with_reducible refine guardD3_dec (fun h => ?_) (fun h => ?_)) <;> first | (exfalso; omega) | (simp (maxSteps := 2000000) (disch := first | omega | assumption | exact idP rfl | exact idP (bL rfl)) only [go_sem, reduceIte, Nat.reduceEqDiff, h]) | skip) | ((first | with_reducible refine cond_split (fun h => ?_) (fun h => ?_) | with_reducible refine guardK_split (fun h => ?_) (fun h => ?_) | with_reducible refine guardD3_split (fun h => ?_) (fun h => ?_)) <;> ((try simp only [Bool.not_eq_true', Bool.not_eq_false'] at h); first | (simp (maxSteps := 2000000) (disch := first | omega | assumption | exact idP rfl | exact idP (bL rfl)) only [go_sem, reduceIte, Nat.reduceEqDiff, h]) | skip)) | ((with_reducible refine (t_SystemValidS hv0).mono ?_); rintro _ _ ⟨rfl, rfl⟩) | (with_reducible intro bk hbk; try have hnk := (fresh_set hbk).1) | (simp (maxSteps := 2000000) (disch := first | omega | assumption | exact idP rfl | exact idP (bL rfl)) only [go_sem, reduceIte, Nat.reduceEqDiff])))
  · have hs := (sysB_iff s).1 h
    (repeat' (first | ((first | with_reducible refine cond_dec (fun h => ?_) (fun h => ?_) | with_reducible refine guardK_dec (fun h => ?_) (fun h => ?_) | with_reducible refine guardD3_dec (fun h => ?_) (fun h => ?_)) <;> first | (exfalso; omega) | (simp (maxSteps := 2000000) (disch := first | omega | assumption | exact idP rfl | exact idP (bL rfl)) only [go_sem, reduceIte, Nat.reduceEqDiff, h]) | skip) | ((first | with_reducible refine cond_split (fun h => ?_) (fun h => ?_) | with_reducible refine guardK_split (fun h => ?_) (fun h => ?_) | with_reducible refine guardD3_split (fun h => ?_) (fun h => ?_)) <;> ((try simp only [Bool.not_eq_true', Bool.not_eq_false'] at h); first | (simp (maxSteps := 2000000) (disch := first | omega | assumption | exact idP rfl | exact idP (bL rfl)) only [go_sem, reduceIte, Nat.reduceEqDiff, h]) | skip)) | ((with_reducible refine (t_l2In ha hw hs.v5).mono ?_); rintro _ _ ⟨rfl, rfl⟩) | (with_reducible intro bk hbk; try have hnk := (fresh_set hbk).1) | (simp (maxSteps := 2000000) (disch := first | omega | assumption | exact idP rfl | exact idP (bL rfl)) only [go_sem, reduceIte, Nat.reduceEqDiff])))
    exact hR _ _ (by (repeat (first | exact Sub.refl _ | assumption | (refine Sub.set' ?_ (by assumption))))) (by simp [inS, h])
  · exact hR _ _ (by (repeat (first | exact Sub.refl _ | assumption | (refine Sub.set' ?_ (by assumption))))) (by simp [inS, h])
theorem inS_iff {s : SysS} {st : List Int} : inS s st = true ↔ SysOk s ∧ StIn s.vars st := by
  simp [inS, sysB_iff, inB_iff]
end Go.M2

namespace Go.M2
open Go.Proofs
variable {M : MH}
theorem l_eqIntSS {v v' w : V} {fp : List (Nat × List V)} {xs : List (List Int)} (ht : Tr [v] [v'] fp) (hv : LII v' xs) (hm : ∀ p ∈ fp, M p.1 = some p.2) (hn : Nd2 fp) (hw : LII w xs) (hl : xs.length ≤ 1048576) (hl2 : ∀ ts ∈ xs, ts.length ≤ 1048576) : VCall Try.prog n_laws_eqIntSS [v, w] M (fun r M' => M = M' ∧ r = .sc (.bool true)) := by
  have h2 : Tr [v, w] [v', w] (fp ++ []) := ht.append (.keep w .nil)
  rw [List.append_nil] at h2
  exact VCall.lendP h2 hm hn flat_bool fun M' => x_eqIntSS hv hw hl hl2
theorem Hd.frame {M' : MH} {v : V} {n : Nat} {k : Int} (h : Hd M v n k) (hb : ∀ b, blkV v = some b → M' b = M b) : Hd M' v n k := by
  rcases h with h | ⟨b, o, c, ex, kk, l, rfl, hm, hl⟩
  · exact .inl h
  · exact .inr ⟨b, o, c, ex, kk, l, rfl, by rw [hb b rfl]; exact hm, hl⟩
def offN (rows : List (List Int)) (i : Nat) : Nat := (rows.take i).flatten.length
theorem offN_zero (rows : List (List Int)) : offN rows 0 = 0 := by simp [offN]
theorem offN_succ {rows : List (List Int)} {i : Nat} (h : i < rows.length) : offN rows (i + 1) = offN rows i + rows[i].length := by
  unfold offN
  rw [take_snoc h, List.flatten_append, List.length_append]; simp
theorem offN_le {rows : List (List Int)} (h : ∀ ts ∈ rows, ts.length ≤ 1048576) : ∀ i, i ≤ rows.length → offN rows i ≤ 1048576 * i
  | 0, _ => by simp [offN]
  | i + 1, hi => by
    have h1 := offN_le h i (by omega)
    rw [offN_succ (by omega)]
    have := h _ (List.getElem_mem (show i < rows.length by omega))
    omega
def HdS (M : MH) (v : V) (rows : List (List Int)) (k : Int) : Prop := (rows = [] ∧ ∃ q, v = .sc (.sl none 0 0 true q)) ∨ ∃ b o c ex kk cs, v = .sc (.sl (some (b, o)) rows.length c ex kk) ∧ M b = some cs ∧ ∀ i (h : i < rows.length), ∃ u, cs[o + i]? = some u ∧ Hd M u rows[i].length (k + offN rows i)
theorem t_heldIntSS {v : V} {rows : List (List Int)} {k : Int} (hv : HdS M v rows k) (hl : rows.length ≤ 1048576) (hl2 : ∀ ts ∈ rows, ts.length ≤ 1048576) (hk : 0 ≤ k) (hk2 : k ≤ 8900000000000000000) : VCall Try.prog n_laws_heldIntSS [v, .sc (.int .i64 k)] M (fun r M' => M = M' ∧ r = .sc (.int .i64 (k + offN rows rows.length))) := by
  refine VCall.pure fun R hR => v_laws_heldIntSS rfl ?_
  rcases hv with ⟨rfl, q, rfl⟩ | ⟨b, o, c, ex, kk, cs, rfl, hm, hc⟩
  · simp (maxSteps := 2000000) (disch := first | omega | assumption | exact idP rfl | exact idP (bL rfl)) only [go_sem, reduceIte, Nat.reduceEqDiff]
    refine loop_k (fun e M' => M' = M ∧ e 0 = .sc (.sl none 0 0 true q) ∧ e 1 = .sc (.int .i64 k) ∧ e 5 = .sc (.int .i64 0)) (fun e _ => 0) ⟨rfl, by simp (maxSteps := 2000000) (disch := first | omega | assumption | exact idP rfl | exact idP (bL rfl)) only [go_sem, reduceIte, Nat.reduceEqDiff], by simp (maxSteps := 2000000) (disch := first | omega | assumption | exact idP rfl | exact idP (bL rfl)) only [go_sem, reduceIte, Nat.reduceEqDiff], by simp (maxSteps := 2000000) (disch := first | omega | assumption | exact idP rfl | exact idP (bL rfl)) only [go_sem, reduceIte, Nat.reduceEqDiff]⟩ ?_
    rintro e _ ⟨rfl, e0, e1, e5⟩ K hK
    simp (maxSteps := 2000000) (disch := first | omega | assumption | exact idP rfl | exact idP (bL rfl)) only [go_sem, reduceIte, Nat.reduceEqDiff, e0, e1, e5]
    exact hR _ _ (by (repeat (first | exact Sub.refl _ | assumption | (refine Sub.set' ?_ (by assumption))))) (by rw [show ((offN [] ([] : List (List Int)).length : Nat) : Int) = 0 from rfl, Int.add_zero]; rfl)
  · simp (maxSteps := 2000000) (disch := first | omega | assumption | exact idP rfl | exact idP (bL rfl)) only [go_sem, reduceIte, Nat.reduceEqDiff]
    refine loop_k (fun e M' => M' = M ∧ ∃ i : Nat, i ≤ rows.length ∧ e 0 = .sc (.sl (some (b, o)) rows.length c ex kk) ∧ e 1 = .sc (.int .i64 (k + offN rows i)) ∧ e 5 = .sc (.int .i64 i)) (fun e _ => ctrV rows.length (e 5)) ?_ ?_
    · exact ⟨rfl, 0, by omega, by simp (maxSteps := 2000000) (disch := first | omega | assumption | exact idP rfl | exact idP (bL rfl)) only [go_sem, reduceIte, Nat.reduceEqDiff], by simp (maxSteps := 2000000) (disch := first | omega | assumption | exact idP rfl | exact idP (bL rfl)) only [go_sem, reduceIte, Nat.reduceEqDiff]; simp [offN_zero], by simp (maxSteps := 2000000) (disch := first | omega | assumption | exact idP rfl | exact idP (bL rfl)) only [go_sem, reduceIte, Nat.reduceEqDiff]; rfl⟩
    · rintro e _ ⟨rfl, i, hi, e0, e1, e5⟩ K hK
      have hob := offN_le hl2 i hi
      simp (maxSteps := 2000000) (disch := first | omega | assumption | exact idP rfl | exact idP (bL rfl)) only [go_sem, reduceIte, Nat.reduceEqDiff, e0, e1, e5]
      refine cond_dec (fun h => ?_) (fun h => ?_)
      · have hi' : i < rows.length := by omega
        obtain ⟨u, h1, h2⟩ := hc i hi'
        have h1' : cs[o + i * 1]? = some u := by rw [Nat.mul_one]; exact h1
        have hrl := hl2 _ (List.getElem_mem hi')
        simp (maxSteps := 2000000) (disch := first | omega | assumption | exact idP rfl | exact idP (bL rfl)) only [go_sem, reduceIte, Nat.reduceEqDiff, e0, e1, e5, hm, h1, h1']
        refine (t_heldIntS h2 hrl (by omega) (by omega)).mono ?_
        rintro _ _ ⟨rfl, rfl⟩
        have hos := offN_succ hi'
        (repeat' (first | ((first | with_reducible refine cond_dec (fun h => ?_) (fun h => ?_) | with_reducible refine guardK_dec (fun h => ?_) (fun h => ?_) | with_reducible refine guardD3_dec (fun h => ?_) (fun h => ?_)) <;> first | (exfalso; omega) | (simp (maxSteps := 2000000) (disch := first | omega | assumption | exact idP rfl | exact idP (bL rfl)) only [go_sem, reduceIte, Nat.reduceEqDiff, h]) | skip) | ((first | with_reducible refine cond_split (fun h => ?_) (fun h => ?_) | with_reducible refine guardK_split (fun h => ?_) (fun h => ?_) | with_reducible refine guardD3_split (fun h => ?_) (fun h => ?_)) <;> ((try simp only [Bool.not_eq_true', Bool.not_eq_false'] at h); first | (simp (maxSteps := 2000000) (disch := first | omega | assumption | exact idP rfl | exact idP (bL rfl)) only [go_sem, reduceIte, Nat.reduceEqDiff, h]) | skip)) | (with_reducible intro bk hbk; try have hnk := (fresh_set hbk).1) | (simp (maxSteps := 2000000) (disch := first | omega | assumption | exact idP rfl | exact idP (bL rfl)) only [go_sem, reduceIte, Nat.reduceEqDiff])))
        refine hK _ _ ⟨rfl, i + 1, by omega, by simp (maxSteps := 2000000) (disch := first | omega | assumption | exact idP rfl | exact idP (bL rfl)) only [go_sem, reduceIte, Nat.reduceEqDiff, e0], by simp (maxSteps := 2000000) (disch := first | omega | assumption | exact idP rfl | exact idP (bL rfl)) only [go_sem, reduceIte, Nat.reduceEqDiff]; rw [hos, Int.natCast_add, Int.add_assoc], by simp (maxSteps := 2000000) (disch := first | omega | assumption | exact idP rfl | exact idP (bL rfl)) only [go_sem, reduceIte, Nat.reduceEqDiff, e5]; rfl⟩ (by simp (maxSteps := 2000000) (disch := first | omega | assumption | exact idP rfl | exact idP (bL rfl)) only [go_sem, reduceIte, Nat.reduceEqDiff, ctrV_int, e5]; omega)
      · obtain rfl : i = rows.length := by omega
        simp (maxSteps := 2000000) (disch := first | omega | assumption | exact idP rfl | exact idP (bL rfl)) only [go_sem, reduceIte, Nat.reduceEqDiff, e1]
        exact hR _ _ (by (repeat (first | exact Sub.refl _ | assumption | (refine Sub.set' ?_ (by assumption))))) rfl
theorem t_markRk {v v' : V} {fp : List (Nat × List V)} {ys : List Int} {k : Int} (ht : Tr [v] [v'] fp) (hf : flat v) (hv : LI v' ys) (hm : ∀ p ∈ fp, M p.1 = some p.2) (hl : ys.length ≤ 1048576) (hk : 0 ≤ k) (hk2 : k ≤ 9000000000000000000) :
    VCall Try.prog n_laws_markIntS [v, .sc (.int .i64 k)] M (fun r M' => r = .sc (.int .i64 (k + ys.length)) ∧ Hd M' v ys.length k ∧ (∀ b, blkV v = some b → inF fp b = true) ∧ ∀ q, inF fp q = false → M' q = M q) := by
  refine VCall.plain fun R hR => v_laws_markIntS rfl ?_
  rcases ht.win hf (ls_lc hv) with ⟨q, rfl, rfl⟩ | ⟨b, o, c, ex, kk, cs, cs', g, rfl, h2, rfl, h3, h4⟩
  · simp (maxSteps := 2000000) (disch := first | omega | assumption | exact idP rfl | exact idP (bL rfl)) only [go_sem, reduceIte, Nat.reduceEqDiff]
    refine loop_k (fun e M' => M' = M ∧ e 0 = .sc (.sl none 0 0 true q) ∧ e 1 = .sc (.int .i64 k) ∧ e 5 = .sc (.int .i64 0)) (fun e _ => 0) ⟨rfl, by simp (maxSteps := 2000000) (disch := first | omega | assumption | exact idP rfl | exact idP (bL rfl)) only [go_sem, reduceIte, Nat.reduceEqDiff], by simp (maxSteps := 2000000) (disch := first | omega | assumption | exact idP rfl | exact idP (bL rfl)) only [go_sem, reduceIte, Nat.reduceEqDiff], by simp (maxSteps := 2000000) (disch := first | omega | assumption | exact idP rfl | exact idP (bL rfl)) only [go_sem, reduceIte, Nat.reduceEqDiff]⟩ ?_
    rintro e _ ⟨rfl, e0, e1, e5⟩ K hK
    simp (maxSteps := 2000000) (disch := first | omega | assumption | exact idP rfl | exact idP (bL rfl)) only [go_sem, reduceIte, Nat.reduceEqDiff, e0, e1, e5]
    exact hR _ _ ⟨by rw [List.length_nil, Int.natCast_zero, Int.add_zero]; rfl, .inl ⟨rfl, q, rfl⟩, fun b hb => by simp [blkV] at hb, fun q _ => rfl⟩
  · have hmb : M b = some cs := hm (b, cs) (List.mem_cons_self ..)
    have hfb := inF_mem (fp := (b, cs) :: g) (p := (b, cs)) (List.mem_cons_self ..)
    simp (maxSteps := 2000000) (disch := first | omega | assumption | exact idP rfl | exact idP (bL rfl)) only [go_sem, reduceIte, Nat.reduceEqDiff]
    refine loop_k (fun e M' => ∃ (i : Nat) (l' : List V), i ≤ ys.length ∧ e 0 = .sc (.sl (some (b, o)) ys.length c ex kk) ∧ e 1 = .sc (.int .i64 (k + i)) ∧ e 5 = .sc (.int .i64 i) ∧ (∀ q, q ≠ b → M' q = M q) ∧ M' b = some l' ∧ l'.length = cs.length ∧ ∀ j, j < i → l'[o + j]? = some (.sc (.int .i64 (k + j)))) (fun e _ => ctrV ys.length (e 5)) ?_ ?_
    · exact ⟨0, cs, by omega, by simp (maxSteps := 2000000) (disch := first | omega | assumption | exact idP rfl | exact idP (bL rfl)) only [go_sem, reduceIte, Nat.reduceEqDiff], by simp (maxSteps := 2000000) (disch := first | omega | assumption | exact idP rfl | exact idP (bL rfl)) only [go_sem, reduceIte, Nat.reduceEqDiff]; simp, by simp (maxSteps := 2000000) (disch := first | omega | assumption | exact idP rfl | exact idP (bL rfl)) only [go_sem, reduceIte, Nat.reduceEqDiff]; rfl, fun _ _ => rfl, hmb, rfl, fun j hj => by omega⟩
    · rintro e M1 ⟨i, l', hi, e0, e1, e5, hq, hm1, hl1, hj⟩ K hK
      simp (maxSteps := 2000000) (disch := first | omega | assumption | exact idP rfl | exact idP (bL rfl)) only [go_sem, reduceIte, Nat.reduceEqDiff, e0, e1, e5]
      refine cond_dec (fun h => ?_) (fun h => ?_)
      · have h3 := h3 (by omega)
        have hso : o + i * 1 < l'.length := by omega
        have hso2 : o + i < l'.length := by omega
        simp (maxSteps := 2000000) (disch := first | omega | assumption | exact idP rfl | exact idP (bL rfl)) only [go_sem, reduceIte, Nat.reduceEqDiff, e0, e1, e5, hm1]
        refine hK _ _ ⟨i + 1, l'.set (o + i) (.sc (.int .i64 (k + i))), by omega, by simp (maxSteps := 2000000) (disch := first | omega | assumption | exact idP rfl | exact idP (bL rfl)) only [go_sem, reduceIte, Nat.reduceEqDiff, e0], by simp (maxSteps := 2000000) (disch := first | omega | assumption | exact idP rfl | exact idP (bL rfl)) only [go_sem, reduceIte, Nat.reduceEqDiff]; rw [Int.natCast_add, Int.add_assoc]; rfl, by simp (maxSteps := 2000000) (disch := first | omega | assumption | exact idP rfl | exact idP (bL rfl)) only [go_sem, reduceIte, Nat.reduceEqDiff]; rfl, fun q hqb => by rw [set_ne hqb]; exact hq q hqb, by rw [set_same], by simp [hl1], fun j hj2 => ?_⟩ (by simp (maxSteps := 2000000) (disch := first | omega | assumption | exact idP rfl | exact idP (bL rfl)) only [go_sem, reduceIte, Nat.reduceEqDiff, ctrV_int, e5]; omega)
        by_cases e : j = i
        · subst e; rw [List.getElem?_set_self (by omega)]
        · rw [List.getElem?_set_ne (by omega)]; exact hj j (by omega)
      · obtain rfl : i = ys.length := by omega
        simp (maxSteps := 2000000) (disch := first | omega | assumption | exact idP rfl | exact idP (bL rfl)) only [go_sem, reduceIte, Nat.reduceEqDiff, e1]
        refine hR _ _ ⟨rfl, .inr ⟨b, o, c, ex, kk, l', rfl, hm1, hj⟩, fun b' hb' => by simp [blkV] at hb'; subst hb'; exact hfb, fun q hq1 => hq q fun e => ?_⟩
        rw [e] at hq1
        simp only at hfb
        rw [hfb] at hq1; cases hq1
theorem t_markIntSS {v v' : V} {fp : List (Nat × List V)} {rows : List (List Int)} {k : Int} (ht : Tr [v] [v'] fp) (hf : flat v) (hff : ∀ q ∈ fp, flatL q.2) (hv : LII v' rows) (hn : Nd2 fp) (hm : ∀ p ∈ fp, M p.1 = some p.2) (hl : rows.length ≤ 1048576) (hl2 : ∀ ts ∈ rows, ts.length ≤ 1048576) (hk : 0 ≤ k) (hk2 : k ≤ 8900000000000000000) :
    VCall Try.prog n_laws_markIntSS [v, .sc (.int .i64 k)] M (fun r M' => r = .sc (.int .i64 (k + offN rows rows.length)) ∧ HdS M' v rows k ∧ ∀ q, inF fp q = false → M' q = M q) := by
  refine VCall.plain fun R hR => v_laws_markIntSS rfl ?_
  rcases ht.win hf (ls_lc hv) with ⟨q, rfl, rfl⟩ | ⟨b, o, c, ex, kk, cs, cs', g, rfl, h2, rfl, h3, h4⟩
  · simp (maxSteps := 2000000) (disch := first | omega | assumption | exact idP rfl | exact idP (bL rfl)) only [go_sem, reduceIte, Nat.reduceEqDiff]
    refine loop_k (fun e M' => M' = M ∧ e 0 = .sc (.sl none 0 0 true q) ∧ e 1 = .sc (.int .i64 k) ∧ e 5 = .sc (.int .i64 0)) (fun e _ => 0) ⟨rfl, by simp (maxSteps := 2000000) (disch := first | omega | assumption | exact idP rfl | exact idP (bL rfl)) only [go_sem, reduceIte, Nat.reduceEqDiff], by simp (maxSteps := 2000000) (disch := first | omega | assumption | exact idP rfl | exact idP (bL rfl)) only [go_sem, reduceIte, Nat.reduceEqDiff], by simp (maxSteps := 2000000) (disch := first | omega | assumption | exact idP rfl | exact idP (bL rfl)) only [go_sem, reduceIte, Nat.reduceEqDiff]⟩ ?_
    rintro e _ ⟨rfl, e0, e1, e5⟩ K hK
    simp (maxSteps := 2000000) (disch := first | omega | assumption | exact idP rfl | exact idP (bL rfl)) only [go_sem, reduceIte, Nat.reduceEqDiff, e0, e1, e5]
    exact hR _ _ ⟨by rw [show ((offN [] ([] : List (List Int)).length : Nat) : Int) = 0 from rfl, Int.add_zero]; rfl, .inl ⟨rfl, q, rfl⟩, fun q _ => rfl⟩
  · obtain ⟨hbg, hng⟩ := nd_hd hn
    have hmb : M b = some cs := hm (b, cs) (List.mem_cons_self ..)
    have hmg : ∀ p ∈ g, M p.1 = some p.2 := fun p hp => hm p (List.mem_cons_of_mem _ hp)
    have hfc : flatL cs := hff (b, cs) (List.mem_cons_self ..)
    have hgo : ∀ q, inF g q = true → inF ((b, cs) :: g) q = true := fun q hq => by
      obtain ⟨l, hl⟩ := inF_iff.1 hq
      exact inF_iff.2 ⟨l, List.mem_cons_of_mem _ hl⟩
    simp (maxSteps := 2000000) (disch := first | omega | assumption | exact idP rfl | exact idP (bL rfl)) only [go_sem, reduceIte, Nat.reduceEqDiff]
    refine loop_k (fun e M' => ∃ (i : Nat) (g1 g2 : List (Nat × List V)) (l1 l2 : List V), i ≤ rows.length ∧ e 0 = .sc (.sl (some (b, o)) rows.length c ex kk) ∧ e 1 = .sc (.int .i64 (k + offN rows i)) ∧ e 5 = .sc (.int .i64 i) ∧ Tr (cs.take (o + i)) l1 g1 ∧ Tr (cs.drop (o + i)) l2 g2 ∧ g = g1 ++ g2 ∧ cs' = l1 ++ l2 ∧ (∀ q, inF g1 q = false → M' q = M q) ∧ ∀ j (h : j < rows.length), j < i → ∃ u, cs[o + j]? = some u ∧ Hd M' u rows[j].length (k + offN rows j) ∧ ∀ b', blkV u = some b' → inF g1 b' = true) (fun e _ => ctrV rows.length (e 5)) ?_ ?_
    · obtain ⟨l1, l2, g1, g2, rfl, rfl, h5, h6⟩ := Tr.split (a := cs.take o) (b := cs.drop o) (b' := []) (by rw [List.take_append_drop]; exact h2)
      exact ⟨0, g1, g2, l1, l2, by omega, by simp (maxSteps := 2000000) (disch := first | omega | assumption | exact idP rfl | exact idP (bL rfl)) only [go_sem, reduceIte, Nat.reduceEqDiff], by simp (maxSteps := 2000000) (disch := first | omega | assumption | exact idP rfl | exact idP (bL rfl)) only [go_sem, reduceIte, Nat.reduceEqDiff]; simp [offN_zero], by simp (maxSteps := 2000000) (disch := first | omega | assumption | exact idP rfl | exact idP (bL rfl)) only [go_sem, reduceIte, Nat.reduceEqDiff]; rfl, h5, h6, rfl, rfl, fun _ _ => rfl, fun j _ h => by omega⟩
    · rintro e M1 ⟨i, g1, g2, l1, l2, hi, e0, e1, e5, t1, t2, rfl, rfl, hq, hjs⟩ K hK
      have hob := offN_le hl2 i hi
      simp (maxSteps := 2000000) (disch := first | omega | assumption | exact idP rfl | exact idP (bL rfl)) only [go_sem, reduceIte, Nat.reduceEqDiff, e0, e1, e5]
      refine cond_dec (fun h => ?_) (fun h => ?_)
      · have hi' : i < rows.length := by omega
        have h3 := h3 (by omega)
        have hj : o + i < cs.length := by omega
        have hcx : cs[o + i]? = some cs[o + i] := List.getElem?_eq_getElem hj
        have hcx2 : cs[o + i * 1]? = some cs[o + i] := by rw [Nat.mul_one]; exact hcx
        rw [List.drop_eq_getElem_cons hj] at t2
        obtain ⟨x', r', gx, gr, rfl, rfl, t3, t4⟩ := t2.uncons
        have hl1 : l1.length = o + i := by rw [t1.len, List.length_take]; omega
        obtain ⟨u, h5, h6⟩ := h4 i hi'
        rw [Nat.mul_one, List.drop_left' hl1, List.take_succ_cons, List.take_zero, List.cons.injEq] at h5
        obtain ⟨rfl, _⟩ := h5
        have hb1 : M1 b = some cs := by
          rw [hq b (by rw [inF_append] at hbg; simp only [Bool.or_eq_false_iff] at hbg; exact hbg.1)]; exact hmb
        simp (maxSteps := 2000000) (disch := first | omega | assumption | exact idP rfl | exact idP (bL rfl)) only [go_sem, reduceIte, Nat.reduceEqDiff, e0, e1, e5, hb1, hcx, hcx2]
        refine (t_markRk t3 (flatL_all.1 hfc _ (List.getElem_mem hj)) h6 (fun p hp => ?_) (hl2 _ (List.getElem_mem hi')) (by omega) (by omega)).mono ?_
        · rw [hq p.1 (nd_sep hng (List.mem_append_left _ hp))]
          exact hmg p (List.mem_append_right _ (List.mem_append_left _ hp))
        · rintro _ M2 ⟨rfl, p1, p2, p3⟩
          have hos := offN_succ hi'
          simp (maxSteps := 2000000) (disch := first | omega | assumption | exact idP rfl | exact idP (bL rfl)) only [go_sem, reduceIte, Nat.reduceEqDiff, e0, e1, e5]
          refine hK _ _ ⟨i + 1, g1 ++ gx, gr, l1 ++ [x'], r', by omega, by simp (maxSteps := 2000000) (disch := first | omega | assumption | exact idP rfl | exact idP (bL rfl)) only [go_sem, reduceIte, Nat.reduceEqDiff, e0], by simp (maxSteps := 2000000) (disch := first | omega | assumption | exact idP rfl | exact idP (bL rfl)) only [go_sem, reduceIte, Nat.reduceEqDiff]; rw [hos, Int.natCast_add, Int.add_assoc], by simp (maxSteps := 2000000) (disch := first | omega | assumption | exact idP rfl | exact idP (bL rfl)) only [go_sem, reduceIte, Nat.reduceEqDiff]; rfl, ?_, t4, by simp, by simp, fun q hq2 => ?_, fun j hj1 hj2 => ?_⟩ (by simp (maxSteps := 2000000) (disch := first | omega | assumption | exact idP rfl | exact idP (bL rfl)) only [go_sem, reduceIte, Nat.reduceEqDiff, ctrV_int, e5]; omega)
          · rw [← Nat.add_assoc, take_one hj]; exact t1.append t3
          · rw [inF_append, Bool.or_eq_false_iff] at hq2
            rw [p3 q hq2.2]
            exact hq q hq2.1
          · by_cases ej : j = i
            · subst ej
              exact ⟨_, hcx, p1, fun b' hb' => by rw [inF_append, p2 b' hb', Bool.or_true]⟩
            · obtain ⟨w, w1, w2, w3⟩ := hjs j hj1 (by omega)
              refine ⟨w, w1, w2.frame fun b' hb' => p3 b' ?_, fun b' hb' => by rw [inF_append, w3 b' hb', Bool.true_or]⟩
              cases hc : inF gx b' with
              | false => rfl
              | true =>
                obtain ⟨l, hl⟩ := inF_iff.1 hc
                have h7 := nd_sep hng (p := (b', l)) (List.mem_append_left _ hl)
                simp only at h7
                rw [w3 b' hb'] at h7; cases h7
      · obtain rfl : i = rows.length := by omega
        have hqf : ∀ q, inF ((b, cs) :: (g1 ++ g2)) q = false → M1 q = M q := fun q hq1 => hq q (by
          cases hc : inF g1 q with
          | false => rfl
          | true => rw [hgo q (by rw [inF_append, hc]; rfl)] at hq1; cases hq1)
        have hb1 : M1 b = some cs := by
          rw [hq b (by rw [inF_append] at hbg; simp only [Bool.or_eq_false_iff] at hbg; exact hbg.1)]; exact hmb
        simp (maxSteps := 2000000) (disch := first | omega | assumption | exact idP rfl | exact idP (bL rfl)) only [go_sem, reduceIte, Nat.reduceEqDiff, e1]
        refine hR _ _ ⟨rfl, .inr ⟨b, o, c, ex, kk, cs, rfl, hb1, fun j hj1 => ?_⟩, hqf⟩
        obtain ⟨w, w1, w2, _⟩ := hjs j hj1 hj1
        exact ⟨w, w1, w2⟩
end Go.M2

namespace Go.M2
open Go.Proofs
variable {M : MH}
theorem Tr.one1 {u u' : V} {g : List (Nat × List V)} (h : Tr [u] [u'] g) (h' : One u') : One u := by
  obtain ⟨h1, h2⟩ := h'
  rcases h.inv1 with ⟨h3, _⟩ | ⟨b, o, n, c, ex, k, cs, cs', g, rfl, _⟩ | ⟨a, a', h3, _⟩ | ⟨a, a', h3, _⟩
  · simp only [List.cons.injEq, and_true] at h3
    rw [← h3]; exact ⟨h1, h2⟩
  · exact ⟨rfl, rfl⟩
  · simp only [List.cons.injEq, and_true] at h3
    rw [h3] at h1; exact absurd h1 (by simp [oneV, er, oneA])
  · simp only [List.cons.injEq, and_true] at h3
    rw [h3] at h1; exact absurd h1 (by simp [oneV, er, oneA])
theorem tr_mid {a b x x' : V} {g : List (Nat × List V)} (t : Tr [x] [x'] g) : Tr [a, x, b] [a, x', b] g := .keep a (by simpa using t.append (.keep b .nil))
theorem tr_fst {a x x' : V} {g : List (Nat × List V)} (t : Tr [x] [x'] g) : Tr [x, a] [x', a] g := by simpa using t.append (.keep a .nil)
theorem Dn.mk2 {M0 M1 : MH} {u b : V} {p : V → Prop} {q : V → Prop} (h : Dn M0 M1 u p) (hb : flat b) (hq : ∀ u', p u' → q (.tup [u', b])) : Dn M0 M1 (.tup [u, b]) q := by
  obtain ⟨u', g, tg, mg, fu, fg, hl⟩ := h
  refine ⟨.tup [u', b], g, ?_, mg, by simp [flat, flatL, fu, hb], fg, hq _ hl⟩
  have := Tr.tup (tr_fst (a := b) tg) Tr.nil
  simpa using this
theorem Dn.tup2 {M0 M1 : MH} {r : V} {p : V → AV → Prop} (h : Dn M0 M1 r (fun r' => ∃ u' w, r' = .tup [u', .sc w] ∧ p u' w)) : ∃ u w, r = .tup [u, .sc w] ∧ Dn M0 M1 u (fun u' => p u' w) := by
  obtain ⟨r', fp, tr, mem, fl, ffl, u', w, rfl, hp⟩ := h
  cases tr with
  | keep v h1 =>
    cases h1
    simp only [flat, flatL] at fl
    exact ⟨u', w, rfl, u', [], .refl _, mem, fl.1, ffl, hp⟩
  | tup h1 h2 =>
    cases h2
    rename_i a fp1
    rw [List.append_nil] at mem ffl
    match a, h1 with
    | [x, y], h1 =>
      obtain ⟨x', t', f1, f2, e1, rfl, h3, h4⟩ := h1.uncons
      rw [List.cons.injEq] at e1
      obtain ⟨rfl, rfl⟩ := e1
      rcases h4.inv1 with ⟨h5, rfl⟩ | ⟨_, _, _, _, _, _, _, _, _, _, h5, _⟩ | ⟨_, _, h5, _⟩ | ⟨_, _, h5, _⟩
      · rw [List.cons.injEq] at h5
        obtain ⟨rfl, _⟩ := h5
        rw [List.append_nil] at mem ffl
        simp only [flat, flatL] at fl
        exact ⟨x, w, rfl, u', f1, h3, mem, fl.1, ffl, hp⟩
      all_goals (simp at h5)
    | [], h1 => exact absurd h1.len (by simp)
    | [x], h1 => exact absurd h1.len (by simp)
    | x :: y :: z :: t, h1 => exact absurd h1.len (by simp)
def RdI (M : MH) (v : V) (xs : List Int) : Prop := ∃ v' g, Tr [v] [v'] g ∧ Nd2 g ∧ (∀ p ∈ g, M p.1 = some p.2) ∧ LI v' xs
theorem RdI.of {v : V} {xs : List Int} (h : LI v xs) : RdI M v xs := ⟨v, [], .refl _, List.nodup_nil, fun p hp => (by cases hp), h⟩
theorem RdI.more {M' : MH} {v : V} {xs : List Int} (h : RdI M v xs) (hs : Sub M M') : RdI M' v xs := by
  obtain ⟨v', g, h1, h2, h3, h4⟩ := h
  exact ⟨v', g, h1, h2, fun p hp => hs _ _ (h3 p hp), h4⟩
theorem RdI.one {v : V} {xs : List Int} (h : RdI M v xs) : One v := by
  obtain ⟨v', g, h1, h2, h3, h4⟩ := h
  exact h1.one1 h4.one
theorem Dn.rdI {M0 : MH} {v : V} {xs : List Int} (h : Dn M0 M v (fun u => LI u xs)) : RdI M v xs := by
  obtain ⟨v', g, h1, h2, h3, h4, h5⟩ := h
  exact ⟨v', g, h1, h2.nd, h2.at_, h5⟩
theorem RdI.len {v : V} {xs : List Int} (h : RdI M v xs) : lenF (er v) = some (.int .i64 (xs.length : Int)) := by
  obtain ⟨v', g, h1, h2, h3, h4⟩ := h
  have hl := h4.len
  rcases h1.inv1 with ⟨h5, _⟩ | ⟨b, o, n, c, ex, k, cs, cs', g, rfl, h5, _⟩ | ⟨a, a', h5, rfl⟩ | ⟨a, a', h5, rfl⟩
  · simp only [List.cons.injEq, and_true] at h5
    rw [← h5]; exact hl
  · simp only [List.cons.injEq, and_true] at h5
    rw [h5] at hl; exact hl
  · simp only [List.cons.injEq, and_true] at h5
    rw [h5] at hl; simp [er, lenF] at hl
  · simp only [List.cons.injEq, and_true] at h5
    rw [h5] at hl; simp [er, lenF] at hl
theorem RT.rdI {M0 M1 : MH} {v u : V} {us : List V} {rows : List (List Int)} (h : RT M0 M1 v rows) {i : Nat} (hi : i < rows.length) (hm : M1 (oB v) = some us) (hu : us[i]? = some u) : RdI M1 u rows[i] := by
  obtain ⟨us2, u2, u', g, _, h1, h2, _, h3, h4, h5, _, h6⟩ := h.row hi
  rw [hm] at h1; cases h1
  rw [hu] at h2; cases h2
  exact ⟨u', g, h3, h4, h5, h6⟩
theorem RT.cell {M0 M1 : MH} {v : V} {rows : List (List Int)} (h : RT M0 M1 v rows) (hl : 0 < rows.length) : ∃ us, M1 (oB v) = some us ∧ us.length = rows.length ∧ ∀ i (h : i < rows.length), ∃ u, us[i]? = some u ∧ RdI M1 u rows[i] := by
  have h0 := h
  obtain ⟨us, us', fp, Mb, hg, hm, ht, hf, hff, ho, hc⟩ := h0
  have hul : us.length = rows.length := by rw [← ht.len]; exact hc.1
  have hat : M1 (oB v) = some us := hg.at (by omega)
  exact ⟨us, hat, hul, fun i hi => ⟨us[i]'(by omega), List.getElem?_eq_getElem (by omega), h.rdI hi hat (List.getElem?_eq_getElem (by omega))⟩⟩
theorem RT.iaddr {M0 M1 : MH} {v : V} {rows : List (List Int)} (h : RT M0 M1 v rows) {k : IntKind} {a : Int} (h0 : 0 ≤ a) (h1 : a < (rows.length : Int)) : iaddrV 1 v (.int k a) = some (.sc (.ptr (some (oB v, a.toNat)))) := by
  obtain ⟨us, us', fp, Mb, hg, hm, ht, hf, hff, ho, hc⟩ := h
  have hul : us.length = rows.length := by rw [← ht.len]; exact hc.1
  exact hg.own.iaddr h0 (by rw [hul]; exact h1)
theorem d_use {v w : V} {s : SysS} {st : List Int} {k : Nat} (hv : isSys s v) (hs : SysOk s) (hw : RdI M w st) (hin : StIn s.vars st) (hk : k < s.rules.length) :
    VCall Try.prog n_impl_use [v, w, .sc (.int .i64 k)] M (fun r M' => Dn M M' r (fun r' => uRes r' (useR s.vars s.rules[k] st))) := by
  obtain ⟨w', g, tg, nd, hat, hl⟩ := hw
  refine VCall.lendD (tr_mid tg) hat nd fun M' => (o_use hv hs hl hin hk).mono fun r M'' h => ?_
  cases hu : useR s.vars s.rules[k] st with
  | none =>
    rw [hu] at h
    obtain ⟨rfl, hs2⟩ := h
    exact ⟨_, [], .refl _, .nil hs2, by simp [flat, flatL], fun q hq => (by cases hq), rfl⟩
  | some xs =>
    rw [hu] at h
    obtain ⟨u, rfl, hg⟩ := h
    exact hg.dnI.mk2 (by simp [flat]) fun u' hl => ⟨u', rfl, hl⟩
theorem uRes_open {M0 : MH} {r : V} {o : Option (List Int)} (h : Dn M0 M r (fun r' => uRes r' o)) : (o = none ∧ r = .tup [.sc (.sl none 0 0 true 0), .sc (.bool false)] ∧ Sub M0 M) ∨ ∃ xs u, o = some xs ∧ r = .tup [u, .sc (.bool true)] ∧ Dn M0 M u (fun u' => LI u' xs) := by
  cases o with
  | none =>
    obtain ⟨u, w, rfl, h1⟩ := Dn.tup2 (p := fun u' w => u' = .sc (.sl none 0 0 true 0) ∧ w = .bool false) (h.mono fun v hv => ⟨_, _, hv, rfl, rfl⟩)
    obtain ⟨u', g, tg, mg, _, _, rfl, rfl⟩ := h1
    refine .inl ⟨rfl, ?_, mg.sub⟩
    rcases tg.inv1 with ⟨h5, _⟩ | ⟨_, _, _, _, _, _, _, _, _, _, h5, _⟩ | ⟨_, _, h5, _⟩ | ⟨_, _, h5, _⟩
    · rw [List.cons.injEq] at h5; rw [h5.1]
    all_goals simp at h5
  | some xs =>
    obtain ⟨u, w, rfl, h1⟩ := Dn.tup2 (p := fun u' w => w = .bool true ∧ LI u' xs) (h.mono fun v hv => by
      obtain ⟨u', rfl, hl⟩ := hv
      exact ⟨u', _, rfl, rfl, hl⟩)
    have hw : w = .bool true := by obtain ⟨_, _, _, _, _, _, h2, _⟩ := h1; exact h2
    subst hw
    exact .inr ⟨xs, u, rfl, rfl, h1.mono fun _ h => h.2⟩
theorem putF_ne (l : List (List Int)) (x : List Int) : putF l x ≠ [] := by
  cases l with
  | nil => simp [putF]
  | cons y t => simp only [putF]; split; · simp
                split <;> simp
theorem nextGo_nil {vars : List VarS} {st : List Int} : ∀ {rs : List RuleS} {l : List (List Int)}, nextGo vars st rs l = [] ↔ l = [] ∧ ∀ r ∈ rs, useR vars r st = none
  | [], l => by simp [nextGo]
  | r :: t, l => by
    simp only [nextGo]
    rw [nextGo_nil]
    cases hu : useR vars r st with
    | none => simp [hu]
    | some x => simp [hu, putF_ne]
noncomputable def ableB (s : SysS) (st : List Int) (k : Nat) : Bool := match s.rules[k]? with
  | some r => (useR s.vars r st).isSome
  | none => false
theorem ableB_at {s : SysS} {st : List Int} {k : Nat} (h : k < s.rules.length) : ableB s st k = (useR s.vars s.rules[k] st).isSome := by simp [ableB, h]
theorem able_nil {s : SysS} {st : List Int} : selL s.rules.length (ableB s st) = [] ↔ nextF s st = [] := by
  unfold nextF
  rw [nextGo_nil]
  constructor
  · intro h
    refine ⟨rfl, fun r hr => ?_⟩
    obtain ⟨i, hi, rfl⟩ := List.getElem_of_mem hr
    cases hu : useR s.vars s.rules[i] st with
    | none => rfl
    | some x =>
      have : ((i : Nat) : Int) ∈ selL s.rules.length (ableB s st) := mem_selL.2 ⟨i, hi, by rw [ableB_at hi, hu]; rfl, rfl⟩
      rw [h] at this; cases this
  · rintro ⟨_, h⟩
    refine List.eq_nil_iff_forall_not_mem.2 fun x hx => ?_
    obtain ⟨i, hi, h1, rfl⟩ := mem_selL.1 hx
    rw [ableB_at hi, h _ (List.getElem_mem hi)] at h1
    cases h1
noncomputable def rStep (s : SysS) (acc : Option (List (List Int) × List Int)) (k : Int) : Option (List (List Int) × List Int) := match acc with
  | none => none
  | some (l, now) => if h : 0 ≤ k ∧ k.toNat < s.rules.length then (match useR s.vars (s.rules[k.toNat]'h.2) now with | none => none | some x => some (l ++ [x], x)) else none
noncomputable def rGo (s : SysS) (st : List Int) (rs : List Int) : Option (List (List Int) × List Int) := rs.foldl (rStep s) (some ([], st))
theorem rGo_snoc {s : SysS} {st rs : List Int} {i : Nat} (h : i < rs.length) : rGo s st (rs.take (i + 1)) = rStep s (rGo s st (rs.take i)) rs[i] := by
  unfold rGo; rw [take_snoc h, List.foldl_append]; rfl
theorem rStep_none (s : SysS) : ∀ rs : List Int, rs.foldl (rStep s) none = none
  | [] => rfl
  | k :: t => rStep_none s t
theorem rGo_none {s : SysS} {st rs : List Int} {i : Nat} (h : rGo s st (rs.take i) = none) : rGo s st rs = none := by
  unfold rGo at *
  conv => lhs; rw [← List.take_append_drop i rs, List.foldl_append, h]
  exact rStep_none s _
theorem rGo_ok {s : SysS} {st rs : List Int} (h0 : StIn s.vars st) : ∀ i, i ≤ rs.length → ∀ l now, rGo s st (rs.take i) = some (l, now) → l.length = i ∧ StIn s.vars now ∧ (∀ y ∈ l, StIn s.vars y) ∧ ∀ h : 0 < l.length, l[l.length - 1] = now
  | 0, _, l, now, h => by
    simp only [rGo, List.take_zero, List.foldl_nil, Option.some.injEq, Prod.mk.injEq] at h
    obtain ⟨rfl, rfl⟩ := h
    exact ⟨rfl, h0, fun y hy => (by cases hy), fun h => by simp at h⟩
  | i + 1, hi, l, now, h => by
    rw [rGo_snoc (by omega)] at h
    cases hp : rGo s st (rs.take i) with
    | none => rw [hp] at h; cases h
    | some q =>
      obtain ⟨l1, n1⟩ := q
      obtain ⟨p1, p2, p3, p4⟩ := rGo_ok h0 i (by omega) l1 n1 hp
      rw [hp] at h
      simp only [rStep] at h
      split at h
      · rename_i hk
        cases hu : useR s.vars (s.rules[(rs[i]).toNat]'hk.2) n1 with
        | none => rw [hu] at h; cases h
        | some x =>
          rw [hu] at h
          simp only [Option.some.injEq, Prod.mk.injEq] at h
          obtain ⟨rfl, rfl⟩ := h
          have hx := useR_in hu
          refine ⟨by simp [p1], hx, fun y hy => ?_, fun _ => by simp⟩
          rcases List.mem_append.1 hy with h1 | h1
          · exact p3 y h1
          · rw [List.mem_singleton] at h1; subst h1; exact hx
      · cases h
noncomputable def roundG (s : SysS) (st rs : List Int) : List (List Int) × Bool :=
  if rs = [] then ([], decide (nextF s st = [])) else match rGo s st rs with
    | none => ([], false)
    | some (l, now) => if now = st then (l, true) else ([], false)
noncomputable def roundF (s : SysS) (st rs : List Int) : List (List Int) × Bool :=
  if inS s st = true ∧ rs.length ≤ 500 then roundG s st rs else ([], false)
theorem roundF_len (s : SysS) (st rs : List Int) : (roundF s st rs).1.length ≤ 500 ∧ ∀ y ∈ (roundF s st rs).1, y.length ≤ 5 := by
  have nil : (([] : List (List Int)).length ≤ 500 ∧ ∀ y ∈ ([] : List (List Int)), y.length ≤ 5) := ⟨by simp, fun y hy => by cases hy⟩
  unfold roundF
  split
  · rename_i h
    obtain ⟨h1, h2⟩ := inS_iff.1 h.1
    have := h1.v5
    unfold roundG
    split
    · exact nil
    · split
      · exact nil
      · rename_i l now hr
        split
        · obtain ⟨p1, p2, p3, _⟩ := rGo_ok (rs := rs) h2 rs.length (Nat.le_refl _) l now (by rw [List.take_length]; exact hr)
          exact ⟨by have := h.2; show l.length ≤ 500; omega, fun y hy => by rw [(p3 y hy).1]; exact h1.v5⟩
        · exact nil
  · exact nil
end Go.M2

namespace Go.M2
open Go.Proofs
variable {M : MH}
theorem t_usableIn {v w : V} {s : SysS} {st : List Int} (hv : isSys s v) (hs : SysOk s) (hw : LI w st) (hin : StIn s.vars st) :
    VCall Try.prog n_impl_usableIn [v, w] M (fun r M' => M = M' ∧ LI r (selL s.rules.length (ableB s st))) := by
  refine VCall.froz fun R hP hG => v_impl_usableIn rfl ?_
  have hv0 := hv
  obtain ⟨a, b, rfl, ha, hb⟩ := hv
  have h8 := hs.r8
  (repeat' (first | ((first | with_reducible refine cond_dec (fun h => ?_) (fun h => ?_) | with_reducible refine guardK_dec (fun h => ?_) (fun h => ?_) | with_reducible refine guardD3_dec (fun h => ?_) (fun h => ?_)) <;> first | (exfalso; omega) | (simp (maxSteps := 2000000) (disch := first | omega | assumption | exact idP rfl | exact idP (bL rfl)) only [go_sem, reduceIte, Nat.reduceEqDiff, h, hb.len]) | skip) | ((first | with_reducible refine cond_split (fun h => ?_) (fun h => ?_) | with_reducible refine guardK_split (fun h => ?_) (fun h => ?_) | with_reducible refine guardD3_split (fun h => ?_) (fun h => ?_)) <;> ((try simp only [Bool.not_eq_true', Bool.not_eq_false'] at h); first | (simp (maxSteps := 2000000) (disch := first | omega | assumption | exact idP rfl | exact idP (bL rfl)) only [go_sem, reduceIte, Nat.reduceEqDiff, h, hb.len]) | skip)) | (with_reducible intro bk hbk; try have hnk := (fresh_set hbk).1) | (simp (maxSteps := 2000000) (disch := first | omega | assumption | exact idP rfl | exact idP (bL rfl)) only [go_sem, reduceIte, Nat.reduceEqDiff, hb.len])))
  refine loop_k (fun e M' => ∃ i : Nat, i ≤ s.rules.length ∧ e 1 = w ∧ e 2 = .sc (.ptr (some (bk, 0))) ∧ e 11 = .sc (.int .i64 s.rules.length) ∧ e 12 = .sc (.int .i64 i) ∧ Gr 1 (M.set bk [a, b]) M' (e 5) ((selL i (ableB s st)).map vi)) (fun e _ => ctrV s.rules.length (e 12)) ?_ ?_
  · exact ⟨0, by omega, by simp (maxSteps := 2000000) (disch := first | omega | assumption | exact idP rfl | exact idP (bL rfl)) only [go_sem, reduceIte, Nat.reduceEqDiff], by simp (maxSteps := 2000000) (disch := first | omega | assumption | exact idP rfl | exact idP (bL rfl)) only [go_sem, reduceIte, Nat.reduceEqDiff], by simp (maxSteps := 2000000) (disch := first | omega | assumption | exact idP rfl | exact idP (bL rfl)) only [go_sem, reduceIte, Nat.reduceEqDiff], by simp (maxSteps := 2000000) (disch := first | omega | assumption | exact idP rfl | exact idP (bL rfl)) only [go_sem, reduceIte, Nat.reduceEqDiff]; rfl, by simp (maxSteps := 2000000) (disch := first | omega | assumption | exact idP rfl | exact idP (bL rfl)) only [go_sem, reduceIte, Nat.reduceEqDiff]; exact .nil (Sub.refl _)⟩
  · rintro e M1 ⟨i, hi, e1, e2, e11, e12, hg⟩ K hK
    have hm : M1 bk = some [a, b] := hg.sub _ _ set_same
    have hsl : (selL i (ableB s st)).length ≤ i := selL_len
    simp (maxSteps := 2000000) (disch := first | omega | assumption | exact idP rfl | exact idP (bL rfl)) only [go_sem, reduceIte, Nat.reduceEqDiff, e1, e2, e11, e12]
    refine cond_dec (fun h => ?_) (fun h => ?_)
    · have hi' : i < s.rules.length := by omega
      have hab := ableB_at (st := st) hi'
      simp (maxSteps := 2000000) (disch := first | omega | assumption | exact idP rfl | exact idP (bL rfl)) only [go_sem, reduceIte, Nat.reduceEqDiff, e1, e2, e12, hm]
      refine (t_use hv0 hs hw hin hi').mono ?_
      rintro r _ ⟨rfl, hr⟩
      cases hu : useR s.vars s.rules[i] st with
      | none =>
        rw [hu] at hr hab
        simp only [uRes] at hr
        subst hr
        simp (maxSteps := 2000000) (disch := first | omega | assumption | exact idP rfl | exact idP (bL rfl)) only [go_sem, reduceIte, Nat.reduceEqDiff, e1, e2, e11, e12]
        refine hK _ _ ⟨i + 1, by omega, by simp (maxSteps := 2000000) (disch := first | omega | assumption | exact idP rfl | exact idP (bL rfl)) only [go_sem, reduceIte, Nat.reduceEqDiff], by simp (maxSteps := 2000000) (disch := first | omega | assumption | exact idP rfl | exact idP (bL rfl)) only [go_sem, reduceIte, Nat.reduceEqDiff], by simp (maxSteps := 2000000) (disch := first | omega | assumption | exact idP rfl | exact idP (bL rfl)) only [go_sem, reduceIte, Nat.reduceEqDiff], by simp (maxSteps := 2000000) (disch := first | omega | assumption | exact idP rfl | exact idP (bL rfl)) only [go_sem, reduceIte, Nat.reduceEqDiff]; rfl, ?_⟩ (by simp (maxSteps := 2000000) (disch := first | omega | assumption | exact idP rfl | exact idP (bL rfl)) only [go_sem, reduceIte, Nat.reduceEqDiff, ctrV_int, e12]; omega)
        simp (maxSteps := 2000000) (disch := first | omega | assumption | exact idP rfl | exact idP (bL rfl)) only [go_sem, reduceIte, Nat.reduceEqDiff]
        rw [selL_succ, if_neg (by rw [hab]; simp)]; exact hg
      | some xs =>
        rw [hu] at hr hab
        obtain ⟨u, rfl, hu1⟩ := hr
        simp (maxSteps := 2000000) (disch := first | omega | assumption | exact idP rfl | exact idP (bL rfl)) only [go_sem, reduceIte, Nat.reduceEqDiff, e1, e2, e11, e12]
        intro bt hbt
        refine app_int hg hbt (by omega) (by omega) ?_
        intro s' M' hg' _
        simp (maxSteps := 2000000) (disch := first | omega | assumption | exact idP rfl | exact idP (bL rfl)) only [go_sem, reduceIte, Nat.reduceEqDiff]
        refine hK _ _ ⟨i + 1, by omega, by simp (maxSteps := 2000000) (disch := first | omega | assumption | exact idP rfl | exact idP (bL rfl)) only [go_sem, reduceIte, Nat.reduceEqDiff], by simp (maxSteps := 2000000) (disch := first | omega | assumption | exact idP rfl | exact idP (bL rfl)) only [go_sem, reduceIte, Nat.reduceEqDiff], by simp (maxSteps := 2000000) (disch := first | omega | assumption | exact idP rfl | exact idP (bL rfl)) only [go_sem, reduceIte, Nat.reduceEqDiff], by simp (maxSteps := 2000000) (disch := first | omega | assumption | exact idP rfl | exact idP (bL rfl)) only [go_sem, reduceIte, Nat.reduceEqDiff]; rfl, ?_⟩ (by simp (maxSteps := 2000000) (disch := first | omega | assumption | exact idP rfl | exact idP (bL rfl)) only [go_sem, reduceIte, Nat.reduceEqDiff, ctrV_int, e12]; omega)
        simp (maxSteps := 2000000) (disch := first | omega | assumption | exact idP rfl | exact idP (bL rfl)) only [go_sem, reduceIte, Nat.reduceEqDiff]
        rw [selL_succ, if_pos (by rw [hab]; rfl)]; exact hg'
    · obtain rfl : i = s.rules.length := by omega
      simp (maxSteps := 2000000) (disch := first | omega | assumption | exact idP rfl | exact idP (bL rfl)) only [go_sem, reduceIte, Nat.reduceEqDiff]
      refine (VCall.give0 hg fun u M2 hu hs2 => (t_cloneInt hu.li (by omega)).mono fun r M' hr => hr.base hs2).mono ?_
      rintro r M2 hg2
      simp (maxSteps := 2000000) (disch := first | omega | assumption | exact idP rfl | exact idP (bL rfl)) only [go_sem, reduceIte, Nat.reduceEqDiff]
      exact hG _ _ 1 _ (hg2.base (by (repeat (first | exact Sub.refl _ | assumption | (refine Sub.set' ?_ (by assumption)))))) fun u hu => hu.li
def rdRes (r : V) (q : List (List Int) × Bool) : Prop := ∃ u, r = .tup [u, .sc (.bool q.2)] ∧ LII u q.1
theorem roundG_none {s : SysS} {st rs : List Int} (h0 : rs ≠ []) (h : rGo s st rs = none) : roundG s st rs = ([], false) := by
  unfold roundG; rw [if_neg h0, h]
theorem roundG_some {s : SysS} {st rs now : List Int} {l : List (List Int)} (h0 : rs ≠ []) (h : rGo s st rs = some (l, now)) : roundG s st rs = if now = st then (l, true) else ([], false) := by
  unfold roundG; rw [if_neg h0, h]
theorem able_dec {s : SysS} {st : List Int} : decide (((selL s.rules.length (ableB s st)).length : Int) = 0) = decide (nextF s st = []) := by
  refine decide_eq_decide.2 ?_
  rw [← able_nil]
  constructor
  · intro h; exact List.eq_nil_of_length_eq_zero (by omega)
  · intro h; rw [h]; rfl
theorem next_dec {s : SysS} {st : List Int} : decide (((nextF s st).length : Int) = 0) = decide (nextF s st = []) := by
  refine decide_eq_decide.2 ?_
  constructor
  · intro h; exact List.eq_nil_of_length_eq_zero (by omega)
  · intro h; rw [h]; rfl
theorem rStep_at {s : SysS} {l : List (List Int)} {now : List Int} {k : Int} (h0 : 0 ≤ k) (h1 : k.toNat < s.rules.length) : rStep s (some (l, now)) k = match useR s.vars s.rules[k.toNat] now with | none => none | some x => some (l ++ [x], x) := by
  simp only [rStep]; rw [dif_pos ⟨h0, h1⟩]
  first | done | (cases useR s.vars s.rules[k.toNat] now <;> rfl)
theorem rStep_out {s : SysS} {l : List (List Int)} {now : List Int} {k : Int} (h : ¬ (0 ≤ k ∧ k ≤ (s.rules.length : Int) - 1)) : rStep s (some (l, now)) k = none := by
  simp only [rStep]; rw [dif_neg (by intro h2; exact h ⟨h2.1, by omega⟩)]
theorem o_roundFrom {v w x : V} {s : SysS} {st rs : List Int} (hv : isSys s v) (hs : SysOk s) (hw : LI w st) (hin : StIn s.vars st) (hx : LI x rs) (hl : rs.length ≤ 500) :
    VCall Try.prog n_impl_roundFrom [v, w, x] M (fun r M' => Dn M M' r (fun r' => rdRes r' (roundG s st rs))) := by
  refine VCall.plain fun R hR => v_impl_roundFrom rfl ?_
  have hv0 := hv
  obtain ⟨a, b, rfl, ha, hb⟩ := hv
  have h5 := hs.v5
  have h8 := hs.r8
  have nope : ∀ M', Sub M M' → roundG s st rs = ([], false) → R (.tup [.sc (.sl none 0 0 true 0), .sc (.bool false)]) M' := fun M' h1 h2 =>
    hR _ _ ((RT.nil h1).dn.mk2 (by simp [flat]) fun u' h => ⟨u', by rw [h2], by rw [h2]; exact h⟩)
  simp (maxSteps := 2000000) (disch := first | omega | assumption | exact idP rfl | exact idP (bL rfl)) only [go_sem, reduceIte, Nat.reduceEqDiff]
  intro bk hbk
  simp (maxSteps := 2000000) (disch := first | omega | assumption | exact idP rfl | exact idP (bL rfl)) only [go_sem, reduceIte, Nat.reduceEqDiff, hx.len]
  refine cond_dec (fun h => ?_) (fun h => ?_)
  · have hr0 : rs = [] := List.eq_nil_of_length_eq_zero (by omega)
    simp (maxSteps := 2000000) (disch := first | omega | assumption | exact idP rfl | exact idP (bL rfl)) only [go_sem, reduceIte, Nat.reduceEqDiff]
    refine (t_usableIn hv0 hs hw hin).mono ?_
    rintro q _ ⟨rfl, hq⟩
    simp (maxSteps := 2000000) (disch := first | omega | assumption | exact idP rfl | exact idP (bL rfl)) only [go_sem, reduceIte, Nat.reduceEqDiff, hq.len]
    refine hR _ _ ?_
    rw [able_dec]
    have e : roundG s st rs = ([], decide (nextF s st = [])) := by unfold roundG; rw [if_pos hr0]
    exact (RT.nil (by (repeat (first | exact Sub.refl _ | assumption | (refine Sub.set' ?_ (by assumption)))))).dn.mk2 (by simp [flat]) fun u' h => ⟨u', by rw [e], by rw [e]; exact h⟩
  · have hr0 : rs ≠ [] := fun e => h (by rw [e]; rfl)
    simp (maxSteps := 2000000) (disch := first | omega | assumption | exact idP rfl | exact idP (bL rfl)) only [go_sem, reduceIte, Nat.reduceEqDiff, hx.len]
    refine loop_k (fun e M' => ∃ (i : Nat) (l : List (List Int)) (now : List Int), i ≤ rs.length ∧ e 1 = w ∧ e 3 = .sc (.ptr (some (bk, 0))) ∧ e 23 = x ∧ e 24 = .sc (.int .i64 rs.length) ∧ e 25 = .sc (.int .i64 i) ∧ RT (M.set bk [a, b]) M' (e 8) l ∧ RdI M' (e 9) now ∧ rGo s st (rs.take i) = some (l, now)) (fun e _ => ctrV rs.length (e 25)) ?_ ?_
    · exact ⟨0, [], st, by omega, by simp (maxSteps := 2000000) (disch := first | omega | assumption | exact idP rfl | exact idP (bL rfl)) only [go_sem, reduceIte, Nat.reduceEqDiff], by simp (maxSteps := 2000000) (disch := first | omega | assumption | exact idP rfl | exact idP (bL rfl)) only [go_sem, reduceIte, Nat.reduceEqDiff], by simp (maxSteps := 2000000) (disch := first | omega | assumption | exact idP rfl | exact idP (bL rfl)) only [go_sem, reduceIte, Nat.reduceEqDiff], by simp (maxSteps := 2000000) (disch := first | omega | assumption | exact idP rfl | exact idP (bL rfl)) only [go_sem, reduceIte, Nat.reduceEqDiff], by simp (maxSteps := 2000000) (disch := first | omega | assumption | exact idP rfl | exact idP (bL rfl)) only [go_sem, reduceIte, Nat.reduceEqDiff]; rfl, by simp (maxSteps := 2000000) (disch := first | omega | assumption | exact idP rfl | exact idP (bL rfl)) only [go_sem, reduceIte, Nat.reduceEqDiff]; exact .nil (Sub.refl _), by simp (maxSteps := 2000000) (disch := first | omega | assumption | exact idP rfl | exact idP (bL rfl)) only [go_sem, reduceIte, Nat.reduceEqDiff]; exact .of hw, by simp [rGo]⟩
    · rintro e M1 ⟨i, l, now, hi, e1, e3, e23, e24, e25, hg, hr, hgo⟩ K hK
      have hm : M1 bk = some [a, b] := hg.sub _ _ set_same
      have hsub : Sub M M1 := (show Sub M (M.set bk [a, b]) by (repeat (first | exact Sub.refl _ | assumption | (refine Sub.set' ?_ (by assumption))))).trans hg.sub
      obtain ⟨p1, p2, p3, p4⟩ := rGo_ok hin i hi l now hgo
      simp (maxSteps := 2000000) (disch := first | omega | assumption | exact idP rfl | exact idP (bL rfl)) only [go_sem, reduceIte, Nat.reduceEqDiff, e23, e24, e25]
      refine cond_dec (fun h => ?_) (fun h => ?_)
      · have hi' : i < rs.length := by omega
        have hsn := rGo_snoc (s := s) (st := st) hi'
        rw [hgo] at hsn
        simp (maxSteps := 2000000) (disch := first | omega | assumption | exact idP rfl | exact idP (bL rfl)) only [go_sem, reduceIte, Nat.reduceEqDiff, e1, e3, e23, e25, hx.iaddr, hx.at hi', hm, hb.len]
        refine t_in.mono ?_
        rintro _ _ ⟨rfl, rfl⟩
        simp (maxSteps := 2000000) (disch := first | omega | assumption | exact idP rfl | exact idP (bL rfl)) only [go_sem, reduceIte, Nat.reduceEqDiff]
        refine cond_dec (fun hk => ?_) (fun hk => ?_)
        rotate_left
        · have hk := Classical.not_not.1 hk
          have hk2 : rs[i].toNat < s.rules.length := by omega
          rw [rStep_at hk.1 hk2] at hsn
          have hu := d_use (M := M1) hv0 hs hr p2 hk2
          rw [Int.toNat_of_nonneg hk.1] at hu
          simp (maxSteps := 2000000) (disch := first | omega | assumption | exact idP rfl | exact idP (bL rfl)) only [go_sem, reduceIte, Nat.reduceEqDiff, e1, e3, e23, e25, hm]
          refine hu.mono ?_
          rintro r M2 hd
          rcases uRes_open hd with ⟨hn, rfl, hs2⟩ | ⟨ys, u, hy, rfl, hdu⟩
          · rw [hn] at hsn
            simp (maxSteps := 2000000) (disch := first | omega | assumption | exact idP rfl | exact idP (bL rfl)) only [go_sem, reduceIte, Nat.reduceEqDiff]
            exact nope _ (hsub.trans hs2) (roundG_none hr0 (rGo_none hsn))
          · rw [hy] at hsn
            have hou := hdu.rdI.one
            have ho1 := hou.1
            have ho2 := hou.2
            simp (maxSteps := 2000000) (disch := first | omega | assumption | exact idP rfl | exact idP (bL rfl)) only [go_sem, reduceIte, Nat.reduceEqDiff, e1, e3, e23, e24, e25, ho1, ho2]
            intro bt hbt
            refine app_rowO hg ho1 hdu hbt (by omega) (by omega) ?_
            intro s' M3 us' hg3 hm3 hu3
            have hrd := hg3.rdI (i := l.length) (by simp) hm3 hu3
            simp only [List.getElem_concat_length] at hrd
            simp (maxSteps := 2000000) (disch := first | omega | assumption | exact idP rfl | exact idP (bL rfl)) only [go_sem, reduceIte, Nat.reduceEqDiff]
            exact hK _ _ ⟨i + 1, l ++ [ys], ys, by omega, by simp (maxSteps := 2000000) (disch := first | omega | assumption | exact idP rfl | exact idP (bL rfl)) only [go_sem, reduceIte, Nat.reduceEqDiff, e1], by simp (maxSteps := 2000000) (disch := first | omega | assumption | exact idP rfl | exact idP (bL rfl)) only [go_sem, reduceIte, Nat.reduceEqDiff, e3], by simp (maxSteps := 2000000) (disch := first | omega | assumption | exact idP rfl | exact idP (bL rfl)) only [go_sem, reduceIte, Nat.reduceEqDiff, e23], by simp (maxSteps := 2000000) (disch := first | omega | assumption | exact idP rfl | exact idP (bL rfl)) only [go_sem, reduceIte, Nat.reduceEqDiff, e24], by simp (maxSteps := 2000000) (disch := first | omega | assumption | exact idP rfl | exact idP (bL rfl)) only [go_sem, reduceIte, Nat.reduceEqDiff]; rfl, by simp (maxSteps := 2000000) (disch := first | omega | assumption | exact idP rfl | exact idP (bL rfl)) only [go_sem, reduceIte, Nat.reduceEqDiff]; exact hg3, by simp (maxSteps := 2000000) (disch := first | omega | assumption | exact idP rfl | exact idP (bL rfl)) only [go_sem, reduceIte, Nat.reduceEqDiff]; exact hrd, hsn⟩ (by simp (maxSteps := 2000000) (disch := first | omega | assumption | exact idP rfl | exact idP (bL rfl)) only [go_sem, reduceIte, Nat.reduceEqDiff, ctrV_int, e25]; omega)
        · rw [rStep_out hk] at hsn
          simp (maxSteps := 2000000) (disch := first | omega | assumption | exact idP rfl | exact idP (bL rfl)) only [go_sem, reduceIte, Nat.reduceEqDiff]
          exact nope _ hsub (roundG_none hr0 (rGo_none hsn))
      · obtain rfl : i = rs.length := by omega
        rw [List.take_length] at hgo
        have hgs := roundG_some hr0 hgo
        have hnl : now.length ≤ 1048576 := by rw [p2.1]; omega
        have hsl : st.length ≤ 1048576 := by rw [hin.1]; omega
        have hr2 := hr
        obtain ⟨n', g, tg, nd, hat, hnow⟩ := hr2
        simp (maxSteps := 2000000) (disch := first | omega | assumption | exact idP rfl | exact idP (bL rfl)) only [go_sem, reduceIte, Nat.reduceEqDiff, e1]
        refine (VCall.lendP (tr_fst tg) hat nd flat_bool fun M' => t_Equal hnow hw hnl hsl).mono ?_
        rintro _ _ ⟨rfl, rfl⟩
        by_cases heq : now = st
        · have hd : decide (now = st) = true := by simp [heq]
          rw [if_pos heq] at hgs
          simp (maxSteps := 2000000) (disch := first | omega | assumption | exact idP rfl | exact idP (bL rfl)) only [go_sem, reduceIte, Nat.reduceEqDiff, hd]
          refine (t_cloneRows hg (by omega)).mono ?_
          rintro r M2 hg2
          simp (maxSteps := 2000000) (disch := first | omega | assumption | exact idP rfl | exact idP (bL rfl)) only [go_sem, reduceIte, Nat.reduceEqDiff]
          refine hR _ _ ?_
          exact (hg2.base (by (repeat (first | exact Sub.refl _ | assumption | (refine Sub.set' ?_ (by assumption)))))).dn.mk2 (by simp [flat]) fun u' h => ⟨u', by rw [hgs], by rw [hgs]; exact h⟩
        · have hd : decide (now = st) = false := by simp [heq]
          rw [if_neg heq] at hgs
          simp (maxSteps := 2000000) (disch := first | omega | assumption | exact idP rfl | exact idP (bL rfl)) only [go_sem, reduceIte, Nat.reduceEqDiff, hd]
          exact nope _ hsub hgs
theorem o_impRoundFrom {v w x : V} {s : SysS} {st rs : List Int} (hv : isSys s v) (hz : SysSz s) (hw : LI w st) (hx : LI x rs) (hl : rs.length ≤ 1048576) :
    VCall Try.prog n_impl_RoundFrom [v, w, x] M (fun r M' => Dn M M' r (fun r' => rdRes r' (roundF s st rs))) := by
  refine VCall.plain fun R hR => v_impl_RoundFrom rfl ?_
  have hv0 := hv
  obtain ⟨a, b, rfl, ha, hb⟩ := hv
  have nope : ∀ M', Sub M M' → roundF s st rs = ([], false) → R (.tup [.sc (.sl none 0 0 true 0), .sc (.bool false)]) M' := fun M' h1 h2 =>
    hR _ _ ((RT.nil h1).dn.mk2 (by simp [flat]) fun u' h => ⟨u', by rw [h2], by rw [h2]; exact h⟩)
  simp (maxSteps := 2000000) (disch := first | omega | assumption | exact idP rfl | exact idP (bL rfl)) only [go_sem, reduceIte, Nat.reduceEqDiff]
  intro bk hbk
  refine (t_impInRange hv0 hz hw).mono ?_
  rintro _ _ ⟨rfl, rfl⟩
  cases hi : inS s st with
  | false =>
    simp (maxSteps := 2000000) (disch := first | omega | assumption | exact idP rfl | exact idP (bL rfl)) only [go_sem, reduceIte, Nat.reduceEqDiff, hx.len]
    exact nope _ (by (repeat (first | exact Sub.refl _ | assumption | (refine Sub.set' ?_ (by assumption))))) (by unfold roundF; rw [if_neg (by rw [hi]; simp)])
  | true =>
    obtain ⟨hs, hin⟩ := inS_iff.1 hi
    simp (maxSteps := 2000000) (disch := first | omega | assumption | exact idP rfl | exact idP (bL rfl)) only [go_sem, reduceIte, Nat.reduceEqDiff, hx.len]
    refine cond_dec (fun h => ?_) (fun h => ?_)
    · simp (maxSteps := 2000000) (disch := first | omega | assumption | exact idP rfl | exact idP (bL rfl)) only [go_sem, reduceIte, Nat.reduceEqDiff]
      exact nope _ (by (repeat (first | exact Sub.refl _ | assumption | (refine Sub.set' ?_ (by assumption))))) (by unfold roundF; rw [if_neg (by omega)])
    · have e : roundF s st rs = roundG s st rs := by unfold roundF; rw [if_pos ⟨hi, by omega⟩]
      simp (maxSteps := 2000000) (disch := first | omega | assumption | exact idP rfl | exact idP (bL rfl)) only [go_sem, reduceIte, Nat.reduceEqDiff]
      refine (o_roundFrom hv0 hs hw hin hx (by omega)).mono ?_
      rintro r M2 hd
      obtain ⟨u, w', rfl, hd2⟩ := Dn.tup2 (p := fun u' w' => w' = .bool (roundG s st rs).2 ∧ LII u' (roundG s st rs).1) (hd.mono fun v hv => by
        obtain ⟨u, rfl, h⟩ := hv
        exact ⟨u, _, rfl, rfl, h⟩)
      have hw' : w' = .bool (roundG s st rs).2 := by obtain ⟨_, _, _, _, _, _, h2, _⟩ := hd2; exact h2
      subst hw'
      simp (maxSteps := 2000000) (disch := first | omega | assumption | exact idP rfl | exact idP (bL rfl)) only [go_sem, reduceIte, Nat.reduceEqDiff]
      refine hR _ _ ?_
      rw [e]
      have hb : Sub M (M.set bk [a, b]) := by (repeat (first | exact Sub.refl _ | assumption | (refine Sub.set' ?_ (by assumption))))
      obtain ⟨u', g, tg, mg, fu, fg, hl2⟩ := hd2
      exact Dn.mk2 (p := fun u' => LII u' (roundG s st rs).1) ⟨u', g, tg, mg.base hb, fu, fg, hl2.2⟩ (by simp [flat]) fun u' h => ⟨u', rfl, h⟩
theorem t_RoundFrom {v w x : V} {s : SysS} {st rs : List Int} (hv : isSys s v) (hw : LI w st) (hx : LI x rs) (hl : rs.length ≤ 1048576) :
    VCall Try.prog n_spec_RoundFrom [v, w, x] M (fun r M' => M = M' ∧ rdRes r (roundF s st rs)) := by
  refine VCall.froz2 fun R hP hG => v_spec_RoundFrom rfl ?_
  have hv0 := hv
  obtain ⟨a, b, rfl, ha, hb⟩ := hv
  have nope : ∀ M', Sub M M' → roundF s st rs = ([], false) → R (.tup [.sc (.sl none 0 0 true 0), .sc (.bool false)]) M' := fun M' h1 h2 =>
    hP _ _ h1 ⟨_, by rw [h2], by rw [h2]; exact .nil⟩
  simp (maxSteps := 2000000) (disch := first | omega | assumption | exact idP rfl | exact idP (bL rfl)) only [go_sem, reduceIte, Nat.reduceEqDiff]
  intro bk hbk
  refine (t_InRange hv0 hw).mono ?_
  rintro _ _ ⟨rfl, rfl⟩
  cases hi : inS s st with
  | false =>
    simp (maxSteps := 2000000) (disch := first | omega | assumption | exact idP rfl | exact idP (bL rfl)) only [go_sem, reduceIte, Nat.reduceEqDiff, hx.len]
    exact nope _ (by (repeat (first | exact Sub.refl _ | assumption | (refine Sub.set' ?_ (by assumption))))) (by unfold roundF; rw [if_neg (by rw [hi]; simp)])
  | true =>
    obtain ⟨hs, hin⟩ := inS_iff.1 hi
    have h1v := hs.v1
    have h5 := hs.v5
    have h8 := hs.r8
    simp (maxSteps := 2000000) (disch := first | omega | assumption | exact idP rfl | exact idP (bL rfl)) only [go_sem, reduceIte, Nat.reduceEqDiff, hx.len]
    refine cond_dec (fun h => ?_) (fun h => ?_)
    · simp (maxSteps := 2000000) (disch := first | omega | assumption | exact idP rfl | exact idP (bL rfl)) only [go_sem, reduceIte, Nat.reduceEqDiff]
      exact nope _ (by (repeat (first | exact Sub.refl _ | assumption | (refine Sub.set' ?_ (by assumption))))) (by unfold roundF; rw [if_neg (by omega)])
    · have eF : roundF s st rs = roundG s st rs := by unfold roundF; rw [if_pos ⟨hi, by omega⟩]
      rw [eF] at nope hP hG
      simp (maxSteps := 2000000) (disch := first | omega | assumption | exact idP rfl | exact idP (bL rfl)) only [go_sem, reduceIte, Nat.reduceEqDiff, hx.len]
      refine cond_dec (fun h => ?_) (fun h => ?_)
      · have hr0 : rs = [] := List.eq_nil_of_length_eq_zero (by omega)
        simp (maxSteps := 2000000) (disch := first | omega | assumption | exact idP rfl | exact idP (bL rfl)) only [go_sem, reduceIte, Nat.reduceEqDiff]
        refine (t_l2Next hv0 hs hw hin).mono ?_
        rintro q _ ⟨rfl, hq⟩
        simp (maxSteps := 2000000) (disch := first | omega | assumption | exact idP rfl | exact idP (bL rfl)) only [go_sem, reduceIte, Nat.reduceEqDiff, hq.len]
        refine hP _ _ (by (repeat (first | exact Sub.refl _ | assumption | (refine Sub.set' ?_ (by assumption))))) ?_
        rw [next_dec]
        have e : roundG s st rs = ([], decide (nextF s st = [])) := by unfold roundG; rw [if_pos hr0]
        rw [e]
        exact ⟨_, rfl, .nil⟩
      · have hr0 : rs ≠ [] := fun e => h (by rw [e]; rfl)
        simp (maxSteps := 2000000) (disch := first | omega | assumption | exact idP rfl | exact idP (bL rfl)) only [go_sem, reduceIte, Nat.reduceEqDiff]
        intro b8 hb8
        refine loop_k (fun e M' => ∃ (i : Nat) (l : List (List Int)) (now : List Int) (us : List V), i ≤ rs.length ∧ e 1 = w ∧ e 2 = x ∧ e 3 = .sc (.ptr (some (bk, 0))) ∧ e 10 = .sc (.int .i64 i) ∧ Gr 1 (M.set bk [a, b]) M' (e 8) us ∧ Cs isL us l ∧ LI (e 9) now ∧ rGo s st (rs.take i) = some (l, now)) (fun e _ => ctrV rs.length (e 10)) ?_ ?_
        · exact ⟨0, [], st, [], by omega, by simp (maxSteps := 2000000) (disch := first | omega | assumption | exact idP rfl | exact idP (bL rfl)) only [go_sem, reduceIte, Nat.reduceEqDiff], by simp (maxSteps := 2000000) (disch := first | omega | assumption | exact idP rfl | exact idP (bL rfl)) only [go_sem, reduceIte, Nat.reduceEqDiff], by simp (maxSteps := 2000000) (disch := first | omega | assumption | exact idP rfl | exact idP (bL rfl)) only [go_sem, reduceIte, Nat.reduceEqDiff], by simp (maxSteps := 2000000) (disch := first | omega | assumption | exact idP rfl | exact idP (bL rfl)) only [go_sem, reduceIte, Nat.reduceEqDiff]; rfl, by simp (maxSteps := 2000000) (disch := first | omega | assumption | exact idP rfl | exact idP (bL rfl)) only [go_sem, reduceIte, Nat.reduceEqDiff]; exact Gr.new' (Sub.refl _) hb8 rfl, .nil, by simp (maxSteps := 2000000) (disch := first | omega | assumption | exact idP rfl | exact idP (bL rfl)) only [go_sem, reduceIte, Nat.reduceEqDiff]; exact hw, by simp [rGo]⟩
        · rintro e M1 ⟨i, l, now, us, hi, e1, e2, e3, e10, hg, hc, hr, hgo⟩ K hK
          have hm : M1 bk = some [a, b] := hg.sub _ _ set_same
          have hsub : Sub M M1 := (show Sub M (M.set bk [a, b]) by (repeat (first | exact Sub.refl _ | assumption | (refine Sub.set' ?_ (by assumption))))).trans hg.sub
          obtain ⟨p1, p2, p3, p4⟩ := rGo_ok hin i hi l now hgo
          have hul := hc.1
          simp (maxSteps := 2000000) (disch := first | omega | assumption | exact idP rfl | exact idP (bL rfl)) only [go_sem, reduceIte, Nat.reduceEqDiff, e2, e10, hx.len]
          refine cond_dec (fun h => ?_) (fun h => ?_)
          · have hi' : i < rs.length := by omega
            have hsn := rGo_snoc (s := s) (st := st) hi'
            rw [hgo] at hsn
            simp (maxSteps := 2000000) (disch := first | omega | assumption | exact idP rfl | exact idP (bL rfl)) only [go_sem, reduceIte, Nat.reduceEqDiff, e1, e2, e3, e10, hx.iaddr, hx.at hi', hm, hb.len]
            refine t_l1In.mono ?_
            rintro _ _ ⟨rfl, rfl⟩
            simp (maxSteps := 2000000) (disch := first | omega | assumption | exact idP rfl | exact idP (bL rfl)) only [go_sem, reduceIte, Nat.reduceEqDiff]
            refine cond_dec (fun hk => ?_) (fun hk => ?_)
            rotate_left
            · have hk := Classical.not_not.1 hk
              have hk2 : rs[i].toNat < s.rules.length := by omega
              rw [rStep_at hk.1 hk2] at hsn
              have hu := t_l2Use (M := M1) hv0 hs hr p2 hk2
              rw [Int.toNat_of_nonneg hk.1] at hu
              simp (maxSteps := 2000000) (disch := first | omega | assumption | exact idP rfl | exact idP (bL rfl)) only [go_sem, reduceIte, Nat.reduceEqDiff, e1, e2, e3, e10, hm, hx.iaddr, hx.at hi']
              refine hu.mono ?_
              rintro r _ ⟨rfl, hr2⟩
              cases hy : useR s.vars s.rules[rs[i].toNat] now with
              | none =>
                rw [hy] at hsn hr2
                simp only [lRes] at hr2
                subst hr2
                simp (maxSteps := 2000000) (disch := first | omega | assumption | exact idP rfl | exact idP (bL rfl)) only [go_sem, reduceIte, Nat.reduceEqDiff]
                exact nope _ hsub (roundG_none hr0 (rGo_none hsn))
              | some ys =>
                rw [hy] at hsn hr2
                have hr2 : LI r ys := hr2
                have ho1 := hr2.one.1
                have ho2 := hr2.one.2
                have hyl : ys.length = s.vars.length := (useR_in hy).1
                simp (maxSteps := 2000000) (disch := first | omega | assumption | exact idP rfl | exact idP (bL rfl)) only [go_sem, reduceIte, Nat.reduceEqDiff, hr2.len]
                refine cond_dec (fun h0 => by omega) (fun h0 => ?_)
                simp (maxSteps := 2000000) (disch := first | omega | assumption | exact idP rfl | exact idP (bL rfl)) only [go_sem, reduceIte, Nat.reduceEqDiff, e1, e2, e3, e10, ho1, ho2]
                intro bt hbt
                refine app_val hg hbt ho1 (by omega) (by omega) ?_
                intro s' M3 hg3 _
                simp (maxSteps := 2000000) (disch := first | omega | assumption | exact idP rfl | exact idP (bL rfl)) only [go_sem, reduceIte, Nat.reduceEqDiff]
                exact hK _ _ ⟨i + 1, l ++ [ys], ys, us ++ [r], by omega, by simp (maxSteps := 2000000) (disch := first | omega | assumption | exact idP rfl | exact idP (bL rfl)) only [go_sem, reduceIte, Nat.reduceEqDiff, e1], by simp (maxSteps := 2000000) (disch := first | omega | assumption | exact idP rfl | exact idP (bL rfl)) only [go_sem, reduceIte, Nat.reduceEqDiff, e2], by simp (maxSteps := 2000000) (disch := first | omega | assumption | exact idP rfl | exact idP (bL rfl)) only [go_sem, reduceIte, Nat.reduceEqDiff, e3], by simp (maxSteps := 2000000) (disch := first | omega | assumption | exact idP rfl | exact idP (bL rfl)) only [go_sem, reduceIte, Nat.reduceEqDiff]; rfl, by simp (maxSteps := 2000000) (disch := first | omega | assumption | exact idP rfl | exact idP (bL rfl)) only [go_sem, reduceIte, Nat.reduceEqDiff]; exact hg3, hc.snoc hr2, by simp (maxSteps := 2000000) (disch := first | omega | assumption | exact idP rfl | exact idP (bL rfl)) only [go_sem, reduceIte, Nat.reduceEqDiff]; exact hr2, hsn⟩ (by simp (maxSteps := 2000000) (disch := first | omega | assumption | exact idP rfl | exact idP (bL rfl)) only [go_sem, reduceIte, Nat.reduceEqDiff, ctrV_int, e10]; omega)
            · rw [rStep_out hk] at hsn
              simp (maxSteps := 2000000) (disch := first | omega | assumption | exact idP rfl | exact idP (bL rfl)) only [go_sem, reduceIte, Nat.reduceEqDiff]
              exact nope _ hsub (roundG_none hr0 (rGo_none hsn))
          · obtain rfl : i = rs.length := by omega
            rw [List.take_length] at hgo
            have hgs := roundG_some hr0 hgo
            simp (maxSteps := 2000000) (disch := first | omega | assumption | exact idP rfl | exact idP (bL rfl)) only [go_sem, reduceIte, Nat.reduceEqDiff, e1]
            refine (t_l2Same hr hw (by rw [p2.1]; omega)).mono ?_
            rintro _ _ ⟨rfl, rfl⟩
            by_cases heq : now = st
            · have hd : decide (now = st) = true := by simp [heq]
              rw [if_pos heq] at hgs
              simp (maxSteps := 2000000) (disch := first | omega | assumption | exact idP rfl | exact idP (bL rfl)) only [go_sem, reduceIte, Nat.reduceEqDiff, hd]
              refine hG _ _ _ 1 us (hg.base (by (repeat (first | exact Sub.refl _ | assumption | (refine Sub.set' ?_ (by assumption)))))) fun u hu => ?_
              rw [hgs]
              exact ⟨u, rfl, hu.lsC hc⟩
            · have hd : decide (now = st) = false := by simp [heq]
              rw [if_neg heq] at hgs
              simp (maxSteps := 2000000) (disch := first | omega | assumption | exact idP rfl | exact idP (bL rfl)) only [go_sem, reduceIte, Nat.reduceEqDiff, hd]
              exact nope _ hsub hgs
end Go.M2

namespace Go.M2
theorem sep2 {M M' : MH} {f g : List (Nat × List V)} (_ : ∀ p ∈ f, M' p.1 = some p.2) (hf : ∀ p ∈ f, M p.1 = some p.2) (hg : ∀ p ∈ g, M p.1 = none) {p : Nat × List V} (hp : p ∈ g) : inF f p.1 = false := by
  cases hc : inF f p.1 with
  | false => rfl
  | true =>
    obtain ⟨l, hl⟩ := inF_iff.1 hc
    have e1 := hf _ hl
    have e2 := hg p hp
    simp only at e1
    rw [e1] at e2; cases e2
theorem sep2r {M : MH} {f g : List (Nat × List V)} (hf : ∀ p ∈ f, M p.1 = some p.2) (hg : ∀ p ∈ g, M p.1 = none) {p : Nat × List V} (hp : p ∈ f) : inF g p.1 = false := by
  cases hc : inF g p.1 with
  | false => rfl
  | true =>
    obtain ⟨l, hl⟩ := inF_iff.1 hc
    have e1 := hg _ hl
    have e2 := hf p hp
    simp only at e1
    rw [e1] at e2; cases e2
theorem oldF {M : MH} {f : List (Nat × List V)} {q : Nat} {l : List V} (hf : ∀ p ∈ f, M p.1 = none) (h : M q = some l) : inF f q = false := by
  cases hc : inF f q with
  | false => rfl
  | true =>
    obtain ⟨l2, hl⟩ := inF_iff.1 hc
    have e1 := hf _ hl
    simp only at e1
    rw [e1] at h; cases h
end Go.M2

namespace Go.M2
open Go.Proofs
variable {M : MH}
theorem law_RoundFrom {v : V} {s : SysS} (hv : isSysX s v) (hl : SysLen s) {w1 : V} {xs1 : List Int} (hw1 : XI w1 xs1) (hx1 : LenOk xs1) {w2 : V} {xs2 : List Int} (hw2 : XI w2 xs2) (hx2 : LenOk xs2) :
    VCall Try.prog n_laws_FnExactRoundFrom [v, w1, w2] M (fun r M' => M = M' ∧ r = .sc (.bool true)) := by
  refine VCall.pure fun R hR => v_laws_FnExactRoundFrom rfl ?_
  have hv0 := hv
  obtain ⟨a, b, rfl, ha, hb⟩ := hv
  unfold LenOk at hx1
  have hlen1 := hw1.len fun _ _ h => h.len
  unfold LenOk at hx2
  have hlen2 := hw2.len fun _ _ h => h.len
  (repeat' (first | ((first | with_reducible refine cond_dec (fun h => ?_) (fun h => ?_) | with_reducible refine guardK_dec (fun h => ?_) (fun h => ?_) | with_reducible refine guardD3_dec (fun h => ?_) (fun h => ?_)) <;> first | (exfalso; omega) | (simp (maxSteps := 2000000) (disch := first | omega | assumption | exact idP rfl | exact idP (bL rfl)) only [go_sem, reduceIte, Nat.reduceEqDiff, h, hlen1, hlen2]) | skip) | ((first | with_reducible refine cond_split (fun h => ?_) (fun h => ?_) | with_reducible refine guardK_split (fun h => ?_) (fun h => ?_) | with_reducible refine guardD3_split (fun h => ?_) (fun h => ?_)) <;> ((try simp only [Bool.not_eq_true', Bool.not_eq_false'] at h); first | (simp (maxSteps := 2000000) (disch := first | omega | assumption | exact idP rfl | exact idP (bL rfl)) only [go_sem, reduceIte, Nat.reduceEqDiff, h, hlen1, hlen2]) | skip)) | (with_reducible intro bk hbk; try have hnk := (fresh_set hbk).1) | (simp (maxSteps := 2000000) (disch := first | omega | assumption | exact idP rfl | exact idP (bL rfl)) only [go_sem, reduceIte, Nat.reduceEqDiff, hlen1, hlen2])))
  · exact hR _ _ (by (repeat (first | exact Sub.refl _ | assumption | (refine Sub.set' ?_ (by assumption))))) rfl
  · exact hR _ _ (by (repeat (first | exact Sub.refl _ | assumption | (refine Sub.set' ?_ (by assumption))))) rfl
  skip
  refine (x_szSystem hv0 hl (by omega) (by omega)).mono ?_
  rintro _ _ ⟨rfl, k, rfl, hk1, hk⟩
  (repeat' (first | ((first | with_reducible refine cond_dec (fun h => ?_) (fun h => ?_) | with_reducible refine guardK_dec (fun h => ?_) (fun h => ?_) | with_reducible refine guardD3_dec (fun h => ?_) (fun h => ?_)) <;> first | (exfalso; omega) | (simp (maxSteps := 2000000) (disch := first | omega | assumption | exact idP rfl | exact idP (bL rfl)) only [go_sem, reduceIte, Nat.reduceEqDiff, h]) | skip) | ((first | with_reducible refine cond_split (fun h => ?_) (fun h => ?_) | with_reducible refine guardK_split (fun h => ?_) (fun h => ?_) | with_reducible refine guardD3_split (fun h => ?_) (fun h => ?_)) <;> ((try simp only [Bool.not_eq_true', Bool.not_eq_false'] at h); first | (simp (maxSteps := 2000000) (disch := first | omega | assumption | exact idP rfl | exact idP (bL rfl)) only [go_sem, reduceIte, Nat.reduceEqDiff, h]) | skip)) | (with_reducible intro bk hbk; try have hnk := (fresh_set hbk).1) | (simp (maxSteps := 2000000) (disch := first | omega | assumption | exact idP rfl | exact idP (bL rfl)) only [go_sem, reduceIte, Nat.reduceEqDiff])))
  · exact hR _ _ (by (repeat (first | exact Sub.refl _ | assumption | (refine Sub.set' ?_ (by assumption))))) rfl
  have hf := hk (by omega)
  have hxl1 : xs1.length ≤ 1048576 := by omega
  have hxl2 : xs2.length ≤ 1048576 := by omega
  obtain ⟨zq1, zq2⟩ := roundF_len s xs1 xs2
  have hzl0 : (roundF s xs1 xs2).1.length ≤ 1048576 := by omega
  have hzm0 : ∀ ts ∈ (roundF s xs1 xs2).1, ts.length ≤ 1048576 := fun ts h => Nat.le_trans (zq2 ts h) (by omega)
  have hob0 := offN_le hzm0 (roundF s xs1 xs2).1.length (Nat.le_refl _)
  generalize hz0 : (roundF s xs1 xs2).1 = z0 at *
  generalize hz1 : (roundF s xs1 xs2).2 = z1 at *
  have hbq1 : ∀ t : Bool, beqF true (.bool t) (.bool t) = some (.bool false) := fun t => by cases t <;> rfl
  refine (f_toSystem hv0 hf).mono ?_
  rintro s1 _ ⟨rfl, hs1⟩
  simp (maxSteps := 2000000) (disch := first | omega | assumption | exact idP rfl | exact idP (bL rfl)) only [go_sem, reduceIte, Nat.reduceEqDiff]
  refine (f_toIntS hw1 hxl1).mono ?_
  rintro y1 _ ⟨rfl, hy1⟩
  simp (maxSteps := 2000000) (disch := first | omega | assumption | exact idP rfl | exact idP (bL rfl)) only [go_sem, reduceIte, Nat.reduceEqDiff]
  refine (f_toIntS hw2 hxl2).mono ?_
  rintro y2 _ ⟨rfl, hy2⟩
  simp (maxSteps := 2000000) (disch := first | omega | assumption | exact idP rfl | exact idP (bL rfl)) only [go_sem, reduceIte, Nat.reduceEqDiff]
  refine (t_RoundFrom hs1 hy1 hy2 hxl2).mono ?_
  rintro _ _ ⟨rfl, wr0, rfl, hwr0⟩
  rw [hz0] at hwr0
  rw [hz1]
  simp (maxSteps := 2000000) (disch := first | omega | assumption | exact idP rfl | exact idP (bL rfl)) only [go_sem, reduceIte, Nat.reduceEqDiff]
  have hsub0 : Sub M (M.set bk [a, b]) := (Sub.refl M).set' hbk
  refine (o_toSystem hv0 hf).mono ?_
  rintro _ M1 ⟨x, y, x', y', fp, rfl, ⟨ox1, ox2⟩, ⟨oy1, oy2⟩, hos⟩
  simp (maxSteps := 2000000) (disch := first | omega | assumption | exact idP rfl | exact idP (bL rfl)) only [go_sem, reduceIte, Nat.reduceEqDiff, ox1, ox2, oy1, oy2]
  intro b7 hb7
  have hs7 : Sub M1 (M1.set b7 [x, y]) := (Sub.refl M1).set' hb7
  have hbk1 : M1 bk = some [a, b] := hos.mem.sub bk _ set_same
  have nbk : bk ≠ b7 := fun e => by subst e; rw [hb7] at hbk1; cases hbk1
  refine (d_toIntS hw1 hxl1).mono ?_
  rintro q1 N1 ⟨⟨oq1a, oq1b⟩, q1', fq1, tq1, mq1, flq1, ffq1, hq1⟩
  have hsn1 : Sub M1 N1 := hs7.trans mq1.sub
  simp (maxSteps := 2000000) (disch := first | omega | assumption | exact idP rfl | exact idP (bL rfl)) only [go_sem, reduceIte, Nat.reduceEqDiff, oq1a, oq1b]
  refine (d_toIntS hw2 hxl2).mono ?_
  rintro q2 N2 ⟨⟨oq2a, oq2b⟩, q2', fq2, tq2, mq2, flq2, ffq2, hq2⟩
  have hsn2 : Sub M1 N2 := hsn1.trans mq2.sub
  have hend := True.intro
  have hos3 := hos.more hsn2
  have hm7 : N2 b7 = some [x, y] := mq2.sub _ _ (mq1.sub b7 _ set_same)
  have hmk : N2 bk = some [a, b] := hsn2 bk _ hbk1
  have hqa1 : ∀ p ∈ fq1, N2 p.1 = some p.2 := fun p hp => mq2.sub _ _ (mq1.at_ p hp)
  have hqa2 : ∀ p ∈ fq2, N2 p.1 = some p.2 := fun p hp => mq2.at_ p hp
  have hall := hos.mem.add ((mq1.base hs7).add mq2)
  have htr := hos.arg.append (tq1.append tq2)
  simp (maxSteps := 2000000) (disch := first | omega | assumption | exact idP rfl | exact idP (bL rfl)) only [go_sem, reduceIte, Nat.reduceEqDiff, hm7, oq1a, oq1b, oq2a, oq2b]
  refine (VCall.lendD htr hall.at_ hall.nd fun M' => o_impRoundFrom hos.sys hf.sz hq1 hq2 hxl2).mono ?_
  rintro r4 M4 hd4
  obtain ⟨g0, tb, rfl, g0', fg0, tg0, mg0, flg0, ffg0, htb, hg0⟩ := Dn.tup2 (p := fun u' w' => w' = .bool ((roundF s xs1 xs2).2) ∧ LII u' ((roundF s xs1 xs2).1)) (hd4.mono fun v hv => by
    obtain ⟨u, rfl, h⟩ := hv
    exact ⟨u, _, rfl, rfl, h⟩)
  rw [hz0] at hg0
  rw [hz1] at htb
  subst htb
  have hs4 := mg0.sub
  have hos4 := hos3.more hs4
  have hmk4 : M4 bk = some [a, b] := hs4 bk _ hmk
  have hm74 : M4 b7 = some [x, y] := hs4 b7 _ hm7
  have hqb1 : ∀ p ∈ fq1, M4 p.1 = some p.2 := fun p hp => hs4 _ _ (hqa1 p hp)
  have hqb2 : ∀ p ∈ fq2, M4 p.1 = some p.2 := fun p hp => hs4 _ _ (hqa2 p hp)
  simp (maxSteps := 2000000) (disch := first | omega | assumption | exact idP rfl | exact idP (bL rfl)) only [go_sem, reduceIte, Nat.reduceEqDiff]
  refine (l_eqIntSS tg0 hg0 mg0.at_ mg0.nd hwr0 hzl0 hzm0).mono ?_
  rintro _ _ ⟨rfl, rfl⟩
  simp (maxSteps := 2000000) (disch := first | omega | assumption | exact idP rfl | exact idP (bL rfl)) only [go_sem, reduceIte, Nat.reduceEqDiff, hmk4, hm74, hbq1]
  refine (f_toSystem hv0 hf).mono ?_
  rintro s3 _ ⟨rfl, hs3⟩
  simp (maxSteps := 2000000) (disch := first | omega | assumption | exact idP rfl | exact idP (bL rfl)) only [go_sem, reduceIte, Nat.reduceEqDiff, hm74]
  refine (l_eqSystem hos4 hs3 hf).mono ?_
  rintro _ _ ⟨rfl, rfl⟩
  simp (maxSteps := 2000000) (disch := first | omega | assumption | exact idP rfl | exact idP (bL rfl)) only [go_sem, reduceIte, Nat.reduceEqDiff]
  refine (f_toIntS hw1 hxl1).mono ?_
  rintro z1 _ ⟨rfl, hz1b⟩
  simp (maxSteps := 2000000) (disch := first | omega | assumption | exact idP rfl | exact idP (bL rfl)) only [go_sem, reduceIte, Nat.reduceEqDiff]
  refine (l_eqIntS tq1 hq1 hqb1 mq1.nd hz1b hxl1).mono ?_
  rintro _ _ ⟨rfl, rfl⟩
  simp (maxSteps := 2000000) (disch := first | omega | assumption | exact idP rfl | exact idP (bL rfl)) only [go_sem, reduceIte, Nat.reduceEqDiff, hm74]
  refine (f_toIntS hw2 hxl2).mono ?_
  rintro z2 _ ⟨rfl, hz2b⟩
  simp (maxSteps := 2000000) (disch := first | omega | assumption | exact idP rfl | exact idP (bL rfl)) only [go_sem, reduceIte, Nat.reduceEqDiff]
  refine (l_eqIntS tq2 hq2 hqb2 mq2.nd hz2b hxl2).mono ?_
  rintro _ _ ⟨rfl, rfl⟩
  simp (maxSteps := 2000000) (disch := first | omega | assumption | exact idP rfl | exact idP (bL rfl)) only [go_sem, reduceIte, Nat.reduceEqDiff, hm74]
  refine (t_markSystem hos4 hf (by omega) (by omega)).mono ?_
  rintro _ M5 ⟨k5, rfl, k51, k52, sub5, keep5⟩
  have hmk5 : M5 bk = some [a, b] := sub5 bk _ set_same
  have hp1 : ∀ p ∈ fq1, inF fp p.1 = false := fun p hp => sep2 hos3.mem.at_ (hos.mem.more hs7).at_ mq1.new hp
  have hp2 : ∀ p ∈ fq2, inF fp p.1 = false := fun p hp => sep2 hos3.mem.at_ (hos.mem.more hsn1).at_ mq2.new hp
  have hpg : ∀ p ∈ fg0, inF fp p.1 = false := fun p hp => sep2 hos3.mem.at_ hos3.mem.at_ mg0.new hp
  have hgq1 : ∀ p ∈ fg0, inF fq1 p.1 = false := fun p hp => sep2 hqa1 hqa1 mg0.new hp
  have hgq2 : ∀ p ∈ fg0, inF fq2 p.1 = false := fun p hp => sep2 hqa2 hqa2 mg0.new hp
  have hqq2_1 : ∀ p ∈ fq1, inF fq2 p.1 = false := fun p hp => sep2r (fun p hp => mq1.at_ p hp) mq2.new hp
  have hqq1_2 : ∀ p ∈ fq2, inF fq1 p.1 = false := fun p hp => sep2 (mq1.at_) (fun p hp => mq1.at_ p hp) mq2.new hp
  have hqc1 : ∀ p ∈ fq1, M5 p.1 = some p.2 := fun p hp => keep5 _ _ (hqb1 p hp) (hp1 p hp)
  have hqc2 : ∀ p ∈ fq2, M5 p.1 = some p.2 := fun p hp => keep5 _ _ (hqb2 p hp) (hp2 p hp)
  have hgc0 : ∀ p ∈ fg0, M5 p.1 = some p.2 := fun p hp => keep5 _ _ (mg0.at_ p hp) (hpg p hp)
  simp (maxSteps := 2000000) (disch := first | omega | assumption | exact idP rfl | exact idP (bL rfl)) only [go_sem, reduceIte, Nat.reduceEqDiff]
  refine (t_markRk tq1 flq1 hq1 hqc1 hxl1 (by omega) (by omega)).mono ?_
  rintro _ L1 ⟨rfl, _, _, keepL1⟩
  have hqc2_1 : ∀ p ∈ fq2, L1 p.1 = some p.2 := fun p hp => by rw [keepL1 _ (hqq1_2 p hp)]; exact hqc2 p hp
  have hgc0_1 : ∀ p ∈ fg0, L1 p.1 = some p.2 := fun p hp => by rw [keepL1 _ (hgq1 p hp)]; exact hgc0 p hp
  have old1 : ∀ q l, (M.set bk [a, b]) q = some l → inF fq1 q = false := fun q l hq => oldF mq1.new (hs7 q l (hos.mem.sub q l hq))
  have subL1 : Sub (M.set bk [a, b]) L1 := fun q l hq => by rw [keepL1 q (old1 q l hq)]; exact sub5 q l hq
  simp (maxSteps := 2000000) (disch := first | omega | assumption | exact idP rfl | exact idP (bL rfl)) only [go_sem, reduceIte, Nat.reduceEqDiff]
  refine (t_markRk tq2 flq2 hq2 hqc2_1 hxl2 (by omega) (by omega)).mono ?_
  rintro _ L2 ⟨rfl, _, _, keepL2⟩
  have hgc0_1_2 : ∀ p ∈ fg0, L2 p.1 = some p.2 := fun p hp => by rw [keepL2 _ (hgq2 p hp)]; exact hgc0_1 p hp
  have old2 : ∀ q l, (M.set bk [a, b]) q = some l → inF fq2 q = false := fun q l hq => oldF mq2.new (hsn1 q l (hos.mem.sub q l hq))
  have subL2 : Sub (M.set bk [a, b]) L2 := fun q l hq => by rw [keepL2 q (old2 q l hq)]; exact subL1 q l hq
  simp (maxSteps := 2000000) (disch := first | omega | assumption | exact idP rfl | exact idP (bL rfl)) only [go_sem, reduceIte, Nat.reduceEqDiff]
  have hk6 : ¬ k5 + (xs1.length : Int) + (xs2.length : Int) < 0 := by omega
  simp (maxSteps := 2000000) (disch := first | omega | assumption | exact idP rfl | exact idP (bL rfl)) only [go_sem, reduceIte, Nat.reduceEqDiff, hk6]
  refine (l_eqIntSS tg0 hg0 hgc0_1_2 mg0.nd hwr0 hzl0 hzm0).mono ?_
  rintro _ _ ⟨rfl, rfl⟩
  simp (maxSteps := 2000000) (disch := first | omega | assumption | exact idP rfl | exact idP (bL rfl)) only [go_sem, reduceIte, Nat.reduceEqDiff, hk6, hbq1]
  refine (t_markIntSS tg0 flg0 ffg0 hg0 mg0.nd hgc0_1_2 hzl0 hzm0 (by omega) (by omega)).mono ?_
  rintro _ M7 ⟨rfl, hd7, keep7⟩
  have sub7 : Sub (M.set bk [a, b]) M7 := fun q l hq => by rw [keep7 q (oldF mg0.new (hsn2 q l (hos.mem.sub q l hq)))]; exact subL2 q l hq
  have hmk7 : M7 bk = some [a, b] := sub7 bk _ set_same
  simp (maxSteps := 2000000) (disch := first | omega | assumption | exact idP rfl | exact idP (bL rfl)) only [go_sem, reduceIte, Nat.reduceEqDiff]
  refine (t_heldIntSS hd7 hzl0 hzm0 (by omega) (by omega)).mono ?_
  rintro _ _ ⟨rfl, rfl⟩
  have hneg : ¬ (1 : Int) + (offN z0 z0.length : Int) < 0 := by omega
  simp (maxSteps := 2000000) (disch := first | omega | assumption | exact idP rfl | exact idP (bL rfl)) only [go_sem, reduceIte, Nat.reduceEqDiff, hneg, hmk7]
  refine (f_toSystem hv0 hf).mono ?_
  rintro s4 _ ⟨rfl, hs4b⟩
  simp (maxSteps := 2000000) (disch := first | omega | assumption | exact idP rfl | exact idP (bL rfl)) only [go_sem, reduceIte, Nat.reduceEqDiff]
  refine (f_toIntS hw1 hxl1).mono ?_
  rintro u1 _ ⟨rfl, hu1⟩
  simp (maxSteps := 2000000) (disch := first | omega | assumption | exact idP rfl | exact idP (bL rfl)) only [go_sem, reduceIte, Nat.reduceEqDiff]
  refine (f_toIntS hw2 hxl2).mono ?_
  rintro u2 _ ⟨rfl, hu2⟩
  simp (maxSteps := 2000000) (disch := first | omega | assumption | exact idP rfl | exact idP (bL rfl)) only [go_sem, reduceIte, Nat.reduceEqDiff]
  refine (VCall.frT (o_impRoundFrom hs4b hf.sz hu1 hu2 hxl2)).mono ?_
  rintro _ _ ⟨rfl, h0, rfl, hh0⟩
  rw [hz0] at hh0
  rw [hz1]
  simp (maxSteps := 2000000) (disch := first | omega | assumption | exact idP rfl | exact idP (bL rfl)) only [go_sem, reduceIte, Nat.reduceEqDiff]
  refine (x_eqIntSS hh0 hwr0 hzl0 hzm0).mono ?_
  rintro _ _ ⟨rfl, rfl⟩
  simp (maxSteps := 2000000) (disch := first | omega | assumption | exact idP rfl | exact idP (bL rfl)) only [go_sem, reduceIte, Nat.reduceEqDiff, hbq1]
  refine (t_heldIntSS hd7 hzl0 hzm0 (by omega) (by omega)).mono ?_
  rintro _ _ ⟨rfl, rfl⟩
  simp (maxSteps := 2000000) (disch := first | omega | assumption | exact idP rfl | exact idP (bL rfl)) only [go_sem, reduceIte, Nat.reduceEqDiff, hneg]
  exact hR _ _ (hsub0.trans sub7) rfl
end Go.M2
