/- Contracts of a law's frame: copies of rules and systems. -/
import Derived.Test.YtkojebodimpfaaaKt5
import Derived.Test.YtkojebodimpfaaaChecked
set_option linter.unusedVariables false
set_option linter.unusedSimpArgs false
set_option maxRecDepth 10000
set_option maxHeartbeats 4000000
namespace Go.M2
open Go.Proofs
variable {M : MH}
theorem f_toTermSS {v : V} {xs : List (List TermS)} (hv : XTT v xs) (hl : xs.length ≤ 1048576) (hx : ∀ ts ∈ xs, ts.length ≤ 1048576) : VCall Try.prog n_laws_toTermSS [v] M (fun r M' => M = M' ∧ LTT r xs) := by
  refine VCall.froz fun R hP hG => v_laws_toTermSS rfl ?_
  have hlen := hv.len fun _ _ h => h.len
  simp (maxSteps := 2000000) (disch := first | omega | assumption | exact idP rfl | exact idP (bL rfl)) only [go_sem, reduceIte, Nat.reduceEqDiff, hlen]
  refine mks3 (by omega) (by simp [mostCells]; omega) (by simp [mostCells]; omega) ?_
  intro b3 hb3
  simp (maxSteps := 2000000) (disch := first | omega | assumption | exact idP rfl | exact idP (bL rfl)) only [go_sem, reduceIte, Nat.reduceEqDiff, zeros_nil]
  refine loop_k (fun e M' => ∃ (i : Nat) (us : List V), i ≤ xs.length ∧ e 0 = v ∧ e 3 = .sc (.sl (some (b3, 0)) xs.length xs.length true 1) ∧ e 4 = .sc (.int .i64 i) ∧ Sub M M' ∧ M' b3 = some (us ++ List.replicate (xs.length - i) nil1) ∧ Cs (fun ts u => LT u ts) us (xs.take i)) (fun e _ => ctrV xs.length (e 4)) ?_ ?_
  · exact ⟨0, [], by omega, by simp (maxSteps := 2000000) (disch := first | omega | assumption | exact idP rfl | exact idP (bL rfl)) only [go_sem, reduceIte, Nat.reduceEqDiff], by simp (maxSteps := 2000000) (disch := first | omega | assumption | exact idP rfl | exact idP (bL rfl)) only [go_sem, reduceIte, Nat.reduceEqDiff], by simp (maxSteps := 2000000) (disch := first | omega | assumption | exact idP rfl | exact idP (bL rfl)) only [go_sem, reduceIte, Nat.reduceEqDiff]; rfl, (Sub.refl _).set hb3, by simp (maxSteps := 2000000) (disch := first | omega | assumption | exact idP rfl | exact idP (bL rfl)) only [go_sem, reduceIte, Nat.reduceEqDiff]; simp, .nil⟩
  · rintro e M1 ⟨i, us, hi, e0, e3, e4, hsub, hm, hc⟩ K hK
    have hul : us.length = i := by have := hc.1; simp at this; omega
    simp (maxSteps := 2000000) (disch := first | omega | assumption | exact idP rfl | exact idP (bL rfl)) only [go_sem, reduceIte, Nat.reduceEqDiff, e0, e3, e4, hlen]
    refine cond_dec (fun h => ?_) (fun h => ?_)
    · have hi' : i < xs.length := by omega
      have hv' := hv.get (by omega)
      obtain ⟨q, hq⟩ : ∃ q, xs.length - i = q + 1 := ⟨xs.length - i - 1, by omega⟩
      rw [hq, List.replicate_succ] at hm
      simp (maxSteps := 2000000) (disch := first | omega | assumption | exact idP rfl | exact idP (bL rfl)) only [go_sem, reduceIte, Nat.reduceEqDiff, e0, e3, e4, hv'.iaddr]
      refine (f_toTermS (hv'.elt hi') (hx _ (List.getElem_mem hi'))).mono ?_
      rintro r _ ⟨rfl, hr⟩
      have hr1 := hr.one.1
      have hr2 := hr.one.2
      have hsm : (us ++ nil1 :: List.replicate q nil1).set i r = us ++ r :: List.replicate q nil1 := set_mid hul
      have hnl3 : i < (us ++ nil1 :: List.replicate q nil1).length := by simp; omega
      simp (maxSteps := 2000000) (disch := first | omega | assumption | exact idP rfl | exact idP (bL rfl)) only [go_sem, reduceIte, Nat.reduceEqDiff, e0, e3, e4, hm, hr2, hsm]
      refine hK _ _ ⟨i + 1, us ++ [r], by omega, by simp (maxSteps := 2000000) (disch := first | omega | assumption | exact idP rfl | exact idP (bL rfl)) only [go_sem, reduceIte, Nat.reduceEqDiff], by simp (maxSteps := 2000000) (disch := first | omega | assumption | exact idP rfl | exact idP (bL rfl)) only [go_sem, reduceIte, Nat.reduceEqDiff], by simp (maxSteps := 2000000) (disch := first | omega | assumption | exact idP rfl | exact idP (bL rfl)) only [go_sem, reduceIte, Nat.reduceEqDiff]; rfl, hsub.set hb3, by simp (maxSteps := 2000000) (disch := first | omega | assumption | exact idP rfl | exact idP (bL rfl)) only [go_sem, reduceIte, Nat.reduceEqDiff]; simp [show xs.length - (i + 1) = q by omega], ?_⟩ (by simp (maxSteps := 2000000) (disch := first | omega | assumption | exact idP rfl | exact idP (bL rfl)) only [go_sem, reduceIte, Nat.reduceEqDiff, ctrV_int, e4]; omega)
      rw [take_snoc hi']
      exact hc.snoc hr
    · obtain rfl : i = xs.length := by omega
      rw [List.take_length] at hc
      simp (maxSteps := 2000000) (disch := first | omega | assumption | exact idP rfl | exact idP (bL rfl)) only [go_sem, reduceIte, Nat.reduceEqDiff, e3]
      exact hG _ _ 1 us ⟨hsub, fun b' h' => by simp [blkV] at h'; subst h'; exact hb3, .inr ⟨b3, _, true, rfl, by simpa using hm, by omega⟩⟩ fun u hu => hu.lsC hc
theorem f_toRule {cs : List V} {r : RuleS} (hv : isRuleX r cs) (hf : RuleFit r) : VCall Try.prog n_laws_toRule [.agg cs] M (fun r' M' => M = M' ∧ ∃ ds, r' = .agg ds ∧ isRule r ds) := by
  refine VCall.pure fun R hR => v_laws_toRule rfl ?_
  obtain ⟨a, b, c, rfl, ha, hb, hc⟩ := hv
  obtain ⟨f1, f2, f3, f4⟩ := hf
  simp (maxSteps := 2000000) (disch := first | omega | assumption | exact idP rfl | exact idP (bL rfl)) only [go_sem, reduceIte, Nat.reduceEqDiff]
  intro b1 hb1
  try simp (maxSteps := 2000000) (disch := first | omega | assumption | exact idP rfl | exact idP (bL rfl)) only [go_sem, reduceIte, Nat.reduceEqDiff]
  intro b2 hb2
  try simp (maxSteps := 2000000) (disch := first | omega | assumption | exact idP rfl | exact idP (bL rfl)) only [go_sem, reduceIte, Nat.reduceEqDiff]
  intro b3 hb3
  have n21 := (fresh_set hb2).1
  have n32 := (fresh_set hb3).1
  have n31 := (fresh_set (fresh_set hb3).2).1
  simp (maxSteps := 2000000) (disch := first | omega | assumption | exact idP rfl | exact idP (bL rfl)) only [go_sem, reduceIte, Nat.reduceEqDiff]
  refine (f_toTermS ha f1).mono ?_
  rintro x _ ⟨rfl, hx⟩
  have hx1 := hx.one.1
  have hx2 := hx.one.2
  simp (maxSteps := 2000000) (disch := first | omega | assumption | exact idP rfl | exact idP (bL rfl)) only [go_sem, reduceIte, Nat.reduceEqDiff, hx2]
  refine (f_toIntS hb f2).mono ?_
  rintro y _ ⟨rfl, hy⟩
  have hy1 := hy.one.1
  have hy2 := hy.one.2
  simp (maxSteps := 2000000) (disch := first | omega | assumption | exact idP rfl | exact idP (bL rfl)) only [go_sem, reduceIte, Nat.reduceEqDiff, hy2]
  refine (f_toTermSS hc f3 f4).mono ?_
  rintro z _ ⟨rfl, hz⟩
  have hz1 := hz.one.1
  have hz2 := hz.one.2
  simp (maxSteps := 2000000) (disch := first | omega | assumption | exact idP rfl | exact idP (bL rfl)) only [go_sem, reduceIte, Nat.reduceEqDiff, hz2]
  refine hR _ _ ?_ ⟨_, rfl, x, y, z, rfl, hx, hy, hz⟩
  repeat (first | exact Sub.refl _ | assumption | (refine Sub.set ?_ (fresh_set hb2).2) | (refine Sub.set ?_ (fresh_set (fresh_set hb3).2).2) | (refine Sub.set' ?_ (by assumption)))
abbrev T3 := {l : List V // l.length = 3}
def z3 : T3 := ⟨[nil1, nil1, nil1], rfl⟩
theorem f_toRuleS {v : V} {xs : List RuleS} (hv : XR v xs) (hl : xs.length ≤ 1048576) (hx : ∀ r ∈ xs, RuleFit r) : VCall Try.prog n_laws_toRuleS [v] M (fun r M' => M = M' ∧ LR r xs) := by
  refine VCall.froz fun R hP hG => v_laws_toRuleS rfl ?_
  have hlen := hv.len fun _ _ h => h.len
  have henc : ∀ x : T3, x.val.length = 3 := fun x => x.property
  simp (maxSteps := 2000000) (disch := first | omega | assumption | exact idP rfl | exact idP (bL rfl)) only [go_sem, reduceIte, Nat.reduceEqDiff, hlen]
  refine mks3 (by omega) (by simp [mostCells]; omega) (by simp [mostCells]; omega) ?_
  intro b3 hb3
  simp (maxSteps := 2000000) (disch := first | omega | assumption | exact idP rfl | exact idP (bL rfl)) only [go_sem, reduceIte, Nat.reduceEqDiff, zeros_cat (enc := fun x : T3 => x.val) (z := z3) (zs := [AV.sl none 0 0 true 0, AV.sl none 0 0 true 0, AV.sl none 0 0 true 0]) rfl]
  refine loop_k (fun e M' => ∃ (i : Nat) (us : List T3), i ≤ xs.length ∧ us.length = i ∧ e 0 = v ∧ e 3 = .sc (.sl (some (b3, 0)) xs.length xs.length true 3) ∧ e 4 = .sc (.int .i64 i) ∧ Sub M M' ∧ M' b3 = some (catV (fun x : T3 => x.val) us ++ catV (fun x : T3 => x.val) (List.replicate (xs.length - i) z3)) ∧ ∀ j (h1 : j < xs.length) (h2 : j < us.length), isRule xs[j] us[j].val) (fun e _ => ctrV xs.length (e 4)) ?_ ?_
  · exact ⟨0, [], by omega, rfl, by simp (maxSteps := 2000000) (disch := first | omega | assumption | exact idP rfl | exact idP (bL rfl)) only [go_sem, reduceIte, Nat.reduceEqDiff], by simp (maxSteps := 2000000) (disch := first | omega | assumption | exact idP rfl | exact idP (bL rfl)) only [go_sem, reduceIte, Nat.reduceEqDiff], by simp (maxSteps := 2000000) (disch := first | omega | assumption | exact idP rfl | exact idP (bL rfl)) only [go_sem, reduceIte, Nat.reduceEqDiff]; rfl, (Sub.refl _).set hb3, by simp (maxSteps := 2000000) (disch := first | omega | assumption | exact idP rfl | exact idP (bL rfl)) only [go_sem, reduceIte, Nat.reduceEqDiff]; simp [catV], fun j _ h => by simp at h⟩
  · rintro e M1 ⟨i, us, hi, hul, e0, e3, e4, hsub, hm, hc⟩ K hK
    simp (maxSteps := 2000000) (disch := first | omega | assumption | exact idP rfl | exact idP (bL rfl)) only [go_sem, reduceIte, Nat.reduceEqDiff, e0, e3, e4, hlen]
    refine cond_dec (fun h => ?_) (fun h => ?_)
    · have hi' : i < xs.length := by omega
      have hv' := hv.get (by omega)
      have hcs := hv'.elt hi'
      have hrule := hcs
      obtain ⟨c1, c2, c3, hat, _, _, _⟩ := hcs
      rw [hat] at hrule
      simp (maxSteps := 2000000) (disch := first | omega | assumption | exact idP rfl | exact idP (bL rfl)) only [go_sem, reduceIte, Nat.reduceEqDiff, e0, e3, e4, hv'.iaddr, hat]
      refine (f_toRule hrule (hx _ (List.getElem_mem hi'))).mono ?_
      rintro _ _ ⟨rfl, ds, rfl, hr⟩
      have hr0 := hr
      obtain ⟨x, y, z, rfl, hx1, hx2, hx3⟩ := hr
      simp (maxSteps := 2000000) (disch := first | omega | assumption | exact idP rfl | exact idP (bL rfl)) only [go_sem, reduceIte, Nat.reduceEqDiff, e0, e3, e4, hm]
      refine ⟨rfl, by simp [hx1.one.1, hx2.one.1, hx3.one.1], ?_, ?_⟩
      · rw [List.length_append, catV_len henc, catV_len henc, hul, List.length_replicate]; omega
      rw [show xs.length - i = (xs.length - (i + 1)) + 1 by omega, cat_set (x := (⟨[x, y, z], rfl⟩ : T3)) henc (by rw [hul])]
      simp (maxSteps := 2000000) (disch := first | omega | assumption | exact idP rfl | exact idP (bL rfl)) only [go_sem, reduceIte, Nat.reduceEqDiff, e0, e3, e4]
      refine hK _ _ ⟨i + 1, us ++ [⟨[x, y, z], rfl⟩], by omega, by simp [hul], by simp (maxSteps := 2000000) (disch := first | omega | assumption | exact idP rfl | exact idP (bL rfl)) only [go_sem, reduceIte, Nat.reduceEqDiff], by simp (maxSteps := 2000000) (disch := first | omega | assumption | exact idP rfl | exact idP (bL rfl)) only [go_sem, reduceIte, Nat.reduceEqDiff], by simp (maxSteps := 2000000) (disch := first | omega | assumption | exact idP rfl | exact idP (bL rfl)) only [go_sem, reduceIte, Nat.reduceEqDiff]; rfl, hsub.set hb3, by simp (maxSteps := 2000000) (disch := first | omega | assumption | exact idP rfl | exact idP (bL rfl)) only [go_sem, reduceIte, Nat.reduceEqDiff], fun j h1 h2 => ?_⟩ (by simp (maxSteps := 2000000) (disch := first | omega | assumption | exact idP rfl | exact idP (bL rfl)) only [go_sem, reduceIte, Nat.reduceEqDiff, ctrV_int, e4]; omega)
      by_cases hj : j < us.length
      · rw [List.getElem_append_left hj]; exact hc j h1 hj
      · obtain rfl : j = us.length := by simp at h2; omega
        subst hul
        simpa using hr0
    · obtain rfl : i = xs.length := by omega
      simp (maxSteps := 2000000) (disch := first | omega | assumption | exact idP rfl | exact idP (bL rfl)) only [go_sem, reduceIte, Nat.reduceEqDiff, e3]
      exact hG _ _ 3 (catV (fun x : T3 => x.val) us) ⟨hsub, fun b' h' => by simp [blkV] at h'; subst h'; exact hb3, .inr ⟨b3, _, true, rfl, by simpa [catV] using hm, by rw [catV_len henc, hul]⟩⟩ fun u hu => hu.lc (by omega) (by rw [catV_len henc, hul]) fun j hj => by rw [catV_at henc (by omega)]; exact hc j hj (by omega)
theorem f_toSystem {v : V} {s : SysS} (hv : isSysX s v) (hf : SysFit s) : VCall Try.prog n_laws_toSystem [v] M (fun r' M' => M = M' ∧ isSys s r') := by
  refine VCall.pure fun R hR => v_laws_toSystem rfl ?_
  obtain ⟨a, b, rfl, ha, hb⟩ := hv
  obtain ⟨f1, f2, f3⟩ := hf
  simp (maxSteps := 2000000) (disch := first | omega | assumption | exact idP rfl | exact idP (bL rfl)) only [go_sem, reduceIte, Nat.reduceEqDiff]
  intro b1 hb1
  try simp (maxSteps := 2000000) (disch := first | omega | assumption | exact idP rfl | exact idP (bL rfl)) only [go_sem, reduceIte, Nat.reduceEqDiff]
  intro b2 hb2
  try simp (maxSteps := 2000000) (disch := first | omega | assumption | exact idP rfl | exact idP (bL rfl)) only [go_sem, reduceIte, Nat.reduceEqDiff]
  intro b3 hb3
  have n21 := (fresh_set hb2).1
  have n32 := (fresh_set hb3).1
  have n31 := (fresh_set (fresh_set hb3).2).1
  simp (maxSteps := 2000000) (disch := first | omega | assumption | exact idP rfl | exact idP (bL rfl)) only [go_sem, reduceIte, Nat.reduceEqDiff]
  refine (f_toVarS ha f1).mono ?_
  rintro x _ ⟨rfl, hx⟩
  have hx1 := hx.one.1
  have hx2 := hx.one.2
  simp (maxSteps := 2000000) (disch := first | omega | assumption | exact idP rfl | exact idP (bL rfl)) only [go_sem, reduceIte, Nat.reduceEqDiff, hx2]
  refine (f_toRuleS hb f2 f3).mono ?_
  rintro y _ ⟨rfl, hy⟩
  have hy1 := hy.one.1
  have hy2 := hy.one.2
  simp (maxSteps := 2000000) (disch := first | omega | assumption | exact idP rfl | exact idP (bL rfl)) only [go_sem, reduceIte, Nat.reduceEqDiff, hy2]
  refine hR _ _ ?_ ⟨x, y, rfl, hx, hy⟩
  repeat (first | exact Sub.refl _ | assumption | (refine Sub.set ?_ (fresh_set hb2).2) | (refine Sub.set ?_ (fresh_set (fresh_set hb3).2).2) | (refine Sub.set' ?_ (by assumption)))
end Go.M2

namespace Go.M2
open Go.Proofs
variable {M : MH}
theorem SysFit.sz {s : SysS} (h : SysFit s) : SysSz s := ⟨h.1, h.2.1, fun r hr => (h.2.2 r hr).2.1⟩
end Go.M2

namespace Go.M2
open Go.Proofs
def EV {α : Type} (E : α → List V → Prop) : Heap → α → List AV → Prop := fun H x cs => ∃ vs : List V, erl vs = cs ∧ okL H vs ∧ E x vs
theorem erl_len : ∀ l : List V, (erl l).length = l.length
  | [] => rfl
  | v :: t => by simp only [erl, List.length_cons, erl_len t]
theorem erl_app : ∀ a b : List V, erl (a ++ b) = erl a ++ erl b
  | [], b => rfl
  | v :: t, b => by simp only [List.cons_append, erl, erl_app t b]
theorem okL_app {H : Heap} : ∀ {a b : List V}, okL H a → okL H b → okL H (a ++ b)
  | [], b, _, h => h
  | v :: t, b, h, k => by
    simp only [List.cons_append, okL] at h ⊢
    exact ⟨h.1, okL_app h.2 k⟩
theorem lift_cells {α : Type} {E : α → List V → Prop} {H : Heap} {b sz : Nat} : ∀ {xs : List α} {o : Nat}, (∀ i (h : i < xs.length), ∃ cs, cs.length = sz ∧ Rd H b (o + i * sz) cs ∧ EV E H xs[i] cs) →
    ∃ vs : List V, vs.length = xs.length * sz ∧ Rd H b o (erl vs) ∧ okL H vs ∧ ∀ i (h : i < xs.length), E xs[i] ((vs.drop (i * sz)).take sz)
  | [], o, _ => ⟨[], by simp, Rd.nil _ _ _, by simp [okL], fun i h => by simp at h⟩
  | x :: t, o, h => by
    obtain ⟨cs, h1, h2, us, h3, h4, h5⟩ := h 0 (by simp)
    obtain ⟨vs, k1, k2, k3, k4⟩ := lift_cells (xs := t) (o := o + sz) (E := E) (H := H) (b := b) (sz := sz) (fun i hi => by
      obtain ⟨cs, q1, q2, q3⟩ := h (i + 1) (by simp; omega)
      exact ⟨cs, q1, by rw [show o + sz + i * sz = o + (i + 1) * sz by rw [Nat.succ_mul]; omega]; exact q2, by simpa using q3⟩)
    have hu : us.length = sz := by rw [← erl_len, h3]; exact h1
    refine ⟨us ++ vs, by simp [hu, k1, Nat.succ_mul]; omega, ?_, okL_app h4 k3, fun i hi => ?_⟩
    · intro i y hy
      rw [erl_app] at hy
      by_cases hlt : i < (erl us).length
      · rw [List.getElem?_append_left hlt, h3] at hy
        have := h2 i y hy
        simpa using this
      · rw [List.getElem?_append_right (by omega)] at hy
        have e1 : (erl us).length = sz := by rw [erl_len]; exact hu
        rw [e1] at hy hlt
        have := k2 (i - sz) y hy
        rwa [show o + sz + (i - sz) = o + i by omega] at this
    · cases i with
      | zero => simpa [List.take_left' hu] using h5
      | succ i =>
        have := k4 i (by simpa using hi)
        have e2 : (us ++ vs).drop ((i + 1) * sz) = vs.drop (i * sz) := by
          rw [show (i + 1) * sz = us.length + i * sz by rw [Nat.succ_mul, hu]; omega, List.drop_append]
          simp
        rw [e2]
        simpa using this
theorem lift_slice {α : Type} {E : α → List V → Prop} {H : Heap} {sz : Nat} {v : AV} {xs : List α} (h : InS sz (EV E) H v xs) : ∃ v', er v' = v ∧ okV H v' ∧ In (Lc sz E) v' xs := by
  rcases h with ⟨A, c, ex, k, rfl, h⟩ | ⟨rfl, rfl⟩
  · obtain ⟨vs, h1, h2, h3, h4⟩ := lift_cells h
    exact ⟨.fs A xs.length c ex k vs, rfl, by simp only [okV]; exact ⟨h2, h3⟩, .inl (.inr ⟨A, c, ex, k, vs, rfl, by omega, fun i hi => h4 i hi⟩)⟩
  · exact ⟨.sc .emp, rfl, by simp [okV], .inr ⟨rfl, rfl⟩⟩
def E1 {α : Type} (E : α → V → Prop) : α → List V → Prop := fun a cs => ∃ u, cs = [u] ∧ E a u
theorem lc1_ls {α : Type} {E : α → V → Prop} {v : V} {ys : List α} (h : Lc 1 (E1 E) v ys) : Ls E v ys := by
  rcases h with h | ⟨A, c, ex, k, xs, rfl, hl, h⟩
  · exact .inl h
  · refine .inr ⟨A, c, ex, k, xs, rfl, by omega, fun i hi => ?_⟩
    obtain ⟨u, h1, h2⟩ := h i hi
    have h3 : xs[i]? = some u := by
      have := congrArg (fun l => l[0]?) h1
      simpa [atN, List.getElem?_take, List.getElem?_drop] using this
    have h4 : at1 (.fs A ys.length c ex k xs) i = u := by
      simp [at1, List.getD_eq_getElem?_getD, h3]
    rw [h4]; exact h2
section
open Go.ChangeShapes Go.WideShapes Go.ChangeAt Go.RowKit
variable {HH : Type} {enc : TypeId × Value → HH} {P : Program} {W : World} {t e : TypeId} {fuel : Nat} {cs : List Value} {x : DataW HH × List MemPlace}
def LiftE {α : Type} (W : World) (E : α → List V → Prop) (a : α) (cs : List Value) : Prop := ∃ vs, erl vs = cs.map (avC W.heap.size) ∧ okL (heap0 W) vs ∧ E a vs
theorem in_list {α : Type} {E : α → List V → Prop} {good : α → Prop} {sz : Nat} (ht : P.underlying t = some (.slice e)) (hsz : P.cellsOf e = sz) (h0 : 0 < sz)
    (he : ∀ n cs x, DataW.trod enc P W 0 (fun _ => true) true n e cs = some x → ∃ a, LiftE W E a cs ∧ good a)
    (h : DataW.trod enc P W 0 (fun _ => true) true fuel t cs = some x) : ∃ xs : List α, LiftE W (E1 (fun (ys : List α) u => In (Lc sz E) u ys)) xs cs ∧ (xs.length ≤ 9223372036854775807 ∧ ∀ a ∈ xs, good a) := by
  obtain ⟨v, xs, rfl, h1, h2, h3⟩ := in_slice (E := EV E) (good := good) ht hsz h0 (fun n cs x hx => by
    obtain ⟨a, ⟨vs, h1, h2, h3⟩, h4⟩ := he n cs x hx
    exact ⟨a, ⟨vs, h1, h2, h3⟩, h4⟩) h
  obtain ⟨u, k1, k2, k3⟩ := lift_slice h1
  exact ⟨xs, ⟨[u], by simp [erl, k1], by simp only [okL]; exact ⟨k2, trivial⟩, u, rfl, k3⟩, h3, h2⟩
theorem in_list1 {α : Type} {E : α → V → Prop} {good : α → Prop} (ht : P.underlying t = some (.slice e)) (hsz : P.cellsOf e = 1)
    (he : ∀ n cs x, DataW.trod enc P W 0 (fun _ => true) true n e cs = some x → ∃ a, LiftE W (E1 E) a cs ∧ good a)
    (h : DataW.trod enc P W 0 (fun _ => true) true fuel t cs = some x) : ∃ xs : List α, LiftE W (E1 (fun (ys : List α) u => In (Ls E) u ys)) xs cs ∧ (xs.length ≤ 9223372036854775807 ∧ ∀ a ∈ xs, good a) := by
  obtain ⟨xs, ⟨vs, h1, h2, u, rfl, h3⟩, h4⟩ := in_list ht hsz (by omega) he h
  exact ⟨xs, ⟨[u], h1, h2, u, rfl, h3.imp lc1_ls id⟩, h4⟩
theorem in_n (ht : P.underlying t = some (.int .i64)) (h : DataW.trod enc P W 0 (fun _ => true) true fuel t cs = some x) : ∃ n, LiftE W (E1 isI) n cs ∧ (-9223372036854775808 ≤ n ∧ n ≤ 9223372036854775807) := by
  obtain ⟨n, rfl, h1⟩ := in_int ht h
  exact ⟨n, ⟨[.sc (.int .i64 n)], rfl, by simp [okL, okV], _, rfl, rfl⟩, h1⟩
theorem LiftE.one {α : Type} {E : α → V → Prop} {a : α} {c : Value} (h : LiftE W (E1 E) a [c]) : ∃ u, er u = avC W.heap.size c ∧ okV (heap0 W) u ∧ E a u := by
  obtain ⟨vs, h1, h2, u, rfl, h3⟩ := h
  simp only [erl, List.map_cons, List.map_nil, List.cons.injEq, and_true] at h1
  simp only [okL] at h2
  exact ⟨u, h1, h2.1, h3⟩
end
theorem calls_of_vcall {P : Program} {f : FuncId} {vs : List Value} {vv : List V} {W : World} (h : VCall P f vv (fun _ => none) (fun r M' => (fun _ => none) = M' ∧ r = .sc (.bool true)))
    (he : vv.map er = vs.map (avT W.heap.size)) (ho : okL (heap0 W) vv) : Calls P f vs.toArray W (fun e w' => e = .returned (.bool true) ∧ Go.RowKit.Below W.heap.size W w') := by
  refine calls_of_acall ?_
  rw [← he]
  refine (h (heap0 W) (heap0 W) ⟨rfl, fun b _ => .inr rfl, fun b l hb => by cases hb⟩ ho).mono ?_
  rintro a H' ⟨r, M', F', rfl, _, _, _, _, rfl⟩
  rfl
end Go.M2

namespace Go.M2
open Go.Proofs
open Go.ChangeShapes Go.WideShapes Go.ChangeAt Go.RowKit
variable {HH : Type} {enc : TypeId × Value → HH} {W : World} {fuel : Nat} {cs : List Value} {x : DataW HH × List MemPlace}
theorem list4 {α : Type} {l : List α} (h : l.length = 4) : ∃ a b c d, l = [a, b, c, d] := by
  match l, h with
  | [a, b, c, d], _ => exact ⟨a, b, c, d, rfl⟩
theorem list3 {α : Type} {l : List α} (h : l.length = 3) : ∃ a b c, l = [a, b, c] := by
  match l, h with
  | [a, b, c], _ => exact ⟨a, b, c, rfl⟩
theorem in_i64 (h : DataW.trod enc Try.prog W 0 (fun _ => true) true fuel 3 cs = some x) : ∃ n : Int, cs = [.int .i64 n] := by
  obtain ⟨n, h1, _⟩ := in_int Try.underlying3 h
  exact ⟨n, h1⟩
theorem in_term (h : DataW.trod enc Try.prog W 0 (fun _ => true) true fuel 138 cs = some x) : ∃ t : TermS, LiftE W isT t cs ∧ True := by
  have c3 : Try.prog.cellsOf 3 = 1 := by kernel_rfl
  obtain ⟨xs, n, _, _, hl, hxl, hf⟩ := DataW.trod_struct Try.underlying138 h
  have hxl : xs.length = 4 := hxl
  have hl : cs.length = 4 := hl.trans (by kernel_rfl)
  obtain ⟨a, b, c, d, rfl⟩ := list4 hl
  have f0 := hf 0 ⟨ "Op", 3, 0, false, "", "", 0⟩ rfl
  have f1 := hf 1 ⟨ "N", 3, 1, false, "", "", 8⟩ rfl
  have f2 := hf 2 ⟨ "A", 3, 2, false, "", "", 16⟩ rfl
  have f3 := hf 3 ⟨ "B", 3, 3, false, "", "", 24⟩ rfl
  rw [List.getElem?_eq_getElem (by omega), c3] at f0 f1 f2 f3
  obtain ⟨n0, e0⟩ := in_i64 f0
  obtain ⟨n1, e1⟩ := in_i64 f1
  obtain ⟨n2, e2⟩ := in_i64 f2
  obtain ⟨n3, e3⟩ := in_i64 f3
  simp only [List.drop_zero, List.drop_succ_cons, List.take_succ_cons, List.take_zero, List.cons.injEq, and_true] at e0 e1 e2 e3
  subst e0 e1 e2 e3
  exact ⟨⟨n0, n1, n2, n3⟩, ⟨encT ⟨n0, n1, n2, n3⟩, rfl, by simp [encT, okL, okV], rfl⟩, trivial⟩
theorem in_var (h : DataW.trod enc Try.prog W 0 (fun _ => true) true fuel 94 cs = some x) : ∃ t : VarS, LiftE W isVar t cs ∧ True := by
  have c3 : Try.prog.cellsOf 3 = 1 := by kernel_rfl
  obtain ⟨xs, n, _, _, hl, hxl, hf⟩ := DataW.trod_struct Try.underlying94 h
  have hxl : xs.length = 3 := hxl
  have hl : cs.length = 3 := hl.trans (by kernel_rfl)
  obtain ⟨a, b, c, rfl⟩ := list3 hl
  have f0 := hf 0 ⟨ "Low", 3, 0, false, "", "", 0⟩ rfl
  have f1 := hf 1 ⟨ "High", 3, 1, false, "", "", 8⟩ rfl
  have f2 := hf 2 ⟨ "First", 3, 2, false, "", "", 16⟩ rfl
  rw [List.getElem?_eq_getElem (by omega), c3] at f0 f1 f2
  obtain ⟨n0, e0⟩ := in_i64 f0
  obtain ⟨n1, e1⟩ := in_i64 f1
  obtain ⟨n2, e2⟩ := in_i64 f2
  simp only [List.drop_zero, List.drop_succ_cons, List.take_succ_cons, List.take_zero, List.cons.injEq, and_true] at e0 e1 e2
  subst e0 e1 e2
  exact ⟨⟨n0, n1, n2⟩, ⟨encVar ⟨n0, n1, n2⟩, rfl, by simp [encVar, okL, okV], rfl⟩, trivial⟩
theorem in_ints (h : DataW.trod enc Try.prog W 0 (fun _ => true) true fuel 26 cs = some x) : ∃ ns : List Int, LiftE W (E1 (fun (ys : List Int) u => XI u ys)) ns cs ∧ LenOk ns := by
  obtain ⟨ns, h1, h2, _⟩ := in_list1 (E := isI) (good := fun n => -9223372036854775808 ≤ n ∧ n ≤ 9223372036854775807) Try.underlying26 (by kernel_rfl) (fun n cs x h => in_n Try.underlying3 h) h
  exact ⟨ns, h1, h2⟩
theorem in_terms (h : DataW.trod enc Try.prog W 0 (fun _ => true) true fuel 86 cs = some x) : ∃ ts : List TermS, LiftE W (E1 (fun (ys : List TermS) u => XT u ys)) ts cs ∧ LenOk ts := by
  obtain ⟨ns, h1, h2, _⟩ := in_list (E := isT) (good := fun _ => True) (sz := 4) Try.underlying86 (by kernel_rfl) (by omega) (fun n cs x h => in_term h) h
  exact ⟨ns, h1, h2⟩
theorem in_vars (h : DataW.trod enc Try.prog W 0 (fun _ => true) true fuel 22 cs = some x) : ∃ ts : List VarS, LiftE W (E1 (fun (ys : List VarS) u => XVar u ys)) ts cs ∧ LenOk ts := by
  obtain ⟨ns, h1, h2, _⟩ := in_list (E := isVar) (good := fun _ => True) (sz := 3) Try.underlying22 (by kernel_rfl) (by omega) (fun n cs x h => in_var h) h
  exact ⟨ns, h1, h2⟩
theorem in_termss (h : DataW.trod enc Try.prog W 0 (fun _ => true) true fuel 87 cs = some x) : ∃ ts : List (List TermS), LiftE W (E1 (fun (ys : List (List TermS)) u => XTT u ys)) ts cs ∧ (LenOk ts ∧ ∀ t ∈ ts, LenOk t) :=
  in_list1 (E := fun (ts : List TermS) u => XT u ts) (good := fun ts => LenOk ts) Try.underlying87 (by kernel_rfl) (fun n cs x h => in_terms h) h
theorem in_rule (h : DataW.trod enc Try.prog W 0 (fun _ => true) true fuel 89 cs = some x) : ∃ r : RuleS, LiftE W isRuleX r cs ∧ RuleLen r := by
  obtain ⟨xs, n, _, _, hl, hxl, hf⟩ := DataW.trod_struct Try.underlying89 h
  have hxl : xs.length = 3 := hxl
  have hl : cs.length = 3 := hl.trans (by kernel_rfl)
  have c1 : Try.prog.cellsOf 86 = 1 := by kernel_rfl
  have c2 : Try.prog.cellsOf 26 = 1 := by kernel_rfl
  have c3 : Try.prog.cellsOf 87 = 1 := by kernel_rfl
  obtain ⟨a, b, c, rfl⟩ := list3 hl
  have f0 := hf 0 ⟨ "When", 86, 0, false, "", "", 0⟩ rfl
  have f1 := hf 1 ⟨ "Sets", 26, 1, false, "", "", 24⟩ rfl
  have f2 := hf 2 ⟨ "Terms", 87, 2, false, "", "", 48⟩ rfl
  rw [List.getElem?_eq_getElem (by omega)] at f0 f1 f2
  simp only [c1, c2, c3, List.drop_zero, List.drop_succ_cons, List.take_succ_cons, List.take_zero] at f0 f1 f2
  obtain ⟨n0, e0, g0⟩ := in_terms f0
  obtain ⟨n1, e1, g1⟩ := in_ints f1
  obtain ⟨n2, e2, g2, g3⟩ := in_termss f2
  obtain ⟨u0, p0, q0, r0⟩ := e0.one
  obtain ⟨u1, p1, q1, r1⟩ := e1.one
  obtain ⟨u2, p2, q2, r2⟩ := e2.one
  exact ⟨⟨n0, n1, n2⟩, ⟨[u0, u1, u2], by simp [erl, p0, p1, p2], by simp only [okL]; exact ⟨q0, q1, q2, trivial⟩, u0, u1, u2, rfl, r0, r1, r2⟩, g0, g1, g2, g3⟩
theorem in_rules (h : DataW.trod enc Try.prog W 0 (fun _ => true) true fuel 23 cs = some x) : ∃ rs : List RuleS, LiftE W (E1 (fun (ys : List RuleS) u => XR u ys)) rs cs ∧ (LenOk rs ∧ ∀ r ∈ rs, RuleLen r) :=
  in_list (E := isRuleX) (good := RuleLen) (sz := 3) Try.underlying23 (by kernel_rfl) (by omega) (fun n cs x h => in_rule h) h
def UpV {α : Type} (W : World) (E : α → V → Prop) (a : α) (v : Value) : Prop := ∃ u, er u = avT W.heap.size v ∧ okV (heap0 W) u ∧ E a u
theorem up_system {v : Value} (hv : ∃ a, v = .agg a) (h : DataW.trod enc Try.prog W 0 (fun _ => true) true fuel 25 v.cells.toList = some x) : ∃ s : SysS, UpV W (fun (s : SysS) u => isSysX s u) s v ∧ SysLen s := by
  obtain ⟨cs, rfl⟩ := hv
  have c1 : Try.prog.cellsOf 22 = 1 := by kernel_rfl
  have c2 : Try.prog.cellsOf 23 = 1 := by kernel_rfl
  obtain ⟨xs, n, _, _, hl, hxl, hf⟩ := DataW.trod_struct Try.underlying25 h
  have hxl : xs.length = 2 := hxl
  have hl : cs.toList.length = 2 := hl.trans (by kernel_rfl)
  obtain ⟨a, b, hab⟩ : ∃ a b, cs.toList = [a, b] := by
    match hcs : cs.toList, hl with
    | [a, b], _ => exact ⟨a, b, rfl⟩
  have f0 := hf 0 ⟨ "Vars", 22, 0, false, "", "", 0⟩ rfl
  have f1 := hf 1 ⟨ "Rules", 23, 1, false, "", "", 24⟩ rfl
  rw [List.getElem?_eq_getElem (by omega)] at f0 f1
  simp only [Value.cells, hab, c1, c2, List.drop_zero, List.drop_succ_cons, List.take_succ_cons, List.take_zero] at f0 f1
  obtain ⟨n0, e0, g0⟩ := in_vars f0
  obtain ⟨n1, e1, g1, g2⟩ := in_rules f1
  obtain ⟨u0, p0, q0, r0⟩ := e0.one
  obtain ⟨u1, p1, q1, r1⟩ := e1.one
  refine ⟨⟨n0, n1⟩, ⟨.agg [u0, u1], ?_, by simp only [okV, okL]; exact ⟨q0, q1, trivial⟩, u0, u1, rfl, r0, r1⟩, g0, g1, g2⟩
  simp [er, erl, avT, hab, p0, p1]
theorem avT_sl {N : Nat} {v : Value} (h : ∀ a, v ≠ .agg a) : avT N v = avC N v := by
  unfold avT
  split
  · rename_i a; exact absurd rfl (h a)
  · rfl
end Go.M2

namespace Go.M2
open Go.Proofs
open Go.ChangeShapes Go.WideShapes Go.ChangeAt Go.RowKit
variable {M : MH}
abbrev XII : V → List (List Int) → Prop := In (Ls (fun ys u => XI u ys))
theorem x_szIntSS {v : V} {xs : List (List Int)} {t : Int} (hv : XII v xs) (h0 : LenOk xs) (hx : ∀ ts ∈ xs, LenOk ts) (h1 : 0 ≤ t) (h2 : t ≤ 1048576) :
    VCall Try.prog n_laws_szIntSS [v, .sc (.int .i64 t)] M (fun r M' => M = M' ∧ ∃ k : Int, r = .sc (.int .i64 k) ∧ k ≤ t ∧ (0 ≤ k → xs.length ≤ 1048576 ∧ ∀ ts ∈ xs, ts.length ≤ 1048576)) := by
  refine VCall.pure fun R hR => v_laws_szIntSS rfl ?_
  unfold LenOk at h0 hx
  have hl := hv.len fun _ _ h => h.len
  (repeat' (first | ((first | with_reducible refine cond_dec (fun h => ?_) (fun h => ?_) | with_reducible refine guardK_dec (fun h => ?_) (fun h => ?_) | with_reducible refine guardD3_dec (fun h => ?_) (fun h => ?_)) <;> first | (exfalso; omega) | (simp (maxSteps := 2000000) (disch := first | omega | assumption | exact idP rfl | exact idP (bL rfl)) only [go_sem, reduceIte, Nat.reduceEqDiff, h, hl]) | skip) | ((first | with_reducible refine cond_split (fun h => ?_) (fun h => ?_) | with_reducible refine guardK_split (fun h => ?_) (fun h => ?_) | with_reducible refine guardD3_split (fun h => ?_) (fun h => ?_)) <;> ((try simp only [Bool.not_eq_true', Bool.not_eq_false'] at h); first | (simp (maxSteps := 2000000) (disch := first | omega | assumption | exact idP rfl | exact idP (bL rfl)) only [go_sem, reduceIte, Nat.reduceEqDiff, h, hl]) | skip)) | (with_reducible intro bk hbk; try have hnk := (fresh_set hbk).1) | (simp (maxSteps := 2000000) (disch := first | omega | assumption | exact idP rfl | exact idP (bL rfl)) only [go_sem, reduceIte, Nat.reduceEqDiff, hl])))
  · exact hR _ _ (by (repeat (first | exact Sub.refl _ | assumption | (refine Sub.set' ?_ (by assumption))))) ⟨_, rfl, by omega, by omega⟩
  · refine loop_k (fun e M' => M' = M ∧ ∃ (i : Nat) (k : Int), i ≤ xs.length ∧ e 0 = v ∧ e 1 = .sc (.int .i64 k) ∧ e 5 = .sc (.int .i64 i) ∧ 0 ≤ k ∧ k ≤ t ∧ ∀ j (hj : j < xs.length), j < i → xs[j].length ≤ 1048576) (fun e _ => ctrV xs.length (e 5)) ?_ ?_
    · exact ⟨rfl, 0, t - xs.length, by omega, by simp (maxSteps := 2000000) (disch := first | omega | assumption | exact idP rfl | exact idP (bL rfl)) only [go_sem, reduceIte, Nat.reduceEqDiff], by simp (maxSteps := 2000000) (disch := first | omega | assumption | exact idP rfl | exact idP (bL rfl)) only [go_sem, reduceIte, Nat.reduceEqDiff], by simp (maxSteps := 2000000) (disch := first | omega | assumption | exact idP rfl | exact idP (bL rfl)) only [go_sem, reduceIte, Nat.reduceEqDiff]; rfl, by omega, by omega, fun j _ h => by omega⟩
    · rintro e _ ⟨rfl, i, k, hi, e0, e1, e5, k0, k1, hj⟩ K hK
      simp (maxSteps := 2000000) (disch := first | omega | assumption | exact idP rfl | exact idP (bL rfl)) only [go_sem, reduceIte, Nat.reduceEqDiff, e0, e1, e5, hl]
      refine cond_dec (fun h => ?_) (fun h => ?_)
      · have hi' : i < xs.length := by omega
        have hv' := hv.get (by omega)
        simp (maxSteps := 2000000) (disch := first | omega | assumption | exact idP rfl | exact idP (bL rfl)) only [go_sem, reduceIte, Nat.reduceEqDiff, e0, e1, e5, hv'.iaddr]
        refine (x_szIntS (hv'.elt hi') (hx _ (List.getElem_mem hi')) k0 (by omega)).mono ?_
        rintro _ _ ⟨rfl, k2, rfl, q1, q2⟩
        (repeat' (first | ((first | with_reducible refine cond_dec (fun h => ?_) (fun h => ?_) | with_reducible refine guardK_dec (fun h => ?_) (fun h => ?_) | with_reducible refine guardD3_dec (fun h => ?_) (fun h => ?_)) <;> first | (exfalso; omega) | (simp (maxSteps := 2000000) (disch := first | omega | assumption | exact idP rfl | exact idP (bL rfl)) only [go_sem, reduceIte, Nat.reduceEqDiff, h]) | skip) | ((first | with_reducible refine cond_split (fun h => ?_) (fun h => ?_) | with_reducible refine guardK_split (fun h => ?_) (fun h => ?_) | with_reducible refine guardD3_split (fun h => ?_) (fun h => ?_)) <;> ((try simp only [Bool.not_eq_true', Bool.not_eq_false'] at h); first | (simp (maxSteps := 2000000) (disch := first | omega | assumption | exact idP rfl | exact idP (bL rfl)) only [go_sem, reduceIte, Nat.reduceEqDiff, h]) | skip)) | (with_reducible intro bk hbk; try have hnk := (fresh_set hbk).1) | (simp (maxSteps := 2000000) (disch := first | omega | assumption | exact idP rfl | exact idP (bL rfl)) only [go_sem, reduceIte, Nat.reduceEqDiff])))
        · exact hR _ _ (by (repeat (first | exact Sub.refl _ | assumption | (refine Sub.set' ?_ (by assumption))))) ⟨_, rfl, by omega, by omega⟩
        · refine hK _ _ ⟨rfl, i + 1, k2, by omega, by simp (maxSteps := 2000000) (disch := first | omega | assumption | exact idP rfl | exact idP (bL rfl)) only [go_sem, reduceIte, Nat.reduceEqDiff, e0], by simp (maxSteps := 2000000) (disch := first | omega | assumption | exact idP rfl | exact idP (bL rfl)) only [go_sem, reduceIte, Nat.reduceEqDiff], by simp (maxSteps := 2000000) (disch := first | omega | assumption | exact idP rfl | exact idP (bL rfl)) only [go_sem, reduceIte, Nat.reduceEqDiff, e5]; rfl, by omega, by omega, fun j hj1 hj2 => ?_⟩ (by simp (maxSteps := 2000000) (disch := first | omega | assumption | exact idP rfl | exact idP (bL rfl)) only [go_sem, reduceIte, Nat.reduceEqDiff, ctrV_int, e5]; omega)
          by_cases hji : j = i
          · subst hji; exact q2 (by omega)
          · exact hj j hj1 (by omega)
      · obtain rfl : i = xs.length := by omega
        simp (maxSteps := 2000000) (disch := first | omega | assumption | exact idP rfl | exact idP (bL rfl)) only [go_sem, reduceIte, Nat.reduceEqDiff, e1]
        refine hR _ _ (by (repeat (first | exact Sub.refl _ | assumption | (refine Sub.set' ?_ (by assumption))))) ⟨_, rfl, by omega, fun _ => ⟨by omega, fun ts hts => ?_⟩⟩
        obtain ⟨j, hj1, rfl⟩ := List.getElem_of_mem hts
        exact hj j hj1 (by omega)
theorem f_toIntSS {v : V} {xs : List (List Int)} (hv : XII v xs) (hl : xs.length ≤ 1048576) (hx : ∀ ts ∈ xs, ts.length ≤ 1048576) : VCall Try.prog n_laws_toIntSS [v] M (fun r M' => M = M' ∧ LII r xs) := by
  refine VCall.froz fun R hP hG => v_laws_toIntSS rfl ?_
  have hlen := hv.len fun _ _ h => h.len
  simp (maxSteps := 2000000) (disch := first | omega | assumption | exact idP rfl | exact idP (bL rfl)) only [go_sem, reduceIte, Nat.reduceEqDiff, hlen]
  refine mks3 (by omega) (by simp [mostCells]; omega) (by simp [mostCells]; omega) ?_
  intro b3 hb3
  simp (maxSteps := 2000000) (disch := first | omega | assumption | exact idP rfl | exact idP (bL rfl)) only [go_sem, reduceIte, Nat.reduceEqDiff, zeros_nil]
  refine loop_k (fun e M' => ∃ (i : Nat) (us : List V), i ≤ xs.length ∧ e 0 = v ∧ e 3 = .sc (.sl (some (b3, 0)) xs.length xs.length true 1) ∧ e 4 = .sc (.int .i64 i) ∧ Sub M M' ∧ M' b3 = some (us ++ List.replicate (xs.length - i) nil1) ∧ Cs isL us (xs.take i)) (fun e _ => ctrV xs.length (e 4)) ?_ ?_
  · exact ⟨0, [], by omega, by simp (maxSteps := 2000000) (disch := first | omega | assumption | exact idP rfl | exact idP (bL rfl)) only [go_sem, reduceIte, Nat.reduceEqDiff], by simp (maxSteps := 2000000) (disch := first | omega | assumption | exact idP rfl | exact idP (bL rfl)) only [go_sem, reduceIte, Nat.reduceEqDiff], by simp (maxSteps := 2000000) (disch := first | omega | assumption | exact idP rfl | exact idP (bL rfl)) only [go_sem, reduceIte, Nat.reduceEqDiff]; rfl, (Sub.refl _).set hb3, by simp (maxSteps := 2000000) (disch := first | omega | assumption | exact idP rfl | exact idP (bL rfl)) only [go_sem, reduceIte, Nat.reduceEqDiff]; simp, .nil⟩
  · rintro e M1 ⟨i, us, hi, e0, e3, e4, hsub, hm, hc⟩ K hK
    have hul : us.length = i := by have := hc.1; simp at this; omega
    simp (maxSteps := 2000000) (disch := first | omega | assumption | exact idP rfl | exact idP (bL rfl)) only [go_sem, reduceIte, Nat.reduceEqDiff, e0, e3, e4, hlen]
    refine cond_dec (fun h => ?_) (fun h => ?_)
    · have hi' : i < xs.length := by omega
      have hv' := hv.get (by omega)
      obtain ⟨q, hq⟩ : ∃ q, xs.length - i = q + 1 := ⟨xs.length - i - 1, by omega⟩
      rw [hq, List.replicate_succ] at hm
      simp (maxSteps := 2000000) (disch := first | omega | assumption | exact idP rfl | exact idP (bL rfl)) only [go_sem, reduceIte, Nat.reduceEqDiff, e0, e3, e4, hv'.iaddr]
      refine (f_toIntS (hv'.elt hi') (hx _ (List.getElem_mem hi'))).mono ?_
      rintro r _ ⟨rfl, hr⟩
      have hr1 := hr.one.1
      have hr2 := hr.one.2
      have hsm : (us ++ nil1 :: List.replicate q nil1).set i r = us ++ r :: List.replicate q nil1 := set_mid hul
      have hnl3 : i < (us ++ nil1 :: List.replicate q nil1).length := by simp; omega
      simp (maxSteps := 2000000) (disch := first | omega | assumption | exact idP rfl | exact idP (bL rfl)) only [go_sem, reduceIte, Nat.reduceEqDiff, e0, e3, e4, hm, hr2, hsm]
      refine hK _ _ ⟨i + 1, us ++ [r], by omega, by simp (maxSteps := 2000000) (disch := first | omega | assumption | exact idP rfl | exact idP (bL rfl)) only [go_sem, reduceIte, Nat.reduceEqDiff], by simp (maxSteps := 2000000) (disch := first | omega | assumption | exact idP rfl | exact idP (bL rfl)) only [go_sem, reduceIte, Nat.reduceEqDiff], by simp (maxSteps := 2000000) (disch := first | omega | assumption | exact idP rfl | exact idP (bL rfl)) only [go_sem, reduceIte, Nat.reduceEqDiff]; rfl, hsub.set hb3, by simp (maxSteps := 2000000) (disch := first | omega | assumption | exact idP rfl | exact idP (bL rfl)) only [go_sem, reduceIte, Nat.reduceEqDiff]; simp [show xs.length - (i + 1) = q by omega], ?_⟩ (by simp (maxSteps := 2000000) (disch := first | omega | assumption | exact idP rfl | exact idP (bL rfl)) only [go_sem, reduceIte, Nat.reduceEqDiff, ctrV_int, e4]; omega)
      rw [take_snoc hi']
      exact hc.snoc (x := xs[i]) hr
    · obtain rfl : i = xs.length := by omega
      rw [List.take_length] at hc
      simp (maxSteps := 2000000) (disch := first | omega | assumption | exact idP rfl | exact idP (bL rfl)) only [go_sem, reduceIte, Nat.reduceEqDiff, e3]
      exact hG _ _ 1 us ⟨hsub, fun b' h' => by simp [blkV] at h'; subst h'; exact hb3, .inr ⟨b3, _, true, rfl, by simpa using hm, by omega⟩⟩ fun u hu => hu.lsC hc
theorem x_eqIntSS {v w : V} {xs : List (List Int)} (hv : LII v xs) (hw : LII w xs) (hl : xs.length ≤ 1048576) (hl2 : ∀ ts ∈ xs, ts.length ≤ 1048576) : VCall Try.prog n_laws_eqIntSS [v, w] M (fun r M' => M = M' ∧ r = .sc (.bool true)) := by
  refine VCall.pure fun R hR => v_laws_eqIntSS rfl ?_
  (repeat' (first | ((first | with_reducible refine cond_dec (fun h => ?_) (fun h => ?_) | with_reducible refine guardK_dec (fun h => ?_) (fun h => ?_) | with_reducible refine guardD3_dec (fun h => ?_) (fun h => ?_)) <;> first | (exfalso; omega) | (simp (maxSteps := 2000000) (disch := first | omega | assumption | exact idP rfl | exact idP (bL rfl)) only [go_sem, reduceIte, Nat.reduceEqDiff, h, hv.len, hw.len]) | skip) | ((first | with_reducible refine cond_split (fun h => ?_) (fun h => ?_) | with_reducible refine guardK_split (fun h => ?_) (fun h => ?_) | with_reducible refine guardD3_split (fun h => ?_) (fun h => ?_)) <;> ((try simp only [Bool.not_eq_true', Bool.not_eq_false'] at h); first | (simp (maxSteps := 2000000) (disch := first | omega | assumption | exact idP rfl | exact idP (bL rfl)) only [go_sem, reduceIte, Nat.reduceEqDiff, h, hv.len, hw.len]) | skip)) | (with_reducible intro bk hbk; try have hnk := (fresh_set hbk).1) | (simp (maxSteps := 2000000) (disch := first | omega | assumption | exact idP rfl | exact idP (bL rfl)) only [go_sem, reduceIte, Nat.reduceEqDiff, hv.len, hw.len])))
  refine loop_k (fun e M' => M' = M ∧ ∃ i : Nat, i ≤ xs.length ∧ e 0 = v ∧ e 1 = w ∧ e 5 = .sc (.int .i64 i)) (fun e _ => ctrV xs.length (e 5)) ?_ ?_
  · exact ⟨rfl, 0, by omega, by simp (maxSteps := 2000000) (disch := first | omega | assumption | exact idP rfl | exact idP (bL rfl)) only [go_sem, reduceIte, Nat.reduceEqDiff], by simp (maxSteps := 2000000) (disch := first | omega | assumption | exact idP rfl | exact idP (bL rfl)) only [go_sem, reduceIte, Nat.reduceEqDiff], by simp (maxSteps := 2000000) (disch := first | omega | assumption | exact idP rfl | exact idP (bL rfl)) only [go_sem, reduceIte, Nat.reduceEqDiff]; rfl⟩
  · rintro e _ ⟨rfl, i, hi, e0, e1, e5⟩ K hK
    simp (maxSteps := 2000000) (disch := first | omega | assumption | exact idP rfl | exact idP (bL rfl)) only [go_sem, reduceIte, Nat.reduceEqDiff, e0, e1, e5, hv.len]
    refine cond_dec (fun h => ?_) (fun h => ?_)
    · have hi' : i < xs.length := by omega
      simp (maxSteps := 2000000) (disch := first | omega | assumption | exact idP rfl | exact idP (bL rfl)) only [go_sem, reduceIte, Nat.reduceEqDiff, e0, e1, e5, hv.iaddr, hw.iaddr]
      refine (x_eqIntS (hv.elt hi') (hw.elt hi') (hl2 _ (List.getElem_mem hi'))).mono ?_
      rintro _ _ ⟨rfl, rfl⟩
      have ei : decide (xs[i] = xs[i]) = true := by simp
      simp (maxSteps := 2000000) (disch := first | omega | assumption | exact idP rfl | exact idP (bL rfl)) only [go_sem, reduceIte, Nat.reduceEqDiff, ei, e0, e1, e5]
      exact hK _ _ ⟨rfl, i + 1, by omega, by simp (maxSteps := 2000000) (disch := first | omega | assumption | exact idP rfl | exact idP (bL rfl)) only [go_sem, reduceIte, Nat.reduceEqDiff, e0], by simp (maxSteps := 2000000) (disch := first | omega | assumption | exact idP rfl | exact idP (bL rfl)) only [go_sem, reduceIte, Nat.reduceEqDiff, e1], by simp (maxSteps := 2000000) (disch := first | omega | assumption | exact idP rfl | exact idP (bL rfl)) only [go_sem, reduceIte, Nat.reduceEqDiff, e5]; rfl⟩ (by simp (maxSteps := 2000000) (disch := first | omega | assumption | exact idP rfl | exact idP (bL rfl)) only [go_sem, reduceIte, Nat.reduceEqDiff, ctrV_int, e5]; omega)
    · obtain rfl : i = xs.length := by omega
      simp (maxSteps := 2000000) (disch := first | omega | assumption | exact idP rfl | exact idP (bL rfl)) only [go_sem, reduceIte, Nat.reduceEqDiff]
      exact hR _ _ (by (repeat (first | exact Sub.refl _ | assumption | (refine Sub.set' ?_ (by assumption))))) rfl
variable {HH : Type} {enc : TypeId × Value → HH} {W : World} {fuel : Nat} {cs : List Value} {x : DataW HH × List MemPlace}
theorem in_intss (h : DataW.trod enc Try.prog W 0 (fun _ => true) true fuel 28 cs = some x) : ∃ ts : List (List Int), LiftE W (E1 (fun (ys : List (List Int)) u => XII u ys)) ts cs ∧ (LenOk ts ∧ ∀ t ∈ ts, LenOk t) :=
  in_list1 (E := fun (ts : List Int) u => XI u ts) (good := fun ts => LenOk ts) Try.underlying28 (by kernel_rfl) (fun n cs x h => in_ints h) h
theorem up_intss {v : Value} (hv : ∀ a, v ≠ .agg a) (h : DataW.trod enc Try.prog W 0 (fun _ => true) true fuel 28 v.cells.toList = some x) : ∃ ns : List (List Int), UpV W (fun (ns : List (List Int)) u => XII u ns) ns v ∧ (LenOk ns ∧ ∀ t ∈ ns, LenOk t) := by
  obtain ⟨ns, e, g⟩ := in_intss h
  have hc : v.cells.toList = [v] := by
    cases v <;> first | rfl | exact absurd rfl (hv _)
  rw [hc] at e
  obtain ⟨u, p, q, r⟩ := e.one
  exact ⟨ns, ⟨u, by rw [avT_sl hv]; exact p, q, r⟩, g⟩
end Go.M2

namespace Go.M2
open Go.Proofs
variable {M : MH}
theorem Mem.base {M0 M1 M : MH} {f : List (Nat × List V)} (h : Mem M1 M f) (hs : Sub M0 M1) : Mem M0 M f := ⟨hs.trans h.sub, fun p hp => hs.none (h.new p hp), h.nd, h.at_⟩
theorem Mem.tail {M0 M : MH} {p : Nat × List V} {f : List (Nat × List V)} (h : Mem M0 M (p :: f)) : Mem M0 M f := Mem.right (f := [p]) h
theorem Mem.hd {M0 M : MH} {b : Nat} {l : List V} {f : List (Nat × List V)} (h : Mem M0 M ((b, l) :: f)) : M b = some l := h.at_ _ (List.mem_cons_self ..)
def DnL (M0 M : MH) (l : List V) (p : List V → Prop) : Prop := ∃ l' fp, Tr l l' fp ∧ Mem M0 M fp ∧ flatL l ∧ (∀ q ∈ fp, flatL q.2) ∧ p l'
def One (v : V) : Prop := oneV v = true ∧ cellsV v = some [v]
theorem Ow.flat {sz : Nat} {M : MH} {v : V} {l : List V} (h : Ow sz M v l) : flat v := by
  rcases h with ⟨_, k, rfl⟩ | ⟨b, n, ex, rfl, _⟩ <;> simp [Go.M2.flat]
theorem catV_flat {α : Type} {enc : α → List V} (he : ∀ x, flatL (enc x)) : ∀ xs : List α, flatL (catV enc xs)
  | [] => by simp [catV, flatL]
  | x :: t => flatL_all.2 fun v hv => by
    have ih := catV_flat he t
    simp only [catV, List.map_cons, List.flatten_cons, List.mem_append] at hv
    rcases hv with h1 | h1
    · exact flatL_all.1 (he x) v h1
    · exact flatL_all.1 ih v h1
theorem encT_flat (x : TermS) : flatL (encT x) := by simp [encT, flatL, flat]
theorem encVar_flat (x : VarS) : flatL (encVar x) := by simp [encVar, flatL, flat]
theorem d_toTermS {v : V} {xs : List TermS} (hv : XT v xs) (hl : xs.length ≤ 1048576) : VCall Try.prog n_laws_toTermS [v] M (fun r M' => One r ∧ Dn M M' r (fun u => LT u xs)) :=
  (x_toTermS hv hl).mono fun r M' h => ⟨h.one, h.dn (catV_flat encT_flat xs) fun u hu => hu.lc (by omega) (catV_len (sz := 4) (enc := encT) (fun _ => rfl) xs) fun i hi => catV_at (sz := 4) (enc := encT) (fun _ => rfl) hi⟩
theorem d_toVarS {v : V} {xs : List VarS} (hv : XVar v xs) (hl : xs.length ≤ 1048576) : VCall Try.prog n_laws_toVarS [v] M (fun r M' => One r ∧ Dn M M' r (fun u => LVar u xs)) :=
  (x_toVarS hv hl).mono fun r M' h => ⟨h.one, h.dn (catV_flat encVar_flat xs) fun u hu => hu.lc (by omega) (catV_len (sz := 3) (enc := encVar) (fun _ => rfl) xs) fun i hi => catV_at (sz := 3) (enc := encVar) (fun _ => rfl) hi⟩
theorem d_toIntS {v : V} {xs : List Int} (hv : XI v xs) (hl : xs.length ≤ 1048576) : VCall Try.prog n_laws_toIntS [v] M (fun r M' => One r ∧ Dn M M' r (fun u => LI u xs)) :=
  (x_toIntS hv hl).mono fun r M' h => ⟨h.one, h.dn (flatL_vi xs) fun u hu => hu.li⟩
theorem d_toTermSS {v : V} {xs : List (List TermS)} (hv : XTT v xs) (hl : xs.length ≤ 1048576) (hx : ∀ ts ∈ xs, ts.length ≤ 1048576) : VCall Try.prog n_laws_toTermSS [v] M (fun r M' => One r ∧ Dn M M' r (fun u => LTT u xs)) := by
  refine VCall.plain fun R hR => v_laws_toTermSS rfl ?_
  have hlen := hv.len fun _ _ h => h.len
  simp (maxSteps := 2000000) (disch := first | omega | assumption | exact idP rfl | exact idP (bL rfl)) only [go_sem, reduceIte, Nat.reduceEqDiff, hlen]
  refine mks3 (by omega) (by simp [mostCells]; omega) (by simp [mostCells]; omega) ?_
  intro b3 hb3
  simp (maxSteps := 2000000) (disch := first | omega | assumption | exact idP rfl | exact idP (bL rfl)) only [go_sem, reduceIte, Nat.reduceEqDiff, zeros_nil]
  refine loop_k (fun e M' => ∃ (i : Nat) (us us' : List V) (fp : List (Nat × List V)), i ≤ xs.length ∧ e 0 = v ∧ e 3 = .sc (.sl (some (b3, 0)) xs.length xs.length true 1) ∧ e 4 = .sc (.int .i64 i) ∧ Tr us us' fp ∧ Mem M M' ((b3, us ++ List.replicate (xs.length - i) nil1) :: fp) ∧ flatL us ∧ (∀ q ∈ fp, flatL q.2) ∧ Cs (fun ts u => LT u ts) us' (xs.take i)) (fun e _ => ctrV xs.length (e 4)) ?_ ?_
  · exact ⟨0, [], [], [], by omega, by simp (maxSteps := 2000000) (disch := first | omega | assumption | exact idP rfl | exact idP (bL rfl)) only [go_sem, reduceIte, Nat.reduceEqDiff], by simp (maxSteps := 2000000) (disch := first | omega | assumption | exact idP rfl | exact idP (bL rfl)) only [go_sem, reduceIte, Nat.reduceEqDiff], by simp (maxSteps := 2000000) (disch := first | omega | assumption | exact idP rfl | exact idP (bL rfl)) only [go_sem, reduceIte, Nat.reduceEqDiff]; rfl, .nil, by simpa using (Mem.nil (Sub.refl M)).new1 hb3, by simp [flatL], fun q hq => (by cases hq), .nil⟩
  · rintro e M1 ⟨i, us, us', fp, hi, e0, e3, e4, htr, hmem, hfl, hff, hc⟩ K hK
    have hul : us.length = i := by have := hc.1; have h2 := htr.len; simp at this; omega
    have hm := hmem.hd
    simp (maxSteps := 2000000) (disch := first | omega | assumption | exact idP rfl | exact idP (bL rfl)) only [go_sem, reduceIte, Nat.reduceEqDiff, e0, e3, e4, hlen]
    refine cond_dec (fun h => ?_) (fun h => ?_)
    · have hi' : i < xs.length := by omega
      have hv' := hv.get (by omega)
      obtain ⟨q, hq⟩ : ∃ q, xs.length - i = q + 1 := ⟨xs.length - i - 1, by omega⟩
      rw [hq, List.replicate_succ] at hm hmem
      simp (maxSteps := 2000000) (disch := first | omega | assumption | exact idP rfl | exact idP (bL rfl)) only [go_sem, reduceIte, Nat.reduceEqDiff, e0, e3, e4, hv'.iaddr]
      refine (d_toTermS (hv'.elt hi') (hx _ (List.getElem_mem hi'))).mono ?_
      rintro r M2 ⟨⟨hr1, hr2⟩, r', g, t1, t2, t3, t4, hr⟩
      have hmem2 := hmem.add t2
      rw [List.cons_append] at hmem2
      have hm2 := hmem2.hd
      have hsm : (us ++ nil1 :: List.replicate q nil1).set i r = us ++ r :: List.replicate q nil1 := set_mid hul
      have hnl3 : i < (us ++ nil1 :: List.replicate q nil1).length := by simp; omega
      simp (maxSteps := 2000000) (disch := first | omega | assumption | exact idP rfl | exact idP (bL rfl)) only [go_sem, reduceIte, Nat.reduceEqDiff, e0, e3, e4, hm2, hr2, hsm]
      refine hK _ _ ⟨i + 1, us ++ [r], us' ++ [r'], fp ++ g, by omega, by simp (maxSteps := 2000000) (disch := first | omega | assumption | exact idP rfl | exact idP (bL rfl)) only [go_sem, reduceIte, Nat.reduceEqDiff], by simp (maxSteps := 2000000) (disch := first | omega | assumption | exact idP rfl | exact idP (bL rfl)) only [go_sem, reduceIte, Nat.reduceEqDiff], by simp (maxSteps := 2000000) (disch := first | omega | assumption | exact idP rfl | exact idP (bL rfl)) only [go_sem, reduceIte, Nat.reduceEqDiff]; rfl, htr.append t1, ?_, ?_, ?_, ?_⟩ (by simp (maxSteps := 2000000) (disch := first | omega | assumption | exact idP rfl | exact idP (bL rfl)) only [go_sem, reduceIte, Nat.reduceEqDiff, ctrV_int, e4]; omega)
      · have := hmem2.upd (l' := us ++ r :: List.replicate q nil1)
        simpa [show xs.length - (i + 1) = q by omega] using this
      · exact flatL_all.2 fun w hw => by
          rcases List.mem_append.1 hw with h1 | h1
          · exact flatL_all.1 hfl w h1
          · rw [List.mem_singleton] at h1; subst h1; exact t3
      · intro w hw
        rcases List.mem_append.1 hw with h1 | h1
        · exact hff w h1
        · exact t4 w h1
      · rw [take_snoc hi']
        exact hc.snoc hr
    · obtain rfl : i = xs.length := by omega
      rw [List.take_length] at hc
      simp (maxSteps := 2000000) (disch := first | omega | assumption | exact idP rfl | exact idP (bL rfl)) only [go_sem, reduceIte, Nat.reduceEqDiff, e3]
      simp only [Nat.sub_self, List.replicate_zero, List.append_nil] at hmem
      have hul' : us'.length = xs.length := hc.1
      refine hR _ _ ⟨⟨rfl, rfl⟩, .fs (some (b3, 0)) xs.length xs.length true 1 (us'.drop 0), (b3, us) :: (fp ++ []), .sl htr .nil, by simpa using hmem, by simp [flat], fun q hq => ?_, ?_⟩
      · simp only [List.append_nil, List.mem_cons] at hq
        rcases hq with rfl | h1
        · exact hfl
        · exact hff q h1
      · exact Fr.lsC (us := us') (.inr ⟨_, _, _, _, _, by rw [List.drop_zero], by omega⟩) hc
theorem d_toRule {cs : List V} {r : RuleS} (hv : isRuleX r cs) (hf : RuleFit r) : VCall Try.prog n_laws_toRule [.agg cs] M (fun r' M' => ∃ ds, r' = .agg ds ∧ ds.length = 3 ∧ ds.all oneV = true ∧ DnL M M' ds (isRule r)) := by
  refine VCall.plain fun R hR => v_laws_toRule rfl ?_
  obtain ⟨a, b, c, rfl, ha, hb, hc⟩ := hv
  obtain ⟨f1, f2, f3, f4⟩ := hf
  simp (maxSteps := 2000000) (disch := first | omega | assumption | exact idP rfl | exact idP (bL rfl)) only [go_sem, reduceIte, Nat.reduceEqDiff]
  intro b1 hb1
  try simp (maxSteps := 2000000) (disch := first | omega | assumption | exact idP rfl | exact idP (bL rfl)) only [go_sem, reduceIte, Nat.reduceEqDiff]
  intro b2 hb2
  try simp (maxSteps := 2000000) (disch := first | omega | assumption | exact idP rfl | exact idP (bL rfl)) only [go_sem, reduceIte, Nat.reduceEqDiff]
  intro b3 hb3
  have n21 := (fresh_set hb2).1
  have n32 := (fresh_set hb3).1
  have n31 := (fresh_set (fresh_set hb3).2).1
  have m0 := (((Mem.nil (Sub.refl M)).new1 hb1).new1 hb2).new1 (l := [.sc (.sl none 0 0 true 0), .sc (.sl none 0 0 true 0), .sc (.sl none 0 0 true 0)]) hb3
  simp (maxSteps := 2000000) (disch := first | omega | assumption | exact idP rfl | exact idP (bL rfl)) only [go_sem, reduceIte, Nat.reduceEqDiff]
  refine (d_toTermS ha f1).mono ?_
  rintro x M2 ⟨⟨hx1, hx2⟩, x', gx, tx, mx, fx, ffx, hx⟩
  have m1 := m0.add mx
  simp only [List.cons_append, List.nil_append] at m1
  have q1 := m1.hd
  have q2 := m1.tail.hd
  have q3 := m1.tail.tail.hd
  simp (maxSteps := 2000000) (disch := first | omega | assumption | exact idP rfl | exact idP (bL rfl)) only [go_sem, reduceIte, Nat.reduceEqDiff, q1, q2, q3, hx2]
  have m2 := m1.upd (l' := [x, nil1, nil1])
  simp only [nil1] at m2
  refine (d_toIntS hb f2).mono ?_
  rintro y M3 ⟨⟨hy1, hy2⟩, y', gy, ty, my, fy, ffy, hy⟩
  have m3 := m2.add my
  simp only [List.cons_append, List.nil_append] at m3
  have q1 := m3.hd
  have q2 := m3.tail.hd
  have q3 := m3.tail.tail.hd
  simp (maxSteps := 2000000) (disch := first | omega | assumption | exact idP rfl | exact idP (bL rfl)) only [go_sem, reduceIte, Nat.reduceEqDiff, q1, q2, q3, hy2]
  have m4 := m3.upd (l' := [x, y, nil1])
  simp only [nil1] at m4
  refine (d_toTermSS hc f3 f4).mono ?_
  rintro z M4 ⟨⟨hz1, hz2⟩, z', gz, tz, mz, fz, ffz, hz⟩
  have m5 := m4.add mz
  simp only [List.cons_append, List.nil_append] at m5
  have q1 := m5.hd
  have q2 := m5.tail.hd
  have q3 := m5.tail.tail.hd
  simp (maxSteps := 2000000) (disch := first | omega | assumption | exact idP rfl | exact idP (bL rfl)) only [go_sem, reduceIte, Nat.reduceEqDiff, q1, q2, q3, hz2]
  have m6 := (m5.upd (l' := [x, y, z])).perm (List.Perm.swap ..)
  have m7 := m6.upd (l' := [x, y, z])
  refine hR _ _ ⟨[x, y, z], rfl, rfl, by simp [hx1, hy1, hz1], [x', y', z'], gx ++ gy ++ gz, (tx.append ty).append tz, m7.tail.tail.tail, ?_, fun q hq => ?_, x', y', z', rfl, hx, hy, hz⟩
  · simp only [flatL]; exact ⟨fx, fy, fz, trivial⟩
  · rcases List.mem_append.1 hq with h1 | h1
    · rcases List.mem_append.1 h1 with h2 | h2
      · exact ffx q h2
      · exact ffy q h2
    · exact ffz q h1
theorem d_toRuleS {v : V} {xs : List RuleS} (hv : XR v xs) (hl : xs.length ≤ 1048576) (hx : ∀ r ∈ xs, RuleFit r) : VCall Try.prog n_laws_toRuleS [v] M (fun r M' => One r ∧ Dn M M' r (fun u => LR u xs)) := by
  refine VCall.plain fun R hR => v_laws_toRuleS rfl ?_
  have hlen := hv.len fun _ _ h => h.len
  have henc : ∀ x : T3, x.val.length = 3 := fun x => x.property
  simp (maxSteps := 2000000) (disch := first | omega | assumption | exact idP rfl | exact idP (bL rfl)) only [go_sem, reduceIte, Nat.reduceEqDiff, hlen]
  refine mks3 (by omega) (by simp [mostCells]; omega) (by simp [mostCells]; omega) ?_
  intro b3 hb3
  simp (maxSteps := 2000000) (disch := first | omega | assumption | exact idP rfl | exact idP (bL rfl)) only [go_sem, reduceIte, Nat.reduceEqDiff, zeros_cat (enc := fun x : T3 => x.val) (z := z3) (zs := [AV.sl none 0 0 true 0, AV.sl none 0 0 true 0, AV.sl none 0 0 true 0]) rfl]
  refine loop_k (fun e M' => ∃ (i : Nat) (us us' : List T3) (fp : List (Nat × List V)), i ≤ xs.length ∧ us.length = i ∧ us'.length = i ∧ e 0 = v ∧ e 3 = .sc (.sl (some (b3, 0)) xs.length xs.length true 3) ∧ e 4 = .sc (.int .i64 i) ∧ Tr (catV (fun x : T3 => x.val) us) (catV (fun x : T3 => x.val) us') fp ∧ Mem M M' ((b3, catV (fun x : T3 => x.val) us ++ catV (fun x : T3 => x.val) (List.replicate (xs.length - i) z3)) :: fp) ∧ flatL (catV (fun x : T3 => x.val) us) ∧ (∀ q ∈ fp, flatL q.2) ∧ ∀ j (h1 : j < xs.length) (h2 : j < us'.length), isRule xs[j] us'[j].val) (fun e _ => ctrV xs.length (e 4)) ?_ ?_
  · exact ⟨0, [], [], [], by omega, rfl, rfl, by simp (maxSteps := 2000000) (disch := first | omega | assumption | exact idP rfl | exact idP (bL rfl)) only [go_sem, reduceIte, Nat.reduceEqDiff], by simp (maxSteps := 2000000) (disch := first | omega | assumption | exact idP rfl | exact idP (bL rfl)) only [go_sem, reduceIte, Nat.reduceEqDiff], by simp (maxSteps := 2000000) (disch := first | omega | assumption | exact idP rfl | exact idP (bL rfl)) only [go_sem, reduceIte, Nat.reduceEqDiff]; rfl, .nil, by simpa [catV] using (Mem.nil (Sub.refl M)).new1 hb3, by simp [catV, flatL], fun q hq => (by cases hq), fun j _ h => by simp at h⟩
  · rintro e M1 ⟨i, us, us', fp, hi, hul, hul', e0, e3, e4, htr, hmem, hfl, hff, hc⟩ K hK
    have hm := hmem.hd
    simp (maxSteps := 2000000) (disch := first | omega | assumption | exact idP rfl | exact idP (bL rfl)) only [go_sem, reduceIte, Nat.reduceEqDiff, e0, e3, e4, hlen]
    refine cond_dec (fun h => ?_) (fun h => ?_)
    · have hi' : i < xs.length := by omega
      have hv' := hv.get (by omega)
      have hcs := hv'.elt hi'
      have hrule := hcs
      obtain ⟨c1, c2, c3, hat, _, _, _⟩ := hcs
      rw [hat] at hrule
      simp (maxSteps := 2000000) (disch := first | omega | assumption | exact idP rfl | exact idP (bL rfl)) only [go_sem, reduceIte, Nat.reduceEqDiff, e0, e3, e4, hv'.iaddr, hat]
      refine (d_toRule hrule (hx _ (List.getElem_mem hi'))).mono ?_
      rintro _ M2 ⟨ds, rfl, hd3, hd1, ds', g, t1, t2, t3, t4, hr⟩
      have hmem2 := hmem.add t2
      rw [List.cons_append] at hmem2
      have hm2 := hmem2.hd
      have hd3' : ds'.length = 3 := by rw [t1.len, hd3]
      simp (maxSteps := 2000000) (disch := first | omega | assumption | exact idP rfl | exact idP (bL rfl)) only [go_sem, reduceIte, Nat.reduceEqDiff, e0, e3, e4, hm2]
      refine ⟨hd3, hd1, ?_, ?_⟩
      · rw [List.length_append, catV_len henc, catV_len henc, hul, List.length_replicate]; omega
      rw [show xs.length - i = (xs.length - (i + 1)) + 1 by omega, cat_set (x := (⟨ds, hd3⟩ : T3)) henc (by rw [hul])]
      simp (maxSteps := 2000000) (disch := first | omega | assumption | exact idP rfl | exact idP (bL rfl)) only [go_sem, reduceIte, Nat.reduceEqDiff, e0, e3, e4]
      have hca : catV (fun x : T3 => x.val) (us ++ [⟨ds, hd3⟩]) = catV (fun x : T3 => x.val) us ++ ds := catV_snoc
      have hca' : catV (fun x : T3 => x.val) (us' ++ [⟨ds', hd3'⟩]) = catV (fun x : T3 => x.val) us' ++ ds' := catV_snoc
      refine hK _ _ ⟨i + 1, us ++ [⟨ds, hd3⟩], us' ++ [⟨ds', hd3'⟩], fp ++ g, by omega, by simp [hul], by simp [hul'], by simp (maxSteps := 2000000) (disch := first | omega | assumption | exact idP rfl | exact idP (bL rfl)) only [go_sem, reduceIte, Nat.reduceEqDiff], by simp (maxSteps := 2000000) (disch := first | omega | assumption | exact idP rfl | exact idP (bL rfl)) only [go_sem, reduceIte, Nat.reduceEqDiff], by simp (maxSteps := 2000000) (disch := first | omega | assumption | exact idP rfl | exact idP (bL rfl)) only [go_sem, reduceIte, Nat.reduceEqDiff]; rfl, ?_, ?_, ?_, ?_, fun j h1 h2 => ?_⟩ (by simp (maxSteps := 2000000) (disch := first | omega | assumption | exact idP rfl | exact idP (bL rfl)) only [go_sem, reduceIte, Nat.reduceEqDiff, ctrV_int, e4]; omega)
      · rw [hca, hca']; exact htr.append t1
      · exact hmem2.upd
      · rw [hca]
        exact flatL_all.2 fun w hw => by
          rcases List.mem_append.1 hw with h1 | h1
          · exact flatL_all.1 hfl w h1
          · exact flatL_all.1 t3 w h1
      · intro w hw
        rcases List.mem_append.1 hw with h1 | h1
        · exact hff w h1
        · exact t4 w h1
      · by_cases hj : j < us'.length
        · rw [List.getElem_append_left hj]; exact hc j h1 hj
        · obtain rfl : j = us'.length := by simp at h2; omega
          have e9 : us'.length = i := hul'
          simp only [List.getElem_append_right (Nat.le_refl _), Nat.sub_self, List.getElem_cons_zero]
          simp only [e9]
          exact hr
    · obtain rfl : i = xs.length := by omega
      simp (maxSteps := 2000000) (disch := first | omega | assumption | exact idP rfl | exact idP (bL rfl)) only [go_sem, reduceIte, Nat.reduceEqDiff, e3]
      have hcz : catV (fun x : T3 => x.val) (List.replicate (xs.length - xs.length) z3) = [] := by simp [catV]
      rw [hcz, List.append_nil] at hmem
      have hcl := catV_len henc us'
      refine hR _ _ ⟨⟨rfl, rfl⟩, .fs (some (b3, 0)) xs.length xs.length true 3 ((catV (fun x : T3 => x.val) us').drop 0), (b3, catV (fun x : T3 => x.val) us) :: (fp ++ []), .sl htr .nil, by simpa using hmem, by simp [flat], fun q hq => ?_, ?_⟩
      · simp only [List.append_nil, List.mem_cons] at hq
        rcases hq with rfl | h1
        · exact hfl
        · exact hff q h1
      · exact Fr.lc (l := catV (fun x : T3 => x.val) us') (.inr ⟨_, _, _, _, _, by rw [List.drop_zero], by rw [hcl, hul']⟩) (by omega) (by rw [hcl, hul']) fun j hj => by rw [catV_at henc (by omega)]; exact hc j hj (by omega)
theorem d_toSystem {v : V} {s : SysS} (hv : isSysX s v) (hf : SysFit s) : VCall Try.prog n_laws_toSystem [v] M (fun r' M' => ∃ x y, r' = .agg [x, y] ∧ One x ∧ One y ∧ DnL M M' [x, y] (fun l => ∃ x' y', l = [x', y'] ∧ LVar x' s.vars ∧ LR y' s.rules)) := by
  refine VCall.plain fun R hR => v_laws_toSystem rfl ?_
  obtain ⟨a, b, rfl, ha, hb⟩ := hv
  obtain ⟨f1, f2, f3⟩ := hf
  simp (maxSteps := 2000000) (disch := first | omega | assumption | exact idP rfl | exact idP (bL rfl)) only [go_sem, reduceIte, Nat.reduceEqDiff]
  intro b1 hb1
  try simp (maxSteps := 2000000) (disch := first | omega | assumption | exact idP rfl | exact idP (bL rfl)) only [go_sem, reduceIte, Nat.reduceEqDiff]
  intro b2 hb2
  try simp (maxSteps := 2000000) (disch := first | omega | assumption | exact idP rfl | exact idP (bL rfl)) only [go_sem, reduceIte, Nat.reduceEqDiff]
  intro b3 hb3
  have n21 := (fresh_set hb2).1
  have n32 := (fresh_set hb3).1
  have n31 := (fresh_set (fresh_set hb3).2).1
  have m0 := (((Mem.nil (Sub.refl M)).new1 hb1).new1 hb2).new1 (l := [.sc (.sl none 0 0 true 0), .sc (.sl none 0 0 true 0)]) hb3
  simp (maxSteps := 2000000) (disch := first | omega | assumption | exact idP rfl | exact idP (bL rfl)) only [go_sem, reduceIte, Nat.reduceEqDiff]
  refine (d_toVarS ha f1).mono ?_
  rintro x M2 ⟨⟨hx1, hx2⟩, x', gx, tx, mx, fx, ffx, hx⟩
  have m1 := m0.add mx
  simp only [List.cons_append, List.nil_append] at m1
  have q1 := m1.hd
  have q2 := m1.tail.hd
  have q3 := m1.tail.tail.hd
  simp (maxSteps := 2000000) (disch := first | omega | assumption | exact idP rfl | exact idP (bL rfl)) only [go_sem, reduceIte, Nat.reduceEqDiff, q1, q2, q3, hx2]
  have m2 := m1.upd (l' := [x, nil1])
  simp only [nil1] at m2
  refine (d_toRuleS hb f2 f3).mono ?_
  rintro y M3 ⟨⟨hy1, hy2⟩, y', gy, ty, my, fy, ffy, hy⟩
  have m3 := m2.add my
  simp only [List.cons_append, List.nil_append] at m3
  have q1 := m3.hd
  have q2 := m3.tail.hd
  have q3 := m3.tail.tail.hd
  simp (maxSteps := 2000000) (disch := first | omega | assumption | exact idP rfl | exact idP (bL rfl)) only [go_sem, reduceIte, Nat.reduceEqDiff, q1, q2, q3, hy2]
  have m6 := (m3.upd (l' := [x, y])).perm (List.Perm.swap ..)
  have m7 := m6.upd (l' := [x, y])
  refine hR _ _ ⟨x, y, rfl, ⟨hx1, hx2⟩, ⟨hy1, hy2⟩, [x', y'], gx ++ gy, tx.append ty, m7.tail.tail.tail, ?_, fun q hq => ?_, x', y', rfl, hx, hy⟩
  · simp only [flatL]; exact ⟨fx, fy, trivial⟩
  · rcases List.mem_append.1 hq with h2 | h2
    · exact ffx q h2
    · exact ffy q h2
end Go.M2

namespace Go.M2
open Go.Proofs
variable {M : MH}
def LfM (sz : Nat) (M : MH) (v : V) (ok : Nat → Prop) : Prop := (∃ q, v = .sc (.sl none 0 0 true q)) ∨ ∃ b o n c ex kk l, v = .sc (.sl (some (b, o)) n c ex kk) ∧ M b = some l ∧ (0 < n → o + n * sz ≤ l.length) ∧ n ≤ 1048576 ∧ ok b
def mkPost (M : MH) (k d : Int) (ok : Nat → Prop) : V → MH → Prop := fun r M' => ∃ k' : Int, r = .sc (.int .i64 k') ∧ k ≤ k' ∧ k' ≤ k + d ∧ ∀ q, ¬ ok q → M' q = M q
theorem t_markIntS {v : V} {k : Int} {ok : Nat → Prop} (hv : LfM 1 M v ok) (hk : 0 ≤ k) (hk2 : k ≤ 9000000000000000000) : VCall Try.prog n_laws_markIntS [v, .sc (.int .i64 k)] M (mkPost M k 1048576 ok) := by
  refine VCall.plain fun R hR => v_laws_markIntS rfl ?_
  rcases hv with ⟨q, rfl⟩ | ⟨b, o, n, c, ex, kk, l, rfl, hm, hl, hn, hok⟩
  · simp (maxSteps := 2000000) (disch := first | omega | assumption | exact idP rfl | exact idP (bL rfl)) only [go_sem, reduceIte, Nat.reduceEqDiff]
    refine loop_k (fun e M' => M' = M ∧ e 0 = .sc (.sl none 0 0 true q) ∧ e 1 = .sc (.int .i64 k) ∧ e 5 = .sc (.int .i64 0)) (fun e _ => 0) ⟨rfl, by simp (maxSteps := 2000000) (disch := first | omega | assumption | exact idP rfl | exact idP (bL rfl)) only [go_sem, reduceIte, Nat.reduceEqDiff], by simp (maxSteps := 2000000) (disch := first | omega | assumption | exact idP rfl | exact idP (bL rfl)) only [go_sem, reduceIte, Nat.reduceEqDiff], by simp (maxSteps := 2000000) (disch := first | omega | assumption | exact idP rfl | exact idP (bL rfl)) only [go_sem, reduceIte, Nat.reduceEqDiff]⟩ ?_
    rintro e _ ⟨rfl, e0, e1, e5⟩ K hK
    simp (maxSteps := 2000000) (disch := first | omega | assumption | exact idP rfl | exact idP (bL rfl)) only [go_sem, reduceIte, Nat.reduceEqDiff, e0, e1, e5]
    exact hR _ _ ⟨k, rfl, by omega, by omega, fun q _ => rfl⟩
  · simp (maxSteps := 2000000) (disch := first | omega | assumption | exact idP rfl | exact idP (bL rfl)) only [go_sem, reduceIte, Nat.reduceEqDiff]
    refine loop_k (fun e M' => ∃ (i : Nat) (l' : List V), i ≤ n ∧ e 0 = .sc (.sl (some (b, o)) n c ex kk) ∧ e 1 = .sc (.int .i64 (k + i)) ∧ e 5 = .sc (.int .i64 i) ∧ (∀ q, q ≠ b → M' q = M q) ∧ M' b = some l' ∧ l'.length = l.length) (fun e _ => ctrV n (e 5)) ?_ ?_
    · exact ⟨0, l, by omega, by simp (maxSteps := 2000000) (disch := first | omega | assumption | exact idP rfl | exact idP (bL rfl)) only [go_sem, reduceIte, Nat.reduceEqDiff], by simp (maxSteps := 2000000) (disch := first | omega | assumption | exact idP rfl | exact idP (bL rfl)) only [go_sem, reduceIte, Nat.reduceEqDiff]; simp, by simp (maxSteps := 2000000) (disch := first | omega | assumption | exact idP rfl | exact idP (bL rfl)) only [go_sem, reduceIte, Nat.reduceEqDiff]; rfl, fun _ _ => rfl, hm, rfl⟩
    · rintro e M1 ⟨i, l', hi, e0, e1, e5, hq, hm1, hl1⟩ K hK
      simp (maxSteps := 2000000) (disch := first | omega | assumption | exact idP rfl | exact idP (bL rfl)) only [go_sem, reduceIte, Nat.reduceEqDiff, e0, e1, e5]
      refine cond_dec (fun h => ?_) (fun h => ?_)
      · have hl := hl (by omega)
        have hso : o + i * 1 < l'.length := by omega
        have hso2 : o + i < l'.length := by omega
        simp (maxSteps := 2000000) (disch := first | omega | assumption | exact idP rfl | exact idP (bL rfl)) only [go_sem, reduceIte, Nat.reduceEqDiff, e0, e1, e5, hm1]
        exact hK _ _ ⟨i + 1, _, by omega, by simp (maxSteps := 2000000) (disch := first | omega | assumption | exact idP rfl | exact idP (bL rfl)) only [go_sem, reduceIte, Nat.reduceEqDiff, e0], by simp (maxSteps := 2000000) (disch := first | omega | assumption | exact idP rfl | exact idP (bL rfl)) only [go_sem, reduceIte, Nat.reduceEqDiff]; rw [Int.natCast_add, Int.add_assoc]; rfl, by simp (maxSteps := 2000000) (disch := first | omega | assumption | exact idP rfl | exact idP (bL rfl)) only [go_sem, reduceIte, Nat.reduceEqDiff]; rfl, fun q hqb => by rw [set_ne hqb]; exact hq q hqb, set_same, by simp [hl1]⟩ (by simp (maxSteps := 2000000) (disch := first | omega | assumption | exact idP rfl | exact idP (bL rfl)) only [go_sem, reduceIte, Nat.reduceEqDiff, ctrV_int, e5]; omega)
      · obtain rfl : i = n := by omega
        simp (maxSteps := 2000000) (disch := first | omega | assumption | exact idP rfl | exact idP (bL rfl)) only [go_sem, reduceIte, Nat.reduceEqDiff, e1]
        exact hR _ _ ⟨_, rfl, by omega, by omega, fun q hq1 => hq q fun e => hq1 (by rw [e]; exact hok)⟩
theorem t_markVarS {v : V} {k : Int} {ok : Nat → Prop} (hv : LfM 3 M v ok) (hk : 0 ≤ k) (hk2 : k ≤ 9000000000000000000) : VCall Try.prog n_laws_markVarS [v, .sc (.int .i64 k)] M (mkPost M k 3145728 ok) := by
  refine VCall.plain fun R hR => v_laws_markVarS rfl ?_
  rcases hv with ⟨q, rfl⟩ | ⟨b, o, n, c, ex, kk, l, rfl, hm, hl, hn, hok⟩
  · simp (maxSteps := 2000000) (disch := first | omega | assumption | exact idP rfl | exact idP (bL rfl)) only [go_sem, reduceIte, Nat.reduceEqDiff]
    refine loop_k (fun e M' => M' = M ∧ e 0 = .sc (.sl none 0 0 true q) ∧ e 1 = .sc (.int .i64 k) ∧ e 5 = .sc (.int .i64 0)) (fun e _ => 0) ⟨rfl, by simp (maxSteps := 2000000) (disch := first | omega | assumption | exact idP rfl | exact idP (bL rfl)) only [go_sem, reduceIte, Nat.reduceEqDiff], by simp (maxSteps := 2000000) (disch := first | omega | assumption | exact idP rfl | exact idP (bL rfl)) only [go_sem, reduceIte, Nat.reduceEqDiff], by simp (maxSteps := 2000000) (disch := first | omega | assumption | exact idP rfl | exact idP (bL rfl)) only [go_sem, reduceIte, Nat.reduceEqDiff]⟩ ?_
    rintro e _ ⟨rfl, e0, e1, e5⟩ K hK
    simp (maxSteps := 2000000) (disch := first | omega | assumption | exact idP rfl | exact idP (bL rfl)) only [go_sem, reduceIte, Nat.reduceEqDiff, e0, e1, e5]
    exact hR _ _ ⟨k, rfl, by omega, by omega, fun q _ => rfl⟩
  · simp (maxSteps := 2000000) (disch := first | omega | assumption | exact idP rfl | exact idP (bL rfl)) only [go_sem, reduceIte, Nat.reduceEqDiff]
    refine loop_k (fun e M' => ∃ (i : Nat) (l' : List V), i ≤ n ∧ e 0 = .sc (.sl (some (b, o)) n c ex kk) ∧ e 1 = .sc (.int .i64 (k + 3 * i)) ∧ e 5 = .sc (.int .i64 i) ∧ (∀ q, q ≠ b → M' q = M q) ∧ M' b = some l' ∧ l'.length = l.length) (fun e _ => ctrV n (e 5)) ?_ ?_
    · exact ⟨0, l, by omega, by simp (maxSteps := 2000000) (disch := first | omega | assumption | exact idP rfl | exact idP (bL rfl)) only [go_sem, reduceIte, Nat.reduceEqDiff], by simp (maxSteps := 2000000) (disch := first | omega | assumption | exact idP rfl | exact idP (bL rfl)) only [go_sem, reduceIte, Nat.reduceEqDiff]; simp, by simp (maxSteps := 2000000) (disch := first | omega | assumption | exact idP rfl | exact idP (bL rfl)) only [go_sem, reduceIte, Nat.reduceEqDiff]; rfl, fun _ _ => rfl, hm, rfl⟩
    · rintro e M1 ⟨i, l', hi, e0, e1, e5, hq, hm1, hl1⟩ K hK
      simp (maxSteps := 2000000) (disch := first | omega | assumption | exact idP rfl | exact idP (bL rfl)) only [go_sem, reduceIte, Nat.reduceEqDiff, e0, e1, e5]
      refine cond_dec (fun h => ?_) (fun h => ?_)
      · have hl := hl (by omega)
        have hso : o + i * 3 < l'.length := by omega
        have hso2 : ∀ x, o + i * 3 + 1 < (l'.set (o + i * 3) x).length := fun x => by rw [List.length_set]; omega
        have hso3 : ∀ x y, o + i * 3 + 2 < ((l'.set (o + i * 3) x).set (o + i * 3 + 1) y).length := fun x y => by rw [List.length_set, List.length_set]; omega
        have hs2 := hso2 (.sc (.int .i64 (k + 3 * (i : Int))))
        have hs3 := hso3 (.sc (.int .i64 (k + 3 * (i : Int)))) (.sc (.int .i64 (k + 3 * (i : Int) + 1)))
        simp (maxSteps := 2000000) (disch := first | omega | assumption | exact idP rfl | exact idP (bL rfl)) only [go_sem, reduceIte, Nat.reduceEqDiff, e0, e1, e5, hm1]
        exact hK _ _ ⟨i + 1, _, by omega, by simp (maxSteps := 2000000) (disch := first | omega | assumption | exact idP rfl | exact idP (bL rfl)) only [go_sem, reduceIte, Nat.reduceEqDiff, e0], by simp (maxSteps := 2000000) (disch := first | omega | assumption | exact idP rfl | exact idP (bL rfl)) only [go_sem, reduceIte, Nat.reduceEqDiff]; congr 2; omega, by simp (maxSteps := 2000000) (disch := first | omega | assumption | exact idP rfl | exact idP (bL rfl)) only [go_sem, reduceIte, Nat.reduceEqDiff]; rfl, fun q hqb => by simp only [MH.set, if_neg hqb]; exact hq q hqb, set_same, by simp [hl1]⟩ (by simp (maxSteps := 2000000) (disch := first | omega | assumption | exact idP rfl | exact idP (bL rfl)) only [go_sem, reduceIte, Nat.reduceEqDiff, ctrV_int, e5]; omega)
      · obtain rfl : i = n := by omega
        simp (maxSteps := 2000000) (disch := first | omega | assumption | exact idP rfl | exact idP (bL rfl)) only [go_sem, reduceIte, Nat.reduceEqDiff, e1]
        exact hR _ _ ⟨_, rfl, by omega, by omega, fun q hq1 => hq q fun e => hq1 (by rw [e]; exact hok)⟩
theorem t_markTermS {v : V} {k : Int} {ok : Nat → Prop} (hv : LfM 4 M v ok) (hk : 0 ≤ k) (hk2 : k ≤ 9000000000000000000) : VCall Try.prog n_laws_markTermS [v, .sc (.int .i64 k)] M (mkPost M k 4194304 ok) := by
  refine VCall.plain fun R hR => v_laws_markTermS rfl ?_
  rcases hv with ⟨q, rfl⟩ | ⟨b, o, n, c, ex, kk, l, rfl, hm, hl, hn, hok⟩
  · simp (maxSteps := 2000000) (disch := first | omega | assumption | exact idP rfl | exact idP (bL rfl)) only [go_sem, reduceIte, Nat.reduceEqDiff]
    refine loop_k (fun e M' => M' = M ∧ e 0 = .sc (.sl none 0 0 true q) ∧ e 1 = .sc (.int .i64 k) ∧ e 5 = .sc (.int .i64 0)) (fun e _ => 0) ⟨rfl, by simp (maxSteps := 2000000) (disch := first | omega | assumption | exact idP rfl | exact idP (bL rfl)) only [go_sem, reduceIte, Nat.reduceEqDiff], by simp (maxSteps := 2000000) (disch := first | omega | assumption | exact idP rfl | exact idP (bL rfl)) only [go_sem, reduceIte, Nat.reduceEqDiff], by simp (maxSteps := 2000000) (disch := first | omega | assumption | exact idP rfl | exact idP (bL rfl)) only [go_sem, reduceIte, Nat.reduceEqDiff]⟩ ?_
    rintro e _ ⟨rfl, e0, e1, e5⟩ K hK
    simp (maxSteps := 2000000) (disch := first | omega | assumption | exact idP rfl | exact idP (bL rfl)) only [go_sem, reduceIte, Nat.reduceEqDiff, e0, e1, e5]
    exact hR _ _ ⟨k, rfl, by omega, by omega, fun q _ => rfl⟩
  · simp (maxSteps := 2000000) (disch := first | omega | assumption | exact idP rfl | exact idP (bL rfl)) only [go_sem, reduceIte, Nat.reduceEqDiff]
    refine loop_k (fun e M' => ∃ (i : Nat) (l' : List V), i ≤ n ∧ e 0 = .sc (.sl (some (b, o)) n c ex kk) ∧ e 1 = .sc (.int .i64 (k + 4 * i)) ∧ e 5 = .sc (.int .i64 i) ∧ (∀ q, q ≠ b → M' q = M q) ∧ M' b = some l' ∧ l'.length = l.length) (fun e _ => ctrV n (e 5)) ?_ ?_
    · exact ⟨0, l, by omega, by simp (maxSteps := 2000000) (disch := first | omega | assumption | exact idP rfl | exact idP (bL rfl)) only [go_sem, reduceIte, Nat.reduceEqDiff], by simp (maxSteps := 2000000) (disch := first | omega | assumption | exact idP rfl | exact idP (bL rfl)) only [go_sem, reduceIte, Nat.reduceEqDiff]; simp, by simp (maxSteps := 2000000) (disch := first | omega | assumption | exact idP rfl | exact idP (bL rfl)) only [go_sem, reduceIte, Nat.reduceEqDiff]; rfl, fun _ _ => rfl, hm, rfl⟩
    · rintro e M1 ⟨i, l', hi, e0, e1, e5, hq, hm1, hl1⟩ K hK
      simp (maxSteps := 2000000) (disch := first | omega | assumption | exact idP rfl | exact idP (bL rfl)) only [go_sem, reduceIte, Nat.reduceEqDiff, e0, e1, e5]
      refine cond_dec (fun h => ?_) (fun h => ?_)
      · have hl := hl (by omega)
        have hso : o + i * 4 < l'.length := by omega
        have hso2 : ∀ x, o + i * 4 + 1 < (l'.set (o + i * 4) x).length := fun x => by rw [List.length_set]; omega
        have hso3 : ∀ x y, o + i * 4 + 2 < ((l'.set (o + i * 4) x).set (o + i * 4 + 1) y).length := fun x y => by rw [List.length_set, List.length_set]; omega
        have hso4 : ∀ x y z, o + i * 4 + 3 < (((l'.set (o + i * 4) x).set (o + i * 4 + 1) y).set (o + i * 4 + 2) z).length := fun x y z => by rw [List.length_set, List.length_set, List.length_set]; omega
        have hs2 := hso2 (.sc (.int .i64 (k + 4 * (i : Int))))
        have hs3 := hso3 (.sc (.int .i64 (k + 4 * (i : Int)))) (.sc (.int .i64 (k + 4 * (i : Int) + 1)))
        have hs4 := hso4 (.sc (.int .i64 (k + 4 * (i : Int)))) (.sc (.int .i64 (k + 4 * (i : Int) + 1))) (.sc (.int .i64 (k + 4 * (i : Int) + 1 + 1)))
        simp (maxSteps := 2000000) (disch := first | omega | assumption | exact idP rfl | exact idP (bL rfl)) only [go_sem, reduceIte, Nat.reduceEqDiff, e0, e1, e5, hm1]
        exact hK _ _ ⟨i + 1, _, by omega, by simp (maxSteps := 2000000) (disch := first | omega | assumption | exact idP rfl | exact idP (bL rfl)) only [go_sem, reduceIte, Nat.reduceEqDiff, e0], by simp (maxSteps := 2000000) (disch := first | omega | assumption | exact idP rfl | exact idP (bL rfl)) only [go_sem, reduceIte, Nat.reduceEqDiff]; congr 2; omega, by simp (maxSteps := 2000000) (disch := first | omega | assumption | exact idP rfl | exact idP (bL rfl)) only [go_sem, reduceIte, Nat.reduceEqDiff]; rfl, fun q hqb => by simp only [MH.set, if_neg hqb]; exact hq q hqb, set_same, by simp [hl1]⟩ (by simp (maxSteps := 2000000) (disch := first | omega | assumption | exact idP rfl | exact idP (bL rfl)) only [go_sem, reduceIte, Nat.reduceEqDiff, ctrV_int, e5]; omega)
      · obtain rfl : i = n := by omega
        simp (maxSteps := 2000000) (disch := first | omega | assumption | exact idP rfl | exact idP (bL rfl)) only [go_sem, reduceIte, Nat.reduceEqDiff, e1]
        exact hR _ _ ⟨_, rfl, by omega, by omega, fun q hq1 => hq q fun e => hq1 (by rw [e]; exact hok)⟩
end Go.M2

namespace Go.M2
open Go.Proofs
variable {M : MH}
theorem Tr.inv1 {x : V} {l' : List V} {fp : List (Nat × List V)} (h : Tr [x] l' fp) : (l' = [x] ∧ fp = []) ∨ (∃ b o n c ex k cs cs' g, x = .sc (.sl (some (b, o)) n c ex k) ∧ l' = [.fs (some (b, o)) n c ex k (cs'.drop o)] ∧ Tr cs cs' g ∧ fp = (b, cs) :: g) ∨ (∃ a a', l' = [V.agg a'] ∧ x = .agg a) ∨ (∃ a a', l' = [V.tup a'] ∧ x = .tup a) := by
  cases h with
  | keep v h1 => cases h1; exact .inl ⟨rfl, rfl⟩
  | sl h1 h2 => cases h2; exact .inr (.inl ⟨_, _, _, _, _, _, _, _, _, rfl, rfl, h1, by simp⟩)
  | agg h1 h2 => cases h2; exact .inr (.inr (.inl ⟨_, _, rfl, rfl⟩))
  | tup h1 h2 => cases h2; exact .inr (.inr (.inr ⟨_, _, rfl, rfl⟩))
theorem Tr.uncons {x : V} {t l' : List V} {fp : List (Nat × List V)} (h : Tr (x :: t) l' fp) : ∃ x' t' f1 f2, l' = x' :: t' ∧ fp = f1 ++ f2 ∧ Tr [x] [x'] f1 ∧ Tr t t' f2 := by
  obtain ⟨a', b', f1, f2, rfl, rfl, h1, h2⟩ := Tr.split (a := [x]) (b := t) (b' := []) (by simpa using h)
  have := h1.len
  match a', this with
  | [x'], _ => exact ⟨x', b', f1, f2, rfl, rfl, h1, h2⟩
theorem Tr.win {x x' : V} {fp : List (Nat × List V)} {sz : Nat} {α : Type} {E : α → List V → Prop} {ys : List α} (h : Tr [x] [x'] fp) (hf : flat x) (hx : Lc sz E x' ys) :
    (∃ q, x = .sc (.sl none 0 0 true q) ∧ ys = []) ∨ ∃ b o c ex k cs cs' g, x = .sc (.sl (some (b, o)) ys.length c ex k) ∧ Tr cs cs' g ∧ fp = (b, cs) :: g ∧ (0 < ys.length * sz → o + ys.length * sz ≤ cs.length) ∧ ∀ i (hi : i < ys.length), E ys[i] ((cs'.drop (o + i * sz)).take sz) := by
  rcases h.inv1 with ⟨h1, h2⟩ | ⟨b, o, n, c, ex, k, cs, cs', g, rfl, h1, h2, rfl⟩ | ⟨a, a', h1, rfl⟩ | ⟨a, a', h1, rfl⟩
  · rw [List.cons.injEq] at h1
    obtain ⟨rfl, _⟩ := h1
    rcases hx with ⟨rfl, q, rfl⟩ | ⟨A, c, ex, k, zs, rfl, _⟩
    · exact .inl ⟨q, rfl, rfl⟩
    · simp [flat] at hf
  · rw [List.cons.injEq] at h1
    obtain ⟨rfl, _⟩ := h1
    rcases hx with ⟨_, q, h3⟩ | ⟨A, c2, ex2, k2, zs, h3, h4, h5⟩
    · cases h3
    · injection h3 with e1 e2 e3 e4 e5 e6
      subst e2 e6
      refine .inr ⟨b, o, c, ex, k, cs, cs', g, rfl, h2, rfl, ?_, fun i hi => ?_⟩
      · have := h2.len
        rw [List.length_drop] at h4
        intro h0
        omega
      · have := h5 i hi
        simpa [atN, List.drop_drop, Nat.add_comm] using this
  · rw [List.cons.injEq] at h1
    obtain ⟨rfl, _⟩ := h1
    rcases hx with ⟨_, q, h3⟩ | ⟨A, c2, ex2, k2, zs, h3, _⟩ <;> cases h3
  · rw [List.cons.injEq] at h1
    obtain ⟨rfl, _⟩ := h1
    rcases hx with ⟨_, q, h3⟩ | ⟨A, c2, ex2, k2, zs, h3, _⟩ <;> cases h3
theorem ls_lc {α : Type} {E : α → V → Prop} {v : V} {ys : List α} (h : Ls E v ys) : Lc 1 (fun a cs => ∃ u, cs = [u] ∧ E a u) v ys := by
  rcases h with h | ⟨A, c, ex, k, xs, rfl, hl, h⟩
  · exact .inl h
  · refine .inr ⟨A, c, ex, k, xs, rfl, by omega, fun i hi => ?_⟩
    have h2 := h i hi
    have h3 : i < xs.length := by omega
    refine ⟨xs[i], ?_, by simpa [at1, List.getD, h3] using h2⟩
    simp only [atN, Nat.mul_one]
    rw [List.drop_eq_getElem_cons h3, List.take_succ_cons, List.take_zero]
theorem inF_mem {fp : List (Nat × List V)} {p : Nat × List V} (h : p ∈ fp) : inF fp p.1 = true := inF_iff.2 ⟨p.2, h⟩
theorem inF_append {f g : List (Nat × List V)} {q : Nat} : inF (f ++ g) q = (inF f q || inF g q) := by simp [inF]
theorem leaf_of {sz : Nat} {x x' : V} {fp : List (Nat × List V)} {α : Type} {E : α → List V → Prop} {ys : List α} {M : MH} (h : Tr [x] [x'] fp) (hf : flat x) (hx : Lc sz E x' ys) (hs : 0 < sz) (hl : ys.length ≤ 1048576) (hm : ∀ p ∈ fp, M p.1 = some p.2) : LfM sz M x (fun q => inF fp q = true) := by
  rcases h.win hf hx with ⟨q, rfl, _⟩ | ⟨b, o, c, ex, k, cs, cs', g, rfl, h2, rfl, h3, _⟩
  · exact .inl ⟨q, rfl⟩
  · exact .inr ⟨b, o, ys.length, c, ex, k, cs, rfl, hm (b, cs) (List.mem_cons_self ..), fun h0 => h3 (Nat.mul_pos h0 hs), hl, inF_mem (p := (b, cs)) (List.mem_cons_self ..)⟩
theorem nd_hd {b : Nat} {cs : List V} {g : List (Nat × List V)} (h : Nd2 ((b, cs) :: g)) : inF g b = false ∧ Nd2 g := by
  have hn : (b :: g.map (·.1)).Nodup := h
  obtain ⟨n1, n2⟩ := List.nodup_cons.1 hn
  refine ⟨?_, n2⟩
  cases hb : inF g b with
  | false => rfl
  | true =>
    obtain ⟨l, hl⟩ := inF_iff.1 hb
    exact absurd (List.mem_map_of_mem hl) n1
theorem nd_sep {f g : List (Nat × List V)} (h : Nd2 (f ++ g)) {p : Nat × List V} (hp : p ∈ g) : inF f p.1 = false := by
  cases hb : inF f p.1 with
  | false => rfl
  | true =>
    obtain ⟨l, hl⟩ := inF_iff.1 hb
    have h1 := (Nd2.append h).2.2 _ hl
    simp only at h1
    rw [inF_mem hp] at h1; cases h1
theorem take_one {cs : List V} {j : Nat} (h : j < cs.length) : cs.take (j + 1) = cs.take j ++ [cs[j]] := List.take_succ_eq_append_getElem h
theorem t_markTermSS {v v' : V} {fp : List (Nat × List V)} {tss : List (List TermS)} {k : Int} (ht : Tr [v] [v'] fp) (hf : flat v) (hff : ∀ q ∈ fp, flatL q.2) (hv : LTT v' tss) (hn : Nd2 fp) (hm : ∀ p ∈ fp, M p.1 = some p.2) (hl : tss.length ≤ 1048576) (hl2 : ∀ ts ∈ tss, ts.length ≤ 1048576) (hk : 0 ≤ k) (hk2 : k ≤ 8900000000000000000) :
    VCall Try.prog n_laws_markTermSS [v, .sc (.int .i64 k)] M (mkPost M k 4398046511104 (fun q => inF fp q = true)) := by
  refine VCall.plain fun R hR => v_laws_markTermSS rfl ?_
  rcases ht.win hf (ls_lc hv) with ⟨q, rfl, rfl⟩ | ⟨b, o, c, ex, kk, cs, cs', g, rfl, h2, rfl, h3, h4⟩
  · simp (maxSteps := 2000000) (disch := first | omega | assumption | exact idP rfl | exact idP (bL rfl)) only [go_sem, reduceIte, Nat.reduceEqDiff]
    refine loop_k (fun e M' => M' = M ∧ e 0 = .sc (.sl none 0 0 true q) ∧ e 1 = .sc (.int .i64 k) ∧ e 5 = .sc (.int .i64 0)) (fun e _ => 0) ⟨rfl, by simp (maxSteps := 2000000) (disch := first | omega | assumption | exact idP rfl | exact idP (bL rfl)) only [go_sem, reduceIte, Nat.reduceEqDiff], by simp (maxSteps := 2000000) (disch := first | omega | assumption | exact idP rfl | exact idP (bL rfl)) only [go_sem, reduceIte, Nat.reduceEqDiff], by simp (maxSteps := 2000000) (disch := first | omega | assumption | exact idP rfl | exact idP (bL rfl)) only [go_sem, reduceIte, Nat.reduceEqDiff]⟩ ?_
    rintro e _ ⟨rfl, e0, e1, e5⟩ K hK
    simp (maxSteps := 2000000) (disch := first | omega | assumption | exact idP rfl | exact idP (bL rfl)) only [go_sem, reduceIte, Nat.reduceEqDiff, e0, e1, e5]
    exact hR _ _ ⟨k, rfl, by omega, by omega, fun q _ => rfl⟩
  · obtain ⟨hbg, hng⟩ := nd_hd hn
    have hmb : M b = some cs := hm (b, cs) (List.mem_cons_self ..)
    have hmg : ∀ p ∈ g, M p.1 = some p.2 := fun p hp => hm p (List.mem_cons_of_mem _ hp)
    have hfc : flatL cs := hff (b, cs) (List.mem_cons_self ..)
    have hgo : ∀ q, inF g q = true → inF ((b, cs) :: g) q = true := fun q hq => by
      obtain ⟨l, hl⟩ := inF_iff.1 hq
      exact inF_iff.2 ⟨l, List.mem_cons_of_mem _ hl⟩
    simp (maxSteps := 2000000) (disch := first | omega | assumption | exact idP rfl | exact idP (bL rfl)) only [go_sem, reduceIte, Nat.reduceEqDiff]
    refine loop_k (fun e M' => ∃ (i : Nat) (k' : Int) (g1 g2 : List (Nat × List V)) (l1 l2 : List V), i ≤ tss.length ∧ e 0 = .sc (.sl (some (b, o)) tss.length c ex kk) ∧ e 1 = .sc (.int .i64 k') ∧ e 5 = .sc (.int .i64 i) ∧ k ≤ k' ∧ k' ≤ k + 4194304 * i ∧ Tr (cs.take (o + i)) l1 g1 ∧ Tr (cs.drop (o + i)) l2 g2 ∧ g = g1 ++ g2 ∧ cs' = l1 ++ l2 ∧ ∀ q, inF g1 q = false → M' q = M q) (fun e _ => ctrV tss.length (e 5)) ?_ ?_
    · obtain ⟨l1, l2, g1, g2, rfl, rfl, h5, h6⟩ := Tr.split (a := cs.take o) (b := cs.drop o) (b' := []) (by rw [List.take_append_drop]; exact h2)
      exact ⟨0, k, g1, g2, l1, l2, by omega, by simp (maxSteps := 2000000) (disch := first | omega | assumption | exact idP rfl | exact idP (bL rfl)) only [go_sem, reduceIte, Nat.reduceEqDiff], by simp (maxSteps := 2000000) (disch := first | omega | assumption | exact idP rfl | exact idP (bL rfl)) only [go_sem, reduceIte, Nat.reduceEqDiff], by simp (maxSteps := 2000000) (disch := first | omega | assumption | exact idP rfl | exact idP (bL rfl)) only [go_sem, reduceIte, Nat.reduceEqDiff]; rfl, by omega, by omega, h5, h6, rfl, rfl, fun _ _ => rfl⟩
    · rintro e M1 ⟨i, k', g1, g2, l1, l2, hi, e0, e1, e5, k1, k2, t1, t2, rfl, rfl, hq⟩ K hK
      simp (maxSteps := 2000000) (disch := first | omega | assumption | exact idP rfl | exact idP (bL rfl)) only [go_sem, reduceIte, Nat.reduceEqDiff, e0, e1, e5]
      refine cond_dec (fun h => ?_) (fun h => ?_)
      · have hi' : i < tss.length := by omega
        have h3 := h3 (by omega)
        have hj : o + i < cs.length := by omega
        have hcx : cs[o + i]? = some cs[o + i] := List.getElem?_eq_getElem hj
        have hcx2 : cs[o + i * 1]? = some cs[o + i] := by rw [Nat.mul_one]; exact hcx
        rw [List.drop_eq_getElem_cons hj] at t2
        obtain ⟨x', r', gx, gr, rfl, rfl, t3, t4⟩ := t2.uncons
        have hl1 : l1.length = o + i := by rw [t1.len, List.length_take]; omega
        obtain ⟨u, h5, h6⟩ := h4 i hi'
        rw [Nat.mul_one, List.drop_left' hl1, List.take_succ_cons, List.take_zero, List.cons.injEq] at h5
        obtain ⟨rfl, _⟩ := h5
        have hb1 : M1 b = some cs := by
          rw [hq b (by rw [inF_append] at hbg; simp only [Bool.or_eq_false_iff] at hbg; exact hbg.1)]; exact hmb
        simp (maxSteps := 2000000) (disch := first | omega | assumption | exact idP rfl | exact idP (bL rfl)) only [go_sem, reduceIte, Nat.reduceEqDiff, e0, e1, e5, hb1, hcx, hcx2]
        refine (t_markTermS (leaf_of t3 (flatL_all.1 hfc _ (List.getElem_mem hj)) h6 (by omega) (hl2 _ (List.getElem_mem hi')) (fun p hp => ?_)) (by omega) (by omega)).mono ?_
        · rw [hq p.1 (nd_sep hng (List.mem_append_left _ hp))]
          exact hmg p (List.mem_append_right _ (List.mem_append_left _ hp))
        · rintro _ M2 ⟨k3, rfl, p1, p2, p3⟩
          simp (maxSteps := 2000000) (disch := first | omega | assumption | exact idP rfl | exact idP (bL rfl)) only [go_sem, reduceIte, Nat.reduceEqDiff, e0, e1, e5]
          refine hK _ _ ⟨i + 1, k3, g1 ++ gx, gr, l1 ++ [x'], r', by omega, by simp (maxSteps := 2000000) (disch := first | omega | assumption | exact idP rfl | exact idP (bL rfl)) only [go_sem, reduceIte, Nat.reduceEqDiff, e0], by simp (maxSteps := 2000000) (disch := first | omega | assumption | exact idP rfl | exact idP (bL rfl)) only [go_sem, reduceIte, Nat.reduceEqDiff], by simp (maxSteps := 2000000) (disch := first | omega | assumption | exact idP rfl | exact idP (bL rfl)) only [go_sem, reduceIte, Nat.reduceEqDiff]; rfl, by omega, by omega, ?_, t4, by simp, by simp, fun q hq2 => ?_⟩ (by simp (maxSteps := 2000000) (disch := first | omega | assumption | exact idP rfl | exact idP (bL rfl)) only [go_sem, reduceIte, Nat.reduceEqDiff, ctrV_int, e5]; omega)
          · rw [← Nat.add_assoc, take_one hj]; exact t1.append t3
          · rw [inF_append, Bool.or_eq_false_iff] at hq2
            rw [p3 q (fun hc => by have hc : inF gx q = true := hc; rw [hq2.2] at hc; cases hc)]
            exact hq q hq2.1
      · obtain rfl : i = tss.length := by omega
        simp (maxSteps := 2000000) (disch := first | omega | assumption | exact idP rfl | exact idP (bL rfl)) only [go_sem, reduceIte, Nat.reduceEqDiff, e1]
        refine hR _ _ ⟨k', rfl, k1, by omega, fun q hq1 => hq q ?_⟩
        cases hc : inF g1 q with
        | false => rfl
        | true => exact absurd (hgo q (by rw [inF_append, hc]; rfl)) hq1
theorem t_markRuleS {v v' : V} {fp : List (Nat × List V)} {rs : List RuleS} {k : Int} (ht : Tr [v] [v'] fp) (hf : flat v) (hff : ∀ q ∈ fp, flatL q.2) (hv : LR v' rs) (hn : Nd2 fp) (hm : ∀ p ∈ fp, M p.1 = some p.2) (hl : rs.length ≤ 1048576) (hl2 : ∀ r ∈ rs, RuleFit r) (hk : 0 ≤ k) (hk2 : k ≤ 4000000000000000000) :
    VCall Try.prog n_laws_markRuleS [v, .sc (.int .i64 k)] M (mkPost M k 4700000000000000000 (fun q => inF fp q = true)) := by
  refine VCall.plain fun R hR => v_laws_markRuleS rfl ?_
  rcases ht.win hf hv with ⟨q, rfl, rfl⟩ | ⟨b, o, c, ex, kk, cs, cs', g, rfl, h2, rfl, h3, h4⟩
  · simp (maxSteps := 2000000) (disch := first | omega | assumption | exact idP rfl | exact idP (bL rfl)) only [go_sem, reduceIte, Nat.reduceEqDiff]
    refine loop_k (fun e M' => M' = M ∧ e 0 = .sc (.sl none 0 0 true q) ∧ e 1 = .sc (.int .i64 k) ∧ e 5 = .sc (.int .i64 0)) (fun e _ => 0) ⟨rfl, by simp (maxSteps := 2000000) (disch := first | omega | assumption | exact idP rfl | exact idP (bL rfl)) only [go_sem, reduceIte, Nat.reduceEqDiff], by simp (maxSteps := 2000000) (disch := first | omega | assumption | exact idP rfl | exact idP (bL rfl)) only [go_sem, reduceIte, Nat.reduceEqDiff], by simp (maxSteps := 2000000) (disch := first | omega | assumption | exact idP rfl | exact idP (bL rfl)) only [go_sem, reduceIte, Nat.reduceEqDiff]⟩ ?_
    rintro e _ ⟨rfl, e0, e1, e5⟩ K hK
    simp (maxSteps := 2000000) (disch := first | omega | assumption | exact idP rfl | exact idP (bL rfl)) only [go_sem, reduceIte, Nat.reduceEqDiff, e0, e1, e5]
    exact hR _ _ ⟨k, rfl, by omega, by omega, fun q _ => rfl⟩
  · obtain ⟨hbg, hng⟩ := nd_hd hn
    have hmb : M b = some cs := hm (b, cs) (List.mem_cons_self ..)
    have hmg : ∀ p ∈ g, M p.1 = some p.2 := fun p hp => hm p (List.mem_cons_of_mem _ hp)
    have hfc : flatL cs := hff (b, cs) (List.mem_cons_self ..)
    have hfg : ∀ q ∈ g, flatL q.2 := fun q hq => hff q (List.mem_cons_of_mem _ hq)
    have hgo : ∀ q, inF g q = true → inF ((b, cs) :: g) q = true := fun q hq => by
      obtain ⟨l, hl⟩ := inF_iff.1 hq
      exact inF_iff.2 ⟨l, List.mem_cons_of_mem _ hl⟩
    simp (maxSteps := 2000000) (disch := first | omega | assumption | exact idP rfl | exact idP (bL rfl)) only [go_sem, reduceIte, Nat.reduceEqDiff]
    refine loop_k (fun e M' => ∃ (i : Nat) (k' : Int) (g1 g2 : List (Nat × List V)) (l1 l2 : List V), i ≤ rs.length ∧ e 0 = .sc (.sl (some (b, o)) rs.length c ex kk) ∧ e 1 = .sc (.int .i64 k') ∧ e 5 = .sc (.int .i64 i) ∧ k ≤ k' ∧ k' ≤ k + 4398051753984 * i ∧ Tr (cs.take (o + i * 3)) l1 g1 ∧ Tr (cs.drop (o + i * 3)) l2 g2 ∧ g = g1 ++ g2 ∧ cs' = l1 ++ l2 ∧ ∀ q, inF g1 q = false → M' q = M q) (fun e _ => ctrV rs.length (e 5)) ?_ ?_
    · obtain ⟨l1, l2, g1, g2, rfl, rfl, h5, h6⟩ := Tr.split (a := cs.take o) (b := cs.drop o) (b' := []) (by rw [List.take_append_drop]; exact h2)
      exact ⟨0, k, g1, g2, l1, l2, by omega, by simp (maxSteps := 2000000) (disch := first | omega | assumption | exact idP rfl | exact idP (bL rfl)) only [go_sem, reduceIte, Nat.reduceEqDiff], by simp (maxSteps := 2000000) (disch := first | omega | assumption | exact idP rfl | exact idP (bL rfl)) only [go_sem, reduceIte, Nat.reduceEqDiff], by simp (maxSteps := 2000000) (disch := first | omega | assumption | exact idP rfl | exact idP (bL rfl)) only [go_sem, reduceIte, Nat.reduceEqDiff]; rfl, by omega, by omega, by simpa using h5, by simpa using h6, rfl, rfl, fun _ _ => rfl⟩
    · rintro e M1 ⟨i, k', g1, g2, l1, l2, hi, e0, e1, e5, k1, k2, t1, t2, rfl, rfl, hq⟩ K hK
      simp (maxSteps := 2000000) (disch := first | omega | assumption | exact idP rfl | exact idP (bL rfl)) only [go_sem, reduceIte, Nat.reduceEqDiff, e0, e1, e5]
      refine cond_dec (fun h => ?_) (fun h => ?_)
      · have hi' : i < rs.length := by omega
        have h3 := h3 (by omega)
        have j0 : o + i * 3 < cs.length := by omega
        have j1 : o + i * 3 + 1 < cs.length := by omega
        have j2 : o + i * 3 + 2 < cs.length := by omega
        have c0 : cs[o + i * 3]? = some cs[o + i * 3] := List.getElem?_eq_getElem j0
        have c00 : cs[o + i * 3 + 0]? = some cs[o + i * 3] := c0
        have c1 : cs[o + i * 3 + 1]? = some cs[o + i * 3 + 1] := List.getElem?_eq_getElem j1
        have c2 : cs[o + i * 3 + 2]? = some cs[o + i * 3 + 2] := List.getElem?_eq_getElem j2
        have hfl := hl2 _ (List.getElem_mem hi')
        obtain ⟨f1, f2, f3, f4⟩ := hfl
        rw [List.drop_eq_getElem_cons j0, List.drop_eq_getElem_cons j1, List.drop_eq_getElem_cons j2] at t2
        obtain ⟨x', r1, gx, w1, rfl, rfl, tx, t3⟩ := t2.uncons
        obtain ⟨y', r2, gy, w2, rfl, rfl, ty, t4⟩ := t3.uncons
        obtain ⟨z', r3, gz, w3, rfl, rfl, tz, t5⟩ := t4.uncons
        have hl1 : l1.length = o + i * 3 := by rw [t1.len, List.length_take]; omega
        obtain ⟨u1, u2, u3, h5, hx, hy, hz⟩ := h4 i hi'
        rw [List.drop_left' hl1] at h5
        simp only [List.take_succ_cons, List.take_zero, List.cons.injEq, and_true] at h5
        obtain ⟨rfl, rfl, rfl⟩ := h5
        have sep : ∀ p, p ∈ gx ++ (gy ++ (gz ++ w3)) → inF g1 p.1 = false := fun p hp => nd_sep hng hp
        have hn2 := (Nd2.append hng).2.1
        have hb1 : ∀ M2 : MH, (∀ q, inF (g1 ++ (gx ++ (gy ++ (gz ++ w3)))) q = false → M2 q = M q) → M2 b = some cs := fun M2 hM2 => by rw [hM2 b hbg]; exact hmb
        have i1 : ∀ q, inF (g1 ++ (gx ++ (gy ++ (gz ++ w3)))) q = false → M1 q = M q := fun q hq2 => hq q (by rw [inF_append, Bool.or_eq_false_iff] at hq2; exact hq2.1)
        have b1 := hb1 M1 i1
        simp (maxSteps := 2000000) (disch := first | omega | assumption | exact idP rfl | exact idP (bL rfl)) only [go_sem, reduceIte, Nat.reduceEqDiff, e0, e1, e5, b1, c0, c00, c1, c2]
        refine (t_markTermS (leaf_of tx (flatL_all.1 hfc _ (List.getElem_mem j0)) hx (by omega) f1 (fun p hp => ?_)) (by omega) (by omega)).mono ?_
        · rw [hq p.1 (sep p (List.mem_append_left _ hp))]
          exact hmg p (List.mem_append_right _ (List.mem_append_left _ hp))
        rintro _ M2 ⟨k3, rfl, p1, p2, p3⟩
        have m2 : ∀ q, inF gx q = false → M2 q = M1 q := fun q hq2 => p3 q (fun hc => by have hc : inF gx q = true := hc; rw [hq2] at hc; cases hc)
        have b2 := hb1 M2 fun q hq2 => by
          rw [m2 q (by simp only [inF_append, Bool.or_eq_false_iff] at hq2; exact hq2.2.1)]; exact i1 q hq2
        simp (maxSteps := 2000000) (disch := first | omega | assumption | exact idP rfl | exact idP (bL rfl)) only [go_sem, reduceIte, Nat.reduceEqDiff, e0, e1, e5, b2, c0, c00, c1, c2]
        refine (t_markIntS (leaf_of ty (flatL_all.1 hfc _ (List.getElem_mem j1)) (ls_lc hy) (by omega) f2 (fun p hp => ?_)) (by omega) (by omega)).mono ?_
        · rw [m2 p.1 (nd_sep hn2 (List.mem_append_left _ hp)), hq p.1 (sep p (List.mem_append_right _ (List.mem_append_left _ hp)))]
          exact hmg p (List.mem_append_right _ (List.mem_append_right _ (List.mem_append_left _ hp)))
        rintro _ M3 ⟨k4, rfl, p4, p5, p6⟩
        have m3 : ∀ q, inF gy q = false → M3 q = M2 q := fun q hq2 => p6 q (fun hc => by have hc : inF gy q = true := hc; rw [hq2] at hc; cases hc)
        have b3 := hb1 M3 fun q hq2 => by
          simp only [inF_append, Bool.or_eq_false_iff] at hq2
          rw [m3 q hq2.2.2.1, m2 q hq2.2.1]; exact hq q hq2.1
        simp (maxSteps := 2000000) (disch := first | omega | assumption | exact idP rfl | exact idP (bL rfl)) only [go_sem, reduceIte, Nat.reduceEqDiff, e0, e1, e5, b3, c0, c00, c1, c2]
        have hn3 := (Nd2.append hn2).2.1
        refine (t_markTermSS tz (flatL_all.1 hfc _ (List.getElem_mem j2)) (fun q hq2 => hfg q (List.mem_append_right _ (List.mem_append_right _ (List.mem_append_right _ (List.mem_append_left _ hq2))))) hz (Nd2.append (Nd2.append hn3).2.1).1 (fun p hp => ?_) f3 f4 (by omega) (by omega)).mono ?_
        · rw [m3 p.1 (nd_sep hn3 (List.mem_append_left _ hp)), m2 p.1 (nd_sep hn2 (List.mem_append_right _ (List.mem_append_left _ hp))), hq p.1 (sep p (List.mem_append_right _ (List.mem_append_right _ (List.mem_append_left _ hp))))]
          exact hmg p (List.mem_append_right _ (List.mem_append_right _ (List.mem_append_right _ (List.mem_append_left _ hp))))
        rintro _ M4 ⟨k5, rfl, p7, p8, p9⟩
        have m4 : ∀ q, inF gz q = false → M4 q = M3 q := fun q hq2 => p9 q (fun hc => by have hc : inF gz q = true := hc; rw [hq2] at hc; cases hc)
        simp (maxSteps := 2000000) (disch := first | omega | assumption | exact idP rfl | exact idP (bL rfl)) only [go_sem, reduceIte, Nat.reduceEqDiff, e0, e1, e5]
        refine hK _ _ ⟨i + 1, k5, g1 ++ (gx ++ (gy ++ gz)), w3, l1 ++ [x', y', z'], r3, by omega, by simp (maxSteps := 2000000) (disch := first | omega | assumption | exact idP rfl | exact idP (bL rfl)) only [go_sem, reduceIte, Nat.reduceEqDiff, e0], by simp (maxSteps := 2000000) (disch := first | omega | assumption | exact idP rfl | exact idP (bL rfl)) only [go_sem, reduceIte, Nat.reduceEqDiff], by simp (maxSteps := 2000000) (disch := first | omega | assumption | exact idP rfl | exact idP (bL rfl)) only [go_sem, reduceIte, Nat.reduceEqDiff]; rfl, by omega, by omega, ?_, ?_, by simp, by simp, fun q hq2 => ?_⟩ (by simp (maxSteps := 2000000) (disch := first | omega | assumption | exact idP rfl | exact idP (bL rfl)) only [go_sem, reduceIte, Nat.reduceEqDiff, ctrV_int, e5]; omega)
        · rw [show o + (i + 1) * 3 = o + i * 3 + 1 + 1 + 1 by omega, take_one j2, take_one j1, take_one j0, List.append_assoc, List.append_assoc]
          exact t1.append (tx.append (ty.append tz))
        · rw [show o + (i + 1) * 3 = o + i * 3 + 1 + 1 + 1 by omega]; exact t5
        · simp only [inF_append, Bool.or_eq_false_iff] at hq2
          rw [m4 q hq2.2.2.2, m3 q hq2.2.2.1, m2 q hq2.2.1]
          exact hq q hq2.1
      · obtain rfl : i = rs.length := by omega
        simp (maxSteps := 2000000) (disch := first | omega | assumption | exact idP rfl | exact idP (bL rfl)) only [go_sem, reduceIte, Nat.reduceEqDiff, e1]
        refine hR _ _ ⟨k', rfl, k1, by omega, fun q hq1 => hq q ?_⟩
        cases hc : inF g1 q with
        | false => rfl
        | true => exact absurd (hgo q (by rw [inF_append, hc]; rfl)) hq1
structure OwnS (M0 M : MH) (s : SysS) (x y : V) (x' y' : V) (fp : List (Nat × List V)) : Prop where
  tr : Tr [x, y] [x', y'] fp
  mem : Mem M0 M fp
  fl : flatL [x, y]
  ff : ∀ q ∈ fp, flatL q.2
  lx : LVar x' s.vars
  ly : LR y' s.rules
theorem OwnS.sys {M0 M : MH} {s : SysS} {x y x' y' : V} {fp : List (Nat × List V)} (h : OwnS M0 M s x y x' y' fp) : isSys s (.agg [x', y']) := ⟨x', y', rfl, h.lx, h.ly⟩
theorem o_toSystem {v : V} {s : SysS} (hv : isSysX s v) (hf : SysFit s) : VCall Try.prog n_laws_toSystem [v] M (fun r' M' => ∃ x y x' y' fp, r' = .agg [x, y] ∧ One x ∧ One y ∧ OwnS M M' s x y x' y' fp) :=
  (d_toSystem hv hf).mono fun r M' ⟨x, y, h1, h2, h3, l', fp, t1, t2, t3, t4, x', y', h4, h5, h6⟩ => ⟨x, y, x', y', fp, h1, h2, h3, by subst h4; exact ⟨t1, t2, t3, t4, h5, h6⟩⟩
theorem t_markSystem {M0 : MH} {s : SysS} {x y x' y' : V} {fp : List (Nat × List V)} {k : Int} (h : OwnS M0 M s x y x' y' fp) (hf : SysFit s) (hk : 0 ≤ k) (hk2 : k ≤ 3000000000000000000) :
    VCall Try.prog n_laws_markSystem [.agg [x, y], .sc (.int .i64 k)] M (fun r M' => ∃ k' : Int, r = .sc (.int .i64 k') ∧ k ≤ k' ∧ k' ≤ 7800000000000000000 ∧ Sub M0 M' ∧ ∀ q l, M q = some l → inF fp q = false → M' q = some l) := by
  refine VCall.plain fun R hR => v_laws_markSystem rfl ?_
  obtain ⟨f1, f2, f3⟩ := hf
  obtain ⟨u1, r1, gx, gr, e1, rfl, tx, t2⟩ := h.tr.uncons
  obtain ⟨u2, r2, gy, gr2, e2, rfl, ty, t3⟩ := t2.uncons
  rw [List.cons.injEq] at e1
  obtain ⟨rfl, rfl⟩ := e1
  rw [List.cons.injEq] at e2
  obtain ⟨rfl, rfl⟩ := e2
  cases t3
  have hfl := h.fl
  simp only [flatL] at hfl
  have hnd := h.mem.nd
  rw [List.append_nil] at hnd
  have hat := h.mem.at_
  have hff := h.ff
  simp only [List.append_nil] at hat hff
  simp (maxSteps := 2000000) (disch := first | omega | assumption | exact idP rfl | exact idP (bL rfl)) only [go_sem, reduceIte, Nat.reduceEqDiff]
  intro b2 hb2
  have hne : ∀ q l, M q = some l → q ≠ b2 := fun q l hq e => by subst e; rw [hb2] at hq; cases hq
  refine (t_markVarS (leaf_of tx hfl.1 h.lx (by omega) f1 (fun p hp => ?_)) hk (by omega)).mono ?_
  · rw [set_ne (hne _ _ (hat p (List.mem_append_left _ hp)))]; exact hat p (List.mem_append_left _ hp)
  rintro _ M2 ⟨k3, rfl, p1, p2, p3⟩
  have m2 : ∀ q, inF gx q = false → M2 q = (M.set b2 [x, y]) q := fun q hq2 => p3 q (fun hc => by have hc : inF gx q = true := hc; rw [hq2] at hc; cases hc)
  have hb2x : inF gx b2 = false := by
    cases hc : inF gx b2 with
    | false => rfl
    | true =>
      obtain ⟨l, hl⟩ := inF_iff.1 hc
      have := hat _ (List.mem_append_left _ hl)
      rw [hb2] at this; cases this
  have q2 : M2 b2 = some [x, y] := by rw [m2 b2 hb2x]; exact set_same
  simp (maxSteps := 2000000) (disch := first | omega | assumption | exact idP rfl | exact idP (bL rfl)) only [go_sem, reduceIte, Nat.reduceEqDiff, q2]
  refine (t_markRuleS ty hfl.2.1 (fun q hq => hff q (List.mem_append_right _ hq)) h.ly (Nd2.append hnd).2.1 (fun p hp => ?_) f2 f3 (by omega) (by omega)).mono ?_
  · rw [m2 p.1 (nd_sep hnd hp), set_ne (hne _ _ (hat p (List.mem_append_right _ hp)))]; exact hat p (List.mem_append_right _ hp)
  rintro _ M3 ⟨k4, rfl, p4, p5, p6⟩
  have m3 : ∀ q, inF gy q = false → M3 q = M2 q := fun q hq2 => p6 q (fun hc => by have hc : inF gy q = true := hc; rw [hq2] at hc; cases hc)
  simp (maxSteps := 2000000) (disch := first | omega | assumption | exact idP rfl | exact idP (bL rfl)) only [go_sem, reduceIte, Nat.reduceEqDiff]
  have keep : ∀ q l, M q = some l → inF (gx ++ gy) q = false → M3 q = some l := fun q l hq hn => by
    rw [inF_append, Bool.or_eq_false_iff] at hn
    rw [m3 q hn.2, m2 q hn.1, set_ne (hne q l hq)]; exact hq
  refine hR _ _ ⟨k4, rfl, by omega, by omega, fun q l hq => keep q l (h.mem.sub q l hq) ?_, fun q l hq hn => keep q l hq (by simpa using hn)⟩
  cases hc : inF (gx ++ gy) q with
  | false => rfl
  | true =>
    obtain ⟨l2, hl⟩ := inF_iff.1 hc
    have := h.mem.new _ (by simpa using hl)
    simp only at this
    rw [this] at hq; cases hq
end Go.M2

namespace Go.M2
open Go.Proofs
variable {M : MH}
theorem Dn.nil1 {k : Nat} : Dn M M (.sc (.sl none 0 0 true k)) (fun u => LI u []) := ⟨_, [], .refl _, .nil (Sub.refl _), by simp [flat], fun q hq => (by cases hq), .nil⟩
theorem Gr.dnI {M' : MH} {v : V} {ys : List Int} (h : Gr 1 M M' v (ys.map vi)) : Dn M M' v (fun u => LI u ys) := h.dn (flatL_vi ys) fun u hu => hu.li
def Hd (M : MH) (v : V) (n : Nat) (k : Int) : Prop := (n = 0 ∧ ∃ q, v = .sc (.sl none 0 0 true q)) ∨ ∃ b o c ex kk l, v = .sc (.sl (some (b, o)) n c ex kk) ∧ M b = some l ∧ ∀ i, i < n → l[o + i]? = some (.sc (.int .i64 (k + i)))
theorem t_heldIntS {v : V} {n : Nat} {k : Int} (hv : Hd M v n k) (hn : n ≤ 1048576) (hk : 0 ≤ k) (hk2 : k ≤ 9000000000000000000) : VCall Try.prog n_laws_heldIntS [v, .sc (.int .i64 k)] M (fun r M' => M = M' ∧ r = .sc (.int .i64 (k + n))) := by
  refine VCall.pure fun R hR => v_laws_heldIntS rfl ?_
  rcases hv with ⟨rfl, q, rfl⟩ | ⟨b, o, c, ex, kk, l, rfl, hm, hl⟩
  · simp (maxSteps := 2000000) (disch := first | omega | assumption | exact idP rfl | exact idP (bL rfl)) only [go_sem, reduceIte, Nat.reduceEqDiff]
    refine loop_k (fun e M' => M' = M ∧ e 0 = .sc (.sl none 0 0 true q) ∧ e 1 = .sc (.int .i64 k) ∧ e 5 = .sc (.int .i64 0)) (fun e _ => 0) ⟨rfl, by simp (maxSteps := 2000000) (disch := first | omega | assumption | exact idP rfl | exact idP (bL rfl)) only [go_sem, reduceIte, Nat.reduceEqDiff], by simp (maxSteps := 2000000) (disch := first | omega | assumption | exact idP rfl | exact idP (bL rfl)) only [go_sem, reduceIte, Nat.reduceEqDiff], by simp (maxSteps := 2000000) (disch := first | omega | assumption | exact idP rfl | exact idP (bL rfl)) only [go_sem, reduceIte, Nat.reduceEqDiff]⟩ ?_
    rintro e _ ⟨rfl, e0, e1, e5⟩ K hK
    simp (maxSteps := 2000000) (disch := first | omega | assumption | exact idP rfl | exact idP (bL rfl)) only [go_sem, reduceIte, Nat.reduceEqDiff, e0, e1, e5]
    exact hR _ _ (by (repeat (first | exact Sub.refl _ | assumption | (refine Sub.set' ?_ (by assumption))))) (by rw [Int.natCast_zero, Int.add_zero]; rfl)
  · simp (maxSteps := 2000000) (disch := first | omega | assumption | exact idP rfl | exact idP (bL rfl)) only [go_sem, reduceIte, Nat.reduceEqDiff]
    refine loop_k (fun e M' => M' = M ∧ ∃ i : Nat, i ≤ n ∧ e 0 = .sc (.sl (some (b, o)) n c ex kk) ∧ e 1 = .sc (.int .i64 (k + i)) ∧ e 5 = .sc (.int .i64 i)) (fun e _ => ctrV n (e 5)) ?_ ?_
    · exact ⟨rfl, 0, by omega, by simp (maxSteps := 2000000) (disch := first | omega | assumption | exact idP rfl | exact idP (bL rfl)) only [go_sem, reduceIte, Nat.reduceEqDiff], by simp (maxSteps := 2000000) (disch := first | omega | assumption | exact idP rfl | exact idP (bL rfl)) only [go_sem, reduceIte, Nat.reduceEqDiff]; simp, by simp (maxSteps := 2000000) (disch := first | omega | assumption | exact idP rfl | exact idP (bL rfl)) only [go_sem, reduceIte, Nat.reduceEqDiff]; rfl⟩
    · rintro e _ ⟨rfl, i, hi, e0, e1, e5⟩ K hK
      simp (maxSteps := 2000000) (disch := first | omega | assumption | exact idP rfl | exact idP (bL rfl)) only [go_sem, reduceIte, Nat.reduceEqDiff, e0, e1, e5]
      refine cond_dec (fun h => ?_) (fun h => ?_)
      · have h1 := hl i (by omega)
        have h2 : l[o + i * 1]? = some (.sc (.int .i64 (k + i))) := by rw [Nat.mul_one]; exact h1
        (repeat' (first | ((first | with_reducible refine cond_dec (fun h => ?_) (fun h => ?_) | with_reducible refine guardK_dec (fun h => ?_) (fun h => ?_) | with_reducible refine guardD3_dec (fun h => ?_) (fun h => ?_)) <;> first | (exfalso; omega) | (simp (maxSteps := 2000000) (disch := first | omega | assumption | exact idP rfl | exact idP (bL rfl)) only [go_sem, reduceIte, Nat.reduceEqDiff, h, e0, e1, e5, hm, h1, h2]) | skip) | ((first | with_reducible refine cond_split (fun h => ?_) (fun h => ?_) | with_reducible refine guardK_split (fun h => ?_) (fun h => ?_) | with_reducible refine guardD3_split (fun h => ?_) (fun h => ?_)) <;> ((try simp only [Bool.not_eq_true', Bool.not_eq_false'] at h); first | (simp (maxSteps := 2000000) (disch := first | omega | assumption | exact idP rfl | exact idP (bL rfl)) only [go_sem, reduceIte, Nat.reduceEqDiff, h, e0, e1, e5, hm, h1, h2]) | skip)) | (with_reducible intro bk hbk; try have hnk := (fresh_set hbk).1) | (simp (maxSteps := 2000000) (disch := first | omega | assumption | exact idP rfl | exact idP (bL rfl)) only [go_sem, reduceIte, Nat.reduceEqDiff, e0, e1, e5, hm, h1, h2])))
        exact hK _ _ ⟨rfl, i + 1, by omega, by simp (maxSteps := 2000000) (disch := first | omega | assumption | exact idP rfl | exact idP (bL rfl)) only [go_sem, reduceIte, Nat.reduceEqDiff, e0], by simp (maxSteps := 2000000) (disch := first | omega | assumption | exact idP rfl | exact idP (bL rfl)) only [go_sem, reduceIte, Nat.reduceEqDiff, e1]; rw [Int.natCast_add, Int.add_assoc]; rfl, by simp (maxSteps := 2000000) (disch := first | omega | assumption | exact idP rfl | exact idP (bL rfl)) only [go_sem, reduceIte, Nat.reduceEqDiff, e5]; rfl⟩ (by simp (maxSteps := 2000000) (disch := first | omega | assumption | exact idP rfl | exact idP (bL rfl)) only [go_sem, reduceIte, Nat.reduceEqDiff, ctrV_int, e5]; omega)
      · obtain rfl : i = n := by omega
        simp (maxSteps := 2000000) (disch := first | omega | assumption | exact idP rfl | exact idP (bL rfl)) only [go_sem, reduceIte, Nat.reduceEqDiff, e1]
        exact hR _ _ (by (repeat (first | exact Sub.refl _ | assumption | (refine Sub.set' ?_ (by assumption))))) rfl
end Go.M2

namespace Go.M2
open Go.Proofs
variable {M : MH}
theorem flat_bool {b : Bool} : ∀ r : V, r = .sc (.bool b) → flat r := fun r h => by subst h; simp [flat]
theorem OwnS.more {M0 M M' : MH} {s : SysS} {x y x' y' : V} {fp : List (Nat × List V)} (h : OwnS M0 M s x y x' y' fp) (hs : Sub M M') : OwnS M0 M' s x y x' y' fp := ⟨h.tr, h.mem.more hs, h.fl, h.ff, h.lx, h.ly⟩
theorem OwnS.arg {M0 M : MH} {s : SysS} {x y x' y' : V} {fp : List (Nat × List V)} (h : OwnS M0 M s x y x' y' fp) : Tr [.agg [x, y]] [.agg [x', y']] fp := by
  have := Tr.agg h.tr Tr.nil
  rwa [List.append_nil] at this
theorem l_eqSystem {M0 : MH} {s : SysS} {x y x' y' w : V} {fp : List (Nat × List V)} (h : OwnS M0 M s x y x' y' fp) (hw : isSys s w) (hf : SysFit s) : VCall Try.prog n_laws_eqSystem [.agg [x, y], w] M (fun r M' => M = M' ∧ r = .sc (.bool true)) := by
  have h2 : Tr [.agg [x, y], w] [.agg [x', y'], w] (fp ++ []) := h.arg.append (.keep w .nil)
  rw [List.append_nil] at h2
  exact VCall.lendP h2 h.mem.at_ h.mem.nd flat_bool fun M' => x_eqSystem h.sys hw hf
end Go.M2

namespace Go.M2
open Go.Proofs
variable {M : MH}
theorem Gr.out {M0 Mb M Mr : MH} {v : V} {us : List V} {fp g : List (Nat × List V)} (h : Gr 1 Mb M v us) (hm : Mem M0 Mb fp) (k : Mem M Mr g) : ∃ Mb', Gr 1 Mb' Mr v us ∧ Mem M0 Mb' (fp ++ g) := by
  have key : Sub Mb (fun i => if blkV v = some i then none else Mr i) := fun i l hi => by
    have hne : blkV v ≠ some i := fun e => by rw [h.new i e] at hi; cases hi
    simp only [hne, if_false]; exact k.sub _ _ (h.sub _ _ hi)
  refine ⟨fun i => if blkV v = some i then none else Mr i, ⟨fun i l hi => ?_, fun b hb => by simp [hb], h.own.sub k.sub⟩, hm.add ⟨key, fun p hp => h.sub.none (k.new p hp), k.nd, fun p hp => ?_⟩⟩
  · have hi : (if blkV v = some i then none else Mr i) = some l := hi
    split at hi
    · cases hi
    · exact hi
  · have hne : blkV v ≠ some p.1 := fun e => by
      have h1 := k.new p hp
      rcases h.own with ⟨rfl, q, rfl⟩ | ⟨b', n, ex, rfl, h2, _⟩
      · simp [blkV] at e
      · simp [blkV] at e; subst e; rw [h1] at h2; cases h2
    simp only [hne, if_false]; exact k.at_ p hp
def RT (M0 M : MH) (v : V) (rows : List (List Int)) : Prop :=
  ∃ us us' fp Mb, Gr 1 Mb M v us ∧ Mem M0 Mb fp ∧ Tr us us' fp ∧ flatL us ∧ (∀ q ∈ fp, flatL q.2) ∧ us.all oneV = true ∧ Cs isL us' rows
section
variable {M0 M1 M2 : MH} {v u : V} {rows : List (List Int)} {ys : List Int}
theorem RT.sub (h : RT M0 M1 v rows) : Sub M0 M1 := by
  obtain ⟨us, us', fp, Mb, hg, hm, _⟩ := h
  exact hm.sub.trans hg.sub
theorem RT.nil {k : Nat} (h : Sub M0 M1) : RT M0 M1 (.sc (.sl none 0 0 true k)) [] := ⟨[], [], [], M1, .nil (Sub.refl _), .nil h, .nil, by simp [flatL], fun q hq => (by cases hq), rfl, .nil⟩
theorem RT.len (h : RT M0 M1 v rows) : lenF (er v) = some (.int .i64 (rows.length : Int)) := by
  obtain ⟨us, us', fp, Mb, hg, hm, ht, _, _, _, hc⟩ := h
  rw [hg.len1, ← hc.1, ht.len]
theorem RT.one (h : RT M0 M1 v rows) : One v := by
  obtain ⟨us, us', fp, Mb, hg, _⟩ := h
  exact hg.one
theorem RT.more (h : RT M0 M1 v rows) (hs : Sub M1 M2) : RT M0 M2 v rows := by
  obtain ⟨us, us', fp, Mb, hg, hm, h⟩ := h
  obtain ⟨Mb', g1, m1⟩ := hg.out hm (Mem.nil hs)
  rw [List.append_nil] at m1
  exact ⟨us, us', fp, Mb', g1, m1, h⟩
theorem RT.base {Mz : MH} (h : RT M0 M1 v rows) (hs : Sub Mz M0) : RT Mz M1 v rows := by
  obtain ⟨us, us', fp, Mb, hg, hm, h⟩ := h
  exact ⟨us, us', fp, Mb, hg, hm.base hs, h⟩
theorem RT.tree (h : RT M0 M1 v rows) : ∃ v' fp, Tr [v] [v'] fp ∧ Mem M0 M1 fp ∧ flat v ∧ (∀ q ∈ fp, flatL q.2) ∧ LII v' rows := by
  obtain ⟨us, us', fp, Mb, hg, hm, ht, hf, hff, _, hc⟩ := h
  rcases hg.own with ⟨rfl, k, rfl⟩ | ⟨b, n, ex, rfl, hb, hl⟩
  · cases ht
    have : rows = [] := List.eq_nil_of_length_eq_zero hc.1.symm
    subst this
    exact ⟨_, [], .refl _, .nil (hm.sub.trans hg.sub), by simp [flat], fun q hq => (by cases hq), .nil⟩
  · have hnew : Mb b = none := hg.new b rfl
    refine ⟨.fs (some (b, 0)) n n ex 1 (us'.drop 0), (b, us) :: (fp ++ []), .sl ht .nil, ?_, by simp [flat], fun q hq => ?_, ?_⟩
    · have k : Mem Mb M1 [(b, us)] := ⟨hg.sub, fun p hp => by simp at hp; subst hp; exact hnew, by simp [Nd2], fun p hp => by simp at hp; subst hp; exact hb⟩
      rw [List.append_nil]
      exact (hm.add k).perm List.perm_append_comm
    · simp only [List.append_nil, List.mem_cons] at hq
      rcases hq with rfl | h1
      · exact hf
      · exact hff q h1
    · have := ht.len
      exact Fr.lsC (us := us') (.inr ⟨_, _, _, _, _, by rw [List.drop_zero], by omega⟩) hc
theorem RT.dn (h : RT M0 M1 v rows) : Dn M0 M1 v (fun u => LII u rows) := h.tree
theorem RT.row (h : RT M0 M1 v rows) {i : Nat} (hi : i < rows.length) : ∃ (us : List V) (u u' : V) (g : List (Nat × List V)), (∀ {k : IntKind} {a : Int}, 0 ≤ a → a < (rows.length : Int) → iaddrV 1 v (.int k a) = some (.sc (.ptr (some (oB v, a.toNat))))) ∧ M1 (oB v) = some us ∧ us[i]? = some u ∧ One u ∧ Tr [u] [u'] g ∧ Nd2 g ∧ (∀ p ∈ g, M1 p.1 = some p.2) ∧ (∀ p ∈ g, M0 p.1 = none) ∧ LI u' rows[i] := by
  obtain ⟨us, us', fp, Mb, hg, hm, ht, hf, hff, ho, hc⟩ := h
  have hul : us.length = rows.length := by rw [← ht.len]; exact hc.1
  have hiu : i < us.length := by omega
  have hsp : us = us.take i ++ (us[i] :: us.drop (i + 1)) := by rw [← List.drop_eq_getElem_cons hiu, List.take_append_drop]
  rw [hsp] at ht
  obtain ⟨a', b', f1, f2, rfl, rfl, t1, t2⟩ := Tr.split (a := us.take i) (b := us[i] :: us.drop (i + 1)) (b' := []) ht
  obtain ⟨x', r', g1, g2, rfl, rfl, t3, t4⟩ := t2.uncons
  have hal : a'.length = i := by rw [t1.len, List.length_take]; omega
  have hmg : Mem M0 Mb g1 := hm.right.left
  have h4 := hc.2 i hi
  rw [List.getElem?_append_right (by omega), hal, Nat.sub_self] at h4
  obtain ⟨w, h5, h6⟩ := h4
  simp only [List.getElem?_cons_zero, Option.some.injEq] at h5
  subst h5
  have o1 := List.all_eq_true.1 ho _ (List.getElem_mem hiu)
  have fl := flatL_all.1 hf _ (List.getElem_mem hiu)
  refine ⟨us, us[i], x', g1, fun h0 h1 => hg.own.iaddr h0 (by rw [hul]; exact h1), hg.at (by omega), List.getElem?_eq_getElem hiu, ⟨o1, ?_⟩, t3, hmg.nd, fun p hp => hg.sub _ _ (hmg.at_ p hp), hmg.new, h6⟩
  rcases t3.inv1 with ⟨h1, h2⟩ | ⟨b, o, n, c, ex, k, cs, cs', g, h0, _⟩ | ⟨a, a', _, h0⟩ | ⟨a, a', _, h0⟩
  · simp only [List.cons.injEq, and_true] at h1
    rw [← h1]; exact h6.one.2
  · rw [h0]; rfl
  · rw [h0] at o1; exact absurd o1 (by simp [oneV, er, oneA])
  · rw [h0] at o1; exact absurd o1 (by simp [oneV, er, oneA])
theorem RT.snoc {s' : V} {M' : MH} {us us' : List V} {fp g : List (Nat × List V)} {u' : V} {Mb' : MH} (h1 : Gr 1 Mb' M' s' (us ++ [u])) (m1 : Mem M0 Mb' (fp ++ g)) (ht : Tr us us' fp) (htu : Tr [u] [u'] g) (hf : flatL us) (hfu : flat u) (hff : ∀ q ∈ fp, flatL q.2) (hfg : ∀ q ∈ g, flatL q.2)
    (ho : us.all oneV = true) (hou : oneV u = true) (hc : Cs isL us' rows) (hu : LI u' ys) : RT M0 M' s' (rows ++ [ys]) := by
  refine ⟨us ++ [u], us' ++ [u'], fp ++ g, Mb', h1, m1, ht.append htu, ?_, ?_, by simp [ho, hou], hc.snoc (x := ys) hu⟩
  · exact flatL_all.2 fun w hw => by
      rcases List.mem_append.1 hw with h2 | h2
      · exact flatL_all.1 hf w h2
      · rw [List.mem_singleton] at h2; subst h2; exact hfu
  · intro w hw
    rcases List.mem_append.1 hw with h2 | h2
    · exact hff w h2
    · exact hfg w h2
theorem app_rowO {K : V → MH → Prop} {by_ bt c k : Nat} {ex : Bool} (h : RT M0 M1 v rows) (ho : oneV u = true) (hd : Dn M1 M2 u (fun u' => LI u' ys)) (hbt : M2 bt = none) (hb : rows.length + 1 ≤ 34359738368) (hby : by_ ≤ 32)
    (hk : ∀ s' M' us', RT M0 M' s' (rows ++ [ys]) → M' (oB s') = some us' → us'[rows.length]? = some u → K s' M') : appV 1 by_ v (.sc (.sl (some (bt, 0)) 1 c ex k)) (M2.set bt [u]) K := by
  obtain ⟨us, us', fp, Mb, hg, hm, ht, hf, hff, hos, hc⟩ := h
  obtain ⟨u', g, tg, mg, fu, fg, hu⟩ := hd
  obtain ⟨Mb', g1, m1⟩ := hg.out hm mg
  have hul : us.length = rows.length := by rw [← ht.len]; exact hc.1
  exact app_val g1 hbt ho (by omega) hby fun s' M' h1 _ => hk s' M' (us ++ [u]) (RT.snoc h1 m1 ht tg hf fu hff fg hos ho hc hu) (h1.at (by simp)) (by rw [← hul]; simp)
theorem t_cloneRows (h : RT M0 M v rows) (hl : rows.length ≤ 1048576) : VCall Try.prog n_impl_clone_Sint [v] M (fun r M' => RT M0 M' r rows) := by
  obtain ⟨us, us', fp, Mb, hg, hm, ht, hf, hff, hos, hc⟩ := h
  have hul : us.length = rows.length := by rw [← ht.len]; exact hc.1
  have fin : ∀ r M', Gr 1 M M' r us → RT M0 M' r rows := fun r M' h1 => ⟨us, us', fp, M, h1, hm.more hg.sub, ht, hf, hff, hos, hc⟩
  refine VCall.plain fun R hR => v_impl_clone_Sint rfl ?_
  have hlen := hg.len1
  simp (maxSteps := 2000000) (disch := first | omega | assumption | exact idP rfl | exact idP (bL rfl)) only [go_sem, reduceIte, Nat.reduceEqDiff, hlen]
  refine cond_dec (fun h => ?_) (fun h => ?_)
  · simp (maxSteps := 2000000) (disch := first | omega | assumption | exact idP rfl | exact idP (bL rfl)) only [go_sem, reduceIte, Nat.reduceEqDiff]
    have : us = [] := List.eq_nil_of_length_eq_zero (by omega)
    subst this
    exact hR _ _ (fin _ _ (.nil (Sub.refl _)))
  · simp (maxSteps := 2000000) (disch := first | omega | assumption | exact idP rfl | exact idP (bL rfl)) only [go_sem, reduceIte, Nat.reduceEqDiff, hlen]
    refine mks3 (by omega) (by simp [mostCells]; omega) (by simp [mostCells]; omega) ?_
    intro b3 hb3
    rcases hg.own with ⟨rfl, q, rfl⟩ | ⟨b, n, ex, rfl, hb, hn⟩
    · exact absurd rfl h
    have hne : b ≠ b3 := fun e => by subst e; rw [hb3] at hb; cases hb
    have hz : ((zeros [AV.sl none 0 0 true 0] us.length).map V.sc).length = us.length := by simp [zeros_length]
    simp (maxSteps := 2000000) (disch := first | omega | assumption | exact idP rfl | exact idP (bL rfl)) only [go_sem, reduceIte, Nat.reduceEqDiff]
    generalize hZ : (zeros [AV.sl none 0 0 true 0] us.length).map V.sc = Z at hz ⊢
    refine copy_own (t := us.length) (ls := us) (ld := Z) (by rw [set_ne hne]; exact hb) set_same (by omega) (by omega) (by omega) (by omega) (by simpa using hos) ?_
    simp only [List.drop_zero, List.take_length]
    rw [setAtG_all _ _ _ (by omega)]
    simp (maxSteps := 2000000) (disch := first | omega | assumption | exact idP rfl | exact idP (bL rfl)) only [go_sem, reduceIte, Nat.reduceEqDiff]
    exact hR _ _ (fin _ _ (Gr.new' (Sub.refl _) hb3 (by simp)))
end
end Go.M2

namespace Go.M2
open Go.Proofs
variable {M : MH}
end Go.M2

namespace Go.M2
open Go.Proofs
variable {M : MH}
noncomputable def inS (s : SysS) (st : List Int) : Bool := sysB s && inB s.vars st
theorem t_impInRange {v w : V} {s : SysS} {st : List Int} (hv : isSys s v) (hz : SysSz s) (hw : LI w st) : VCall Try.prog n_impl_InRange [v, w] M (fun r M' => M = M' ∧ r = .sc (.bool (inS s st))) := by
  refine VCall.pure fun R hR => v_impl_InRange rfl ?_
  have hv0 := hv
  obtain ⟨a, b, rfl, ha, hb⟩ := hv
  (repeat' (first | ((first | with_reducible refine cond_dec (fun h => ?_) (fun h => ?_) | with_reducible refine guardK_dec (fun h => ?_) (fun h => ?_) | with_reducible refine guardD3_dec (fun h => ?_) (fun h => ?_)) <;> first | (exfalso; omega) | (simp (maxSteps := 2000000) (disch := first | omega | assumption | exact idP rfl | exact idP (bL rfl)) only [go_sem, reduceIte, Nat.reduceEqDiff, h]) | skip) | ((first | with_reducible refine cond_split (fun h => ?_) (fun h => ?_) | with_reducible refine guardK_split (fun h => ?_) (fun h => ?_) | with_reducible refine guardD3_split (fun h => ?_) (fun h => ?_)) <;> ((try simp only [Bool.not_eq_true', Bool.not_eq_false'] at h); first | (simp (maxSteps := 2000000) (disch := first | omega | assumption | exact idP rfl | exact idP (bL rfl)) only [go_sem, reduceIte, Nat.reduceEqDiff, h]) | skip)) | ((with_reducible refine (t_impSystemValid hv0 hz).mono ?_); rintro _ _ ⟨rfl, rfl⟩) | (with_reducible intro bk hbk; try have hnk := (fresh_set hbk).1) | (simp (maxSteps := 2000000) (disch := first | omega | assumption | exact idP rfl | exact idP (bL rfl)) only [go_sem, reduceIte, Nat.reduceEqDiff])))
  · have hs := (sysB_iff s).1 h
    (repeat' (first | ((first | with_reducible refine cond_dec (fun h => ?_) (fun h => ?_) | with_reducible refine guardK_dec (fun h => ?_) (fun h => ?_) | with_reducible refine guardD3_dec (fun h => ?_) (fun h => ?_)) <;> first | (exfalso; omega) | (simp (maxSteps := 2000000) (disch := first | omega | assumption | exact idP rfl | exact idP (bL rfl)) only [go_sem, reduceIte, Nat.reduceEqDiff, h]) | skip) | ((first | with_reducible refine cond_split (fun h => ?_) (fun h => ?_) | with_reducible refine guardK_split (fun h => ?_) (fun h => ?_) | with_reducible refine guardD3_split (fun h => ?_) (fun h => ?_)) <;> ((try simp only [Bool.not_eq_true', Bool.not_eq_false'] at h); first | (simp (maxSteps := 2000000) (disch := first | omega | assumption | exact idP rfl | exact idP (bL rfl)) only [go_sem, reduceIte, Nat.reduceEqDiff, h]) | skip)) | ((with_reducible refine (t_inRange ha hw hs.v5).mono ?_); rintro _ _ ⟨rfl, rfl⟩) | (with_reducible intro bk hbk; try have hnk := (fresh_set hbk).1) | (simp (maxSteps := 2000000) (disch := first | omega | assumption | exact idP rfl | exact idP (bL rfl)) only [go_sem, reduceIte, Nat.reduceEqDiff])))
    exact hR _ _ (by (repeat (first | exact Sub.refl _ | assumption | (refine Sub.set' ?_ (by assumption))))) (by simp [inS, h])
  · exact hR _ _ (by (repeat (first | exact Sub.refl _ | assumption | (refine Sub.set' ?_ (by assumption))))) (by simp [inS, h])
theorem inS_iff {s : SysS} {st : List Int} : inS s st = true ↔ SysOk s ∧ StIn s.vars st := by
  simp [inS, sysB_iff, inB_iff]
end Go.M2

namespace Go.M2
open Go.Proofs
variable {M : MH}
theorem Tr.one1 {u u' : V} {g : List (Nat × List V)} (h : Tr [u] [u'] g) (h' : One u') : One u := by
  obtain ⟨h1, h2⟩ := h'
  rcases h.inv1 with ⟨h3, _⟩ | ⟨b, o, n, c, ex, k, cs, cs', g, rfl, _⟩ | ⟨a, a', h3, _⟩ | ⟨a, a', h3, _⟩
  · simp only [List.cons.injEq, and_true] at h3
    rw [← h3]; exact ⟨h1, h2⟩
  · exact ⟨rfl, rfl⟩
  · simp only [List.cons.injEq, and_true] at h3
    rw [h3] at h1; exact absurd h1 (by simp [oneV, er, oneA])
  · simp only [List.cons.injEq, and_true] at h3
    rw [h3] at h1; exact absurd h1 (by simp [oneV, er, oneA])
theorem tr_fst {a x x' : V} {g : List (Nat × List V)} (t : Tr [x] [x'] g) : Tr [x, a] [x', a] g := by simpa using t.append (.keep a .nil)
theorem Dn.mk2 {M0 M1 : MH} {u b : V} {p : V → Prop} {q : V → Prop} (h : Dn M0 M1 u p) (hb : flat b) (hq : ∀ u', p u' → q (.tup [u', b])) : Dn M0 M1 (.tup [u, b]) q := by
  obtain ⟨u', g, tg, mg, fu, fg, hl⟩ := h
  refine ⟨.tup [u', b], g, ?_, mg, by simp [flat, flatL, fu, hb], fg, hq _ hl⟩
  have := Tr.tup (tr_fst (a := b) tg) Tr.nil
  simpa using this
theorem Dn.tup2 {M0 M1 : MH} {r : V} {p : V → AV → Prop} (h : Dn M0 M1 r (fun r' => ∃ u' w, r' = .tup [u', .sc w] ∧ p u' w)) : ∃ u w, r = .tup [u, .sc w] ∧ Dn M0 M1 u (fun u' => p u' w) := by
  obtain ⟨r', fp, tr, mem, fl, ffl, u', w, rfl, hp⟩ := h
  cases tr with
  | keep v h1 =>
    cases h1
    simp only [flat, flatL] at fl
    exact ⟨u', w, rfl, u', [], .refl _, mem, fl.1, ffl, hp⟩
  | tup h1 h2 =>
    cases h2
    rename_i a fp1
    rw [List.append_nil] at mem ffl
    match a, h1 with
    | [x, y], h1 =>
      obtain ⟨x', t', f1, f2, e1, rfl, h3, h4⟩ := h1.uncons
      rw [List.cons.injEq] at e1
      obtain ⟨rfl, rfl⟩ := e1
      rcases h4.inv1 with ⟨h5, rfl⟩ | ⟨_, _, _, _, _, _, _, _, _, _, h5, _⟩ | ⟨_, _, h5, _⟩ | ⟨_, _, h5, _⟩
      · rw [List.cons.injEq] at h5
        obtain ⟨rfl, _⟩ := h5
        rw [List.append_nil] at mem ffl
        simp only [flat, flatL] at fl
        exact ⟨x, w, rfl, u', f1, h3, mem, fl.1, ffl, hp⟩
      all_goals (simp at h5)
    | [], h1 => exact absurd h1.len (by simp)
    | [x], h1 => exact absurd h1.len (by simp)
    | x :: y :: z :: t, h1 => exact absurd h1.len (by simp)
def RdI (M : MH) (v : V) (xs : List Int) : Prop := ∃ v' g, Tr [v] [v'] g ∧ Nd2 g ∧ (∀ p ∈ g, M p.1 = some p.2) ∧ LI v' xs
theorem RdI.of {v : V} {xs : List Int} (h : LI v xs) : RdI M v xs := ⟨v, [], .refl _, List.nodup_nil, fun p hp => (by cases hp), h⟩
theorem RdI.more {M' : MH} {v : V} {xs : List Int} (h : RdI M v xs) (hs : Sub M M') : RdI M' v xs := by
  obtain ⟨v', g, h1, h2, h3, h4⟩ := h
  exact ⟨v', g, h1, h2, fun p hp => hs _ _ (h3 p hp), h4⟩
theorem RdI.one {v : V} {xs : List Int} (h : RdI M v xs) : One v := by
  obtain ⟨v', g, h1, h2, h3, h4⟩ := h
  exact h1.one1 h4.one
theorem Dn.rdI {M0 : MH} {v : V} {xs : List Int} (h : Dn M0 M v (fun u => LI u xs)) : RdI M v xs := by
  obtain ⟨v', g, h1, h2, h3, h4, h5⟩ := h
  exact ⟨v', g, h1, h2.nd, h2.at_, h5⟩
theorem RdI.len {v : V} {xs : List Int} (h : RdI M v xs) : lenF (er v) = some (.int .i64 (xs.length : Int)) := by
  obtain ⟨v', g, h1, h2, h3, h4⟩ := h
  have hl := h4.len
  rcases h1.inv1 with ⟨h5, _⟩ | ⟨b, o, n, c, ex, k, cs, cs', g, rfl, h5, _⟩ | ⟨a, a', h5, rfl⟩ | ⟨a, a', h5, rfl⟩
  · simp only [List.cons.injEq, and_true] at h5
    rw [← h5]; exact hl
  · simp only [List.cons.injEq, and_true] at h5
    rw [h5] at hl; exact hl
  · simp only [List.cons.injEq, and_true] at h5
    rw [h5] at hl; simp [er, lenF] at hl
  · simp only [List.cons.injEq, and_true] at h5
    rw [h5] at hl; simp [er, lenF] at hl
theorem RT.rdI {M0 M1 : MH} {v u : V} {us : List V} {rows : List (List Int)} (h : RT M0 M1 v rows) {i : Nat} (hi : i < rows.length) (hm : M1 (oB v) = some us) (hu : us[i]? = some u) : RdI M1 u rows[i] := by
  obtain ⟨us2, u2, u', g, _, h1, h2, _, h3, h4, h5, _, h6⟩ := h.row hi
  rw [hm] at h1; cases h1
  rw [hu] at h2; cases h2
  exact ⟨u', g, h3, h4, h5, h6⟩
theorem RT.cell {M0 M1 : MH} {v : V} {rows : List (List Int)} (h : RT M0 M1 v rows) (hl : 0 < rows.length) : ∃ us, M1 (oB v) = some us ∧ us.length = rows.length ∧ ∀ i (h : i < rows.length), ∃ u, us[i]? = some u ∧ RdI M1 u rows[i] := by
  have h0 := h
  obtain ⟨us, us', fp, Mb, hg, hm, ht, hf, hff, ho, hc⟩ := h0
  have hul : us.length = rows.length := by rw [← ht.len]; exact hc.1
  have hat : M1 (oB v) = some us := hg.at (by omega)
  exact ⟨us, hat, hul, fun i hi => ⟨us[i]'(by omega), List.getElem?_eq_getElem (by omega), h.rdI hi hat (List.getElem?_eq_getElem (by omega))⟩⟩
theorem RT.iaddr {M0 M1 : MH} {v : V} {rows : List (List Int)} (h : RT M0 M1 v rows) {k : IntKind} {a : Int} (h0 : 0 ≤ a) (h1 : a < (rows.length : Int)) : iaddrV 1 v (.int k a) = some (.sc (.ptr (some (oB v, a.toNat)))) := by
  obtain ⟨us, us', fp, Mb, hg, hm, ht, hf, hff, ho, hc⟩ := h
  have hul : us.length = rows.length := by rw [← ht.len]; exact hc.1
  exact hg.own.iaddr h0 (by rw [hul]; exact h1)
end Go.M2

namespace Go.M2
open Go.Proofs
variable {M : MH}
end Go.M2

namespace Go.M2
open Go.Proofs
variable {M : MH}
end Go.M2

namespace Go.M2
open Go.Proofs
variable {M : MH}
end Go.M2

namespace Go.M2
open Go.Proofs
variable {M : MH}
end Go.M2

namespace Go.M2
open Go.Proofs
variable {M : MH}
theorem t_Equal {v w : V} {xs ys : List Int} (hv : LI v xs) (hw : LI w ys) (hl : xs.length ≤ 1048576) (hl2 : ys.length ≤ 1048576) : VCall Try.prog n_slices_Equal_Sint_int [v, w] M (fun r M' => M = M' ∧ r = .sc (.bool (decide (xs = ys)))) := by
  refine VCall.pure fun R hR => v_slices_Equal_Sint_int rfl ?_
  simp (maxSteps := 2000000) (disch := first | omega | assumption | exact idP rfl | exact idP (bL rfl)) only [go_sem, reduceIte, Nat.reduceEqDiff, hv.len, hw.len]
  refine cond_dec (fun h => ?_) (fun h => ?_)
  · simp (maxSteps := 2000000) (disch := first | omega | assumption | exact idP rfl | exact idP (bL rfl)) only [go_sem, reduceIte, Nat.reduceEqDiff]
    have : ¬ xs = ys := fun e => h (by rw [e])
    exact hR _ _ (by (repeat (first | exact Sub.refl _ | assumption | (refine Sub.set' ?_ (by assumption))))) (by simp [this])
  · have hll : xs.length = ys.length := by omega
    simp (maxSteps := 2000000) (disch := first | omega | assumption | exact idP rfl | exact idP (bL rfl)) only [go_sem, reduceIte, Nat.reduceEqDiff, hv.len]
    refine loop_k (fun e M' => M' = M ∧ ∃ i : Nat, i ≤ xs.length ∧ e 0 = v ∧ e 1 = w ∧ e 12 = .sc (.int .i64 xs.length) ∧ e 13 = .sc (.int .i64 i) ∧ ∀ j (h1 : j < xs.length) (h2 : j < ys.length), j < i → xs[j] = ys[j]) (fun e _ => ctrV xs.length (e 13)) ?_ ?_
    · exact ⟨rfl, 0, by omega, by simp (maxSteps := 2000000) (disch := first | omega | assumption | exact idP rfl | exact idP (bL rfl)) only [go_sem, reduceIte, Nat.reduceEqDiff], by simp (maxSteps := 2000000) (disch := first | omega | assumption | exact idP rfl | exact idP (bL rfl)) only [go_sem, reduceIte, Nat.reduceEqDiff], by simp (maxSteps := 2000000) (disch := first | omega | assumption | exact idP rfl | exact idP (bL rfl)) only [go_sem, reduceIte, Nat.reduceEqDiff], by simp (maxSteps := 2000000) (disch := first | omega | assumption | exact idP rfl | exact idP (bL rfl)) only [go_sem, reduceIte, Nat.reduceEqDiff]; rfl, fun j _ _ h => by omega⟩
    · rintro e _ ⟨rfl, i, hi, e0, e1, e12, e13, hj⟩ K hK
      simp (maxSteps := 2000000) (disch := first | omega | assumption | exact idP rfl | exact idP (bL rfl)) only [go_sem, reduceIte, Nat.reduceEqDiff, e0, e1, e12, e13]
      refine cond_dec (fun hc => ?_) (fun hc => ?_)
      · have h1 : i < xs.length := by omega
        have h2 : i < ys.length := by omega
        simp (maxSteps := 2000000) (disch := first | omega | assumption | exact idP rfl | exact idP (bL rfl)) only [go_sem, reduceIte, Nat.reduceEqDiff, e0, e1, e12, e13, hv.iaddr, hw.iaddr, hv.at h1, hw.at h2]
        refine cond_dec (fun hn => ?_) (fun hn => ?_)
        · simp (maxSteps := 2000000) (disch := first | omega | assumption | exact idP rfl | exact idP (bL rfl)) only [go_sem, reduceIte, Nat.reduceEqDiff]
          have : ¬ xs = ys := fun e => hn (by simp only [e])
          exact hR _ _ (by (repeat (first | exact Sub.refl _ | assumption | (refine Sub.set' ?_ (by assumption))))) (by simp [this])
        · simp (maxSteps := 2000000) (disch := first | omega | assumption | exact idP rfl | exact idP (bL rfl)) only [go_sem, reduceIte, Nat.reduceEqDiff, e0, e1, e12, e13]
          refine hK _ _ ⟨rfl, i + 1, by omega, by simp (maxSteps := 2000000) (disch := first | omega | assumption | exact idP rfl | exact idP (bL rfl)) only [go_sem, reduceIte, Nat.reduceEqDiff, e0], by simp (maxSteps := 2000000) (disch := first | omega | assumption | exact idP rfl | exact idP (bL rfl)) only [go_sem, reduceIte, Nat.reduceEqDiff, e1], by simp (maxSteps := 2000000) (disch := first | omega | assumption | exact idP rfl | exact idP (bL rfl)) only [go_sem, reduceIte, Nat.reduceEqDiff, e12], by simp (maxSteps := 2000000) (disch := first | omega | assumption | exact idP rfl | exact idP (bL rfl)) only [go_sem, reduceIte, Nat.reduceEqDiff, e13]; rfl, fun j q1 q2 q3 => ?_⟩ (by simp (maxSteps := 2000000) (disch := first | omega | assumption | exact idP rfl | exact idP (bL rfl)) only [go_sem, reduceIte, Nat.reduceEqDiff, ctrV_int, e13]; omega)
          by_cases e : j = i
          · subst e; exact Classical.byContradiction hn
          · exact hj j q1 q2 (by omega)
      · obtain rfl : i = xs.length := by omega
        simp (maxSteps := 2000000) (disch := first | omega | assumption | exact idP rfl | exact idP (bL rfl)) only [go_sem, reduceIte, Nat.reduceEqDiff]
        have : xs = ys := List.ext_getElem hll fun j q1 q2 => hj j q1 q2 q1
        exact hR _ _ (by (repeat (first | exact Sub.refl _ | assumption | (refine Sub.set' ?_ (by assumption))))) (by simp [this])
end Go.M2

namespace Go.M2
open Go.Proofs
variable {M : MH}
end Go.M2

namespace Go.M2
open Go.Proofs
variable {M : MH}
structure TrS where
  states : List (List Int)
  rules : List Int
def isTr (t : TrS) (u : V) : Prop := ∃ x y, u = .agg [x, y] ∧ LII x t.states ∧ LI y t.rules
theorem Dn.more {M0 M1 M2 : MH} {v : V} {p : V → Prop} (h : Dn M0 M1 v p) (hs : Sub M1 M2) : Dn M0 M2 v p := by
  obtain ⟨r', fp, h1, h2, h3⟩ := h
  exact ⟨r', fp, h1, h2.more hs, h3⟩
theorem Dn.base {Mz M0 M1 : MH} {v : V} {p : V → Prop} (h : Dn M0 M1 v p) (hs : Sub Mz M0) : Dn Mz M1 v p := by
  obtain ⟨r', fp, h1, h2, h3⟩ := h
  exact ⟨r', fp, h1, h2.base hs, h3⟩
theorem Dn.setB {M0 Mb M1 : MH} {v : V} {p : V → Prop} {b : Nat} {l l0 : List V} (h : Dn Mb M1 v p) (hb : Mb b = some l0) (h0 : M0 b = none) (hs : Sub M0 Mb) : Dn M0 (M1.set b l) v p := by
  obtain ⟨r', fp, h1, h2, h3⟩ := h
  refine ⟨r', fp, h1, ⟨(hs.trans h2.sub).set h0, fun q hq => hs.none (h2.new q hq), h2.nd, fun q hq => ?_⟩, h3⟩
  have hne : q.1 ≠ b := fun e => by have := h2.new q hq; rw [e, hb] at this; cases this
  rw [set_ne hne]; exact h2.at_ q hq
theorem Dn.agg2 {M0 M1 M2 : MH} {x y : V} {p q : V → Prop} (h : Dn M0 M1 x p) (k : Dn M1 M2 y q) : Dn M0 M2 (.agg [x, y]) (fun u => ∃ x' y', u = .agg [x', y'] ∧ p x' ∧ q y') := by
  obtain ⟨x', f, t1, m1, f1, g1, h1⟩ := h
  obtain ⟨y', g, t2, m2, f2, g2, h2⟩ := k
  refine ⟨.agg [x', y'], f ++ g, ?_, m1.add m2, by simp [flat, flatL, f1, f2], fun r hr => ?_, x', y', rfl, h1, h2⟩
  · have := Tr.agg (t1.append t2) Tr.nil
    simpa using this
  · rcases List.mem_append.1 hr with h3 | h3
    · exact g1 r h3
    · exact g2 r h3
structure TB (Mb M : MH) (b6 : Nat) (S : List (List Int)) (Rl : List Int) (ul ur : V) : Prop where
  sub : Sub Mb M
  new6 : Mb b6 = none
  at6 : M b6 = some [ul, ur]
  rx : ∃ us us' fp, Ow 1 M ul us ∧ Tr us us' fp ∧ Nd2 fp ∧ (∀ p ∈ fp, M p.1 = some p.2) ∧ (∀ p ∈ fp, Mb p.1 = none ∧ p.1 ≠ b6 ∧ blkV ul ≠ some p.1 ∧ blkV ur ≠ some p.1) ∧ flatL us ∧ (∀ q ∈ fp, flatL q.2) ∧ us.all oneV = true ∧ Cs isL us' S
  newl : ∀ b, blkV ul = some b → Mb b = none ∧ b ≠ b6 ∧ blkV ur ≠ some b
  owr : Ow 1 M ur (Rl.map vi)
  newr : ∀ b, blkV ur = some b → Mb b = none ∧ b ≠ b6
section
variable {Mb M1 M2 : MH} {b6 : Nat} {S : List (List Int)} {Rl ys : List Int} {ul ur u : V}
theorem Ow.blk {sz : Nat} {v : V} {l : List V} (h : Ow sz M v l) {b : Nat} (hb : blkV v = some b) : M b = some l := by
  rcases h with ⟨_, k, rfl⟩ | ⟨b', n, ex, rfl, h2, _⟩
  · simp [blkV] at hb
  · simp [blkV] at hb; subst hb; exact h2
theorem Ow.to {sz : Nat} {M' : MH} {v : V} {l : List V} (h : Ow sz M v l) (hs : ∀ b, blkV v = some b → M' b = M b) : Ow sz M' v l := by
  rcases h with h | ⟨b', n, ex, rfl, h2, h3⟩
  · exact .inl h
  · exact .inr ⟨b', n, ex, rfl, by rw [hs b' rfl]; exact h2, h3⟩
theorem Ow.gr {v : V} {l : List V} (h : Ow 1 M v l) : Gr 1 (fun i => if blkV v = some i then none else M i) M v l :=
  ⟨fun i l hi => by
    have hi : (if blkV v = some i then none else M i) = some l := hi
    split at hi
    · cases hi
    · exact hi, fun b hb => by simp [hb], h⟩
theorem TB.more (h : TB Mb M1 b6 S Rl ul ur) (hs : Sub M1 M2) : TB Mb M2 b6 S Rl ul ur := by
  obtain ⟨us, us', fp, h1, h2, h3, h4, h5⟩ := h.rx
  exact ⟨h.sub.trans hs, h.new6, hs _ _ h.at6, ⟨us, us', fp, h1.sub hs, h2, h3, fun p hp => hs _ _ (h4 p hp), h5⟩, h.newl, h.owr.sub hs, h.newr⟩
theorem TB.lenS (h : TB Mb M1 b6 S Rl ul ur) : lenF (er ul) = some (.int .i64 (S.length : Int)) := by
  obtain ⟨us, us', fp, h1, h2, _, _, _, _, _, _, hc⟩ := h.rx
  rw [h1.len1, ← hc.1, h2.len]
theorem TB.oneL (h : TB Mb M1 b6 S Rl ul ur) : One ul := by
  obtain ⟨us, us', fp, h1, _⟩ := h.rx
  obtain ⟨n, _, _, _, h2, h3⟩ := h1.len
  exact ⟨h2, h3⟩
theorem TB.oneR (h : TB Mb M1 b6 S Rl ul ur) : One ur := by
  obtain ⟨n, _, _, _, h2, h3⟩ := h.owr.len
  exact ⟨h2, h3⟩
theorem TB.iaddr (h : TB Mb M1 b6 S Rl ul ur) {k : IntKind} {a : Int} (h0 : 0 ≤ a) (h1 : a < (S.length : Int)) : iaddrV 1 ul (.int k a) = some (.sc (.ptr (some (oB ul, a.toNat)))) := by
  obtain ⟨us, us', fp, h2, h3, _, _, _, _, _, _, hc⟩ := h.rx
  have hul : us.length = S.length := by rw [← h3.len]; exact hc.1
  exact h2.iaddr h0 (by rw [hul]; exact h1)
theorem TB.cell (h : TB Mb M1 b6 S Rl ul ur) (hl : 0 < S.length) : ∃ us, M1 (oB ul) = some us ∧ us.length = S.length ∧ ∀ i (h : i < S.length), ∃ u, us[i]? = some u ∧ RdI M1 u S[i] := by
  obtain ⟨us, us', fp, h1, ht, hnd, hat, _, hf, hff, ho, hc⟩ := h.rx
  have hul : us.length = S.length := by rw [← ht.len]; exact hc.1
  refine ⟨us, h1.at (by omega), hul, fun i hi => ?_⟩
  have hiu : i < us.length := by omega
  have hsp : us = us.take i ++ (us[i] :: us.drop (i + 1)) := by rw [← List.drop_eq_getElem_cons hiu, List.take_append_drop]
  rw [hsp] at ht
  obtain ⟨a', b', f1, f2, rfl, rfl, t1, t2⟩ := Tr.split (a := us.take i) (b := us[i] :: us.drop (i + 1)) (b' := []) ht
  obtain ⟨x', r', g1, g2, rfl, rfl, t3, t4⟩ := t2.uncons
  have hal : a'.length = i := by rw [t1.len, List.length_take]; omega
  have h4 := hc.2 i hi
  rw [List.getElem?_append_right (by omega), hal, Nat.sub_self] at h4
  obtain ⟨w, h5, h6⟩ := h4
  simp only [List.getElem?_cons_zero, Option.some.injEq] at h5
  subst h5
  exact ⟨us[i], List.getElem?_eq_getElem hiu, x', g1, t3, (Nd2.append (Nd2.append hnd).2.1).1, fun p hp => hat p (List.mem_append_right _ (List.mem_append_left _ hp)), h6⟩
theorem TB.addS {K : V → MH → Prop} {by_ bt c k : Nat} {ex : Bool} (h : TB Mb M1 b6 S Rl ul ur) (ho : oneV u = true) (hd : Dn M1 M2 u (fun u' => LI u' ys)) (hbt : M2 bt = none) (hb : S.length + 1 ≤ 34359738368) (hby : by_ ≤ 32)
    (hk : ∀ s' M', M' b6 = some [ul, ur] → One s' → TB Mb (M'.set b6 [s', ur]) b6 (S ++ [ys]) Rl s' ur → K s' M') : appV 1 by_ ul (.sc (.sl (some (bt, 0)) 1 c ex k)) (M2.set bt [u]) K := by
  obtain ⟨us, us', fp, h1, ht, hnd, hat, hnew, hf, hff, hos, hc⟩ := h.rx
  obtain ⟨u', g, tg, mg, fu, fg, hu⟩ := hd
  have hul : us.length = S.length := by rw [← ht.len]; exact hc.1
  have o2 := h1.sub mg.sub
  refine app_val o2.gr hbt ho (by omega) hby fun s' M' hg hoth => ?_
  have n6 : blkV ul ≠ some b6 := fun e => (h.newl b6 e).2.1 rfl
  have a6 : M2 b6 = some [ul, ur] := mg.sub _ _ h.at6
  obtain ⟨q6, q7⟩ := hoth b6 _ a6 n6
  have keep : ∀ b l, M2 b = some l → blkV ul ≠ some b → b ≠ b6 → (M'.set b6 [s', ur]) b = some l := fun b l hl hn hn6 => by
    rw [set_ne hn6]; exact (hoth b l hl hn).1
  have gnew : ∀ p ∈ g, Mb p.1 = none ∧ p.1 ≠ b6 ∧ blkV ul ≠ some p.1 ∧ blkV ur ≠ some p.1 := fun p hp => by
    have hn := mg.new p hp
    refine ⟨h.sub.none hn, fun e => ?_, fun e => ?_, fun e => ?_⟩
    · rw [e, h.at6] at hn; cases hn
    · rw [h1.blk e] at hn; cases hn
    · rw [h.owr.blk e] at hn; cases hn
  refine hk s' M' q6 hg.one ⟨fun i l hi => keep i l (mg.sub _ _ (h.sub _ _ hi)) (fun e => ?_) (fun e => ?_), h.new6, set_same, ⟨us ++ [u], us' ++ [u'], fp ++ g, hg.own.to (fun b hb => ?_), ht.append tg, ?_, fun p hp => ?_, fun p hp => ?_, ?_, ?_, by simp [hos, ho], hc.snoc (x := ys) hu⟩, fun b hb => ?_, h.owr.to (fun b hb => ?_), h.newr⟩
  · rw [(h.newl i e).1] at hi; cases hi
  · rw [e, h.new6] at hi; cases hi
  · exact set_ne (fun e => q7 (e ▸ hb))
  · unfold Nd2
    rw [List.map_append, List.nodup_append]
    refine ⟨hnd, mg.nd, fun a ha c hc e => ?_⟩
    obtain ⟨p, hp, rfl⟩ := List.mem_map.1 ha
    obtain ⟨q, hq, rfl⟩ := List.mem_map.1 hc
    have h3 := hat p hp
    have h4 := mg.new q hq
    rw [e, h4] at h3; cases h3
  · rcases List.mem_append.1 hp with h3 | h3
    · obtain ⟨n1, n2, n3, n4⟩ := hnew p h3
      exact keep _ _ (mg.sub _ _ (hat p h3)) n3 n2
    · obtain ⟨n1, n2, n3, n4⟩ := gnew p h3
      exact keep _ _ (mg.at_ p h3) n3 n2
  · rcases List.mem_append.1 hp with h3 | h3
    · obtain ⟨n1, n2, n3, n4⟩ := hnew p h3
      exact ⟨n1, n2, (hoth _ _ (mg.sub _ _ (hat p h3)) n3).2, n4⟩
    · obtain ⟨n1, n2, n3, n4⟩ := gnew p h3
      exact ⟨n1, n2, (hoth _ _ (mg.at_ p h3) n3).2, n4⟩
  · exact flatL_all.2 fun w hw => by
      rcases List.mem_append.1 hw with h3 | h3
      · exact flatL_all.1 hf w h3
      · rw [List.mem_singleton] at h3; subst h3; exact fu
  · intro w hw
    rcases List.mem_append.1 hw with h3 | h3
    · exact hff w h3
    · exact fg w h3
  · refine ⟨?_, fun e => q7 (e ▸ hb), fun e => ?_⟩
    · have h3 := hg.new b hb
      cases hm : Mb b with
      | none => rfl
      | some l =>
        have h4 := mg.sub _ _ (h.sub _ _ hm)
        have h5 : blkV ul ≠ some b := fun e => by rw [(h.newl b e).1] at hm; cases hm
        simp only [h5, if_false] at h3
        rw [h3] at h4; cases h4
    · have h3 := mg.sub _ _ (h.owr.blk e)
      exact (hoth b _ h3 (fun e2 => (h.newl b e2).2.2 e)).2 hb
  · have hn := h.newr b hb
    have h3 := mg.sub _ _ (h.owr.blk hb)
    rw [set_ne hn.2, (hoth b _ h3 (fun e2 => (h.newl b e2).2.2 hb)).1]
    exact (h.owr.blk hb).symm
theorem TB.addR {K : V → MH → Prop} {by_ bt c k : Nat} {ex : Bool} {n : Int} (h : TB Mb M1 b6 S Rl ul ur) (hbt : M1 bt = none) (hb : Rl.length + 1 ≤ 68719476736) (hby : by_ ≤ 16)
    (hk : ∀ s' M', M' b6 = some [ul, ur] → One s' → TB Mb (M'.set b6 [ul, s']) b6 S (Rl ++ [n]) ul s' → K s' M') : appV 1 by_ ur (.sc (.sl (some (bt, 0)) 1 c ex k)) (M1.set bt [.sc (.int .i64 n)]) K := by
  obtain ⟨us, us', fp, h1, ht, hnd, hat, hnew, hf, hff, hos, hc⟩ := h.rx
  refine app_int h.owr.gr hbt hb hby fun s' M' hg hoth => ?_
  have n6 : blkV ur ≠ some b6 := fun e => (h.newr b6 e).2 rfl
  obtain ⟨q6, q7⟩ := hoth b6 _ h.at6 n6
  have keep : ∀ b l, M1 b = some l → blkV ur ≠ some b → b ≠ b6 → (M'.set b6 [ul, s']) b = some l := fun b l hl hn hn6 => by
    rw [set_ne hn6]; exact (hoth b l hl hn).1
  have nlr : ∀ b, blkV ul = some b → blkV ur ≠ some b := fun b hb => (h.newl b hb).2.2
  refine hk s' M' q6 hg.one ⟨fun i l hi => keep i l (h.sub _ _ hi) (fun e => ?_) (fun e => ?_), h.new6, set_same, ⟨us, us', fp, h1.to (fun b hb => ?_), ht, hnd, fun p hp => ?_, fun p hp => ?_, hf, hff, hos, hc⟩, fun b hb => ?_, hg.own.to (fun b hb => ?_), fun b hb => ⟨?_, fun e => q7 (e ▸ hb)⟩⟩
  · rw [(h.newr i e).1] at hi; cases hi
  · rw [e, h.new6] at hi; cases hi
  · rw [keep b _ (h1.blk hb) (nlr b hb) (h.newl b hb).2.1, h1.blk hb]
  · obtain ⟨n1, n2, n3, n4⟩ := hnew p hp
    exact keep _ _ (hat p hp) n4 n2
  · obtain ⟨n1, n2, n3, n4⟩ := hnew p hp
    exact ⟨n1, n2, n3, (hoth _ _ (hat p hp) n4).2⟩
  · exact ⟨(h.newl b hb).1, (h.newl b hb).2.1, (hoth b _ (h1.blk hb) (nlr b hb)).2⟩
  · exact set_ne (fun e => q7 (e ▸ hb))
  · have h3 := hg.new b hb
    cases hm : Mb b with
    | none => rfl
    | some l =>
      have h4 := h.sub _ _ hm
      have h5 : blkV ur ≠ some b := fun e => by rw [(h.newr b e).1] at hm; cases hm
      simp only [h5, if_false] at h3
      rw [h3] at h4; cases h4
theorem TB.box (h : RT Mb M1 ul S) (hb : M1 b6 = none) : TB Mb (M1.set b6 [ul, .sc (.sl none 0 0 true 0)]) b6 S [] ul (.sc (.sl none 0 0 true 0)) := by
  obtain ⟨us, us', fp, Mc, hg, hm, ht, hf, hff, hos, hc⟩ := h
  have hs : Sub M1 (M1.set b6 [ul, .sc (.sl none 0 0 true 0)]) := (Sub.refl M1).set' hb
  have hs0 : Sub Mb M1 := hm.sub.trans hg.sub
  have hne : ∀ b l, M1 b = some l → b ≠ b6 := fun b l hl e => by rw [e, hb] at hl; cases hl
  refine ⟨hs0.trans hs, hs0.none hb, set_same, ⟨us, us', fp, hg.own.sub hs, ht, hm.nd, fun p hp => hs _ _ (hg.sub _ _ (hm.at_ p hp)), fun p hp => ⟨hm.new p hp, hne _ _ (hg.sub _ _ (hm.at_ p hp)), fun e => ?_, by simp [blkV]⟩, hf, hff, hos, hc⟩, fun b hb2 => ⟨hm.sub.none (hg.new b hb2), hne _ _ (hg.own.blk hb2), by simp [blkV]⟩, .inl ⟨rfl, 0, rfl⟩, fun b hb2 => by simp [blkV] at hb2⟩
  have h1 := hg.new p.1 e
  rw [hm.at_ p hp] at h1; cases h1
theorem TB.dnS (h : TB Mb M1 b6 S Rl ul ur) : Dn (Mb.set b6 [ul, ur]) M1 ul (fun u => LII u S) := by
  obtain ⟨us, us', fp, h1, ht, hnd, hat, hnew, hf, hff, hos, hc⟩ := h.rx
  have hs : Sub (Mb.set b6 [ul, ur]) M1 := fun i l hi => by
    by_cases e : i = b6
    · subst e; rw [set_same] at hi; cases hi; exact h.at6
    · rw [set_ne e] at hi; exact h.sub _ _ hi
  have hR : RT (Mb.set b6 [ul, ur]) M1 ul S := by
    refine ⟨us, us', fp, _, h1.gr, ⟨fun i l hi => ?_, fun p hp => ?_, hnd, fun p hp => ?_⟩, ht, hf, hff, hos, hc⟩
    · have hne : blkV ul ≠ some i := fun e => by
        by_cases e6 : i = b6
        · exact (h.newl i e).2.1 e6
        · rw [set_ne e6, (h.newl i e).1] at hi; cases hi
      simp only [hne, if_false]; exact hs i l hi
    · obtain ⟨n1, n2, n3, n4⟩ := hnew p hp
      rw [set_ne n2]; exact n1
    · obtain ⟨n1, n2, n3, n4⟩ := hnew p hp
      simp only [n3, if_false]; exact hat p hp
  exact hR.dn
theorem TB.rdR (h : TB Mb M1 b6 S Rl ul ur) : RdI M1 ur Rl := by
  rcases h.owr with ⟨h1, k, h2⟩ | ⟨b, n, ex, h2, h3, h4⟩
  · have h1 : Rl = [] := by simpa using h1
    rw [h1, h2]; exact .of .nil
  · rw [h2]
    refine ⟨.fs (some (b, 0)) n n ex 1 ((Rl.map vi).drop 0), [(b, Rl.map vi)], ?_, by simp [Nd2], fun p hp => by simp at hp; subst hp; exact h3, Fr.li (.inr ⟨_, _, _, _, _, by rw [List.drop_zero], by simpa using h4⟩)⟩
    have := Tr.sl (b := b) (o := 0) (n := n) (c := n) (k := 1) (ex := ex) (Tr.refl (Rl.map vi)) Tr.nil
    simpa using this
theorem TB.dn (h : TB Mb M1 b6 S Rl ul ur) : Dn (Mb.set b6 [ul, ur]) M1 (.agg [ul, ur]) (isTr ⟨S, Rl⟩) := by
  obtain ⟨us, us', fp, h1, ht, hnd, hat, hnew, hf, hff, hos, hc⟩ := h.rx
  have d1 := h.dnS
  have g := h.owr.gr
  -- the states stand on what is not the rules' block
  have hs : Sub (Mb.set b6 [ul, ur]) M1 := fun i l hi => by
    by_cases e : i = b6
    · subst e; rw [set_same] at hi; cases hi; exact h.at6
    · rw [set_ne e] at hi; exact h.sub _ _ hi
  have hR : RT (Mb.set b6 [ul, ur]) (fun i => if blkV ur = some i then none else M1 i) ul S := by
    have h1' : Ow 1 (fun i => if blkV ur = some i then none else M1 i) ul us := h1.to fun b hb => by simp [(h.newl b hb).2.2]
    refine ⟨us, us', fp, _, h1'.gr, ⟨fun i l hi => ?_, fun p hp => ?_, hnd, fun p hp => ?_⟩, ht, hf, hff, hos, hc⟩
    · have hn1 : blkV ul ≠ some i := fun e => by
        by_cases e6 : i = b6
        · exact (h.newl i e).2.1 e6
        · rw [set_ne e6, (h.newl i e).1] at hi; cases hi
      have hn2 : blkV ur ≠ some i := fun e => by
        by_cases e6 : i = b6
        · exact (h.newr i e).2 e6
        · rw [set_ne e6, (h.newr i e).1] at hi; cases hi
      simp only [hn1, hn2, if_false]; exact hs i l hi
    · obtain ⟨n1, n2, n3, n4⟩ := hnew p hp
      rw [set_ne n2]; exact n1
    · obtain ⟨n1, n2, n3, n4⟩ := hnew p hp
      simp only [n3, n4, if_false]; exact hat p hp
  exact hR.dn.agg2 g.dnI
end
end Go.M2

namespace Go.M2
open Go.Proofs
variable {M : MH}
theorem l_eqIntSS {v v' w : V} {fp : List (Nat × List V)} {xs : List (List Int)} (ht : Tr [v] [v'] fp) (hv : LII v' xs) (hm : ∀ p ∈ fp, M p.1 = some p.2) (hn : Nd2 fp) (hw : LII w xs) (hl : xs.length ≤ 1048576) (hl2 : ∀ ts ∈ xs, ts.length ≤ 1048576) : VCall Try.prog n_laws_eqIntSS [v, w] M (fun r M' => M = M' ∧ r = .sc (.bool true)) := by
  have h2 : Tr [v, w] [v', w] (fp ++ []) := ht.append (.keep w .nil)
  rw [List.append_nil] at h2
  exact VCall.lendP h2 hm hn flat_bool fun M' => x_eqIntSS hv hw hl hl2
theorem Hd.frame {M' : MH} {v : V} {n : Nat} {k : Int} (h : Hd M v n k) (hb : ∀ b, blkV v = some b → M' b = M b) : Hd M' v n k := by
  rcases h with h | ⟨b, o, c, ex, kk, l, rfl, hm, hl⟩
  · exact .inl h
  · exact .inr ⟨b, o, c, ex, kk, l, rfl, by rw [hb b rfl]; exact hm, hl⟩
def offN (rows : List (List Int)) (i : Nat) : Nat := (rows.take i).flatten.length
theorem offN_zero (rows : List (List Int)) : offN rows 0 = 0 := by simp [offN]
theorem offN_succ {rows : List (List Int)} {i : Nat} (h : i < rows.length) : offN rows (i + 1) = offN rows i + rows[i].length := by
  unfold offN
  rw [take_snoc h, List.flatten_append, List.length_append]; simp
theorem offN_le {rows : List (List Int)} (h : ∀ ts ∈ rows, ts.length ≤ 1048576) : ∀ i, i ≤ rows.length → offN rows i ≤ 1048576 * i
  | 0, _ => by simp [offN]
  | i + 1, hi => by
    have h1 := offN_le h i (by omega)
    rw [offN_succ (by omega)]
    have := h _ (List.getElem_mem (show i < rows.length by omega))
    omega
def HdS (M : MH) (v : V) (rows : List (List Int)) (k : Int) : Prop := (rows = [] ∧ ∃ q, v = .sc (.sl none 0 0 true q)) ∨ ∃ b o c ex kk cs, v = .sc (.sl (some (b, o)) rows.length c ex kk) ∧ M b = some cs ∧ ∀ i (h : i < rows.length), ∃ u, cs[o + i]? = some u ∧ Hd M u rows[i].length (k + offN rows i)
theorem t_heldIntSS {v : V} {rows : List (List Int)} {k : Int} (hv : HdS M v rows k) (hl : rows.length ≤ 1048576) (hl2 : ∀ ts ∈ rows, ts.length ≤ 1048576) (hk : 0 ≤ k) (hk2 : k ≤ 8900000000000000000) : VCall Try.prog n_laws_heldIntSS [v, .sc (.int .i64 k)] M (fun r M' => M = M' ∧ r = .sc (.int .i64 (k + offN rows rows.length))) := by
  refine VCall.pure fun R hR => v_laws_heldIntSS rfl ?_
  rcases hv with ⟨rfl, q, rfl⟩ | ⟨b, o, c, ex, kk, cs, rfl, hm, hc⟩
  · simp (maxSteps := 2000000) (disch := first | omega | assumption | exact idP rfl | exact idP (bL rfl)) only [go_sem, reduceIte, Nat.reduceEqDiff]
    refine loop_k (fun e M' => M' = M ∧ e 0 = .sc (.sl none 0 0 true q) ∧ e 1 = .sc (.int .i64 k) ∧ e 5 = .sc (.int .i64 0)) (fun e _ => 0) ⟨rfl, by simp (maxSteps := 2000000) (disch := first | omega | assumption | exact idP rfl | exact idP (bL rfl)) only [go_sem, reduceIte, Nat.reduceEqDiff], by simp (maxSteps := 2000000) (disch := first | omega | assumption | exact idP rfl | exact idP (bL rfl)) only [go_sem, reduceIte, Nat.reduceEqDiff], by simp (maxSteps := 2000000) (disch := first | omega | assumption | exact idP rfl | exact idP (bL rfl)) only [go_sem, reduceIte, Nat.reduceEqDiff]⟩ ?_
    rintro e _ ⟨rfl, e0, e1, e5⟩ K hK
    simp (maxSteps := 2000000) (disch := first | omega | assumption | exact idP rfl | exact idP (bL rfl)) only [go_sem, reduceIte, Nat.reduceEqDiff, e0, e1, e5]
    exact hR _ _ (by (repeat (first | exact Sub.refl _ | assumption | (refine Sub.set' ?_ (by assumption))))) (by rw [show ((offN [] ([] : List (List Int)).length : Nat) : Int) = 0 from rfl, Int.add_zero]; rfl)
  · simp (maxSteps := 2000000) (disch := first | omega | assumption | exact idP rfl | exact idP (bL rfl)) only [go_sem, reduceIte, Nat.reduceEqDiff]
    refine loop_k (fun e M' => M' = M ∧ ∃ i : Nat, i ≤ rows.length ∧ e 0 = .sc (.sl (some (b, o)) rows.length c ex kk) ∧ e 1 = .sc (.int .i64 (k + offN rows i)) ∧ e 5 = .sc (.int .i64 i)) (fun e _ => ctrV rows.length (e 5)) ?_ ?_
    · exact ⟨rfl, 0, by omega, by simp (maxSteps := 2000000) (disch := first | omega | assumption | exact idP rfl | exact idP (bL rfl)) only [go_sem, reduceIte, Nat.reduceEqDiff], by simp (maxSteps := 2000000) (disch := first | omega | assumption | exact idP rfl | exact idP (bL rfl)) only [go_sem, reduceIte, Nat.reduceEqDiff]; simp [offN_zero], by simp (maxSteps := 2000000) (disch := first | omega | assumption | exact idP rfl | exact idP (bL rfl)) only [go_sem, reduceIte, Nat.reduceEqDiff]; rfl⟩
    · rintro e _ ⟨rfl, i, hi, e0, e1, e5⟩ K hK
      have hob := offN_le hl2 i hi
      simp (maxSteps := 2000000) (disch := first | omega | assumption | exact idP rfl | exact idP (bL rfl)) only [go_sem, reduceIte, Nat.reduceEqDiff, e0, e1, e5]
      refine cond_dec (fun h => ?_) (fun h => ?_)
      · have hi' : i < rows.length := by omega
        obtain ⟨u, h1, h2⟩ := hc i hi'
        have h1' : cs[o + i * 1]? = some u := by rw [Nat.mul_one]; exact h1
        have hrl := hl2 _ (List.getElem_mem hi')
        simp (maxSteps := 2000000) (disch := first | omega | assumption | exact idP rfl | exact idP (bL rfl)) only [go_sem, reduceIte, Nat.reduceEqDiff, e0, e1, e5, hm, h1, h1']
        refine (t_heldIntS h2 hrl (by omega) (by omega)).mono ?_
        rintro _ _ ⟨rfl, rfl⟩
        have hos := offN_succ hi'
        (repeat' (first | ((first | with_reducible refine cond_dec (fun h => ?_) (fun h => ?_) | with_reducible refine guardK_dec (fun h => ?_) (fun h => ?_) | with_reducible refine guardD3_dec (fun h => ?_) (fun h => ?_)) <;> first | (exfalso; omega) | (simp (maxSteps := 2000000) (disch := first | omega | assumption | exact idP rfl | exact idP (bL rfl)) only [go_sem, reduceIte, Nat.reduceEqDiff, h]) | skip) | ((first | with_reducible refine cond_split (fun h => ?_) (fun h => ?_) | with_reducible refine guardK_split (fun h => ?_) (fun h => ?_) | with_reducible refine guardD3_split (fun h => ?_) (fun h => ?_)) <;> ((try simp only [Bool.not_eq_true', Bool.not_eq_false'] at h); first | (simp (maxSteps := 2000000) (disch := first | omega | assumption | exact idP rfl | exact idP (bL rfl)) only [go_sem, reduceIte, Nat.reduceEqDiff, h]) | skip)) | (with_reducible intro bk hbk; try have hnk := (fresh_set hbk).1) | (simp (maxSteps := 2000000) (disch := first | omega | assumption | exact idP rfl | exact idP (bL rfl)) only [go_sem, reduceIte, Nat.reduceEqDiff])))
        refine hK _ _ ⟨rfl, i + 1, by omega, by simp (maxSteps := 2000000) (disch := first | omega | assumption | exact idP rfl | exact idP (bL rfl)) only [go_sem, reduceIte, Nat.reduceEqDiff, e0], by simp (maxSteps := 2000000) (disch := first | omega | assumption | exact idP rfl | exact idP (bL rfl)) only [go_sem, reduceIte, Nat.reduceEqDiff]; rw [hos, Int.natCast_add, Int.add_assoc], by simp (maxSteps := 2000000) (disch := first | omega | assumption | exact idP rfl | exact idP (bL rfl)) only [go_sem, reduceIte, Nat.reduceEqDiff, e5]; rfl⟩ (by simp (maxSteps := 2000000) (disch := first | omega | assumption | exact idP rfl | exact idP (bL rfl)) only [go_sem, reduceIte, Nat.reduceEqDiff, ctrV_int, e5]; omega)
      · obtain rfl : i = rows.length := by omega
        simp (maxSteps := 2000000) (disch := first | omega | assumption | exact idP rfl | exact idP (bL rfl)) only [go_sem, reduceIte, Nat.reduceEqDiff, e1]
        exact hR _ _ (by (repeat (first | exact Sub.refl _ | assumption | (refine Sub.set' ?_ (by assumption))))) rfl
theorem t_markRk {v v' : V} {fp : List (Nat × List V)} {ys : List Int} {k : Int} (ht : Tr [v] [v'] fp) (hf : flat v) (hv : LI v' ys) (hm : ∀ p ∈ fp, M p.1 = some p.2) (hl : ys.length ≤ 1048576) (hk : 0 ≤ k) (hk2 : k ≤ 9000000000000000000) :
    VCall Try.prog n_laws_markIntS [v, .sc (.int .i64 k)] M (fun r M' => r = .sc (.int .i64 (k + ys.length)) ∧ Hd M' v ys.length k ∧ (∀ b, blkV v = some b → inF fp b = true) ∧ ∀ q, inF fp q = false → M' q = M q) := by
  refine VCall.plain fun R hR => v_laws_markIntS rfl ?_
  rcases ht.win hf (ls_lc hv) with ⟨q, rfl, rfl⟩ | ⟨b, o, c, ex, kk, cs, cs', g, rfl, h2, rfl, h3, h4⟩
  · simp (maxSteps := 2000000) (disch := first | omega | assumption | exact idP rfl | exact idP (bL rfl)) only [go_sem, reduceIte, Nat.reduceEqDiff]
    refine loop_k (fun e M' => M' = M ∧ e 0 = .sc (.sl none 0 0 true q) ∧ e 1 = .sc (.int .i64 k) ∧ e 5 = .sc (.int .i64 0)) (fun e _ => 0) ⟨rfl, by simp (maxSteps := 2000000) (disch := first | omega | assumption | exact idP rfl | exact idP (bL rfl)) only [go_sem, reduceIte, Nat.reduceEqDiff], by simp (maxSteps := 2000000) (disch := first | omega | assumption | exact idP rfl | exact idP (bL rfl)) only [go_sem, reduceIte, Nat.reduceEqDiff], by simp (maxSteps := 2000000) (disch := first | omega | assumption | exact idP rfl | exact idP (bL rfl)) only [go_sem, reduceIte, Nat.reduceEqDiff]⟩ ?_
    rintro e _ ⟨rfl, e0, e1, e5⟩ K hK
    simp (maxSteps := 2000000) (disch := first | omega | assumption | exact idP rfl | exact idP (bL rfl)) only [go_sem, reduceIte, Nat.reduceEqDiff, e0, e1, e5]
    exact hR _ _ ⟨by rw [List.length_nil, Int.natCast_zero, Int.add_zero]; rfl, .inl ⟨rfl, q, rfl⟩, fun b hb => by simp [blkV] at hb, fun q _ => rfl⟩
  · have hmb : M b = some cs := hm (b, cs) (List.mem_cons_self ..)
    have hfb := inF_mem (fp := (b, cs) :: g) (p := (b, cs)) (List.mem_cons_self ..)
    simp (maxSteps := 2000000) (disch := first | omega | assumption | exact idP rfl | exact idP (bL rfl)) only [go_sem, reduceIte, Nat.reduceEqDiff]
    refine loop_k (fun e M' => ∃ (i : Nat) (l' : List V), i ≤ ys.length ∧ e 0 = .sc (.sl (some (b, o)) ys.length c ex kk) ∧ e 1 = .sc (.int .i64 (k + i)) ∧ e 5 = .sc (.int .i64 i) ∧ (∀ q, q ≠ b → M' q = M q) ∧ M' b = some l' ∧ l'.length = cs.length ∧ ∀ j, j < i → l'[o + j]? = some (.sc (.int .i64 (k + j)))) (fun e _ => ctrV ys.length (e 5)) ?_ ?_
    · exact ⟨0, cs, by omega, by simp (maxSteps := 2000000) (disch := first | omega | assumption | exact idP rfl | exact idP (bL rfl)) only [go_sem, reduceIte, Nat.reduceEqDiff], by simp (maxSteps := 2000000) (disch := first | omega | assumption | exact idP rfl | exact idP (bL rfl)) only [go_sem, reduceIte, Nat.reduceEqDiff]; simp, by simp (maxSteps := 2000000) (disch := first | omega | assumption | exact idP rfl | exact idP (bL rfl)) only [go_sem, reduceIte, Nat.reduceEqDiff]; rfl, fun _ _ => rfl, hmb, rfl, fun j hj => by omega⟩
    · rintro e M1 ⟨i, l', hi, e0, e1, e5, hq, hm1, hl1, hj⟩ K hK
      simp (maxSteps := 2000000) (disch := first | omega | assumption | exact idP rfl | exact idP (bL rfl)) only [go_sem, reduceIte, Nat.reduceEqDiff, e0, e1, e5]
      refine cond_dec (fun h => ?_) (fun h => ?_)
      · have h3 := h3 (by omega)
        have hso : o + i * 1 < l'.length := by omega
        have hso2 : o + i < l'.length := by omega
        simp (maxSteps := 2000000) (disch := first | omega | assumption | exact idP rfl | exact idP (bL rfl)) only [go_sem, reduceIte, Nat.reduceEqDiff, e0, e1, e5, hm1]
        refine hK _ _ ⟨i + 1, l'.set (o + i) (.sc (.int .i64 (k + i))), by omega, by simp (maxSteps := 2000000) (disch := first | omega | assumption | exact idP rfl | exact idP (bL rfl)) only [go_sem, reduceIte, Nat.reduceEqDiff, e0], by simp (maxSteps := 2000000) (disch := first | omega | assumption | exact idP rfl | exact idP (bL rfl)) only [go_sem, reduceIte, Nat.reduceEqDiff]; rw [Int.natCast_add, Int.add_assoc]; rfl, by simp (maxSteps := 2000000) (disch := first | omega | assumption | exact idP rfl | exact idP (bL rfl)) only [go_sem, reduceIte, Nat.reduceEqDiff]; rfl, fun q hqb => by rw [set_ne hqb]; exact hq q hqb, by rw [set_same], by simp [hl1], fun j hj2 => ?_⟩ (by simp (maxSteps := 2000000) (disch := first | omega | assumption | exact idP rfl | exact idP (bL rfl)) only [go_sem, reduceIte, Nat.reduceEqDiff, ctrV_int, e5]; omega)
        by_cases e : j = i
        · subst e; rw [List.getElem?_set_self (by omega)]
        · rw [List.getElem?_set_ne (by omega)]; exact hj j (by omega)
      · obtain rfl : i = ys.length := by omega
        simp (maxSteps := 2000000) (disch := first | omega | assumption | exact idP rfl | exact idP (bL rfl)) only [go_sem, reduceIte, Nat.reduceEqDiff, e1]
        refine hR _ _ ⟨rfl, .inr ⟨b, o, c, ex, kk, l', rfl, hm1, hj⟩, fun b' hb' => by simp [blkV] at hb'; subst hb'; exact hfb, fun q hq1 => hq q fun e => ?_⟩
        rw [e] at hq1
        simp only at hfb
        rw [hfb] at hq1; cases hq1
theorem t_markIntSS2 {v v' : V} {fp : List (Nat × List V)} {rows : List (List Int)} {k : Int} (ht : Tr [v] [v'] fp) (hf : flat v) (hff : ∀ q ∈ fp, flatL q.2) (hv : LII v' rows) (hn : Nd2 fp) (hm : ∀ p ∈ fp, M p.1 = some p.2) (hl : rows.length ≤ 1048576) (hl2 : ∀ ts ∈ rows, ts.length ≤ 1048576) (hk : 0 ≤ k) (hk2 : k ≤ 8900000000000000000) :
    VCall Try.prog n_laws_markIntSS [v, .sc (.int .i64 k)] M (fun r M' => r = .sc (.int .i64 (k + offN rows rows.length)) ∧ (∀ M2 : MH, (∀ q, inF fp q = true → M2 q = M' q) → HdS M2 v rows k) ∧ ∀ q, inF fp q = false → M' q = M q) := by
  refine VCall.plain fun R hR => v_laws_markIntSS rfl ?_
  rcases ht.win hf (ls_lc hv) with ⟨q, rfl, rfl⟩ | ⟨b, o, c, ex, kk, cs, cs', g, rfl, h2, rfl, h3, h4⟩
  · simp (maxSteps := 2000000) (disch := first | omega | assumption | exact idP rfl | exact idP (bL rfl)) only [go_sem, reduceIte, Nat.reduceEqDiff]
    refine loop_k (fun e M' => M' = M ∧ e 0 = .sc (.sl none 0 0 true q) ∧ e 1 = .sc (.int .i64 k) ∧ e 5 = .sc (.int .i64 0)) (fun e _ => 0) ⟨rfl, by simp (maxSteps := 2000000) (disch := first | omega | assumption | exact idP rfl | exact idP (bL rfl)) only [go_sem, reduceIte, Nat.reduceEqDiff], by simp (maxSteps := 2000000) (disch := first | omega | assumption | exact idP rfl | exact idP (bL rfl)) only [go_sem, reduceIte, Nat.reduceEqDiff], by simp (maxSteps := 2000000) (disch := first | omega | assumption | exact idP rfl | exact idP (bL rfl)) only [go_sem, reduceIte, Nat.reduceEqDiff]⟩ ?_
    rintro e _ ⟨rfl, e0, e1, e5⟩ K hK
    simp (maxSteps := 2000000) (disch := first | omega | assumption | exact idP rfl | exact idP (bL rfl)) only [go_sem, reduceIte, Nat.reduceEqDiff, e0, e1, e5]
    exact hR _ _ ⟨by rw [show ((offN [] ([] : List (List Int)).length : Nat) : Int) = 0 from rfl, Int.add_zero]; rfl, fun _ _ => .inl ⟨rfl, q, rfl⟩, fun q _ => rfl⟩
  · obtain ⟨hbg, hng⟩ := nd_hd hn
    have hmb : M b = some cs := hm (b, cs) (List.mem_cons_self ..)
    have hmg : ∀ p ∈ g, M p.1 = some p.2 := fun p hp => hm p (List.mem_cons_of_mem _ hp)
    have hfc : flatL cs := hff (b, cs) (List.mem_cons_self ..)
    have hgo : ∀ q, inF g q = true → inF ((b, cs) :: g) q = true := fun q hq => by
      obtain ⟨l, hl⟩ := inF_iff.1 hq
      exact inF_iff.2 ⟨l, List.mem_cons_of_mem _ hl⟩
    simp (maxSteps := 2000000) (disch := first | omega | assumption | exact idP rfl | exact idP (bL rfl)) only [go_sem, reduceIte, Nat.reduceEqDiff]
    refine loop_k (fun e M' => ∃ (i : Nat) (g1 g2 : List (Nat × List V)) (l1 l2 : List V), i ≤ rows.length ∧ e 0 = .sc (.sl (some (b, o)) rows.length c ex kk) ∧ e 1 = .sc (.int .i64 (k + offN rows i)) ∧ e 5 = .sc (.int .i64 i) ∧ Tr (cs.take (o + i)) l1 g1 ∧ Tr (cs.drop (o + i)) l2 g2 ∧ g = g1 ++ g2 ∧ cs' = l1 ++ l2 ∧ (∀ q, inF g1 q = false → M' q = M q) ∧ ∀ j (h : j < rows.length), j < i → ∃ u, cs[o + j]? = some u ∧ Hd M' u rows[j].length (k + offN rows j) ∧ ∀ b', blkV u = some b' → inF g1 b' = true) (fun e _ => ctrV rows.length (e 5)) ?_ ?_
    · obtain ⟨l1, l2, g1, g2, rfl, rfl, h5, h6⟩ := Tr.split (a := cs.take o) (b := cs.drop o) (b' := []) (by rw [List.take_append_drop]; exact h2)
      exact ⟨0, g1, g2, l1, l2, by omega, by simp (maxSteps := 2000000) (disch := first | omega | assumption | exact idP rfl | exact idP (bL rfl)) only [go_sem, reduceIte, Nat.reduceEqDiff], by simp (maxSteps := 2000000) (disch := first | omega | assumption | exact idP rfl | exact idP (bL rfl)) only [go_sem, reduceIte, Nat.reduceEqDiff]; simp [offN_zero], by simp (maxSteps := 2000000) (disch := first | omega | assumption | exact idP rfl | exact idP (bL rfl)) only [go_sem, reduceIte, Nat.reduceEqDiff]; rfl, h5, h6, rfl, rfl, fun _ _ => rfl, fun j _ h => by omega⟩
    · rintro e M1 ⟨i, g1, g2, l1, l2, hi, e0, e1, e5, t1, t2, rfl, rfl, hq, hjs⟩ K hK
      have hob := offN_le hl2 i hi
      simp (maxSteps := 2000000) (disch := first | omega | assumption | exact idP rfl | exact idP (bL rfl)) only [go_sem, reduceIte, Nat.reduceEqDiff, e0, e1, e5]
      refine cond_dec (fun h => ?_) (fun h => ?_)
      · have hi' : i < rows.length := by omega
        have h3 := h3 (by omega)
        have hj : o + i < cs.length := by omega
        have hcx : cs[o + i]? = some cs[o + i] := List.getElem?_eq_getElem hj
        have hcx2 : cs[o + i * 1]? = some cs[o + i] := by rw [Nat.mul_one]; exact hcx
        rw [List.drop_eq_getElem_cons hj] at t2
        obtain ⟨x', r', gx, gr, rfl, rfl, t3, t4⟩ := t2.uncons
        have hl1 : l1.length = o + i := by rw [t1.len, List.length_take]; omega
        obtain ⟨u, h5, h6⟩ := h4 i hi'
        rw [Nat.mul_one, List.drop_left' hl1, List.take_succ_cons, List.take_zero, List.cons.injEq] at h5
        obtain ⟨rfl, _⟩ := h5
        have hb1 : M1 b = some cs := by
          rw [hq b (by rw [inF_append] at hbg; simp only [Bool.or_eq_false_iff] at hbg; exact hbg.1)]; exact hmb
        simp (maxSteps := 2000000) (disch := first | omega | assumption | exact idP rfl | exact idP (bL rfl)) only [go_sem, reduceIte, Nat.reduceEqDiff, e0, e1, e5, hb1, hcx, hcx2]
        refine (t_markRk t3 (flatL_all.1 hfc _ (List.getElem_mem hj)) h6 (fun p hp => ?_) (hl2 _ (List.getElem_mem hi')) (by omega) (by omega)).mono ?_
        · rw [hq p.1 (nd_sep hng (List.mem_append_left _ hp))]
          exact hmg p (List.mem_append_right _ (List.mem_append_left _ hp))
        · rintro _ M2 ⟨rfl, p1, p2, p3⟩
          have hos := offN_succ hi'
          simp (maxSteps := 2000000) (disch := first | omega | assumption | exact idP rfl | exact idP (bL rfl)) only [go_sem, reduceIte, Nat.reduceEqDiff, e0, e1, e5]
          refine hK _ _ ⟨i + 1, g1 ++ gx, gr, l1 ++ [x'], r', by omega, by simp (maxSteps := 2000000) (disch := first | omega | assumption | exact idP rfl | exact idP (bL rfl)) only [go_sem, reduceIte, Nat.reduceEqDiff, e0], by simp (maxSteps := 2000000) (disch := first | omega | assumption | exact idP rfl | exact idP (bL rfl)) only [go_sem, reduceIte, Nat.reduceEqDiff]; rw [hos, Int.natCast_add, Int.add_assoc], by simp (maxSteps := 2000000) (disch := first | omega | assumption | exact idP rfl | exact idP (bL rfl)) only [go_sem, reduceIte, Nat.reduceEqDiff]; rfl, ?_, t4, by simp, by simp, fun q hq2 => ?_, fun j hj1 hj2 => ?_⟩ (by simp (maxSteps := 2000000) (disch := first | omega | assumption | exact idP rfl | exact idP (bL rfl)) only [go_sem, reduceIte, Nat.reduceEqDiff, ctrV_int, e5]; omega)
          · rw [← Nat.add_assoc, take_one hj]; exact t1.append t3
          · rw [inF_append, Bool.or_eq_false_iff] at hq2
            rw [p3 q hq2.2]
            exact hq q hq2.1
          · by_cases ej : j = i
            · subst ej
              exact ⟨_, hcx, p1, fun b' hb' => by rw [inF_append, p2 b' hb', Bool.or_true]⟩
            · obtain ⟨w, w1, w2, w3⟩ := hjs j hj1 (by omega)
              refine ⟨w, w1, w2.frame fun b' hb' => p3 b' ?_, fun b' hb' => by rw [inF_append, w3 b' hb', Bool.true_or]⟩
              cases hc : inF gx b' with
              | false => rfl
              | true =>
                obtain ⟨l, hl⟩ := inF_iff.1 hc
                have h7 := nd_sep hng (p := (b', l)) (List.mem_append_left _ hl)
                simp only at h7
                rw [w3 b' hb'] at h7; cases h7
      · obtain rfl : i = rows.length := by omega
        have hqf : ∀ q, inF ((b, cs) :: (g1 ++ g2)) q = false → M1 q = M q := fun q hq1 => hq q (by
          cases hc : inF g1 q with
          | false => rfl
          | true => rw [hgo q (by rw [inF_append, hc]; rfl)] at hq1; cases hq1)
        have hb1 : M1 b = some cs := by
          rw [hq b (by rw [inF_append] at hbg; simp only [Bool.or_eq_false_iff] at hbg; exact hbg.1)]; exact hmb
        simp (maxSteps := 2000000) (disch := first | omega | assumption | exact idP rfl | exact idP (bL rfl)) only [go_sem, reduceIte, Nat.reduceEqDiff, e1]
        refine hR _ _ ⟨rfl, fun M2 hM2 => .inr ⟨b, o, c, ex, kk, cs, rfl, by rw [hM2 b (inF_mem (p := (b, cs)) (List.mem_cons_self ..))]; exact hb1, fun j hj1 => ?_⟩, hqf⟩
        obtain ⟨w, w1, w2, w3⟩ := hjs j hj1 hj1
        exact ⟨w, w1, w2.frame fun b' hb' => hM2 b' (hgo b' (by rw [inF_append, w3 b' hb', Bool.true_or]))⟩
theorem t_markIntSS {v v' : V} {fp : List (Nat × List V)} {rows : List (List Int)} {k : Int} (ht : Tr [v] [v'] fp) (hf : flat v) (hff : ∀ q ∈ fp, flatL q.2) (hv : LII v' rows) (hn : Nd2 fp) (hm : ∀ p ∈ fp, M p.1 = some p.2) (hl : rows.length ≤ 1048576) (hl2 : ∀ ts ∈ rows, ts.length ≤ 1048576) (hk : 0 ≤ k) (hk2 : k ≤ 8900000000000000000) :
    VCall Try.prog n_laws_markIntSS [v, .sc (.int .i64 k)] M (fun r M' => r = .sc (.int .i64 (k + offN rows rows.length)) ∧ HdS M' v rows k ∧ ∀ q, inF fp q = false → M' q = M q) :=
  (t_markIntSS2 ht hf hff hv hn hm hl hl2 hk hk2).mono fun r M' ⟨h1, h2, h3⟩ => ⟨h1, h2 M' fun _ _ => rfl, h3⟩
end Go.M2

namespace Go.M2
theorem sep2 {M M' : MH} {f g : List (Nat × List V)} (_ : ∀ p ∈ f, M' p.1 = some p.2) (hf : ∀ p ∈ f, M p.1 = some p.2) (hg : ∀ p ∈ g, M p.1 = none) {p : Nat × List V} (hp : p ∈ g) : inF f p.1 = false := by
  cases hc : inF f p.1 with
  | false => rfl
  | true =>
    obtain ⟨l, hl⟩ := inF_iff.1 hc
    have e1 := hf _ hl
    have e2 := hg p hp
    simp only at e1
    rw [e1] at e2; cases e2
theorem oldF {M : MH} {f : List (Nat × List V)} {q : Nat} {l : List V} (hf : ∀ p ∈ f, M p.1 = none) (h : M q = some l) : inF f q = false := by
  cases hc : inF f q with
  | false => rfl
  | true =>
    obtain ⟨l2, hl⟩ := inF_iff.1 hc
    have e1 := hf _ hl
    simp only at e1
    rw [e1] at h; cases h
theorem newF {M : MH} {f : List (Nat × List V)} {b : Nat} (hf : ∀ p ∈ f, M p.1 = some p.2) (h : M b = none) : inF f b = false := by
  cases hc : inF f b with
  | false => rfl
  | true =>
    obtain ⟨l2, hl⟩ := inF_iff.1 hc
    have e1 := hf _ hl
    simp only at e1
    rw [h] at e1; cases e1
end Go.M2

namespace Go.M2
open Go.Proofs
variable {M : MH}
noncomputable def rbP (s : SysS) (x y : List Int) (k : Nat) : Bool := match s.rules[k]? with
  | some r => decide (useR s.vars r x = some y)
  | none => false
noncomputable def rbF (s : SysS) (x y : List Int) : Int := match (List.range s.rules.length).find? (rbP s x y) with
  | some k => k
  | none => -1
theorem rbF_at {s : SysS} {x y : List Int} {i : Nat} (hi : i < s.rules.length) (h : useR s.vars s.rules[i] x = some y) (hj : ∀ j (h : j < s.rules.length), j < i → useR s.vars s.rules[j] x ≠ some y) : rbF s x y = i := by
  unfold rbF
  have : (List.range s.rules.length).find? (rbP s x y) = some i := by
    rw [List.find?_range_eq_some]
    refine ⟨by simp [rbP, hi, h], by simpa using hi, fun j hj2 => ?_⟩
    have hjl : j < s.rules.length := by omega
    simp [rbP, hjl, hj j hjl hj2]
  rw [this]
theorem rbF_none {s : SysS} {x y : List Int} (hj : ∀ j (h : j < s.rules.length), useR s.vars s.rules[j] x ≠ some y) : rbF s x y = -1 := by
  unfold rbF
  have : (List.range s.rules.length).find? (rbP s x y) = none := by
    rw [List.find?_range_eq_none]
    intro j hj2
    simp [rbP, hj2, hj j hj2]
  rw [this]
theorem t_l3Between {v w x : V} {s : SysS} {st st2 : List Int} (hv : isSys s v) (hs : SysOk s) (hw : LI w st) (hin : StIn s.vars st) (hx : LI x st2) :
    VCall Try.prog n_spec_l3Between [v, w, x] M (fun r M' => M = M' ∧ r = .sc (.int .i64 (rbF s st st2))) := by
  refine VCall.pure fun R hR => v_spec_l3Between rfl ?_
  have hv0 := hv
  obtain ⟨a, b, rfl, ha, hb⟩ := hv
  have h8 := hs.r8
  have h1 := hs.v1
  have h5 := hs.v5
  simp (maxSteps := 2000000) (disch := first | omega | assumption | exact idP rfl | exact idP (bL rfl)) only [go_sem, reduceIte, Nat.reduceEqDiff]
  intro bk hbk
  refine loop_k (fun e M' => M' = M.set bk [a, b] ∧ ∃ i : Nat, i ≤ s.rules.length ∧ e 1 = w ∧ e 2 = x ∧ e 3 = .sc (.ptr (some (bk, 0))) ∧ e 7 = .sc (.int .i64 i) ∧ ∀ j (h : j < s.rules.length), j < i → useR s.vars s.rules[j] st ≠ some st2) (fun e _ => ctrV s.rules.length (e 7)) ?_ ?_
  · exact ⟨rfl, 0, by omega, by simp (maxSteps := 2000000) (disch := first | omega | assumption | exact idP rfl | exact idP (bL rfl)) only [go_sem, reduceIte, Nat.reduceEqDiff], by simp (maxSteps := 2000000) (disch := first | omega | assumption | exact idP rfl | exact idP (bL rfl)) only [go_sem, reduceIte, Nat.reduceEqDiff], by simp (maxSteps := 2000000) (disch := first | omega | assumption | exact idP rfl | exact idP (bL rfl)) only [go_sem, reduceIte, Nat.reduceEqDiff], by simp (maxSteps := 2000000) (disch := first | omega | assumption | exact idP rfl | exact idP (bL rfl)) only [go_sem, reduceIte, Nat.reduceEqDiff]; rfl, fun j _ h => by omega⟩
  · rintro e _ ⟨rfl, i, hi, e1, e2, e3, e7, hj⟩ K hK
    have hm : (M.set bk [a, b]) bk = some [a, b] := set_same
    simp (maxSteps := 2000000) (disch := first | omega | assumption | exact idP rfl | exact idP (bL rfl)) only [go_sem, reduceIte, Nat.reduceEqDiff, e1, e2, e3, e7, hm, hb.len]
    refine cond_dec (fun h => ?_) (fun h => ?_)
    · have hi' : i < s.rules.length := by omega
      have next : useR s.vars s.rules[i] st ≠ some st2 → ∀ j (h : j < s.rules.length), j < i + 1 → useR s.vars s.rules[j] st ≠ some st2 := fun hk j q1 q2 => by
        by_cases e : j = i
        · subst e; exact hk
        · exact hj j q1 (by omega)
      simp (maxSteps := 2000000) (disch := first | omega | assumption | exact idP rfl | exact idP (bL rfl)) only [go_sem, reduceIte, Nat.reduceEqDiff, e1, e2, e3, e7, hm]
      refine (t_l2Use hv0 hs hw hin hi').mono ?_
      rintro r _ ⟨rfl, hr⟩
      cases hu : useR s.vars s.rules[i] st with
      | none =>
        rw [hu] at hr next
        simp only [lRes] at hr
        subst hr
        simp (maxSteps := 2000000) (disch := first | omega | assumption | exact idP rfl | exact idP (bL rfl)) only [go_sem, reduceIte, Nat.reduceEqDiff, e1, e2, e3, e7]
        exact hK _ _ ⟨rfl, i + 1, by omega, by simp (maxSteps := 2000000) (disch := first | omega | assumption | exact idP rfl | exact idP (bL rfl)) only [go_sem, reduceIte, Nat.reduceEqDiff, e1], by simp (maxSteps := 2000000) (disch := first | omega | assumption | exact idP rfl | exact idP (bL rfl)) only [go_sem, reduceIte, Nat.reduceEqDiff, e2], by simp (maxSteps := 2000000) (disch := first | omega | assumption | exact idP rfl | exact idP (bL rfl)) only [go_sem, reduceIte, Nat.reduceEqDiff, e3], by simp (maxSteps := 2000000) (disch := first | omega | assumption | exact idP rfl | exact idP (bL rfl)) only [go_sem, reduceIte, Nat.reduceEqDiff]; rfl, next (by simp)⟩ (by simp (maxSteps := 2000000) (disch := first | omega | assumption | exact idP rfl | exact idP (bL rfl)) only [go_sem, reduceIte, Nat.reduceEqDiff, ctrV_int, e7]; omega)
      | some y =>
        rw [hu] at hr next
        have hr : LI r y := hr
        have hyl : y.length = s.vars.length := (useR_in hu).1
        have hpos : decide ((0 : Int) < (y.length : Int)) = true := by simp; omega
        simp (maxSteps := 2000000) (disch := first | omega | assumption | exact idP rfl | exact idP (bL rfl)) only [go_sem, reduceIte, Nat.reduceEqDiff, hr.len, hpos, e1, e2, e3, e7]
        refine (t_l2Same hr hx (by omega)).mono ?_
        rintro _ _ ⟨rfl, rfl⟩
        by_cases heq : y = st2
        · have hd : decide (y = st2) = true := by simp [heq]
          simp (maxSteps := 2000000) (disch := first | omega | assumption | exact idP rfl | exact idP (bL rfl)) only [go_sem, reduceIte, Nat.reduceEqDiff, hd, e7]
          exact hR _ _ (by (repeat (first | exact Sub.refl _ | assumption | (refine Sub.set' ?_ (by assumption))))) (by rw [rbF_at hi' (by rw [hu, heq]) hj])
        · have hd : decide (y = st2) = false := by simp [heq]
          simp (maxSteps := 2000000) (disch := first | omega | assumption | exact idP rfl | exact idP (bL rfl)) only [go_sem, reduceIte, Nat.reduceEqDiff, hd, e1, e2, e3, e7]
          exact hK _ _ ⟨rfl, i + 1, by omega, by simp (maxSteps := 2000000) (disch := first | omega | assumption | exact idP rfl | exact idP (bL rfl)) only [go_sem, reduceIte, Nat.reduceEqDiff, e1], by simp (maxSteps := 2000000) (disch := first | omega | assumption | exact idP rfl | exact idP (bL rfl)) only [go_sem, reduceIte, Nat.reduceEqDiff, e2], by simp (maxSteps := 2000000) (disch := first | omega | assumption | exact idP rfl | exact idP (bL rfl)) only [go_sem, reduceIte, Nat.reduceEqDiff, e3], by simp (maxSteps := 2000000) (disch := first | omega | assumption | exact idP rfl | exact idP (bL rfl)) only [go_sem, reduceIte, Nat.reduceEqDiff]; rfl, next (by simpa using heq)⟩ (by simp (maxSteps := 2000000) (disch := first | omega | assumption | exact idP rfl | exact idP (bL rfl)) only [go_sem, reduceIte, Nat.reduceEqDiff, ctrV_int, e7]; omega)
    · obtain rfl : i = s.rules.length := by omega
      simp (maxSteps := 2000000) (disch := first | omega | assumption | exact idP rfl | exact idP (bL rfl)) only [go_sem, reduceIte, Nat.reduceEqDiff]
      exact hR _ _ (by (repeat (first | exact Sub.refl _ | assumption | (refine Sub.set' ?_ (by assumption))))) (by rw [rbF_none fun j h => hj j h h])
theorem t_ruleBetween {v w x : V} {s : SysS} {st st2 : List Int} (hv : isSys s v) (hs : SysOk s) (hw : LI w st) (hin : StIn s.vars st) (hx : LI x st2) (hl : st2.length ≤ 1048576) :
    VCall Try.prog n_impl_ruleBetween [v, w, x] M (fun r M' => M = M' ∧ r = .sc (.int .i64 (rbF s st st2))) := by
  refine VCall.pure fun R hR => v_impl_ruleBetween rfl ?_
  have hv0 := hv
  obtain ⟨a, b, rfl, ha, hb⟩ := hv
  have h8 := hs.r8
  have h1 := hs.v1
  have h5 := hs.v5
  simp (maxSteps := 2000000) (disch := first | omega | assumption | exact idP rfl | exact idP (bL rfl)) only [go_sem, reduceIte, Nat.reduceEqDiff]
  intro bk hbk
  simp (maxSteps := 2000000) (disch := first | omega | assumption | exact idP rfl | exact idP (bL rfl)) only [go_sem, reduceIte, Nat.reduceEqDiff, hb.len]
  refine loop_k (fun e M' => M' = M.set bk [a, b] ∧ ∃ i : Nat, i ≤ s.rules.length ∧ e 1 = w ∧ e 2 = x ∧ e 3 = .sc (.ptr (some (bk, 0))) ∧ e 12 = .sc (.int .i64 s.rules.length) ∧ e 13 = .sc (.int .i64 i) ∧ ∀ j (h : j < s.rules.length), j < i → useR s.vars s.rules[j] st ≠ some st2) (fun e _ => ctrV s.rules.length (e 13)) ?_ ?_
  · exact ⟨rfl, 0, by omega, by simp (maxSteps := 2000000) (disch := first | omega | assumption | exact idP rfl | exact idP (bL rfl)) only [go_sem, reduceIte, Nat.reduceEqDiff], by simp (maxSteps := 2000000) (disch := first | omega | assumption | exact idP rfl | exact idP (bL rfl)) only [go_sem, reduceIte, Nat.reduceEqDiff], by simp (maxSteps := 2000000) (disch := first | omega | assumption | exact idP rfl | exact idP (bL rfl)) only [go_sem, reduceIte, Nat.reduceEqDiff], by simp (maxSteps := 2000000) (disch := first | omega | assumption | exact idP rfl | exact idP (bL rfl)) only [go_sem, reduceIte, Nat.reduceEqDiff], by simp (maxSteps := 2000000) (disch := first | omega | assumption | exact idP rfl | exact idP (bL rfl)) only [go_sem, reduceIte, Nat.reduceEqDiff]; rfl, fun j _ h => by omega⟩
  · rintro e _ ⟨rfl, i, hi, e1, e2, e3, e12, e13, hj⟩ K hK
    have hm : (M.set bk [a, b]) bk = some [a, b] := set_same
    simp (maxSteps := 2000000) (disch := first | omega | assumption | exact idP rfl | exact idP (bL rfl)) only [go_sem, reduceIte, Nat.reduceEqDiff, e1, e2, e3, e12, e13]
    refine cond_dec (fun h => ?_) (fun h => ?_)
    · have hi' : i < s.rules.length := by omega
      have next : useR s.vars s.rules[i] st ≠ some st2 → ∀ j (h : j < s.rules.length), j < i + 1 → useR s.vars s.rules[j] st ≠ some st2 := fun hk j q1 q2 => by
        by_cases e : j = i
        · subst e; exact hk
        · exact hj j q1 (by omega)
      simp (maxSteps := 2000000) (disch := first | omega | assumption | exact idP rfl | exact idP (bL rfl)) only [go_sem, reduceIte, Nat.reduceEqDiff, e1, e2, e3, e12, e13, hm]
      refine (t_use hv0 hs hw hin hi').mono ?_
      rintro r _ ⟨rfl, hr⟩
      cases hu : useR s.vars s.rules[i] st with
      | none =>
        rw [hu] at hr next
        simp only [uRes] at hr
        subst hr
        simp (maxSteps := 2000000) (disch := first | omega | assumption | exact idP rfl | exact idP (bL rfl)) only [go_sem, reduceIte, Nat.reduceEqDiff, e1, e2, e3, e12, e13]
        exact hK _ _ ⟨rfl, i + 1, by omega, by simp (maxSteps := 2000000) (disch := first | omega | assumption | exact idP rfl | exact idP (bL rfl)) only [go_sem, reduceIte, Nat.reduceEqDiff, e1], by simp (maxSteps := 2000000) (disch := first | omega | assumption | exact idP rfl | exact idP (bL rfl)) only [go_sem, reduceIte, Nat.reduceEqDiff, e2], by simp (maxSteps := 2000000) (disch := first | omega | assumption | exact idP rfl | exact idP (bL rfl)) only [go_sem, reduceIte, Nat.reduceEqDiff, e3], by simp (maxSteps := 2000000) (disch := first | omega | assumption | exact idP rfl | exact idP (bL rfl)) only [go_sem, reduceIte, Nat.reduceEqDiff, e12], by simp (maxSteps := 2000000) (disch := first | omega | assumption | exact idP rfl | exact idP (bL rfl)) only [go_sem, reduceIte, Nat.reduceEqDiff]; rfl, next (by simp)⟩ (by simp (maxSteps := 2000000) (disch := first | omega | assumption | exact idP rfl | exact idP (bL rfl)) only [go_sem, reduceIte, Nat.reduceEqDiff, ctrV_int, e13]; omega)
      | some y =>
        rw [hu] at hr next
        obtain ⟨u, rfl, hu1⟩ := hr
        have hyl : y.length = s.vars.length := (useR_in hu).1
        simp (maxSteps := 2000000) (disch := first | omega | assumption | exact idP rfl | exact idP (bL rfl)) only [go_sem, reduceIte, Nat.reduceEqDiff, e1, e2, e3, e12, e13]
        refine (t_Equal hu1 hx (by omega) hl).mono ?_
        rintro _ _ ⟨rfl, rfl⟩
        by_cases heq : y = st2
        · have hd : decide (y = st2) = true := by simp [heq]
          simp (maxSteps := 2000000) (disch := first | omega | assumption | exact idP rfl | exact idP (bL rfl)) only [go_sem, reduceIte, Nat.reduceEqDiff, hd, e13]
          exact hR _ _ (by (repeat (first | exact Sub.refl _ | assumption | (refine Sub.set' ?_ (by assumption))))) (by rw [rbF_at hi' (by rw [hu, heq]) hj])
        · have hd : decide (y = st2) = false := by simp [heq]
          simp (maxSteps := 2000000) (disch := first | omega | assumption | exact idP rfl | exact idP (bL rfl)) only [go_sem, reduceIte, Nat.reduceEqDiff, hd, e1, e2, e3, e12, e13]
          exact hK _ _ ⟨rfl, i + 1, by omega, by simp (maxSteps := 2000000) (disch := first | omega | assumption | exact idP rfl | exact idP (bL rfl)) only [go_sem, reduceIte, Nat.reduceEqDiff, e1], by simp (maxSteps := 2000000) (disch := first | omega | assumption | exact idP rfl | exact idP (bL rfl)) only [go_sem, reduceIte, Nat.reduceEqDiff, e2], by simp (maxSteps := 2000000) (disch := first | omega | assumption | exact idP rfl | exact idP (bL rfl)) only [go_sem, reduceIte, Nat.reduceEqDiff, e3], by simp (maxSteps := 2000000) (disch := first | omega | assumption | exact idP rfl | exact idP (bL rfl)) only [go_sem, reduceIte, Nat.reduceEqDiff, e12], by simp (maxSteps := 2000000) (disch := first | omega | assumption | exact idP rfl | exact idP (bL rfl)) only [go_sem, reduceIte, Nat.reduceEqDiff]; rfl, next (by simpa using heq)⟩ (by simp (maxSteps := 2000000) (disch := first | omega | assumption | exact idP rfl | exact idP (bL rfl)) only [go_sem, reduceIte, Nat.reduceEqDiff, ctrV_int, e13]; omega)
    · obtain rfl : i = s.rules.length := by omega
      simp (maxSteps := 2000000) (disch := first | omega | assumption | exact idP rfl | exact idP (bL rfl)) only [go_sem, reduceIte, Nat.reduceEqDiff]
      exact hR _ _ (by (repeat (first | exact Sub.refl _ | assumption | (refine Sub.set' ?_ (by assumption))))) (by rw [rbF_none fun j h => hj j h h])
theorem t_RuleBetween {v w x : V} {s : SysS} {st st2 : List Int} (hv : isSys s v) (hs : SysOk s) (hz : SysSz s) (hw : LI w st) (hin : StIn s.vars st) (hx : LI x st2) (hl : st2.length ≤ 1048576) :
    VCall Try.prog n_impl_RuleBetween [v, w, x] M (fun r M' => M = M' ∧ r = .sc (.int .i64 (if inB s.vars st2 = true then rbF s st st2 else -1))) := by
  refine VCall.pure fun R hR => v_impl_RuleBetween rfl ?_
  have hv0 := hv
  obtain ⟨a, b, rfl, ha, hb⟩ := hv
  have hi : inS s st = true := inS_iff.2 ⟨hs, hin⟩
  simp (maxSteps := 2000000) (disch := first | omega | assumption | exact idP rfl | exact idP (bL rfl)) only [go_sem, reduceIte, Nat.reduceEqDiff]
  intro bk hbk
  refine (t_impInRange hv0 hz hw).mono ?_
  rintro _ _ ⟨rfl, rfl⟩
  simp (maxSteps := 2000000) (disch := first | omega | assumption | exact idP rfl | exact idP (bL rfl)) only [go_sem, reduceIte, Nat.reduceEqDiff, hi]
  refine (t_inRange ha hx hs.v5).mono ?_
  rintro _ _ ⟨rfl, rfl⟩
  cases h2 : inB s.vars st2 with
  | false =>
    simp (maxSteps := 2000000) (disch := first | omega | assumption | exact idP rfl | exact idP (bL rfl)) only [go_sem, reduceIte, Nat.reduceEqDiff]
    exact hR _ _ (by (repeat (first | exact Sub.refl _ | assumption | (refine Sub.set' ?_ (by assumption))))) (by rw [h2]; rfl)
  | true =>
    simp (maxSteps := 2000000) (disch := first | omega | assumption | exact idP rfl | exact idP (bL rfl)) only [go_sem, reduceIte, Nat.reduceEqDiff]
    refine (t_ruleBetween hv0 hs hw hin hx hl).mono ?_
    rintro _ _ ⟨rfl, rfl⟩
    simp (maxSteps := 2000000) (disch := first | omega | assumption | exact idP rfl | exact idP (bL rfl)) only [go_sem, reduceIte, Nat.reduceEqDiff]
    exact hR _ _ (by (repeat (first | exact Sub.refl _ | assumption | (refine Sub.set' ?_ (by assumption))))) (by rw [h2]; rfl)
theorem d_cloneInt {v : V} {xs : List Int} (hv : RdI M v xs) (hl : xs.length ≤ 1048576) : VCall Try.prog n_impl_clone_int [v] M (fun r M' => Dn M M' r (fun u => LI u xs)) := by
  obtain ⟨v', g, t, nd, hat, hl2⟩ := hv
  exact VCall.lendD t hat nd fun M' => (t_cloneInt hl2 hl).mono fun r M'' h => h.dnI
theorem t_lists {v : V} {xs : List (List Int)} (hv : LII v xs) (hl : xs.length ≤ 1048576) (hl2 : ∀ y ∈ xs, y.length ≤ 1048576) : VCall Try.prog n_impl_lists [v] M (fun r M' => RT M M' r xs) := by
  refine VCall.plain fun R hR => v_impl_lists rfl ?_
  simp (maxSteps := 2000000) (disch := first | omega | assumption | exact idP rfl | exact idP (bL rfl)) only [go_sem, reduceIte, Nat.reduceEqDiff, hv.len]
  refine loop_k (fun e M' => ∃ i : Nat, i ≤ xs.length ∧ e 6 = v ∧ e 7 = .sc (.int .i64 xs.length) ∧ e 8 = .sc (.int .i64 i) ∧ RT M M' (e 3) (xs.take i)) (fun e _ => ctrV xs.length (e 8)) ?_ ?_
  · exact ⟨0, by omega, by simp (maxSteps := 2000000) (disch := first | omega | assumption | exact idP rfl | exact idP (bL rfl)) only [go_sem, reduceIte, Nat.reduceEqDiff], by simp (maxSteps := 2000000) (disch := first | omega | assumption | exact idP rfl | exact idP (bL rfl)) only [go_sem, reduceIte, Nat.reduceEqDiff], by simp (maxSteps := 2000000) (disch := first | omega | assumption | exact idP rfl | exact idP (bL rfl)) only [go_sem, reduceIte, Nat.reduceEqDiff]; rfl, by simp (maxSteps := 2000000) (disch := first | omega | assumption | exact idP rfl | exact idP (bL rfl)) only [go_sem, reduceIte, Nat.reduceEqDiff]; exact .nil (Sub.refl _)⟩
  · rintro e M1 ⟨i, hi, e6, e7, e8, hg⟩ K hK
    simp (maxSteps := 2000000) (disch := first | omega | assumption | exact idP rfl | exact idP (bL rfl)) only [go_sem, reduceIte, Nat.reduceEqDiff, e6, e7, e8]
    refine cond_dec (fun h => ?_) (fun h => ?_)
    · have hi' : i < xs.length := by omega
      simp (maxSteps := 2000000) (disch := first | omega | assumption | exact idP rfl | exact idP (bL rfl)) only [go_sem, reduceIte, Nat.reduceEqDiff, e6, e7, e8, hv.iaddr]
      refine (d_cloneInt (.of (hv.elt hi')) (hl2 _ (List.getElem_mem hi'))).mono ?_
      rintro u M2 hd
      have ho := hd.rdI.one
      have ho1 := ho.1
      have ho2 := ho.2
      simp (maxSteps := 2000000) (disch := first | omega | assumption | exact idP rfl | exact idP (bL rfl)) only [go_sem, reduceIte, Nat.reduceEqDiff, e6, e7, e8, ho1, ho2]
      intro bt hbt
      refine app_rowO hg ho1 hd hbt (by simp; omega) (by omega) ?_
      intro s' M3 us' hg3 _ _
      simp (maxSteps := 2000000) (disch := first | omega | assumption | exact idP rfl | exact idP (bL rfl)) only [go_sem, reduceIte, Nat.reduceEqDiff]
      refine hK _ _ ⟨i + 1, by omega, by simp (maxSteps := 2000000) (disch := first | omega | assumption | exact idP rfl | exact idP (bL rfl)) only [go_sem, reduceIte, Nat.reduceEqDiff, e6], by simp (maxSteps := 2000000) (disch := first | omega | assumption | exact idP rfl | exact idP (bL rfl)) only [go_sem, reduceIte, Nat.reduceEqDiff, e7], by simp (maxSteps := 2000000) (disch := first | omega | assumption | exact idP rfl | exact idP (bL rfl)) only [go_sem, reduceIte, Nat.reduceEqDiff]; rfl, ?_⟩ (by simp (maxSteps := 2000000) (disch := first | omega | assumption | exact idP rfl | exact idP (bL rfl)) only [go_sem, reduceIte, Nat.reduceEqDiff, ctrV_int, e8]; omega)
      simp (maxSteps := 2000000) (disch := first | omega | assumption | exact idP rfl | exact idP (bL rfl)) only [go_sem, reduceIte, Nat.reduceEqDiff]
      rw [take_snoc hi']; exact hg3
    · obtain rfl : i = xs.length := by omega
      rw [List.take_length] at hg
      simp (maxSteps := 2000000) (disch := first | omega | assumption | exact idP rfl | exact idP (bL rfl)) only [go_sem, reduceIte, Nat.reduceEqDiff]
      refine (t_cloneRows hg hl).mono ?_
      rintro r M2 hg2
      simp (maxSteps := 2000000) (disch := first | omega | assumption | exact idP rfl | exact idP (bL rfl)) only [go_sem, reduceIte, Nat.reduceEqDiff]
      exact hR _ _ hg2
def okAt (s : SysS) (sts : List (List Int)) (j : Nat) : Prop := StIn s.vars (sts.getD (j + 1) []) ∧ 0 ≤ rbF s (sts.getD j []) (sts.getD (j + 1) [])
noncomputable def trRules (s : SysS) (sts : List (List Int)) (n : Nat) : List Int := (List.range n).map fun j => rbF s (sts.getD j []) (sts.getD (j + 1) [])
theorem trRules_len {s : SysS} {sts : List (List Int)} {n : Nat} : (trRules s sts n).length = n := by simp [trRules]
theorem trRules_succ {s : SysS} {sts : List (List Int)} {n : Nat} : trRules s sts (n + 1) = trRules s sts n ++ [rbF s (sts.getD n []) (sts.getD (n + 1) [])] := by
  simp [trRules, List.range_succ]
def TrOk (s : SysS) (sts : List (List Int)) : Prop := SysOk s ∧ 1 ≤ sts.length ∧ sts.length ≤ 500 ∧ sts[0]? = some (firstF s) ∧ ∀ j, j + 1 < sts.length → okAt s sts j
open Classical in
noncomputable def traceF (s : SysS) (sts : List (List Int)) : TrS × Bool := if TrOk s sts then (⟨sts, trRules s sts (sts.length - 1)⟩, true) else (⟨[], []⟩, false)
theorem traceF_bad {s : SysS} {sts : List (List Int)} (h : ¬ TrOk s sts) : traceF s sts = (⟨[], []⟩, false) := by unfold traceF; rw [if_neg h]
theorem traceF_ok {s : SysS} {sts : List (List Int)} (h : TrOk s sts) : traceF s sts = (⟨sts, trRules s sts (sts.length - 1)⟩, true) := by unfold traceF; rw [if_pos h]
def trRes (r : V) (q : TrS × Bool) : Prop := ∃ u, r = .tup [u, .sc (.bool q.2)] ∧ isTr q.1 u
theorem tr_state {s : SysS} {sts : List (List Int)} {i : Nat} (hs : SysOk s) (h0 : sts[0]? = some (firstF s)) (hj : ∀ j, j + 1 < i → okAt s sts j) (h1 : 1 ≤ i) (hi : i ≤ sts.length) : StIn s.vars (sts[i - 1]'(by omega)) := by
  by_cases e : i = 1
  · subst e
    have : sts[0]'(by omega) = firstF s := by rw [List.getElem?_eq_getElem (by omega)] at h0; exact Option.some.inj h0
    simp only [Nat.sub_self, this]
    exact first_in hs
  · have h2 := (hj (i - 2) (by omega)).1
    rw [show i - 2 + 1 = i - 1 by omega, getD_eq (by omega)] at h2
    exact h2
end Go.M2

namespace Go.M2
open Go.Proofs
variable {M : MH}
theorem nilTr {M' : MH} (h : Sub M M') : Dn M M' (.tup [.agg [.sc (.sl none 0 0 true 0), .sc (.sl none 0 0 true 0)], .sc (.bool false)]) (fun r' => trRes r' (⟨[], []⟩, false)) :=
  ((RT.nil h).dn.agg2 (RT.nil (Sub.refl _)).dn).mk2 (by simp [flat]) fun u' ⟨x', y', h1, h2, h3⟩ => ⟨u', rfl, x', y', h1, h2, by
    rcases h3 with ⟨_, k, rfl⟩ | ⟨A, c, ex, k, xs, rfl, h4, h5⟩
    · exact .nil
    · exact .inr ⟨A, c, ex, k, xs, rfl, h4, fun i hi => absurd hi (by simp)⟩⟩
theorem o_impTraceOf {v w : V} {s : SysS} {sts : List (List Int)} (hv : isSys s v) (hz : SysSz s) (hw : LII w sts) (hl : sts.length ≤ 1048576) (hl2 : ∀ y ∈ sts, y.length ≤ 1048576) :
    VCall Try.prog n_impl_TraceOf [v, w] M (fun r M' => Dn M M' r (fun r' => trRes r' (traceF s sts))) := by
  refine VCall.plain fun R hR => v_impl_TraceOf rfl ?_
  have hv0 := hv
  obtain ⟨a, b, rfl, ha, hb⟩ := hv
  have nope : ∀ M', Sub M M' → ¬ TrOk s sts → R (.tup [.agg [.sc (.sl none 0 0 true 0), .sc (.sl none 0 0 true 0)], .sc (.bool false)]) M' := fun M' h1 h2 => hR _ _ (by rw [traceF_bad h2]; exact nilTr h1)
  simp (maxSteps := 2000000) (disch := first | omega | assumption | exact idP rfl | exact idP (bL rfl)) only [go_sem, reduceIte, Nat.reduceEqDiff]
  intro bk hbk b4 hb4
  have n4 := (fresh_set hb4).1
  have hM4 : M b4 = none := (fresh_set hb4).2
  have hbase : Sub M ((M.set bk [a, b]).set b4 [.sc (.sl none 0 0 true 0), .sc (.sl none 0 0 true 0)]) := by (repeat (first | exact Sub.refl _ | assumption | (refine Sub.set' ?_ (by assumption))))
  have qk : ((M.set bk [a, b]).set b4 [.sc (.sl none 0 0 true 0), .sc (.sl none 0 0 true 0)]) bk = some [a, b] := by rw [set_ne (Ne.symm n4)]; exact set_same
  have q4 : ((M.set bk [a, b]).set b4 [.sc (.sl none 0 0 true 0), .sc (.sl none 0 0 true 0)]) b4 = some [.sc (.sl none 0 0 true 0), .sc (.sl none 0 0 true 0)] := set_same
  have hMk : Sub (M.set bk [a, b]) ((M.set bk [a, b]).set b4 [.sc (.sl none 0 0 true 0), .sc (.sl none 0 0 true 0)]) := (Sub.refl _).set' hb4
  have hMk0 : Sub M (M.set bk [a, b]) := by (repeat (first | exact Sub.refl _ | assumption | (refine Sub.set' ?_ (by assumption))))
  generalize hMb : (M.set bk [a, b]).set b4 [.sc (.sl none 0 0 true 0), .sc (.sl none 0 0 true 0)] = Mb at *
  have hkb4 : (M.set bk [a, b]) b4 = none := hb4
  have set4 : ∀ M' l, Sub Mb M' → Sub M (M'.set b4 l) := fun M' l h => (hbase.trans h).set hM4
  simp (maxSteps := 2000000) (disch := first | omega | assumption | exact idP rfl | exact idP (bL rfl)) only [go_sem, reduceIte, Nat.reduceEqDiff, qk]
  refine (t_impSystemValid hv0 hz).mono ?_
  rintro _ _ ⟨rfl, rfl⟩
  cases h1 : sysB s with
  | false =>
    simp (maxSteps := 2000000) (disch := first | omega | assumption | exact idP rfl | exact idP (bL rfl)) only [go_sem, reduceIte, Nat.reduceEqDiff, q4]
    exact nope _ (set4 _ _ (Sub.refl _)) fun h => by rw [(sysB_iff s).2 h.1] at h1; cases h1
  | true =>
  have hs := (sysB_iff s).1 h1
  simp (maxSteps := 2000000) (disch := first | omega | assumption | exact idP rfl | exact idP (bL rfl)) only [go_sem, reduceIte, Nat.reduceEqDiff, hw.len]
  refine t_in.mono ?_
  rintro _ _ ⟨rfl, rfl⟩
  by_cases hln : (1 : Int) ≤ (sts.length : Int) ∧ (sts.length : Int) ≤ 500
  case neg =>
    have hd : decide ((1 : Int) ≤ (sts.length : Int) ∧ (sts.length : Int) ≤ 500) = false := by simpa using hln
    simp (maxSteps := 2000000) (disch := first | omega | assumption | exact idP rfl | exact idP (bL rfl)) only [go_sem, reduceIte, Nat.reduceEqDiff, hd, q4]
    exact nope _ (set4 _ _ (Sub.refl _)) fun h => hln ⟨by have := h.2.1; omega, by have := h.2.2.1; omega⟩
  have hd : decide ((1 : Int) ≤ (sts.length : Int) ∧ (sts.length : Int) ≤ 500) = true := by simp [hln]
  have hl0 : 0 < sts.length := by omega
  have hia0 := hw.iaddr (k := .i64) (a := 0) (by omega) (by omega)
  have z0 : (0 : Int).toNat = 0 := rfl
  rw [z0] at hia0
  simp (maxSteps := 2000000) (disch := first | omega | assumption | exact idP rfl | exact idP (bL rfl)) only [go_sem, reduceIte, Nat.reduceEqDiff, hd, hia0, qk]
  refine (t_first hv0 hs).mono ?_
  rintro f _ ⟨rfl, hf⟩
  have hfl : (firstF s).length ≤ 1048576 := by have := hs.v5; simp [firstF]; omega
  simp (maxSteps := 2000000) (disch := first | omega | assumption | exact idP rfl | exact idP (bL rfl)) only [go_sem, reduceIte, Nat.reduceEqDiff, hia0]
  refine (t_Equal (hw.elt hl0) hf (hl2 _ (List.getElem_mem hl0)) hfl).mono ?_
  rintro _ _ ⟨rfl, rfl⟩
  by_cases hf0 : sts[0] = firstF s
  case neg =>
    have hd2 : decide (sts[0] = firstF s) = false := by simpa using hf0
    simp (maxSteps := 2000000) (disch := first | omega | assumption | exact idP rfl | exact idP (bL rfl)) only [go_sem, reduceIte, Nat.reduceEqDiff, hd2, q4]
    exact nope _ (set4 _ _ (Sub.refl _)) fun h => hf0 (by have := h.2.2.2.1; rw [List.getElem?_eq_getElem hl0] at this; exact Option.some.inj this)
  have hd2 : decide (sts[0] = firstF s) = true := by simpa using hf0
  have hf0' : sts[0]? = some (firstF s) := by rw [List.getElem?_eq_getElem hl0, hf0]
  simp (maxSteps := 2000000) (disch := first | omega | assumption | exact idP rfl | exact idP (bL rfl)) only [go_sem, reduceIte, Nat.reduceEqDiff, hd2]
  refine (t_lists hw hl hl2).mono ?_
  rintro ul M3 hul
  have ho := hul.one
  have ho1 := ho.1
  have ho2 := ho.2
  simp (maxSteps := 2000000) (disch := first | omega | assumption | exact idP rfl | exact idP (bL rfl)) only [go_sem, reduceIte, Nat.reduceEqDiff, ho1, ho2]
  intro b6 hb6
  have htb := TB.box hul hb6
  refine loop_k (fun e M' => ∃ (i : Nat) (ur : V), 1 ≤ i ∧ i ≤ sts.length ∧ e 1 = w ∧ e 2 = .sc (.ptr (some (bk, 0))) ∧ e 4 = .sc (.ptr (some (b4, 0))) ∧ e 6 = .sc (.ptr (some (b6, 0))) ∧ e 7 = .sc (.int .i64 i) ∧ TB Mb M' b6 sts (trRules s sts (i - 1)) ul ur ∧ ∀ j, j + 1 < i → okAt s sts j) (fun e _ => ctrV sts.length (e 7)) ?_ ?_
  · exact ⟨1, _, by omega, by omega, by simp (maxSteps := 2000000) (disch := first | omega | assumption | exact idP rfl | exact idP (bL rfl)) only [go_sem, reduceIte, Nat.reduceEqDiff], by simp (maxSteps := 2000000) (disch := first | omega | assumption | exact idP rfl | exact idP (bL rfl)) only [go_sem, reduceIte, Nat.reduceEqDiff], by simp (maxSteps := 2000000) (disch := first | omega | assumption | exact idP rfl | exact idP (bL rfl)) only [go_sem, reduceIte, Nat.reduceEqDiff], by simp (maxSteps := 2000000) (disch := first | omega | assumption | exact idP rfl | exact idP (bL rfl)) only [go_sem, reduceIte, Nat.reduceEqDiff], by simp (maxSteps := 2000000) (disch := first | omega | assumption | exact idP rfl | exact idP (bL rfl)) only [go_sem, reduceIte, Nat.reduceEqDiff]; rfl, htb, fun j h => by omega⟩
  · rintro e M4 ⟨i, ur, hi1, hi, e1, e2, e4, e6, e7, htb, hj⟩ K hK
    have hk4 : M4 bk = some [a, b] := htb.sub bk _ qk
    have h44 : M4 b4 = some [.sc (.sl none 0 0 true 0), .sc (.sl none 0 0 true 0)] := htb.sub b4 _ q4
    have h46 := htb.at6
    simp (maxSteps := 2000000) (disch := first | omega | assumption | exact idP rfl | exact idP (bL rfl)) only [go_sem, reduceIte, Nat.reduceEqDiff, e1, e2, e4, e6, e7, hw.len]
    refine cond_dec (fun h => ?_) (fun h => ?_)
    · have hi' : i < sts.length := by omega
      have hip : i - 1 < sts.length := by omega
      have et : (i : Int) - 1 = ((i - 1 : Nat) : Int) := by omega
      have hst := tr_state hs hf0' hj hi1 hi
      have hg1 : sts.getD (i - 1) [] = sts[i - 1] := getD_eq hip
      have hg2 : sts.getD (i - 1 + 1) [] = sts[i] := by rw [show i - 1 + 1 = i by omega]; exact getD_eq hi'
      simp (maxSteps := 2000000) (disch := first | omega | assumption | exact idP rfl | exact idP (bL rfl)) only [go_sem, reduceIte, Nat.reduceEqDiff, e1, e2, e4, e6, e7, hk4, et, hw.iaddr]
      refine (t_RuleBetween hv0 hs hz (hw.elt hip) hst (hw.elt hi') (hl2 _ (List.getElem_mem hi'))).mono ?_
      rintro _ _ ⟨rfl, rfl⟩
      have bad : ¬ okAt s sts (i - 1) → ¬ TrOk s sts := fun hn ht => hn (ht.2.2.2.2 (i - 1) (by omega))
      cases hin2 : inB s.vars sts[i] with
      | false =>
        have hc : (if (false = true) then rbF s sts[i - 1] sts[i] else -1) = -1 := by simp
        have hm1 : decide ((-1 : Int) < 0) = true := rfl
        simp (maxSteps := 2000000) (disch := first | omega | assumption | exact idP rfl | exact idP (bL rfl)) only [go_sem, reduceIte, Nat.reduceEqDiff, hc, hm1, e4, h44]
        refine nope _ (set4 _ _ htb.sub) (bad fun hk => ?_)
        have := hk.1
        rw [hg2, ← inB_iff, hin2] at this; cases this
      | true =>
        have hst2 := (inB_iff _ _).1 hin2
        have hc : (if (true = true) then rbF s sts[i - 1] sts[i] else -1) = rbF s sts[i - 1] sts[i] := by simp
        simp (maxSteps := 2000000) (disch := first | omega | assumption | exact idP rfl | exact idP (bL rfl)) only [go_sem, reduceIte, Nat.reduceEqDiff, hc]
        refine cond_dec (fun hneg => ?_) (fun hneg => ?_)
        · simp (maxSteps := 2000000) (disch := first | omega | assumption | exact idP rfl | exact idP (bL rfl)) only [go_sem, reduceIte, Nat.reduceEqDiff, e4, h44]
          refine nope _ (set4 _ _ htb.sub) (bad fun hk => ?_)
          have := hk.2
          rw [hg1, hg2] at this; omega
        · have hnn : 0 ≤ rbF s sts[i - 1] sts[i] := by omega
          have hrl : (trRules s sts (i - 1)).length = i - 1 := trRules_len
          simp (maxSteps := 2000000) (disch := first | omega | assumption | exact idP rfl | exact idP (bL rfl)) only [go_sem, reduceIte, Nat.reduceEqDiff, e1, e2, e4, e6, e7, h46]
          intro bt hbt
          refine htb.addR hbt (by omega) (by omega) ?_
          intro s' M5 h56 hos htb2
          have hos1 := hos.1
          have hos2 := hos.2
          simp (maxSteps := 2000000) (disch := first | omega | assumption | exact idP rfl | exact idP (bL rfl)) only [go_sem, reduceIte, Nat.reduceEqDiff, h56, hos1, hos2]
          refine hK _ _ ⟨i + 1, s', by omega, by omega, by simp (maxSteps := 2000000) (disch := first | omega | assumption | exact idP rfl | exact idP (bL rfl)) only [go_sem, reduceIte, Nat.reduceEqDiff, e1], by simp (maxSteps := 2000000) (disch := first | omega | assumption | exact idP rfl | exact idP (bL rfl)) only [go_sem, reduceIte, Nat.reduceEqDiff, e2], by simp (maxSteps := 2000000) (disch := first | omega | assumption | exact idP rfl | exact idP (bL rfl)) only [go_sem, reduceIte, Nat.reduceEqDiff, e4], by simp (maxSteps := 2000000) (disch := first | omega | assumption | exact idP rfl | exact idP (bL rfl)) only [go_sem, reduceIte, Nat.reduceEqDiff, e6], by simp (maxSteps := 2000000) (disch := first | omega | assumption | exact idP rfl | exact idP (bL rfl)) only [go_sem, reduceIte, Nat.reduceEqDiff, e7]; rfl, ?_, fun j hj2 => ?_⟩ (by simp (maxSteps := 2000000) (disch := first | omega | assumption | exact idP rfl | exact idP (bL rfl)) only [go_sem, reduceIte, Nat.reduceEqDiff, ctrV_int, e7]; omega)
          · have e9 : trRules s sts (i + 1 - 1) = trRules s sts (i - 1) ++ [rbF s sts[i - 1] sts[i]] := by
              rw [show i + 1 - 1 = (i - 1) + 1 by omega, trRules_succ, hg1, hg2]
            rw [e9]; exact htb2
          · by_cases e : j = i - 1
            · subst e; exact ⟨by rw [hg2]; exact hst2, by rw [hg1, hg2]; exact hnn⟩
            · exact hj j (by omega)
    · obtain rfl : i = sts.length := by omega
      have hok : TrOk s sts := ⟨hs, by omega, by omega, hf0', hj⟩
      have hrl : (trRules s sts (sts.length - 1)).length = sts.length - 1 := trRules_len
      simp (maxSteps := 2000000) (disch := first | omega | assumption | exact idP rfl | exact idP (bL rfl)) only [go_sem, reduceIte, Nat.reduceEqDiff, e4, e6, h46]
      refine (d_cloneInt htb.rdR (by omega)).mono ?_
      rintro x M5 hx
      have hox := hx.rdI.one
      have hox1 := hox.1
      have hox2 := hox.2
      have h56 : M5 b6 = some [ul, ur] := hx.sub b6 _ h46
      have h54 : M5 b4 = some [.sc (.sl none 0 0 true 0), .sc (.sl none 0 0 true 0)] := hx.sub b4 _ h44
      have n46 : b4 ≠ b6 := fun e => by subst e; rw [htb.new6] at q4; cases q4
      simp (maxSteps := 2000000) (disch := first | omega | assumption | exact idP rfl | exact idP (bL rfl)) only [go_sem, reduceIte, Nat.reduceEqDiff, e4, e6, h56, h54, hox1, hox2]
      refine hR _ _ ?_
      rw [traceF_ok hok]
      have d := htb.dnS.agg2 hx
      have hsub6 : Sub Mb (Mb.set b6 [ul, ur]) := (Sub.refl _).set' htb.new6
      have d1 := d.setB (l := [ul, x]) (set_same) htb.new6 hsub6
      have d2 := d1.setB (l := [ul, x]) q4 hkb4 hMk
      exact (d2.base hMk0).mk2 (by simp [flat]) fun u' ⟨x', y', h1, h2, h3⟩ => ⟨u', rfl, x', y', h1, h2, h3⟩
end Go.M2

namespace Go.M2
open Go.Proofs
variable {M : MH}
theorem d_l3Copy {v : V} {xs : List Int} (hv : LI v xs) (hl : xs.length ≤ 1048576) : VCall Try.prog n_spec_l3Copy [v] M (fun r M' => Dn M M' r (fun u => LI u xs)) := (t_l3Copy hv hl).mono fun r M' h => h.dnI
theorem take_one' {α : Type} {l : List α} {x : α} (h : l[0]? = some x) : l.take 1 = [x] := by
  cases l with
  | nil => cases h
  | cons y t => simp at h; simp [h]
theorem o_TraceOf {v w : V} {s : SysS} {sts : List (List Int)} (hv : isSys s v) (hw : LII w sts) (hl : sts.length ≤ 1048576) (hl2 : ∀ y ∈ sts, y.length ≤ 1048576) :
    VCall Try.prog n_spec_TraceOf [v, w] M (fun r M' => Dn M M' r (fun r' => trRes r' (traceF s sts))) := by
  refine VCall.plain fun R hR => v_spec_TraceOf rfl ?_
  have hv0 := hv
  obtain ⟨a, b, rfl, ha, hb⟩ := hv
  have nope : ∀ M', Sub M M' → ¬ TrOk s sts → R (.tup [.agg [.sc (.sl none 0 0 true 0), .sc (.sl none 0 0 true 0)], .sc (.bool false)]) M' := fun M' h1 h2 => hR _ _ (by rw [traceF_bad h2]; exact nilTr h1)
  simp (maxSteps := 2000000) (disch := first | omega | assumption | exact idP rfl | exact idP (bL rfl)) only [go_sem, reduceIte, Nat.reduceEqDiff]
  intro bk hbk b4 hb4
  have n4 := (fresh_set hb4).1
  have hM4 : M b4 = none := (fresh_set hb4).2
  have hbase : Sub M ((M.set bk [a, b]).set b4 [.sc (.sl none 0 0 true 0), .sc (.sl none 0 0 true 0)]) := by (repeat (first | exact Sub.refl _ | assumption | (refine Sub.set' ?_ (by assumption))))
  have qk : ((M.set bk [a, b]).set b4 [.sc (.sl none 0 0 true 0), .sc (.sl none 0 0 true 0)]) bk = some [a, b] := by rw [set_ne (Ne.symm n4)]; exact set_same
  have q4 : ((M.set bk [a, b]).set b4 [.sc (.sl none 0 0 true 0), .sc (.sl none 0 0 true 0)]) b4 = some [.sc (.sl none 0 0 true 0), .sc (.sl none 0 0 true 0)] := set_same
  have hMk : Sub (M.set bk [a, b]) ((M.set bk [a, b]).set b4 [.sc (.sl none 0 0 true 0), .sc (.sl none 0 0 true 0)]) := (Sub.refl _).set' hb4
  have hMk0 : Sub M (M.set bk [a, b]) := by (repeat (first | exact Sub.refl _ | assumption | (refine Sub.set' ?_ (by assumption))))
  generalize hMb : (M.set bk [a, b]).set b4 [.sc (.sl none 0 0 true 0), .sc (.sl none 0 0 true 0)] = Mb at *
  have hkb4 : (M.set bk [a, b]) b4 = none := hb4
  have set4 : ∀ M' l, Sub Mb M' → Sub M (M'.set b4 l) := fun M' l h => (hbase.trans h).set hM4
  simp (maxSteps := 2000000) (disch := first | omega | assumption | exact idP rfl | exact idP (bL rfl)) only [go_sem, reduceIte, Nat.reduceEqDiff, qk]
  refine (t_SystemValidS hv0).mono ?_
  rintro _ _ ⟨rfl, rfl⟩
  cases h1 : sysB s with
  | false =>
    simp (maxSteps := 2000000) (disch := first | omega | assumption | exact idP rfl | exact idP (bL rfl)) only [go_sem, reduceIte, Nat.reduceEqDiff, q4]
    exact nope _ (set4 _ _ (Sub.refl _)) fun h => by rw [(sysB_iff s).2 h.1] at h1; cases h1
  | true =>
  have hs := (sysB_iff s).1 h1
  simp (maxSteps := 2000000) (disch := first | omega | assumption | exact idP rfl | exact idP (bL rfl)) only [go_sem, reduceIte, Nat.reduceEqDiff, hw.len]
  refine t_l1In.mono ?_
  rintro _ _ ⟨rfl, rfl⟩
  by_cases hln : (1 : Int) ≤ (sts.length : Int) ∧ (sts.length : Int) ≤ 500
  case neg =>
    have hd : decide ((1 : Int) ≤ (sts.length : Int) ∧ (sts.length : Int) ≤ 500) = false := by simpa using hln
    simp (maxSteps := 2000000) (disch := first | omega | assumption | exact idP rfl | exact idP (bL rfl)) only [go_sem, reduceIte, Nat.reduceEqDiff, hd, q4]
    exact nope _ (set4 _ _ (Sub.refl _)) fun h => hln ⟨by have := h.2.1; omega, by have := h.2.2.1; omega⟩
  have hd : decide ((1 : Int) ≤ (sts.length : Int) ∧ (sts.length : Int) ≤ 500) = true := by simp [hln]
  have hl0 : 0 < sts.length := by omega
  have hia0 := hw.iaddr (k := .i64) (a := 0) (by omega) (by omega)
  have z0 : (0 : Int).toNat = 0 := rfl
  rw [z0] at hia0
  simp (maxSteps := 2000000) (disch := first | omega | assumption | exact idP rfl | exact idP (bL rfl)) only [go_sem, reduceIte, Nat.reduceEqDiff, hd, hia0, qk]
  refine (VCall.fr1 (t_FirstState hv0 hs)).mono ?_
  rintro f _ ⟨rfl, hf⟩
  simp (maxSteps := 2000000) (disch := first | omega | assumption | exact idP rfl | exact idP (bL rfl)) only [go_sem, reduceIte, Nat.reduceEqDiff, hia0]
  refine (t_l2Same (hw.elt hl0) hf.li (hl2 _ (List.getElem_mem hl0))).mono ?_
  rintro _ _ ⟨rfl, rfl⟩
  by_cases hf0 : sts[0] = firstF s
  case neg =>
    have hd2 : decide (sts[0] = firstF s) = false := by simpa using hf0
    simp (maxSteps := 2000000) (disch := first | omega | assumption | exact idP rfl | exact idP (bL rfl)) only [go_sem, reduceIte, Nat.reduceEqDiff, hd2, q4]
    exact nope _ (set4 _ _ (Sub.refl _)) fun h => hf0 (by have := h.2.2.2.1; rw [List.getElem?_eq_getElem hl0] at this; exact Option.some.inj this)
  have hd2 : decide (sts[0] = firstF s) = true := by simpa using hf0
  have hf0' : sts[0]? = some (firstF s) := by rw [List.getElem?_eq_getElem hl0, hf0]
  simp (maxSteps := 2000000) (disch := first | omega | assumption | exact idP rfl | exact idP (bL rfl)) only [go_sem, reduceIte, Nat.reduceEqDiff, hd2, hia0]
  refine (d_l3Copy (hw.elt hl0) (hl2 _ (List.getElem_mem hl0))).mono ?_
  rintro u0 M3 hu0
  have ho := hu0.rdI.one
  have ho1 := ho.1
  have ho2 := ho.2
  simp (maxSteps := 2000000) (disch := first | omega | assumption | exact idP rfl | exact idP (bL rfl)) only [go_sem, reduceIte, Nat.reduceEqDiff, ho1, ho2]
  intro bq hbq
  have hul : RT Mb (M3.set bq [u0]) (.sc (.sl (some (bq, 0)) 1 1 true 1)) (sts.take 1) := by
    obtain ⟨u', g, tg, mg, fu, fg, hl3⟩ := hu0
    rw [take_one' (by rw [List.getElem?_eq_getElem hl0])]
    exact ⟨[u0], [u'], g, M3, Gr.new' (Sub.refl _) hbq rfl, mg, tg, by simp [flatL, fu], fg, by simp [ho1], ⟨rfl, fun i hi => by
      have : i = 0 := by simpa using hi
      subst this; exact ⟨u', rfl, hl3⟩⟩⟩
  intro b6 hb6
  have htb := TB.box hul hb6
  refine loop_k (fun e M' => ∃ (i : Nat) (ul ur : V), 1 ≤ i ∧ i ≤ sts.length ∧ e 1 = w ∧ e 2 = .sc (.ptr (some (bk, 0))) ∧ e 4 = .sc (.ptr (some (b4, 0))) ∧ e 6 = .sc (.ptr (some (b6, 0))) ∧ e 7 = .sc (.int .i64 i) ∧ TB Mb M' b6 (sts.take i) (trRules s sts (i - 1)) ul ur ∧ ∀ j, j + 1 < i → okAt s sts j) (fun e _ => ctrV sts.length (e 7)) ?_ ?_
  · exact ⟨1, _, _, by omega, by omega, by simp (maxSteps := 2000000) (disch := first | omega | assumption | exact idP rfl | exact idP (bL rfl)) only [go_sem, reduceIte, Nat.reduceEqDiff], by simp (maxSteps := 2000000) (disch := first | omega | assumption | exact idP rfl | exact idP (bL rfl)) only [go_sem, reduceIte, Nat.reduceEqDiff], by simp (maxSteps := 2000000) (disch := first | omega | assumption | exact idP rfl | exact idP (bL rfl)) only [go_sem, reduceIte, Nat.reduceEqDiff], by simp (maxSteps := 2000000) (disch := first | omega | assumption | exact idP rfl | exact idP (bL rfl)) only [go_sem, reduceIte, Nat.reduceEqDiff], by simp (maxSteps := 2000000) (disch := first | omega | assumption | exact idP rfl | exact idP (bL rfl)) only [go_sem, reduceIte, Nat.reduceEqDiff]; rfl, htb, fun j h => by omega⟩
  · rintro e M4 ⟨i, ul, ur, hi1, hi, e1, e2, e4, e6, e7, htb, hj⟩ K hK
    have hk4 : M4 bk = some [a, b] := htb.sub bk _ qk
    have h44 : M4 b4 = some [.sc (.sl none 0 0 true 0), .sc (.sl none 0 0 true 0)] := htb.sub b4 _ q4
    have h46 := htb.at6
    simp (maxSteps := 2000000) (disch := first | omega | assumption | exact idP rfl | exact idP (bL rfl)) only [go_sem, reduceIte, Nat.reduceEqDiff, e1, e2, e4, e6, e7, hw.len]
    refine cond_dec (fun h => ?_) (fun h => ?_)
    · have hi' : i < sts.length := by omega
      have hip : i - 1 < sts.length := by omega
      have et : (i : Int) - 1 = ((i - 1 : Nat) : Int) := by omega
      have hst := tr_state hs hf0' hj hi1 hi
      have hg1 : sts.getD (i - 1) [] = sts[i - 1] := getD_eq hip
      have hg2 : sts.getD (i - 1 + 1) [] = sts[i] := by rw [show i - 1 + 1 = i by omega]; exact getD_eq hi'
      have bad : ¬ okAt s sts (i - 1) → ¬ TrOk s sts := fun hn ht => hn (ht.2.2.2.2 (i - 1) (by omega))
      simp (maxSteps := 2000000) (disch := first | omega | assumption | exact idP rfl | exact idP (bL rfl)) only [go_sem, reduceIte, Nat.reduceEqDiff, e1, e2, e4, e6, e7, hk4, hw.iaddr]
      refine (t_l2In ha (hw.elt hi') hs.v5).mono ?_
      rintro _ _ ⟨rfl, rfl⟩
      cases hin2 : inB s.vars sts[i] with
      | false =>
        simp (maxSteps := 2000000) (disch := first | omega | assumption | exact idP rfl | exact idP (bL rfl)) only [go_sem, reduceIte, Nat.reduceEqDiff, e4, h44]
        refine nope _ (set4 _ _ htb.sub) (bad fun hk => ?_)
        have := hk.1
        rw [hg2, ← inB_iff, hin2] at this; cases this
      | true =>
        have hst2 := (inB_iff _ _).1 hin2
        simp (maxSteps := 2000000) (disch := first | omega | assumption | exact idP rfl | exact idP (bL rfl)) only [go_sem, reduceIte, Nat.reduceEqDiff, e1, e2, e4, e6, e7, hk4, et, hw.iaddr]
        refine (t_l3Between hv0 hs (hw.elt hip) hst (hw.elt hi')).mono ?_
        rintro _ _ ⟨rfl, rfl⟩
        simp (maxSteps := 2000000) (disch := first | omega | assumption | exact idP rfl | exact idP (bL rfl)) only [go_sem, reduceIte, Nat.reduceEqDiff]
        refine cond_dec (fun hneg => ?_) (fun hneg => ?_)
        · simp (maxSteps := 2000000) (disch := first | omega | assumption | exact idP rfl | exact idP (bL rfl)) only [go_sem, reduceIte, Nat.reduceEqDiff, e4, h44]
          refine nope _ (set4 _ _ htb.sub) (bad fun hk => ?_)
          have := hk.2
          rw [hg1, hg2] at this; omega
        · have hnn : 0 ≤ rbF s sts[i - 1] sts[i] := by omega
          have hrl : (trRules s sts (i - 1)).length = i - 1 := trRules_len
          simp (maxSteps := 2000000) (disch := first | omega | assumption | exact idP rfl | exact idP (bL rfl)) only [go_sem, reduceIte, Nat.reduceEqDiff, e1, e2, e4, e6, e7, h46, hw.iaddr]
          refine (d_l3Copy (hw.elt hi') (hl2 _ (List.getElem_mem hi'))).mono ?_
          rintro u M5 hu
          have hou := hu.rdI.one
          have hou1 := hou.1
          have hou2 := hou.2
          have h56 : M5 b6 = some [ul, ur] := hu.sub b6 _ h46
          simp (maxSteps := 2000000) (disch := first | omega | assumption | exact idP rfl | exact idP (bL rfl)) only [go_sem, reduceIte, Nat.reduceEqDiff, e1, e2, e4, e6, e7, h56, hou1, hou2]
          intro bt hbt
          refine htb.addS hou1 hu hbt (by simp; omega) (by omega) ?_
          intro s' M6 h66 hos htb2
          have hos1 := hos.1
          have hos2 := hos.2
          have hr1 := htb2.oneR
          have hr11 := hr1.1
          have hr12 := hr1.2
          have h67 := htb2.at6
          simp (maxSteps := 2000000) (disch := first | omega | assumption | exact idP rfl | exact idP (bL rfl)) only [go_sem, reduceIte, Nat.reduceEqDiff, h66, hos1, hos2, hr11, hr12]
          intro bt2 hbt2
          refine htb2.addR hbt2 (by omega) (by omega) ?_
          intro s2 M7 h76 hos3 htb3
          have hos31 := hos3.1
          have hos32 := hos3.2
          simp (maxSteps := 2000000) (disch := first | omega | assumption | exact idP rfl | exact idP (bL rfl)) only [go_sem, reduceIte, Nat.reduceEqDiff, h76, hos31, hos32, hos1, hos2]
          refine hK _ _ ⟨i + 1, s', s2, by omega, by omega, by simp (maxSteps := 2000000) (disch := first | omega | assumption | exact idP rfl | exact idP (bL rfl)) only [go_sem, reduceIte, Nat.reduceEqDiff, e1], by simp (maxSteps := 2000000) (disch := first | omega | assumption | exact idP rfl | exact idP (bL rfl)) only [go_sem, reduceIte, Nat.reduceEqDiff, e2], by simp (maxSteps := 2000000) (disch := first | omega | assumption | exact idP rfl | exact idP (bL rfl)) only [go_sem, reduceIte, Nat.reduceEqDiff, e4], by simp (maxSteps := 2000000) (disch := first | omega | assumption | exact idP rfl | exact idP (bL rfl)) only [go_sem, reduceIte, Nat.reduceEqDiff, e6], by simp (maxSteps := 2000000) (disch := first | omega | assumption | exact idP rfl | exact idP (bL rfl)) only [go_sem, reduceIte, Nat.reduceEqDiff, e7]; rfl, ?_, fun j hj2 => ?_⟩ (by simp (maxSteps := 2000000) (disch := first | omega | assumption | exact idP rfl | exact idP (bL rfl)) only [go_sem, reduceIte, Nat.reduceEqDiff, ctrV_int, e7]; omega)
          · have e9 : trRules s sts (i + 1 - 1) = trRules s sts (i - 1) ++ [rbF s sts[i - 1] sts[i]] := by
              rw [show i + 1 - 1 = (i - 1) + 1 by omega, trRules_succ, hg1, hg2]
            rw [e9, take_snoc hi']; exact htb3
          · by_cases e : j = i - 1
            · subst e; exact ⟨by rw [hg2]; exact hst2, by rw [hg1, hg2]; exact hnn⟩
            · exact hj j (by omega)
    · obtain rfl : i = sts.length := by omega
      have hok : TrOk s sts := ⟨hs, by omega, by omega, hf0', hj⟩
      rw [List.take_length] at htb
      have n46 : b4 ≠ b6 := fun e => by subst e; rw [htb.new6] at q4; cases q4
      have hl1 := htb.oneL
      have hl11 := hl1.1
      have hl12 := hl1.2
      have hr1 := htb.oneR
      have hr11 := hr1.1
      have hr12 := hr1.2
      simp (maxSteps := 2000000) (disch := first | omega | assumption | exact idP rfl | exact idP (bL rfl)) only [go_sem, reduceIte, Nat.reduceEqDiff, e4, e6, h46, h44, hl11, hl12, hr11, hr12]
      refine hR _ _ ?_
      rw [traceF_ok hok]
      have hsub6 : Sub Mb (Mb.set b6 [ul, ur]) := (Sub.refl _).set' htb.new6
      have d2 := (htb.dn.base hsub6).setB (l := [ul, ur]) q4 hkb4 hMk
      exact (d2.base hMk0).mk2 (by simp [flat]) fun u' h => ⟨u', rfl, h⟩
theorem f_TraceOf {v w : V} {s : SysS} {sts : List (List Int)} (hv : isSys s v) (hw : LII w sts) (hl : sts.length ≤ 1048576) (hl2 : ∀ y ∈ sts, y.length ≤ 1048576) :
    VCall Try.prog n_spec_TraceOf [v, w] M (fun r M' => M = M' ∧ trRes r (traceF s sts)) := VCall.frT (o_TraceOf hv hw hl hl2)
end Go.M2

namespace Go.M2
open Go.Proofs
variable {M : MH}
structure TrFit (t : TrS) : Prop where
  l : t.states.length ≤ 1048576
  m : ∀ y ∈ t.states, y.length ≤ 1048576
  r : t.rules.length ≤ 1048576
theorem traceF_fit {s : SysS} {sts : List (List Int)} (hl : sts.length ≤ 1048576) (hm : ∀ y ∈ sts, y.length ≤ 1048576) : TrFit (traceF s sts).1 := by
  unfold traceF
  split
  · exact ⟨hl, hm, by simp [trRules_len]; omega⟩
  · exact ⟨by simp, fun y hy => (by cases hy), by simp⟩
theorem x_eqTrace {v w : V} {t : TrS} (hv : isTr t v) (hw : isTr t w) (hf : TrFit t) : VCall Try.prog n_laws_eqTrace [v, w] M (fun r M' => M = M' ∧ r = .sc (.bool true)) := by
  refine VCall.pure fun R hR => v_laws_eqTrace rfl ?_
  obtain ⟨x, y, rfl, hx, hy⟩ := hv
  obtain ⟨x2, y2, rfl, hx2, hy2⟩ := hw
  simp (maxSteps := 2000000) (disch := first | omega | assumption | exact idP rfl | exact idP (bL rfl)) only [go_sem, reduceIte, Nat.reduceEqDiff]
  intro b2 hb2 b3 hb3
  have n3 := (fresh_set hb3).1
  have q2 : ((M.set b2 [x, y]).set b3 [x2, y2]) b2 = some [x, y] := by rw [set_ne (Ne.symm n3)]; exact set_same
  have q3 : ((M.set b2 [x, y]).set b3 [x2, y2]) b3 = some [x2, y2] := set_same
  simp (maxSteps := 2000000) (disch := first | omega | assumption | exact idP rfl | exact idP (bL rfl)) only [go_sem, reduceIte, Nat.reduceEqDiff, q2, q3]
  refine (x_eqIntSS hx hx2 hf.l hf.m).mono ?_
  rintro _ _ ⟨rfl, rfl⟩
  simp (maxSteps := 2000000) (disch := first | omega | assumption | exact idP rfl | exact idP (bL rfl)) only [go_sem, reduceIte, Nat.reduceEqDiff, q2, q3]
  refine (x_eqIntS hy hy2 hf.r).mono ?_
  rintro _ _ ⟨rfl, rfl⟩
  have ei : decide (t.rules = t.rules) = true := by simp
  simp (maxSteps := 2000000) (disch := first | omega | assumption | exact idP rfl | exact idP (bL rfl)) only [go_sem, reduceIte, Nat.reduceEqDiff, ei]
  exact hR _ _ (by (repeat (first | exact Sub.refl _ | assumption | (refine Sub.set' ?_ (by assumption))))) rfl
theorem l_eqTrace {v v' w : V} {fp : List (Nat × List V)} {t : TrS} (ht : Tr [v] [v'] fp) (hv : isTr t v') (hm : ∀ p ∈ fp, M p.1 = some p.2) (hn : Nd2 fp) (hw : isTr t w) (hf : TrFit t) : VCall Try.prog n_laws_eqTrace [v, w] M (fun r M' => M = M' ∧ r = .sc (.bool true)) :=
  VCall.lendP (tr_fst ht) hm hn flat_bool fun M' => x_eqTrace hv hw hf
theorem Tr.trace {v v' : V} {fp : List (Nat × List V)} {t : TrS} (ht : Tr [v] [v'] fp) (hf : flat v) (hv : isTr t v') : ∃ x y x' y' f g, v = .agg [x, y] ∧ fp = f ++ g ∧ Tr [x] [x'] f ∧ Tr [y] [y'] g ∧ flat x ∧ flat y ∧ LII x' t.states ∧ LI y' t.rules := by
  obtain ⟨x', y', rfl, hx, hy⟩ := hv
  cases ht with
  | keep v h1 =>
    cases h1
    simp only [flat, flatL] at hf
    exact ⟨x', y', x', y', [], [], rfl, rfl, .refl _, .refl _, hf.1, hf.2.1, hx, hy⟩
  | agg h1 h2 =>
    cases h2
    rename_i a fp1
    match a, h1 with
    | [x, y], h1 =>
      obtain ⟨x2, t', f1, f2, e1, rfl, h3, h4⟩ := h1.uncons
      rw [List.cons.injEq] at e1
      obtain ⟨rfl, rfl⟩ := e1
      simp only [flat, flatL] at hf
      exact ⟨x, y, _, _, f1, f2, rfl, by simp, h3, h4, hf.1, hf.2.1, hx, hy⟩
    | [], h1 => exact absurd h1.len (by simp)
    | [x], h1 => exact absurd h1.len (by simp)
    | x :: y :: z :: t, h1 => exact absurd h1.len (by simp)
theorem Tr.traceOne {v v' : V} {fp : List (Nat × List V)} {t : TrS} (ht : Tr [v] [v'] fp) (hf : flat v) (hv : isTr t v') : ∃ x y, v = .agg [x, y] ∧ One x ∧ One y := by
  obtain ⟨x, y, x', y', f, g, rfl, _, h1, h2, _, _, h3, h4⟩ := ht.trace hf hv
  exact ⟨x, y, rfl, h1.one1 h3.one, h2.one1 h4.one⟩
def HdT (M : MH) (v : V) (t : TrS) (k : Int) : Prop := ∃ x y, v = .agg [x, y] ∧ One x ∧ One y ∧ HdS M x t.states k ∧ Hd M y t.rules.length (k + offN t.states t.states.length)
def cntT (t : TrS) : Nat := offN t.states t.states.length + t.rules.length
theorem cntT_le {t : TrS} (hf : TrFit t) : cntT t ≤ 1099512676352 := by
  have := offN_le hf.m t.states.length (Nat.le_refl _)
  have h1 := hf.l
  have h2 := hf.r
  unfold cntT
  have : 1048576 * t.states.length ≤ 1048576 * 1048576 := Nat.mul_le_mul_left _ h1
  omega
theorem HdS.more {M' : MH} {v : V} {rows : List (List Int)} {k : Int} (h : HdS M v rows k) (hs : Sub M M') : HdS M' v rows k := by
  rcases h with h | ⟨b, o, c, ex, kk, cs, rfl, hm, hc⟩
  · exact .inl h
  · refine .inr ⟨b, o, c, ex, kk, cs, rfl, hs _ _ hm, fun i hi => ?_⟩
    obtain ⟨u, h1, h2⟩ := hc i hi
    refine ⟨u, h1, ?_⟩
    rcases h2 with h2 | ⟨b', o', c', ex', kk', l', rfl, hm', hl'⟩
    · exact .inl h2
    · exact .inr ⟨b', o', c', ex', kk', l', rfl, hs _ _ hm', hl'⟩
theorem Hd.more {M' : MH} {v : V} {n : Nat} {k : Int} (h : Hd M v n k) (hs : Sub M M') : Hd M' v n k := by
  rcases h with h2 | ⟨b', o', c', ex', kk', l', rfl, hm', hl'⟩
  · exact .inl h2
  · exact .inr ⟨b', o', c', ex', kk', l', rfl, hs _ _ hm', hl'⟩
theorem HdT.more {M' : MH} {v : V} {t : TrS} {k : Int} (h : HdT M v t k) (hs : Sub M M') : HdT M' v t k := by
  obtain ⟨x, y, rfl, h1, h2, h3, h4⟩ := h
  exact ⟨x, y, rfl, h1, h2, h3.more hs, h4.more hs⟩
theorem t_heldTrace {v : V} {t : TrS} {k : Int} (hv : HdT M v t k) (hf : TrFit t) (hk : 0 ≤ k) (hk2 : k ≤ 8000000000000000000) : VCall Try.prog n_laws_heldTrace [v, .sc (.int .i64 k)] M (fun r M' => M = M' ∧ r = .sc (.int .i64 (k + cntT t))) := by
  refine VCall.pure fun R hR => v_laws_heldTrace rfl ?_
  obtain ⟨x, y, rfl, ⟨hx1, hx2⟩, ⟨hy1, hy2⟩, hs, hr⟩ := hv
  have hc := cntT_le hf
  unfold cntT at hc hR
  simp (maxSteps := 2000000) (disch := first | omega | assumption | exact idP rfl | exact idP (bL rfl)) only [go_sem, reduceIte, Nat.reduceEqDiff, hx1, hx2, hy1, hy2]
  intro b2 hb2
  have q2 : (M.set b2 [x, y]) b2 = some [x, y] := set_same
  have hsub : Sub M (M.set b2 [x, y]) := (Sub.refl M).set' hb2
  refine (t_heldIntSS (hs.more hsub) hf.l hf.m hk (by omega)).mono ?_
  rintro _ _ ⟨rfl, rfl⟩
  have n1 : ¬ k + (offN t.states t.states.length : Int) < 0 := by omega
  simp (maxSteps := 2000000) (disch := first | omega | assumption | exact idP rfl | exact idP (bL rfl)) only [go_sem, reduceIte, Nat.reduceEqDiff, n1, q2]
  refine (t_heldIntS (hr.more hsub) hf.r (by omega) (by omega)).mono ?_
  rintro _ _ ⟨rfl, rfl⟩
  have n2 : ¬ k + (offN t.states t.states.length : Int) + (t.rules.length : Int) < 0 := by omega
  simp (maxSteps := 2000000) (disch := first | omega | assumption | exact idP rfl | exact idP (bL rfl)) only [go_sem, reduceIte, Nat.reduceEqDiff, n2]
  exact hR _ _ hsub (by rw [Int.natCast_add, Int.add_assoc])
theorem t_markTrace {v v' : V} {fp : List (Nat × List V)} {t : TrS} {k : Int} (ht : Tr [v] [v'] fp) (hf : flat v) (hff : ∀ q ∈ fp, flatL q.2) (hv : isTr t v') (hn : Nd2 fp) (hm : ∀ p ∈ fp, M p.1 = some p.2) (hfit : TrFit t) (hk : 0 ≤ k) (hk2 : k ≤ 8000000000000000000) :
    VCall Try.prog n_laws_markTrace [v, .sc (.int .i64 k)] M (fun r M' => r = .sc (.int .i64 (k + cntT t)) ∧ HdT M' v t k ∧ ∀ q l, M q = some l → inF fp q = false → M' q = some l) := by
  refine VCall.plain fun R hR => v_laws_markTrace rfl ?_
  obtain ⟨ox, oy, e, hox, hoy⟩ := ht.traceOne hf hv
  obtain ⟨x, y, x', y', f, g, rfl, rfl, t1, t2, f1, f2, hx, hy⟩ := ht.trace hf hv
  cases e
  have hc := cntT_le hfit
  unfold cntT at hc hR
  have hx1 := hox.1
  have hx2 := hox.2
  have hy1 := hoy.1
  have hy2 := hoy.2
  simp (maxSteps := 2000000) (disch := first | omega | assumption | exact idP rfl | exact idP (bL rfl)) only [go_sem, reduceIte, Nat.reduceEqDiff, hx1, hx2, hy1, hy2]
  intro b2 hb2
  have hsub : Sub M (M.set b2 [ox, oy]) := (Sub.refl M).set' hb2
  have nf : ∀ p ∈ f ++ g, p.1 ≠ b2 := fun p hp e => by have := hm p hp; rw [e, hb2] at this; cases this
  have b2f : inF f b2 = false := by
    cases hc : inF f b2 with
    | false => rfl
    | true =>
      obtain ⟨l, hl⟩ := inF_iff.1 hc
      exact absurd rfl (nf _ (List.mem_append_left _ hl))
  have nd := Nd2.append hn
  refine (t_markIntSS2 t1 f1 (fun q hq => hff q (List.mem_append_left _ hq)) hx nd.1 (fun p hp => hsub _ _ (hm p (List.mem_append_left _ hp))) hfit.l hfit.m hk (by omega)).mono ?_
  rintro _ M1 ⟨rfl, hd1, keep1⟩
  have q2 : M1 b2 = some [ox, oy] := by rw [keep1 b2 b2f]; exact set_same
  simp (maxSteps := 2000000) (disch := first | omega | assumption | exact idP rfl | exact idP (bL rfl)) only [go_sem, reduceIte, Nat.reduceEqDiff, q2]
  refine (t_markRk t2 f2 hy (fun p hp => ?_) hfit.r (by omega) (by omega)).mono ?_
  · rw [keep1 p.1 (nd_sep hn hp)]
    exact hsub _ _ (hm p (List.mem_append_right _ hp))
  · rintro _ M2 ⟨rfl, hd2, _, keep2⟩
    simp (maxSteps := 2000000) (disch := first | omega | assumption | exact idP rfl | exact idP (bL rfl)) only [go_sem, reduceIte, Nat.reduceEqDiff]
    refine hR _ _ ⟨by rw [Int.natCast_add, Int.add_assoc], ⟨ox, oy, rfl, hox, hoy, hd1 M2 fun q hq => keep2 q ?_, hd2⟩, fun q l hq hfq => ?_⟩
    · obtain ⟨l, hl⟩ := inF_iff.1 hq
      exact nd.2.2 _ hl
    · rw [inF_append, Bool.or_eq_false_iff] at hfq
      rw [keep2 q hfq.2, keep1 q hfq.1]
      exact hsub q l hq
end Go.M2

namespace Go.M2
open Go.Proofs
variable {M : MH}
def KC : V → Prop
  | .fs _ n c _ k _ => k = 1 ∧ n ≤ c
  | _ => False
theorem d_toIntSS {v : V} {xs : List (List Int)} (hv : XII v xs) (hl : xs.length ≤ 1048576) (hx : ∀ ts ∈ xs, ts.length ≤ 1048576) : VCall Try.prog n_laws_toIntSS [v] M (fun r M' => One r ∧ Dn M M' r (fun u => LII u xs ∧ KC u)) := by
  refine VCall.plain fun R hR => v_laws_toIntSS rfl ?_
  have hlen := hv.len fun _ _ h => h.len
  simp (maxSteps := 2000000) (disch := first | omega | assumption | exact idP rfl | exact idP (bL rfl)) only [go_sem, reduceIte, Nat.reduceEqDiff, hlen]
  refine mks3 (by omega) (by simp [mostCells]; omega) (by simp [mostCells]; omega) ?_
  intro b3 hb3
  simp (maxSteps := 2000000) (disch := first | omega | assumption | exact idP rfl | exact idP (bL rfl)) only [go_sem, reduceIte, Nat.reduceEqDiff, zeros_nil]
  refine loop_k (fun e M' => ∃ (i : Nat) (us us' : List V) (fp : List (Nat × List V)), i ≤ xs.length ∧ e 0 = v ∧ e 3 = .sc (.sl (some (b3, 0)) xs.length xs.length true 1) ∧ e 4 = .sc (.int .i64 i) ∧ Tr us us' fp ∧ Mem M M' ((b3, us ++ List.replicate (xs.length - i) nil1) :: fp) ∧ flatL us ∧ (∀ q ∈ fp, flatL q.2) ∧ Cs isL us' (xs.take i)) (fun e _ => ctrV xs.length (e 4)) ?_ ?_
  · exact ⟨0, [], [], [], by omega, by simp (maxSteps := 2000000) (disch := first | omega | assumption | exact idP rfl | exact idP (bL rfl)) only [go_sem, reduceIte, Nat.reduceEqDiff], by simp (maxSteps := 2000000) (disch := first | omega | assumption | exact idP rfl | exact idP (bL rfl)) only [go_sem, reduceIte, Nat.reduceEqDiff], by simp (maxSteps := 2000000) (disch := first | omega | assumption | exact idP rfl | exact idP (bL rfl)) only [go_sem, reduceIte, Nat.reduceEqDiff]; rfl, .nil, by simpa using (Mem.nil (Sub.refl M)).new1 hb3, by simp [flatL], fun q hq => (by cases hq), .nil⟩
  · rintro e M1 ⟨i, us, us', fp, hi, e0, e3, e4, htr, hmem, hfl, hff, hc⟩ K hK
    have hul : us.length = i := by have := hc.1; have h2 := htr.len; simp at this; omega
    have hm := hmem.hd
    simp (maxSteps := 2000000) (disch := first | omega | assumption | exact idP rfl | exact idP (bL rfl)) only [go_sem, reduceIte, Nat.reduceEqDiff, e0, e3, e4, hlen]
    refine cond_dec (fun h => ?_) (fun h => ?_)
    · have hi' : i < xs.length := by omega
      have hv' := hv.get (by omega)
      obtain ⟨q, hq⟩ : ∃ q, xs.length - i = q + 1 := ⟨xs.length - i - 1, by omega⟩
      rw [hq, List.replicate_succ] at hm hmem
      simp (maxSteps := 2000000) (disch := first | omega | assumption | exact idP rfl | exact idP (bL rfl)) only [go_sem, reduceIte, Nat.reduceEqDiff, e0, e3, e4, hv'.iaddr]
      refine (d_toIntS (hv'.elt hi') (hx _ (List.getElem_mem hi'))).mono ?_
      rintro r M2 ⟨⟨hr1, hr2⟩, r', g, t1, t2, t3, t4, hr⟩
      have hmem2 := hmem.add t2
      rw [List.cons_append] at hmem2
      have hm2 := hmem2.hd
      have hsm : (us ++ nil1 :: List.replicate q nil1).set i r = us ++ r :: List.replicate q nil1 := set_mid hul
      have hnl3 : i < (us ++ nil1 :: List.replicate q nil1).length := by simp; omega
      simp (maxSteps := 2000000) (disch := first | omega | assumption | exact idP rfl | exact idP (bL rfl)) only [go_sem, reduceIte, Nat.reduceEqDiff, e0, e3, e4, hm2, hr2, hsm]
      refine hK _ _ ⟨i + 1, us ++ [r], us' ++ [r'], fp ++ g, by omega, by simp (maxSteps := 2000000) (disch := first | omega | assumption | exact idP rfl | exact idP (bL rfl)) only [go_sem, reduceIte, Nat.reduceEqDiff], by simp (maxSteps := 2000000) (disch := first | omega | assumption | exact idP rfl | exact idP (bL rfl)) only [go_sem, reduceIte, Nat.reduceEqDiff], by simp (maxSteps := 2000000) (disch := first | omega | assumption | exact idP rfl | exact idP (bL rfl)) only [go_sem, reduceIte, Nat.reduceEqDiff]; rfl, htr.append t1, ?_, ?_, ?_, ?_⟩ (by simp (maxSteps := 2000000) (disch := first | omega | assumption | exact idP rfl | exact idP (bL rfl)) only [go_sem, reduceIte, Nat.reduceEqDiff, ctrV_int, e4]; omega)
      · have := hmem2.upd (l' := us ++ r :: List.replicate q nil1)
        simpa [show xs.length - (i + 1) = q by omega] using this
      · exact flatL_all.2 fun w hw => by
          rcases List.mem_append.1 hw with h1 | h1
          · exact flatL_all.1 hfl w h1
          · rw [List.mem_singleton] at h1; subst h1; exact t3
      · intro w hw
        rcases List.mem_append.1 hw with h1 | h1
        · exact hff w h1
        · exact t4 w h1
      · rw [take_snoc hi']
        exact hc.snoc (x := xs[i]) hr
    · obtain rfl : i = xs.length := by omega
      rw [List.take_length] at hc
      simp (maxSteps := 2000000) (disch := first | omega | assumption | exact idP rfl | exact idP (bL rfl)) only [go_sem, reduceIte, Nat.reduceEqDiff, e3]
      simp only [Nat.sub_self, List.replicate_zero, List.append_nil] at hmem
      have hul' : us'.length = xs.length := hc.1
      refine hR _ _ ⟨⟨rfl, rfl⟩, .fs (some (b3, 0)) xs.length xs.length true 1 (us'.drop 0), (b3, us) :: (fp ++ []), .sl htr .nil, by simpa using hmem, by simp [flat], fun q hq => ?_, ?_⟩
      · simp only [List.append_nil, List.mem_cons] at hq
        rcases hq with rfl | h1
        · exact hfl
        · exact hff q h1
      · exact ⟨Fr.lsC (us := us') (.inr ⟨_, _, _, _, _, by rw [List.drop_zero], by omega⟩) hc, rfl, Nat.le_refl _⟩
end Go.M2

namespace Go.M2
open Go.Proofs
variable {M : MH}
theorem law_TraceOf {v : V} {s : SysS} (hv : isSysX s v) (hl : SysLen s) {w1 : V} {xs1 : List (List Int)} (hw1 : XII w1 xs1) (hx1 : LenOk xs1 ∧ ∀ f ∈ xs1, LenOk f) :
    VCall Try.prog n_laws_FnExactTraceOf [v, w1] M (fun r M' => M = M' ∧ r = .sc (.bool true)) := by
  refine VCall.pure fun R hR => v_laws_FnExactTraceOf rfl ?_
  have hv0 := hv
  obtain ⟨a, b, rfl, ha, hb⟩ := hv
  simp (maxSteps := 2000000) (disch := first | omega | assumption | exact idP rfl | exact idP (bL rfl)) only [go_sem, reduceIte, Nat.reduceEqDiff]
  intro bk hbk
  have hB0 : Sub M (M.set bk [a, b]) := by (repeat (first | exact Sub.refl _ | assumption | (refine Sub.set' ?_ (by assumption))))
  have hBk : (M.set bk [a, b]) bk = some [a, b] := set_same
  generalize (M.set bk [a, b]) = MB at *
  skip
  refine (x_szSystem hv0 hl (by omega) (by omega)).mono ?_
  rintro _ _ ⟨rfl, k, rfl, hk1, hk⟩
  (repeat' (first | ((first | with_reducible refine cond_dec (fun h => ?_) (fun h => ?_) | with_reducible refine guardK_dec (fun h => ?_) (fun h => ?_) | with_reducible refine guardD3_dec (fun h => ?_) (fun h => ?_)) <;> first | (exfalso; omega) | (simp (maxSteps := 2000000) (disch := first | omega | assumption | exact idP rfl | exact idP (bL rfl)) only [go_sem, reduceIte, Nat.reduceEqDiff, h, hBk]) | skip) | ((first | with_reducible refine cond_split (fun h => ?_) (fun h => ?_) | with_reducible refine guardK_split (fun h => ?_) (fun h => ?_) | with_reducible refine guardD3_split (fun h => ?_) (fun h => ?_)) <;> ((try simp only [Bool.not_eq_true', Bool.not_eq_false'] at h); first | (simp (maxSteps := 2000000) (disch := first | omega | assumption | exact idP rfl | exact idP (bL rfl)) only [go_sem, reduceIte, Nat.reduceEqDiff, h, hBk]) | skip)) | (with_reducible intro bk hbk; try have hnk := (fresh_set hbk).1) | (simp (maxSteps := 2000000) (disch := first | omega | assumption | exact idP rfl | exact idP (bL rfl)) only [go_sem, reduceIte, Nat.reduceEqDiff, hBk])))
  · exact hR _ _ hB0 rfl
  have hf := hk (by omega)
  refine (x_szIntSS hw1 hx1.1 hx1.2 (by omega) (by omega)).mono ?_
  rintro _ _ ⟨rfl, kk1, rfl, hka1, hkb1⟩
  (repeat' (first | ((first | with_reducible refine cond_dec (fun h => ?_) (fun h => ?_) | with_reducible refine guardK_dec (fun h => ?_) (fun h => ?_) | with_reducible refine guardD3_dec (fun h => ?_) (fun h => ?_)) <;> first | (exfalso; omega) | (simp (maxSteps := 2000000) (disch := first | omega | assumption | exact idP rfl | exact idP (bL rfl)) only [go_sem, reduceIte, Nat.reduceEqDiff, h, hBk]) | skip) | ((first | with_reducible refine cond_split (fun h => ?_) (fun h => ?_) | with_reducible refine guardK_split (fun h => ?_) (fun h => ?_) | with_reducible refine guardD3_split (fun h => ?_) (fun h => ?_)) <;> ((try simp only [Bool.not_eq_true', Bool.not_eq_false'] at h); first | (simp (maxSteps := 2000000) (disch := first | omega | assumption | exact idP rfl | exact idP (bL rfl)) only [go_sem, reduceIte, Nat.reduceEqDiff, h, hBk]) | skip)) | (with_reducible intro bk hbk; try have hnk := (fresh_set hbk).1) | (simp (maxSteps := 2000000) (disch := first | omega | assumption | exact idP rfl | exact idP (bL rfl)) only [go_sem, reduceIte, Nat.reduceEqDiff, hBk])))
  · exact hR _ _ hB0 rfl
  obtain ⟨hxl1, hxm1⟩ := hkb1 (by omega)
  have hzf0 := traceF_fit (s := s) hxl1 hxm1
  generalize hz0 : (traceF s xs1).1 = z0 at *
  generalize hz1 : (traceF s xs1).2 = z1 at *
  have hzf := hzf0
  have hbq : ∀ t : Bool, beqF true (.bool t) (.bool t) = some (.bool false) := fun t => by cases t <;> rfl
  refine (f_toSystem hv0 hf).mono ?_
  rintro s1 _ ⟨rfl, hs1⟩
  simp (maxSteps := 2000000) (disch := first | omega | assumption | exact idP rfl | exact idP (bL rfl)) only [go_sem, reduceIte, Nat.reduceEqDiff, hBk]
  refine (f_toIntSS hw1 hxl1 hxm1).mono ?_
  rintro y1 _ ⟨rfl, hy1⟩
  simp (maxSteps := 2000000) (disch := first | omega | assumption | exact idP rfl | exact idP (bL rfl)) only [go_sem, reduceIte, Nat.reduceEqDiff, hBk]
  refine (f_TraceOf hs1 hy1 hxl1 hxm1).mono ?_
  rintro _ _ ⟨rfl, wr0, rfl, hwr0⟩
  rw [hz0] at hwr0
  rw [hz1]
  have hwr := hwr0
  obtain ⟨wx, wy, rfl, hwx, hwy⟩ := hwr0
  have owx1 := hwx.one.1
  have owx2 := hwx.one.2
  have owy1 := hwy.one.1
  have owy2 := hwy.one.2
  simp (maxSteps := 2000000) (disch := first | omega | assumption | exact idP rfl | exact idP (bL rfl)) only [go_sem, reduceIte, Nat.reduceEqDiff, owx1, owx2, owy1, owy2]
  intro bw hbw
  have nwk : bk ≠ bw := fun e => by subst e; rw [hbw] at hBk; cases hBk
  have hWs : Sub MB (MB.set bw [wx, wy]) := (Sub.refl MB).set' hbw
  have hWw : (MB.set bw [wx, wy]) bw = some [wx, wy] := set_same
  have hWk : (MB.set bw [wx, wy]) bk = some [a, b] := hWs bk _ hBk
  have hW0 : Sub M (MB.set bw [wx, wy]) := hB0.trans hWs
  generalize MB.set bw [wx, wy] = Mw at *
  simp (maxSteps := 2000000) (disch := first | omega | assumption | exact idP rfl | exact idP (bL rfl)) only [go_sem, reduceIte, Nat.reduceEqDiff, hWk, hWw]
  refine (o_toSystem hv0 hf).mono ?_
  rintro _ M1 ⟨x, y, x', y', fp, rfl, ⟨ox1, ox2⟩, ⟨oy1, oy2⟩, hos⟩
  simp (maxSteps := 2000000) (disch := first | omega | assumption | exact idP rfl | exact idP (bL rfl)) only [go_sem, reduceIte, Nat.reduceEqDiff, ox1, ox2, oy1, oy2]
  intro b7 hb7
  have hs7 : Sub M1 (M1.set b7 [x, y]) := (Sub.refl M1).set' hb7
  have hm71 : (M1.set b7 [x, y]) b7 = some [x, y] := set_same
  have hos1 := hos.more hs7
  generalize M1.set b7 [x, y] = N0 at *
  have hmk0 : N0 bk = some [a, b] := hos1.mem.sub bk _ hWk
  skip
  refine (d_toIntSS hw1 hxl1 hxm1).mono ?_
  rintro q1 N1 ⟨⟨oq1a, oq1b⟩, q1', fq1, tq1, mq1, flq1, ffq1, hq1, hkc1⟩
  have hsn1 : Sub N0 N1 := mq1.sub
  have hos3 := hos1.more hsn1
  have hm7 : N1 b7 = some [x, y] := hsn1 b7 _ hm71
  have hmk1 : N1 bk = some [a, b] := hsn1 bk _ hmk0
  have hall := hos1.mem.add mq1
  have htr := hos.arg.append tq1
  simp (maxSteps := 2000000) (disch := first | omega | assumption | exact idP rfl | exact idP (bL rfl)) only [go_sem, reduceIte, Nat.reduceEqDiff, hm7, oq1a, oq1b]
  refine (VCall.lendD htr hall.at_ hall.nd fun M' => o_impTraceOf hos.sys hf.sz hq1 hxl1 hxm1).mono ?_
  rintro r4 M4 hd4
  obtain ⟨g0, tb, rfl, g0', fg0, tg0, mg0, flg0, ffg0, htb, hg0⟩ := Dn.tup2 (p := fun u' w' => w' = .bool (traceF s xs1).2 ∧ isTr (traceF s xs1).1 u') (hd4.mono fun v hv => by
    obtain ⟨u, rfl, h⟩ := hv
    exact ⟨u, _, rfl, rfl, h⟩)
  rw [hz0] at hg0
  rw [hz1] at htb
  subst htb
  have hs4 := mg0.sub
  obtain ⟨gx, gy, rfl, ⟨ogx1, ogx2⟩, ⟨ogy1, ogy2⟩⟩ := tg0.traceOne flg0 hg0
  simp (maxSteps := 2000000) (disch := first | omega | assumption | exact idP rfl | exact idP (bL rfl)) only [go_sem, reduceIte, Nat.reduceEqDiff, ogx1, ogx2, ogy1, ogy2]
  intro b10 hb10
  have hs10 : Sub M4 (M4.set b10 [gx, gy]) := (Sub.refl _).set' hb10
  have h10 : (M4.set b10 [gx, gy]) b10 = some [gx, gy] := set_same
  have hs4n := hs4.trans hs10
  have hos4 := hos3.more hs4n
  have n10p : inF fp b10 = false := newF (hos3.mem.more hs4).at_ hb10
  have n10q : inF fq1 b10 = false := newF (mq1.more hs4).at_ hb10
  have n10g : inF fg0 b10 = false := newF mg0.at_ hb10
  have mg1 := mg0.more hs10
  generalize M4.set b10 [gx, gy] = M4n at *
  have hmk4 : M4n bk = some [a, b] := hs4n bk _ hmk1
  have hmw4 : M4n bw = some [wx, wy] := hos4.mem.sub bw _ hWw
  have hm74 : M4n b7 = some [x, y] := hs4n b7 _ hm7
  have hqb1 : ∀ p ∈ fq1, M4n p.1 = some p.2 := (mq1.more hs4n).at_
  simp (maxSteps := 2000000) (disch := first | omega | assumption | exact idP rfl | exact idP (bL rfl)) only [go_sem, reduceIte, Nat.reduceEqDiff, hmk4, hm74, h10, hmw4, hbq]
  refine (l_eqTrace tg0 hg0 mg1.at_ mg1.nd hwr hzf).mono ?_
  rintro _ _ ⟨rfl, rfl⟩
  simp (maxSteps := 2000000) (disch := first | omega | assumption | exact idP rfl | exact idP (bL rfl)) only [go_sem, reduceIte, Nat.reduceEqDiff, hmk4, hm74, h10, hmw4, hbq]
  refine (f_toSystem hv0 hf).mono ?_
  rintro s3 _ ⟨rfl, hs3⟩
  simp (maxSteps := 2000000) (disch := first | omega | assumption | exact idP rfl | exact idP (bL rfl)) only [go_sem, reduceIte, Nat.reduceEqDiff, hmk4, hm74, h10, hmw4, hbq]
  refine (l_eqSystem hos4 hs3 hf).mono ?_
  rintro _ _ ⟨rfl, rfl⟩
  simp (maxSteps := 2000000) (disch := first | omega | assumption | exact idP rfl | exact idP (bL rfl)) only [go_sem, reduceIte, Nat.reduceEqDiff, hmk4, hm74, h10, hmw4, hbq]
  refine (f_toIntSS hw1 hxl1 hxm1).mono ?_
  rintro z1a _ ⟨rfl, hz1b⟩
  simp (maxSteps := 2000000) (disch := first | omega | assumption | exact idP rfl | exact idP (bL rfl)) only [go_sem, reduceIte, Nat.reduceEqDiff, hmk4, hm74, h10, hmw4, hbq]
  refine (l_eqIntSS tq1 hq1 hqb1 mq1.nd hz1b hxl1 hxm1).mono ?_
  rintro _ _ ⟨rfl, rfl⟩
  simp (maxSteps := 2000000) (disch := first | omega | assumption | exact idP rfl | exact idP (bL rfl)) only [go_sem, reduceIte, Nat.reduceEqDiff, hmk4, hm74, h10, hmw4, hbq]
  refine (t_markSystem hos4 hf (by omega) (by omega)).mono ?_
  rintro _ M5 ⟨k5, rfl, k51, k52, sub5, keep5⟩
  have hp1 : ∀ p ∈ fq1, inF fp p.1 = false := fun p hp => sep2 hos1.mem.at_ hos1.mem.at_ mq1.new hp
  have hpg : ∀ p ∈ fg0, inF fp p.1 = false := fun p hp => sep2 hos3.mem.at_ hos3.mem.at_ mg0.new hp
  have hgq1 : ∀ p ∈ fg0, inF fq1 p.1 = false := fun p hp => sep2 mq1.at_ mq1.at_ mg0.new hp
  have hqc1 : ∀ p ∈ fq1, M5 p.1 = some p.2 := fun p hp => keep5 _ _ (hqb1 p hp) (hp1 p hp)
  have hgc0 : ∀ p ∈ fg0, M5 p.1 = some p.2 := fun p hp => keep5 _ _ (mg1.at_ p hp) (hpg p hp)
  have h105 : M5 b10 = some [gx, gy] := keep5 _ _ h10 n10p
  have hmk5 : M5 bk = some [a, b] := sub5 bk _ hWk
  have hmw5 : M5 bw = some [wx, wy] := sub5 bw _ hWw
  simp (maxSteps := 2000000) (disch := first | omega | assumption | exact idP rfl | exact idP (bL rfl)) only [go_sem, reduceIte, Nat.reduceEqDiff, hmk5, h105, hmw5, hbq]
  have hob1 := offN_le hxm1 xs1.length (Nat.le_refl _)
  refine (t_markIntSS tq1 flq1 ffq1 hq1 mq1.nd hqc1 hxl1 hxm1 (by omega) (by omega)).mono ?_
  rintro _ L1 ⟨rfl, _, keepL0⟩
  have keepL1 : ∀ q l, M5 q = some l → inF fq1 q = false → L1 q = some l := fun q l h1 h2 => by rw [keepL0 q h2]; exact h1
  have old1 : ∀ q l, Mw q = some l → inF fq1 q = false := fun q l hq => oldF mq1.new (hos1.mem.sub q l hq)
  have subL1 : Sub Mw L1 := fun q l hq => keepL1 q l (sub5 q l hq) (old1 q l hq)
  have hgd0 : ∀ p ∈ fg0, L1 p.1 = some p.2 := fun p hp => keepL1 _ _ (hgc0 p hp) (hgq1 p hp)
  have h106 : L1 b10 = some [gx, gy] := keepL1 _ _ h105 n10q
  have hmk6 : L1 bk = some [a, b] := subL1 bk _ hWk
  have hmw6 : L1 bw = some [wx, wy] := subL1 bw _ hWw
  have hk6 : ¬ k5 + (offN xs1 xs1.length : Int) < 0 := by omega
  simp (maxSteps := 2000000) (disch := first | omega | assumption | exact idP rfl | exact idP (bL rfl)) only [go_sem, reduceIte, Nat.reduceEqDiff, hk6, hmk6, h106, hmw6, hbq]
  refine (l_eqTrace tg0 hg0 hgd0 mg1.nd hwr hzf).mono ?_
  rintro _ _ ⟨rfl, rfl⟩
  simp (maxSteps := 2000000) (disch := first | omega | assumption | exact idP rfl | exact idP (bL rfl)) only [go_sem, reduceIte, Nat.reduceEqDiff, hk6, hmk6, h106, hmw6, hbq]
  have hct := cntT_le hzf
  refine (t_markTrace tg0 flg0 ffg0 hg0 mg1.nd hgd0 hzf (by omega) (by omega)).mono ?_
  rintro _ M7 ⟨rfl, hd7, keep7⟩
  have sub7 : Sub Mw M7 := fun q l hq => keep7 q l (subL1 q l hq) (oldF mg0.new (hos3.mem.sub q l hq))
  have h107 : M7 b10 = some [gx, gy] := keep7 _ _ h106 n10g
  have hmk7 : M7 bk = some [a, b] := sub7 bk _ hWk
  have hmw7 : M7 bw = some [wx, wy] := sub7 bw _ hWw
  simp (maxSteps := 2000000) (disch := first | omega | assumption | exact idP rfl | exact idP (bL rfl)) only [go_sem, reduceIte, Nat.reduceEqDiff, hmk7, h107, hmw7, hbq]
  refine (t_heldTrace hd7 hzf (by omega) (by omega)).mono ?_
  rintro _ _ ⟨rfl, rfl⟩
  have hneg : ¬ (1 : Int) + (cntT z0 : Int) < 0 := by omega
  simp (maxSteps := 2000000) (disch := first | omega | assumption | exact idP rfl | exact idP (bL rfl)) only [go_sem, reduceIte, Nat.reduceEqDiff, hneg, hmk7, h107, hmw7, hbq]
  refine (f_toSystem hv0 hf).mono ?_
  rintro s4 _ ⟨rfl, hs4b⟩
  simp (maxSteps := 2000000) (disch := first | omega | assumption | exact idP rfl | exact idP (bL rfl)) only [go_sem, reduceIte, Nat.reduceEqDiff, hmk7, h107, hmw7, hbq]
  refine (f_toIntSS hw1 hxl1 hxm1).mono ?_
  rintro u1 _ ⟨rfl, hu1⟩
  simp (maxSteps := 2000000) (disch := first | omega | assumption | exact idP rfl | exact idP (bL rfl)) only [go_sem, reduceIte, Nat.reduceEqDiff, hmk7, h107, hmw7, hbq]
  refine (VCall.frT (o_impTraceOf hs4b hf.sz hu1 hxl1 hxm1)).mono ?_
  rintro _ _ ⟨rfl, h0, rfl, hh0⟩
  rw [hz0] at hh0
  rw [hz1]
  have hh := hh0
  obtain ⟨hx0, hy0, rfl, hhx, hhy⟩ := hh0
  have ohx1 := hhx.one.1
  have ohx2 := hhx.one.2
  have ohy1 := hhy.one.1
  have ohy2 := hhy.one.2
  simp (maxSteps := 2000000) (disch := first | omega | assumption | exact idP rfl | exact idP (bL rfl)) only [go_sem, reduceIte, Nat.reduceEqDiff, ohx1, ohx2, ohy1, ohy2]
  intro b15 hb15
  have hs15 : Sub M7 (M7.set b15 [hx0, hy0]) := (Sub.refl _).set' hb15
  have h15 : (M7.set b15 [hx0, hy0]) b15 = some [hx0, hy0] := set_same
  have h108 := hs15 _ _ h107
  have hmw8 := hs15 _ _ hmw7
  have hd8 := hd7.more hs15
  generalize M7.set b15 [hx0, hy0] = M8 at *
  simp (maxSteps := 2000000) (disch := first | omega | assumption | exact idP rfl | exact idP (bL rfl)) only [go_sem, reduceIte, Nat.reduceEqDiff, h15, h108, hmw8, hbq]
  refine (x_eqTrace hh hwr hzf).mono ?_
  rintro _ _ ⟨rfl, rfl⟩
  simp (maxSteps := 2000000) (disch := first | omega | assumption | exact idP rfl | exact idP (bL rfl)) only [go_sem, reduceIte, Nat.reduceEqDiff, h15, h108, hmw8, hbq]
  refine (t_heldTrace hd8 hzf (by omega) (by omega)).mono ?_
  rintro _ _ ⟨rfl, rfl⟩
  simp (maxSteps := 2000000) (disch := first | omega | assumption | exact idP rfl | exact idP (bL rfl)) only [go_sem, reduceIte, Nat.reduceEqDiff, hneg]
  exact hR _ _ ((hW0.trans sub7).trans hs15) rfl
end Go.M2
