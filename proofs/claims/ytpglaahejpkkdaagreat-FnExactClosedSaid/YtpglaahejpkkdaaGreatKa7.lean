/- Contracts of a law's frame: copies of lists of structs. -/
import Derived.Test.YtpglaahejpkkdaaGreatKa6
import Derived.Test.YtpglaahejpkkdaaGreatChecked
import Derived.Test.YtpglaahejpkkdaaGreatRows
import Derived.WalkKit
import Derived.ProofKit
import Derived.OpenShut
import Derived.ShutString
import Derived.ChangeOld
import Derived.Below
import Derived.SizedLaws
/- Contracts of a law's frame: copies of lists of structs. -/
namespace Go.M2
open Go.Proofs
set_option linter.unusedVariables false
set_option linter.unusedSimpArgs false
set_option maxRecDepth 10000
set_option maxHeartbeats 4000000
variable {M : MH}
def catV {α : Type} (enc : α → List V) (xs : List α) : List V := (xs.map enc).flatten
theorem catV_len {α : Type} {enc : α → List V} {sz : Nat} (he : ∀ x, (enc x).length = sz) : ∀ xs : List α, (catV enc xs).length = xs.length * sz
  | [] => by simp [catV]
  | x :: t => by
    have := catV_len he t
    simp only [catV, List.map_cons, List.flatten_cons, List.length_append, he, List.length_cons, Nat.succ_mul] at this ⊢
    omega
theorem catV_snoc {α : Type} {enc : α → List V} {xs : List α} {x : α} : catV enc (xs ++ [x]) = catV enc xs ++ enc x := by simp [catV]
theorem zeros_cat {α : Type} {enc : α → List V} {z : α} {zs : List AV} (h : enc z = zs.map V.sc) (n : Nat) : (zeros zs n).map V.sc = catV enc (List.replicate n z) := by
  induction n with
  | zero => rfl
  | succ n ih => simp only [zeros, catV, List.replicate_succ, List.flatten_cons, List.map_append, List.map_cons] at ih ⊢; rw [ih, h]
theorem cat_set {α : Type} {enc : α → List V} {z x : α} {xs : List α} {sz m o : Nat} (he : ∀ x, (enc x).length = sz) (ho : o = xs.length * sz) :
    setAtG (catV enc xs ++ catV enc (List.replicate (m + 1) z)) o (enc x) = catV enc (xs ++ [x]) ++ catV enc (List.replicate m z) := by
  have h1 := catV_len he xs
  have e1 : catV enc (List.replicate (m + 1) z) = enc z ++ catV enc (List.replicate m z) := by simp [catV, List.replicate_succ]
  rw [e1, setAtG_mid _ _ _ (by simp [he]; omega), catV_snoc, List.take_left' (by omega)]
  congr 1
  rw [← List.append_assoc, List.drop_left' (by simp [he]; omega)]
theorem x_toVarS {v : V} {xs : List VarS} (hv : XVar v xs) (hl : xs.length ≤ 1048576) : VCall Tryz.prog n_laws_toVarS [v] M (fun r M' => Gr 3 M M' r (catV encVar xs)) := by
  refine VCall.plain fun R hR => v_laws_toVarS rfl ?_
  have hlen := hv.len fun _ _ h => h.len
  simp (maxSteps := 2000000) (disch := first | omega | assumption | exact idP rfl | exact idP (bL rfl)) only [go_sem, reduceIte, Nat.reduceEqDiff, hlen]
  refine mks3 (by omega) (by simp [mostCells]; omega) (by simp [mostCells]; omega) ?_
  intro b3 hb3
  simp (maxSteps := 2000000) (disch := first | omega | assumption | exact idP rfl | exact idP (bL rfl)) only [go_sem, reduceIte, Nat.reduceEqDiff, zeros_cat (enc := encVar) (z := ⟨0, 0, 0⟩) (zs := [AV.int .i64 0, AV.int .i64 0, AV.int .i64 0]) rfl]
  have henc : ∀ x, (encVar x).length = 3 := fun x => rfl
  refine loop_k (fun e M' => ∃ i : Nat, i ≤ xs.length ∧ e 0 = v ∧ e 3 = .sc (.sl (some (b3, 0)) xs.length xs.length true 3) ∧ e 4 = .sc (.int .i64 i) ∧ Sub M M' ∧ M' b3 = some (catV encVar (xs.take i) ++ catV encVar (List.replicate (xs.length - i) ⟨0, 0, 0⟩))) (fun e _ => ctrV xs.length (e 4)) ?_ ?_
  · exact ⟨0, by omega, by simp (maxSteps := 2000000) (disch := first | omega | assumption | exact idP rfl | exact idP (bL rfl)) only [go_sem, reduceIte, Nat.reduceEqDiff], by simp (maxSteps := 2000000) (disch := first | omega | assumption | exact idP rfl | exact idP (bL rfl)) only [go_sem, reduceIte, Nat.reduceEqDiff], by simp (maxSteps := 2000000) (disch := first | omega | assumption | exact idP rfl | exact idP (bL rfl)) only [go_sem, reduceIte, Nat.reduceEqDiff]; rfl, (Sub.refl _).set hb3, by simp (maxSteps := 2000000) (disch := first | omega | assumption | exact idP rfl | exact idP (bL rfl)) only [go_sem, reduceIte, Nat.reduceEqDiff]; simp [catV]⟩
  · rintro e M1 ⟨i, hi, e0, e3, e4, hsub, hm⟩ K hK
    simp (maxSteps := 2000000) (disch := first | omega | assumption | exact idP rfl | exact idP (bL rfl)) only [go_sem, reduceIte, Nat.reduceEqDiff, e0, e3, e4, hlen]
    refine cond_dec (fun h => ?_) (fun h => ?_)
    · have hi' : i < xs.length := by omega
      have hv' := hv.get (by omega)
      have a1 : atN 3 v i = encVar xs[i] := hv'.elt hi'
      simp (maxSteps := 2000000) (disch := first | omega | assumption | exact idP rfl | exact idP (bL rfl)) only [go_sem, reduceIte, Nat.reduceEqDiff, e0, e3, e4, hv'.iaddr, a1]
      refine x_toVar.mono ?_
      rintro _ _ ⟨rfl, rfl⟩
      simp (maxSteps := 2000000) (disch := first | omega | assumption | exact idP rfl | exact idP (bL rfl)) only [go_sem, reduceIte, Nat.reduceEqDiff, e0, e3, e4, hm]
      have hti : (xs.take i).length = i := by simp; omega
      refine ⟨henc _, by simp [encVar, oneV, er, oneA], ?_, ?_⟩
      · rw [List.length_append, catV_len henc, catV_len henc, hti, List.length_replicate]; omega
      rw [show xs.length - i = (xs.length - (i + 1)) + 1 by omega, cat_set henc (by rw [hti]), ← take_snoc hi']
      simp (maxSteps := 2000000) (disch := first | omega | assumption | exact idP rfl | exact idP (bL rfl)) only [go_sem, reduceIte, Nat.reduceEqDiff, e0, e3, e4]
      exact hK _ _ ⟨i + 1, by omega, by simp (maxSteps := 2000000) (disch := first | omega | assumption | exact idP rfl | exact idP (bL rfl)) only [go_sem, reduceIte, Nat.reduceEqDiff], by simp (maxSteps := 2000000) (disch := first | omega | assumption | exact idP rfl | exact idP (bL rfl)) only [go_sem, reduceIte, Nat.reduceEqDiff], by simp (maxSteps := 2000000) (disch := first | omega | assumption | exact idP rfl | exact idP (bL rfl)) only [go_sem, reduceIte, Nat.reduceEqDiff]; rfl, hsub.set hb3, by simp (maxSteps := 2000000) (disch := first | omega | assumption | exact idP rfl | exact idP (bL rfl)) only [go_sem, reduceIte, Nat.reduceEqDiff]⟩ (by simp (maxSteps := 2000000) (disch := first | omega | assumption | exact idP rfl | exact idP (bL rfl)) only [go_sem, reduceIte, Nat.reduceEqDiff, ctrV_int, e4]; omega)
    · obtain rfl : i = xs.length := by omega
      simp only [List.take_length, Nat.sub_self, List.replicate_zero] at hm
      simp (maxSteps := 2000000) (disch := first | omega | assumption | exact idP rfl | exact idP (bL rfl)) only [go_sem, reduceIte, Nat.reduceEqDiff, e3]
      exact hR _ _ ⟨hsub, fun b' h' => by simp [blkV] at h'; subst h'; exact hb3, .inr ⟨b3, _, true, rfl, by simpa [catV] using hm, catV_len henc xs⟩⟩
theorem x_toTermS {v : V} {xs : List TermS} (hv : XT v xs) (hl : xs.length ≤ 1048576) : VCall Tryz.prog n_laws_toTermS [v] M (fun r M' => Gr 4 M M' r (catV encT xs)) := by
  refine VCall.plain fun R hR => v_laws_toTermS rfl ?_
  have hlen := hv.len fun _ _ h => h.len
  simp (maxSteps := 2000000) (disch := first | omega | assumption | exact idP rfl | exact idP (bL rfl)) only [go_sem, reduceIte, Nat.reduceEqDiff, hlen]
  refine mks3 (by omega) (by simp [mostCells]; omega) (by simp [mostCells]; omega) ?_
  intro b3 hb3
  simp (maxSteps := 2000000) (disch := first | omega | assumption | exact idP rfl | exact idP (bL rfl)) only [go_sem, reduceIte, Nat.reduceEqDiff, zeros_cat (enc := encT) (z := ⟨0, 0, 0, 0⟩) (zs := [AV.int .i64 0, AV.int .i64 0, AV.int .i64 0, AV.int .i64 0]) rfl]
  have henc : ∀ x, (encT x).length = 4 := fun x => rfl
  refine loop_k (fun e M' => ∃ i : Nat, i ≤ xs.length ∧ e 0 = v ∧ e 3 = .sc (.sl (some (b3, 0)) xs.length xs.length true 4) ∧ e 4 = .sc (.int .i64 i) ∧ Sub M M' ∧ M' b3 = some (catV encT (xs.take i) ++ catV encT (List.replicate (xs.length - i) ⟨0, 0, 0, 0⟩))) (fun e _ => ctrV xs.length (e 4)) ?_ ?_
  · exact ⟨0, by omega, by simp (maxSteps := 2000000) (disch := first | omega | assumption | exact idP rfl | exact idP (bL rfl)) only [go_sem, reduceIte, Nat.reduceEqDiff], by simp (maxSteps := 2000000) (disch := first | omega | assumption | exact idP rfl | exact idP (bL rfl)) only [go_sem, reduceIte, Nat.reduceEqDiff], by simp (maxSteps := 2000000) (disch := first | omega | assumption | exact idP rfl | exact idP (bL rfl)) only [go_sem, reduceIte, Nat.reduceEqDiff]; rfl, (Sub.refl _).set hb3, by simp (maxSteps := 2000000) (disch := first | omega | assumption | exact idP rfl | exact idP (bL rfl)) only [go_sem, reduceIte, Nat.reduceEqDiff]; simp [catV]⟩
  · rintro e M1 ⟨i, hi, e0, e3, e4, hsub, hm⟩ K hK
    simp (maxSteps := 2000000) (disch := first | omega | assumption | exact idP rfl | exact idP (bL rfl)) only [go_sem, reduceIte, Nat.reduceEqDiff, e0, e3, e4, hlen]
    refine cond_dec (fun h => ?_) (fun h => ?_)
    · have hi' : i < xs.length := by omega
      have hv' := hv.get (by omega)
      have a1 : atN 4 v i = encT xs[i] := hv'.elt hi'
      simp (maxSteps := 2000000) (disch := first | omega | assumption | exact idP rfl | exact idP (bL rfl)) only [go_sem, reduceIte, Nat.reduceEqDiff, e0, e3, e4, hv'.iaddr, a1]
      refine x_toTerm.mono ?_
      rintro _ _ ⟨rfl, rfl⟩
      simp (maxSteps := 2000000) (disch := first | omega | assumption | exact idP rfl | exact idP (bL rfl)) only [go_sem, reduceIte, Nat.reduceEqDiff, e0, e3, e4, hm]
      have hti : (xs.take i).length = i := by simp; omega
      refine ⟨henc _, by simp [encT, oneV, er, oneA], ?_, ?_⟩
      · rw [List.length_append, catV_len henc, catV_len henc, hti, List.length_replicate]; omega
      rw [show xs.length - i = (xs.length - (i + 1)) + 1 by omega, cat_set henc (by rw [hti]), ← take_snoc hi']
      simp (maxSteps := 2000000) (disch := first | omega | assumption | exact idP rfl | exact idP (bL rfl)) only [go_sem, reduceIte, Nat.reduceEqDiff, e0, e3, e4]
      exact hK _ _ ⟨i + 1, by omega, by simp (maxSteps := 2000000) (disch := first | omega | assumption | exact idP rfl | exact idP (bL rfl)) only [go_sem, reduceIte, Nat.reduceEqDiff], by simp (maxSteps := 2000000) (disch := first | omega | assumption | exact idP rfl | exact idP (bL rfl)) only [go_sem, reduceIte, Nat.reduceEqDiff], by simp (maxSteps := 2000000) (disch := first | omega | assumption | exact idP rfl | exact idP (bL rfl)) only [go_sem, reduceIte, Nat.reduceEqDiff]; rfl, hsub.set hb3, by simp (maxSteps := 2000000) (disch := first | omega | assumption | exact idP rfl | exact idP (bL rfl)) only [go_sem, reduceIte, Nat.reduceEqDiff]⟩ (by simp (maxSteps := 2000000) (disch := first | omega | assumption | exact idP rfl | exact idP (bL rfl)) only [go_sem, reduceIte, Nat.reduceEqDiff, ctrV_int, e4]; omega)
    · obtain rfl : i = xs.length := by omega
      simp only [List.take_length, Nat.sub_self, List.replicate_zero] at hm
      simp (maxSteps := 2000000) (disch := first | omega | assumption | exact idP rfl | exact idP (bL rfl)) only [go_sem, reduceIte, Nat.reduceEqDiff, e3]
      exact hR _ _ ⟨hsub, fun b' h' => by simp [blkV] at h'; subst h'; exact hb3, .inr ⟨b3, _, true, rfl, by simpa [catV] using hm, catV_len henc xs⟩⟩
theorem catV_at {α : Type} {enc : α → List V} {sz : Nat} (he : ∀ x, (enc x).length = sz) {xs : List α} {i : Nat} (hi : i < xs.length) : ((catV enc xs).drop (i * sz)).take sz = enc xs[i] := by
  have e1 : xs = xs.take i ++ xs[i] :: xs.drop (i + 1) := by rw [← List.drop_eq_getElem_cons hi, List.take_append_drop]
  have e2 : catV enc xs = catV enc (xs.take i) ++ (enc xs[i] ++ catV enc (xs.drop (i + 1))) := by
    have e3 : catV enc xs = catV enc (xs.take i ++ xs[i] :: xs.drop (i + 1)) := congrArg (catV enc) e1
    rw [e3]
    simp only [catV, List.map_append, List.map_cons, List.flatten_append, List.flatten_cons]
  have h3 := catV_len he (xs.take i)
  have h4 : (xs.take i).length = i := by simp; omega
  rw [e2, List.drop_left' (by rw [h3, h4]), List.take_left' (he _)]
theorem f_toVarS {v : V} {xs : List VarS} (hv : XVar v xs) (hl : xs.length ≤ 1048576) : VCall Tryz.prog n_laws_toVarS [v] M (fun r M' => M = M' ∧ LVar r xs) :=
  (VCall.fr1 (x_toVarS hv hl)).mono fun r M' ⟨h1, h2⟩ => ⟨h1, h2.lc (by omega) (catV_len (sz := 3) (enc := encVar) (fun _ => rfl) xs) fun i hi => catV_at (sz := 3) (enc := encVar) (fun _ => rfl) hi⟩
theorem f_toTermS {v : V} {xs : List TermS} (hv : XT v xs) (hl : xs.length ≤ 1048576) : VCall Tryz.prog n_laws_toTermS [v] M (fun r M' => M = M' ∧ LT r xs) :=
  (VCall.fr1 (x_toTermS hv hl)).mono fun r M' ⟨h1, h2⟩ => ⟨h1, h2.lc (by omega) (catV_len (sz := 4) (enc := encT) (fun _ => rfl) xs) fun i hi => catV_at (sz := 4) (enc := encT) (fun _ => rfl) hi⟩
end Go.M2

/- Contracts of a law's frame: copies of rules and systems. -/
namespace Go.M2
open Go.Proofs
set_option linter.unusedVariables false
set_option linter.unusedSimpArgs false
set_option maxRecDepth 10000
set_option maxHeartbeats 4000000
variable {M : MH}
theorem Cs.oneG {α : Type} {E : α → V → Prop} (hE : ∀ x u, E x u → oneV u = true) {us : List V} {l : List α} (h : Cs E us l) : us.all oneV = true := by
  refine List.all_eq_true.2 fun x hx => ?_
  obtain ⟨i, hi, rfl⟩ := List.getElem_of_mem hx
  obtain ⟨u, hu, he⟩ := h.2 i (by rw [← h.1]; exact hi)
  rw [List.getElem?_eq_getElem hi] at hu
  cases hu
  exact hE _ _ he
theorem f_toTermSS {v : V} {xs : List (List TermS)} (hv : XTT v xs) (hl : xs.length ≤ 1048576) (hx : ∀ ts ∈ xs, ts.length ≤ 1048576) : VCall Tryz.prog n_laws_toTermSS [v] M (fun r M' => M = M' ∧ LTT r xs) := by
  refine VCall.froz fun R hP hG => v_laws_toTermSS rfl ?_
  have hlen := hv.len fun _ _ h => h.len
  simp (maxSteps := 2000000) (disch := first | omega | assumption | exact idP rfl | exact idP (bL rfl)) only [go_sem, reduceIte, Nat.reduceEqDiff, hlen]
  refine mks3 (by omega) (by simp [mostCells]; omega) (by simp [mostCells]; omega) ?_
  intro b3 hb3
  simp (maxSteps := 2000000) (disch := first | omega | assumption | exact idP rfl | exact idP (bL rfl)) only [go_sem, reduceIte, Nat.reduceEqDiff, zeros_nil]
  refine loop_k (fun e M' => ∃ (i : Nat) (us : List V), i ≤ xs.length ∧ e 0 = v ∧ e 3 = .sc (.sl (some (b3, 0)) xs.length xs.length true 1) ∧ e 4 = .sc (.int .i64 i) ∧ Sub M M' ∧ M' b3 = some (us ++ List.replicate (xs.length - i) nil1) ∧ Cs (fun ts u => LT u ts) us (xs.take i)) (fun e _ => ctrV xs.length (e 4)) ?_ ?_
  · exact ⟨0, [], by omega, by simp (maxSteps := 2000000) (disch := first | omega | assumption | exact idP rfl | exact idP (bL rfl)) only [go_sem, reduceIte, Nat.reduceEqDiff], by simp (maxSteps := 2000000) (disch := first | omega | assumption | exact idP rfl | exact idP (bL rfl)) only [go_sem, reduceIte, Nat.reduceEqDiff], by simp (maxSteps := 2000000) (disch := first | omega | assumption | exact idP rfl | exact idP (bL rfl)) only [go_sem, reduceIte, Nat.reduceEqDiff]; rfl, (Sub.refl _).set hb3, by simp (maxSteps := 2000000) (disch := first | omega | assumption | exact idP rfl | exact idP (bL rfl)) only [go_sem, reduceIte, Nat.reduceEqDiff]; simp, .nil⟩
  · rintro e M1 ⟨i, us, hi, e0, e3, e4, hsub, hm, hc⟩ K hK
    have hul : us.length = i := by have := hc.1; simp at this; omega
    simp (maxSteps := 2000000) (disch := first | omega | assumption | exact idP rfl | exact idP (bL rfl)) only [go_sem, reduceIte, Nat.reduceEqDiff, e0, e3, e4, hlen]
    refine cond_dec (fun h => ?_) (fun h => ?_)
    · have hi' : i < xs.length := by omega
      have hv' := hv.get (by omega)
      obtain ⟨q, hq⟩ : ∃ q, xs.length - i = q + 1 := ⟨xs.length - i - 1, by omega⟩
      rw [hq, List.replicate_succ] at hm
      simp (maxSteps := 2000000) (disch := first | omega | assumption | exact idP rfl | exact idP (bL rfl)) only [go_sem, reduceIte, Nat.reduceEqDiff, e0, e3, e4, hv'.iaddr]
      refine (f_toTermS (hv'.elt hi') (hx _ (List.getElem_mem hi'))).mono ?_
      rintro r _ ⟨rfl, hr⟩
      have hr1 := hr.one.1
      have hr2 := hr.one.2
      have hsm : (us ++ nil1 :: List.replicate q nil1).set i r = us ++ r :: List.replicate q nil1 := set_mid hul
      have hnl3 : i < (us ++ nil1 :: List.replicate q nil1).length := by simp; omega
      simp (maxSteps := 2000000) (disch := first | omega | assumption | exact idP rfl | exact idP (bL rfl)) only [go_sem, reduceIte, Nat.reduceEqDiff, e0, e3, e4, hm, hr2, hsm]
      refine hK _ _ ⟨i + 1, us ++ [r], by omega, by simp (maxSteps := 2000000) (disch := first | omega | assumption | exact idP rfl | exact idP (bL rfl)) only [go_sem, reduceIte, Nat.reduceEqDiff], by simp (maxSteps := 2000000) (disch := first | omega | assumption | exact idP rfl | exact idP (bL rfl)) only [go_sem, reduceIte, Nat.reduceEqDiff], by simp (maxSteps := 2000000) (disch := first | omega | assumption | exact idP rfl | exact idP (bL rfl)) only [go_sem, reduceIte, Nat.reduceEqDiff]; rfl, hsub.set hb3, by simp (maxSteps := 2000000) (disch := first | omega | assumption | exact idP rfl | exact idP (bL rfl)) only [go_sem, reduceIte, Nat.reduceEqDiff]; simp [show xs.length - (i + 1) = q by omega], ?_⟩ (by simp (maxSteps := 2000000) (disch := first | omega | assumption | exact idP rfl | exact idP (bL rfl)) only [go_sem, reduceIte, Nat.reduceEqDiff, ctrV_int, e4]; omega)
      rw [take_snoc hi']
      exact hc.snoc hr
    · obtain rfl : i = xs.length := by omega
      rw [List.take_length] at hc
      simp (maxSteps := 2000000) (disch := first | omega | assumption | exact idP rfl | exact idP (bL rfl)) only [go_sem, reduceIte, Nat.reduceEqDiff, e3]
      exact hG _ _ 1 us ⟨hsub, fun b' h' => by simp [blkV] at h'; subst h'; exact hb3, .inr ⟨b3, _, true, rfl, by simpa using hm, by omega⟩⟩ fun u hu => hu.lsC hc
theorem f_toRule {cs : List V} {r : RuleS} (hv : isRuleX r cs) (hf : RuleFit r) : VCall Tryz.prog n_laws_toRule [.agg cs] M (fun r' M' => M = M' ∧ ∃ ds, r' = .agg ds ∧ isRule r ds) := by
  refine VCall.pure fun R hR => v_laws_toRule rfl ?_
  obtain ⟨a, b, c, rfl, ha, hb, hc⟩ := hv
  obtain ⟨f1, f2, f3, f4⟩ := hf
  simp (maxSteps := 2000000) (disch := first | omega | assumption | exact idP rfl | exact idP (bL rfl)) only [go_sem, reduceIte, Nat.reduceEqDiff]
  intro b1 hb1
  try simp (maxSteps := 2000000) (disch := first | omega | assumption | exact idP rfl | exact idP (bL rfl)) only [go_sem, reduceIte, Nat.reduceEqDiff]
  intro b2 hb2
  try simp (maxSteps := 2000000) (disch := first | omega | assumption | exact idP rfl | exact idP (bL rfl)) only [go_sem, reduceIte, Nat.reduceEqDiff]
  intro b3 hb3
  have n21 := (fresh_set hb2).1
  have n32 := (fresh_set hb3).1
  have n31 := (fresh_set (fresh_set hb3).2).1
  simp (maxSteps := 2000000) (disch := first | omega | assumption | exact idP rfl | exact idP (bL rfl)) only [go_sem, reduceIte, Nat.reduceEqDiff]
  refine (f_toTermS ha f1).mono ?_
  rintro x _ ⟨rfl, hx⟩
  have hx1 := hx.one.1
  have hx2 := hx.one.2
  simp (maxSteps := 2000000) (disch := first | omega | assumption | exact idP rfl | exact idP (bL rfl)) only [go_sem, reduceIte, Nat.reduceEqDiff, hx2]
  refine (f_toIntS hb f2).mono ?_
  rintro y _ ⟨rfl, hy⟩
  have hy1 := hy.one.1
  have hy2 := hy.one.2
  simp (maxSteps := 2000000) (disch := first | omega | assumption | exact idP rfl | exact idP (bL rfl)) only [go_sem, reduceIte, Nat.reduceEqDiff, hy2]
  refine (f_toTermSS hc f3 f4).mono ?_
  rintro z _ ⟨rfl, hz⟩
  have hz1 := hz.one.1
  have hz2 := hz.one.2
  simp (maxSteps := 2000000) (disch := first | omega | assumption | exact idP rfl | exact idP (bL rfl)) only [go_sem, reduceIte, Nat.reduceEqDiff, hz2]
  refine hR _ _ ?_ ⟨_, rfl, x, y, z, rfl, hx, hy, hz⟩
  repeat (first | exact Sub.refl _ | assumption | (refine Sub.set ?_ (fresh_set hb2).2) | (refine Sub.set ?_ (fresh_set (fresh_set hb3).2).2) | (refine Sub.set' ?_ (by assumption)))
abbrev T3 := {l : List V // l.length = 3}
def z3 : T3 := ⟨[nil1, nil1, nil1], rfl⟩
theorem f_toRuleS {v : V} {xs : List RuleS} (hv : XR v xs) (hl : xs.length ≤ 1048576) (hx : ∀ r ∈ xs, RuleFit r) : VCall Tryz.prog n_laws_toRuleS [v] M (fun r M' => M = M' ∧ LR r xs) := by
  refine VCall.froz fun R hP hG => v_laws_toRuleS rfl ?_
  have hlen := hv.len fun _ _ h => h.len
  have henc : ∀ x : T3, x.val.length = 3 := fun x => x.property
  simp (maxSteps := 2000000) (disch := first | omega | assumption | exact idP rfl | exact idP (bL rfl)) only [go_sem, reduceIte, Nat.reduceEqDiff, hlen]
  refine mks3 (by omega) (by simp [mostCells]; omega) (by simp [mostCells]; omega) ?_
  intro b3 hb3
  simp (maxSteps := 2000000) (disch := first | omega | assumption | exact idP rfl | exact idP (bL rfl)) only [go_sem, reduceIte, Nat.reduceEqDiff, zeros_cat (enc := fun x : T3 => x.val) (z := z3) (zs := [AV.sl none 0 0 true 0, AV.sl none 0 0 true 0, AV.sl none 0 0 true 0]) rfl]
  refine loop_k (fun e M' => ∃ (i : Nat) (us : List T3), i ≤ xs.length ∧ us.length = i ∧ e 0 = v ∧ e 3 = .sc (.sl (some (b3, 0)) xs.length xs.length true 3) ∧ e 4 = .sc (.int .i64 i) ∧ Sub M M' ∧ M' b3 = some (catV (fun x : T3 => x.val) us ++ catV (fun x : T3 => x.val) (List.replicate (xs.length - i) z3)) ∧ ∀ j (h1 : j < xs.length) (h2 : j < us.length), isRule xs[j] us[j].val) (fun e _ => ctrV xs.length (e 4)) ?_ ?_
  · exact ⟨0, [], by omega, rfl, by simp (maxSteps := 2000000) (disch := first | omega | assumption | exact idP rfl | exact idP (bL rfl)) only [go_sem, reduceIte, Nat.reduceEqDiff], by simp (maxSteps := 2000000) (disch := first | omega | assumption | exact idP rfl | exact idP (bL rfl)) only [go_sem, reduceIte, Nat.reduceEqDiff], by simp (maxSteps := 2000000) (disch := first | omega | assumption | exact idP rfl | exact idP (bL rfl)) only [go_sem, reduceIte, Nat.reduceEqDiff]; rfl, (Sub.refl _).set hb3, by simp (maxSteps := 2000000) (disch := first | omega | assumption | exact idP rfl | exact idP (bL rfl)) only [go_sem, reduceIte, Nat.reduceEqDiff]; simp [catV], fun j _ h => by simp at h⟩
  · rintro e M1 ⟨i, us, hi, hul, e0, e3, e4, hsub, hm, hc⟩ K hK
    simp (maxSteps := 2000000) (disch := first | omega | assumption | exact idP rfl | exact idP (bL rfl)) only [go_sem, reduceIte, Nat.reduceEqDiff, e0, e3, e4, hlen]
    refine cond_dec (fun h => ?_) (fun h => ?_)
    · have hi' : i < xs.length := by omega
      have hv' := hv.get (by omega)
      have hcs := hv'.elt hi'
      have hrule := hcs
      obtain ⟨c1, c2, c3, hat, _, _, _⟩ := hcs
      rw [hat] at hrule
      simp (maxSteps := 2000000) (disch := first | omega | assumption | exact idP rfl | exact idP (bL rfl)) only [go_sem, reduceIte, Nat.reduceEqDiff, e0, e3, e4, hv'.iaddr, hat]
      refine (f_toRule hrule (hx _ (List.getElem_mem hi'))).mono ?_
      rintro _ _ ⟨rfl, ds, rfl, hr⟩
      have hr0 := hr
      obtain ⟨x, y, z, rfl, hx1, hx2, hx3⟩ := hr
      simp (maxSteps := 2000000) (disch := first | omega | assumption | exact idP rfl | exact idP (bL rfl)) only [go_sem, reduceIte, Nat.reduceEqDiff, e0, e3, e4, hm]
      refine ⟨rfl, by simp [hx1.one.1, hx2.one.1, hx3.one.1], ?_, ?_⟩
      · rw [List.length_append, catV_len henc, catV_len henc, hul, List.length_replicate]; omega
      rw [show xs.length - i = (xs.length - (i + 1)) + 1 by omega, cat_set (x := (⟨[x, y, z], rfl⟩ : T3)) henc (by rw [hul])]
      simp (maxSteps := 2000000) (disch := first | omega | assumption | exact idP rfl | exact idP (bL rfl)) only [go_sem, reduceIte, Nat.reduceEqDiff, e0, e3, e4]
      refine hK _ _ ⟨i + 1, us ++ [⟨[x, y, z], rfl⟩], by omega, by simp [hul], by simp (maxSteps := 2000000) (disch := first | omega | assumption | exact idP rfl | exact idP (bL rfl)) only [go_sem, reduceIte, Nat.reduceEqDiff], by simp (maxSteps := 2000000) (disch := first | omega | assumption | exact idP rfl | exact idP (bL rfl)) only [go_sem, reduceIte, Nat.reduceEqDiff], by simp (maxSteps := 2000000) (disch := first | omega | assumption | exact idP rfl | exact idP (bL rfl)) only [go_sem, reduceIte, Nat.reduceEqDiff]; rfl, hsub.set hb3, by simp (maxSteps := 2000000) (disch := first | omega | assumption | exact idP rfl | exact idP (bL rfl)) only [go_sem, reduceIte, Nat.reduceEqDiff], fun j h1 h2 => ?_⟩ (by simp (maxSteps := 2000000) (disch := first | omega | assumption | exact idP rfl | exact idP (bL rfl)) only [go_sem, reduceIte, Nat.reduceEqDiff, ctrV_int, e4]; omega)
      by_cases hj : j < us.length
      · rw [List.getElem_append_left hj]; exact hc j h1 hj
      · obtain rfl : j = us.length := by simp at h2; omega
        subst hul
        simpa using hr0
    · obtain rfl : i = xs.length := by omega
      simp (maxSteps := 2000000) (disch := first | omega | assumption | exact idP rfl | exact idP (bL rfl)) only [go_sem, reduceIte, Nat.reduceEqDiff, e3]
      exact hG _ _ 3 (catV (fun x : T3 => x.val) us) ⟨hsub, fun b' h' => by simp [blkV] at h'; subst h'; exact hb3, .inr ⟨b3, _, true, rfl, by simpa [catV] using hm, by rw [catV_len henc, hul]⟩⟩ fun u hu => hu.lc (by omega) (by rw [catV_len henc, hul]) fun j hj => by rw [catV_at henc (by omega)]; exact hc j hj (by omega)
theorem f_toSystem {v : V} {s : SysS} (hv : isSysX s v) (hf : SysFit s) : VCall Tryz.prog n_laws_toSystem [v] M (fun r' M' => M = M' ∧ isSys s r') := by
  refine VCall.pure fun R hR => v_laws_toSystem rfl ?_
  obtain ⟨a, b, rfl, ha, hb⟩ := hv
  obtain ⟨f1, f2, f3⟩ := hf
  simp (maxSteps := 2000000) (disch := first | omega | assumption | exact idP rfl | exact idP (bL rfl)) only [go_sem, reduceIte, Nat.reduceEqDiff]
  intro b1 hb1
  try simp (maxSteps := 2000000) (disch := first | omega | assumption | exact idP rfl | exact idP (bL rfl)) only [go_sem, reduceIte, Nat.reduceEqDiff]
  intro b2 hb2
  try simp (maxSteps := 2000000) (disch := first | omega | assumption | exact idP rfl | exact idP (bL rfl)) only [go_sem, reduceIte, Nat.reduceEqDiff]
  intro b3 hb3
  have n21 := (fresh_set hb2).1
  have n32 := (fresh_set hb3).1
  have n31 := (fresh_set (fresh_set hb3).2).1
  simp (maxSteps := 2000000) (disch := first | omega | assumption | exact idP rfl | exact idP (bL rfl)) only [go_sem, reduceIte, Nat.reduceEqDiff]
  refine (f_toVarS ha f1).mono ?_
  rintro x _ ⟨rfl, hx⟩
  have hx1 := hx.one.1
  have hx2 := hx.one.2
  simp (maxSteps := 2000000) (disch := first | omega | assumption | exact idP rfl | exact idP (bL rfl)) only [go_sem, reduceIte, Nat.reduceEqDiff, hx2]
  refine (f_toRuleS hb f2 f3).mono ?_
  rintro y _ ⟨rfl, hy⟩
  have hy1 := hy.one.1
  have hy2 := hy.one.2
  simp (maxSteps := 2000000) (disch := first | omega | assumption | exact idP rfl | exact idP (bL rfl)) only [go_sem, reduceIte, Nat.reduceEqDiff, hy2]
  refine hR _ _ ?_ ⟨x, y, rfl, hx, hy⟩
  repeat (first | exact Sub.refl _ | assumption | (refine Sub.set ?_ (fresh_set hb2).2) | (refine Sub.set ?_ (fresh_set (fresh_set hb3).2).2) | (refine Sub.set' ?_ (by assumption)))
end Go.M2

/- The law's function FnExactClosed. -/
namespace Go.M2
open Go.Proofs
set_option linter.unusedVariables false
set_option linter.unusedSimpArgs false
set_option maxRecDepth 10000
set_option maxHeartbeats 4000000
variable {M : MH}
theorem SysFit.sz {s : SysS} (h : SysFit s) : SysSz s := ⟨h.1, h.2.1, fun r hr => (h.2.2 r hr).2.1⟩
theorem law_Closed {v w : V} {s : SysS} {xs : List Int} (hv : isSysX s v) (hl : SysLen s) (hw : XI w xs) (hx : xs.length ≤ 9223372036854775807) :
    VCall Tryz.prog n_laws_FnExactClosed [v, w] M (fun r M' => M = M' ∧ r = .sc (.bool true)) := by
  refine VCall.pure fun R hR => v_laws_FnExactClosed rfl ?_
  have hv0 := hv
  obtain ⟨a, b, rfl, ha, hb⟩ := hv
  have hlen := hw.len fun _ _ h => h.len
  (repeat' (first | ((first | with_reducible refine cond_dec (fun h => ?_) (fun h => ?_) | with_reducible refine guardK_dec (fun h => ?_) (fun h => ?_) | with_reducible refine guardD3_dec (fun h => ?_) (fun h => ?_)) <;> first | (exfalso; omega) | (simp (maxSteps := 2000000) (disch := first | omega | assumption | exact idP rfl | exact idP (bL rfl)) only [go_sem, reduceIte, Nat.reduceEqDiff, h, hlen]) | skip) | ((first | with_reducible refine cond_split (fun h => ?_) (fun h => ?_) | with_reducible refine guardK_split (fun h => ?_) (fun h => ?_) | with_reducible refine guardD3_split (fun h => ?_) (fun h => ?_)) <;> ((try simp only [Bool.not_eq_true', Bool.not_eq_false'] at h); first | (simp (maxSteps := 2000000) (disch := first | omega | assumption | exact idP rfl | exact idP (bL rfl)) only [go_sem, reduceIte, Nat.reduceEqDiff, h, hlen]) | skip)) | (with_reducible intro bk hbk; try have hnk := (fresh_set hbk).1) | (simp (maxSteps := 2000000) (disch := first | omega | assumption | exact idP rfl | exact idP (bL rfl)) only [go_sem, reduceIte, Nat.reduceEqDiff, hlen])))
  · exact hR _ _ (by (repeat (first | exact Sub.refl _ | assumption | (refine Sub.set' ?_ (by assumption))))) rfl
  · refine (x_szSystem hv0 hl (by omega) (by omega)).mono ?_
    rintro _ _ ⟨rfl, k, rfl, _, hk⟩
    (repeat' (first | ((first | with_reducible refine cond_dec (fun h => ?_) (fun h => ?_) | with_reducible refine guardK_dec (fun h => ?_) (fun h => ?_) | with_reducible refine guardD3_dec (fun h => ?_) (fun h => ?_)) <;> first | (exfalso; omega) | (simp (maxSteps := 2000000) (disch := first | omega | assumption | exact idP rfl | exact idP (bL rfl)) only [go_sem, reduceIte, Nat.reduceEqDiff, h]) | skip) | ((first | with_reducible refine cond_split (fun h => ?_) (fun h => ?_) | with_reducible refine guardK_split (fun h => ?_) (fun h => ?_) | with_reducible refine guardD3_split (fun h => ?_) (fun h => ?_)) <;> ((try simp only [Bool.not_eq_true', Bool.not_eq_false'] at h); first | (simp (maxSteps := 2000000) (disch := first | omega | assumption | exact idP rfl | exact idP (bL rfl)) only [go_sem, reduceIte, Nat.reduceEqDiff, h]) | skip)) | (with_reducible intro bk hbk; try have hnk := (fresh_set hbk).1) | (simp (maxSteps := 2000000) (disch := first | omega | assumption | exact idP rfl | exact idP (bL rfl)) only [go_sem, reduceIte, Nat.reduceEqDiff])))
    · exact hR _ _ (by (repeat (first | exact Sub.refl _ | assumption | (refine Sub.set' ?_ (by assumption))))) rfl
    · have hf := hk (by omega)
      have hxl : xs.length ≤ 1048576 := by omega
      refine (f_toSystem hv0 hf).mono ?_
      rintro s1 _ ⟨rfl, hs1⟩
      simp (maxSteps := 2000000) (disch := first | omega | assumption | exact idP rfl | exact idP (bL rfl)) only [go_sem, reduceIte, Nat.reduceEqDiff]
      refine (f_toIntS hw hxl).mono ?_
      rintro x1 _ ⟨rfl, hx1⟩
      simp (maxSteps := 2000000) (disch := first | omega | assumption | exact idP rfl | exact idP (bL rfl)) only [go_sem, reduceIte, Nat.reduceEqDiff]
      refine (t_specClosed hs1 hx1 hxl).mono ?_
      rintro _ _ ⟨rfl, rfl⟩
      simp (maxSteps := 2000000) (disch := first | omega | assumption | exact idP rfl | exact idP (bL rfl)) only [go_sem, reduceIte, Nat.reduceEqDiff]
      refine (f_toSystem hv0 hf).mono ?_
      rintro s2 _ ⟨rfl, hs2⟩
      have hs20 := hs2
      obtain ⟨a2, b2, rfl, ha2, hb2⟩ := hs2
      simp (maxSteps := 2000000) (disch := first | omega | assumption | exact idP rfl | exact idP (bL rfl)) only [go_sem, reduceIte, Nat.reduceEqDiff, ha2.one.1, ha2.one.2, hb2.one.1, hb2.one.2]
      intro b7 hb7
      have n7 := (fresh_set hb7).1
      have o1 := ha2.one.1
      have o2 := hb2.one.1
      simp (maxSteps := 2000000) (disch := first | omega | assumption | exact idP rfl | exact idP (bL rfl)) only [go_sem, reduceIte, Nat.reduceEqDiff]
      refine (f_toIntS hw hxl).mono ?_
      rintro x2 _ ⟨rfl, hx2⟩
      simp (maxSteps := 2000000) (disch := first | omega | assumption | exact idP rfl | exact idP (bL rfl)) only [go_sem, reduceIte, Nat.reduceEqDiff]
      refine (t_impClosed hs20 hf.sz hx2 hxl).mono ?_
      rintro _ _ ⟨rfl, rfl⟩
      rw [closed_eq]
      have ei : decide (xs = xs) = true := by simp
      generalize (setV s xs && closedI s xs) = t
      cases t
      all_goals simp (maxSteps := 2000000) (disch := first | omega | assumption | exact idP rfl | exact idP (bL rfl)) only [go_sem, reduceIte, Nat.reduceEqDiff, beq_self_eq_true, Bool.not_true, BEq.rfl]
      all_goals refine (f_toSystem hv0 hf).mono ?_
      all_goals rintro s3 _ ⟨rfl, hs3⟩
      all_goals simp (maxSteps := 2000000) (disch := first | omega | assumption | exact idP rfl | exact idP (bL rfl)) only [go_sem, reduceIte, Nat.reduceEqDiff]
      all_goals refine (x_eqSystem hs20 hs3 hf).mono ?_
      all_goals rintro _ _ ⟨rfl, rfl⟩
      all_goals simp (maxSteps := 2000000) (disch := first | omega | assumption | exact idP rfl | exact idP (bL rfl)) only [go_sem, reduceIte, Nat.reduceEqDiff]
      all_goals refine (f_toIntS hw hxl).mono ?_
      all_goals rintro x3 _ ⟨rfl, hx3⟩
      all_goals simp (maxSteps := 2000000) (disch := first | omega | assumption | exact idP rfl | exact idP (bL rfl)) only [go_sem, reduceIte, Nat.reduceEqDiff]
      all_goals refine (x_eqIntS hx2 hx3 hxl).mono ?_
      all_goals rintro _ _ ⟨rfl, rfl⟩
      all_goals simp (maxSteps := 2000000) (disch := first | omega | assumption | exact idP rfl | exact idP (bL rfl)) only [go_sem, reduceIte, Nat.reduceEqDiff, ei]
      all_goals exact hR _ _ (by (repeat (first | exact Sub.refl _ | assumption | (refine Sub.set' ?_ (by assumption))))) rfl
end Go.M2

/- From the start's heap to values: what a law's function is called with. -/
namespace Go.M2
open Go.Proofs
set_option linter.unusedVariables false
set_option linter.unusedSimpArgs false
/-- Cells that stand for values. -/
def EV {α : Type} (E : α → List V → Prop) : Heap → α → List AV → Prop := fun H x cs => ∃ vs : List V, erl vs = cs ∧ okL H vs ∧ E x vs
theorem erl_len : ∀ l : List V, (erl l).length = l.length
  | [] => rfl
  | v :: t => by simp only [erl, List.length_cons, erl_len t]
theorem erl_app : ∀ a b : List V, erl (a ++ b) = erl a ++ erl b
  | [], b => rfl
  | v :: t, b => by simp only [List.cons_append, erl, erl_app t b]
theorem okL_app {H : Heap} : ∀ {a b : List V}, okL H a → okL H b → okL H (a ++ b)
  | [], b, _, h => h
  | v :: t, b, h, k => by
    simp only [List.cons_append, okL] at h ⊢
    exact ⟨h.1, okL_app h.2 k⟩
theorem lift_cells {α : Type} {E : α → List V → Prop} {H : Heap} {b sz : Nat} : ∀ {xs : List α} {o : Nat}, (∀ i (h : i < xs.length), ∃ cs, cs.length = sz ∧ Rd H b (o + i * sz) cs ∧ EV E H xs[i] cs) →
    ∃ vs : List V, vs.length = xs.length * sz ∧ Rd H b o (erl vs) ∧ okL H vs ∧ ∀ i (h : i < xs.length), E xs[i] ((vs.drop (i * sz)).take sz)
  | [], o, _ => ⟨[], by simp, Rd.nil _ _ _, by simp [okL], fun i h => by simp at h⟩
  | x :: t, o, h => by
    obtain ⟨cs, h1, h2, us, h3, h4, h5⟩ := h 0 (by simp)
    obtain ⟨vs, k1, k2, k3, k4⟩ := lift_cells (xs := t) (o := o + sz) (E := E) (H := H) (b := b) (sz := sz) (fun i hi => by
      obtain ⟨cs, q1, q2, q3⟩ := h (i + 1) (by simp; omega)
      exact ⟨cs, q1, by rw [show o + sz + i * sz = o + (i + 1) * sz by rw [Nat.succ_mul]; omega]; exact q2, by simpa using q3⟩)
    have hu : us.length = sz := by rw [← erl_len, h3]; exact h1
    refine ⟨us ++ vs, by simp [hu, k1, Nat.succ_mul]; omega, ?_, okL_app h4 k3, fun i hi => ?_⟩
    · intro i y hy
      rw [erl_app] at hy
      by_cases hlt : i < (erl us).length
      · rw [List.getElem?_append_left hlt, h3] at hy
        have := h2 i y hy
        simpa using this
      · rw [List.getElem?_append_right (by omega)] at hy
        have e1 : (erl us).length = sz := by rw [erl_len]; exact hu
        rw [e1] at hy hlt
        have := k2 (i - sz) y hy
        rwa [show o + sz + (i - sz) = o + i by omega] at this
    · cases i with
      | zero => simpa [List.take_left' hu] using h5
      | succ i =>
        have := k4 i (by simpa using hi)
        have e2 : (us ++ vs).drop ((i + 1) * sz) = vs.drop (i * sz) := by
          rw [show (i + 1) * sz = us.length + i * sz by rw [Nat.succ_mul, hu]; omega, List.drop_append]
          simp
        rw [e2]
        simpa using this
theorem lift_slice {α : Type} {E : α → List V → Prop} {H : Heap} {sz : Nat} {v : AV} {xs : List α} (h : InS sz (EV E) H v xs) : ∃ v', er v' = v ∧ okV H v' ∧ In (Lc sz E) v' xs := by
  rcases h with ⟨A, c, ex, k, rfl, h⟩ | ⟨rfl, rfl⟩
  · obtain ⟨vs, h1, h2, h3, h4⟩ := lift_cells h
    exact ⟨.fs A xs.length c ex k vs, rfl, by simp only [okV]; exact ⟨h2, h3⟩, .inl (.inr ⟨A, c, ex, k, vs, rfl, by omega, fun i hi => h4 i hi⟩)⟩
  · exact ⟨.sc .emp, rfl, by simp [okV], .inr ⟨rfl, rfl⟩⟩
def E1 {α : Type} (E : α → V → Prop) : α → List V → Prop := fun a cs => ∃ u, cs = [u] ∧ E a u
theorem lc1_ls {α : Type} {E : α → V → Prop} {v : V} {ys : List α} (h : Lc 1 (E1 E) v ys) : Ls E v ys := by
  rcases h with h | ⟨A, c, ex, k, xs, rfl, hl, h⟩
  · exact .inl h
  · refine .inr ⟨A, c, ex, k, xs, rfl, by omega, fun i hi => ?_⟩
    obtain ⟨u, h1, h2⟩ := h i hi
    have h3 : xs[i]? = some u := by
      have := congrArg (fun l => l[0]?) h1
      simpa [atN, List.getElem?_take, List.getElem?_drop] using this
    have h4 : at1 (.fs A ys.length c ex k xs) i = u := by
      simp [at1, List.getD_eq_getElem?_getD, h3]
    rw [h4]; exact h2
section
open Go.ChangeShapes Go.WideShapes Go.ChangeAt Go.RowKit
variable {HH : Type} {enc : TypeId × Value → HH} {P : Program} {W : World} {t e : TypeId} {fuel : Nat} {cs : List Value} {x : DataW HH × List MemPlace}
/-- What cells of the input hold, as values. -/
def LiftE {α : Type} (W : World) (E : α → List V → Prop) (a : α) (cs : List Value) : Prop := ∃ vs, erl vs = cs.map (avC W.heap.size) ∧ okL (heap0 W) vs ∧ E a vs
theorem in_list {α : Type} {E : α → List V → Prop} {good : α → Prop} {sz : Nat} (ht : P.underlying t = some (.slice e)) (hsz : P.cellsOf e = sz) (h0 : 0 < sz)
    (he : ∀ n cs x, DataW.trod enc P W 0 (fun _ => true) true n e cs = some x → ∃ a, LiftE W E a cs ∧ good a)
    (h : DataW.trod enc P W 0 (fun _ => true) true fuel t cs = some x) : ∃ xs : List α, LiftE W (E1 (fun (ys : List α) u => In (Lc sz E) u ys)) xs cs ∧ (xs.length ≤ 9223372036854775807 ∧ ∀ a ∈ xs, good a) := by
  obtain ⟨v, xs, rfl, h1, h2, h3⟩ := in_slice (E := EV E) (good := good) ht hsz h0 (fun n cs x hx => by
    obtain ⟨a, ⟨vs, h1, h2, h3⟩, h4⟩ := he n cs x hx
    exact ⟨a, ⟨vs, h1, h2, h3⟩, h4⟩) h
  obtain ⟨u, k1, k2, k3⟩ := lift_slice h1
  exact ⟨xs, ⟨[u], by simp [erl, k1], by simp only [okL]; exact ⟨k2, trivial⟩, u, rfl, k3⟩, h3, h2⟩
theorem in_list1 {α : Type} {E : α → V → Prop} {good : α → Prop} (ht : P.underlying t = some (.slice e)) (hsz : P.cellsOf e = 1)
    (he : ∀ n cs x, DataW.trod enc P W 0 (fun _ => true) true n e cs = some x → ∃ a, LiftE W (E1 E) a cs ∧ good a)
    (h : DataW.trod enc P W 0 (fun _ => true) true fuel t cs = some x) : ∃ xs : List α, LiftE W (E1 (fun (ys : List α) u => In (Ls E) u ys)) xs cs ∧ (xs.length ≤ 9223372036854775807 ∧ ∀ a ∈ xs, good a) := by
  obtain ⟨xs, ⟨vs, h1, h2, u, rfl, h3⟩, h4⟩ := in_list ht hsz (by omega) he h
  exact ⟨xs, ⟨[u], h1, h2, u, rfl, h3.imp lc1_ls id⟩, h4⟩
theorem in_n (ht : P.underlying t = some (.int .i64)) (h : DataW.trod enc P W 0 (fun _ => true) true fuel t cs = some x) : ∃ n, LiftE W (E1 isI) n cs ∧ (-9223372036854775808 ≤ n ∧ n ≤ 9223372036854775807) := by
  obtain ⟨n, rfl, h1⟩ := in_int ht h
  exact ⟨n, ⟨[.sc (.int .i64 n)], rfl, by simp [okL, okV], _, rfl, rfl⟩, h1⟩
theorem LiftE.one {α : Type} {E : α → V → Prop} {a : α} {c : Value} (h : LiftE W (E1 E) a [c]) : ∃ u, er u = avC W.heap.size c ∧ okV (heap0 W) u ∧ E a u := by
  obtain ⟨vs, h1, h2, u, rfl, h3⟩ := h
  simp only [erl, List.map_cons, List.map_nil, List.cons.injEq, and_true] at h1
  simp only [okL] at h2
  exact ⟨u, h1, h2.1, h3⟩
/-- Fields of one cell each. -/
theorem one_fields {fs : Array Field} {m : Nat} (ht : P.underlying t = some (.struct fs)) (hc : P.cellsOf t = m) (hm : fs.size = m) (ho : ∀ (i : Nat) (f : Field), fs[i]? = some f → f.offset = i ∧ P.cellsOf f.type = 1)
    (h : DataW.trod enc P W 0 (fun _ => true) true fuel t cs = some x) :
    cs.length = m ∧ ∀ (i : Nat) (f : Field) (c : Value), fs[i]? = some f → cs[i]? = some c → ∃ n y, DataW.trod enc P W 0 (fun _ => true) true n f.type [c] = some y := by
  obtain ⟨xs, n, _, _, hl, hxl, hf⟩ := DataW.trod_struct ht h
  refine ⟨hl.trans hc, fun i f c hi hci => ?_⟩
  have h1 := hf i f hi
  obtain ⟨h2, h3⟩ := ho i f hi
  have hlt : i < xs.length := by rw [hxl]; exact (Array.getElem?_eq_some_iff.1 hi).1
  rw [h2, h3, List.getElem?_eq_getElem hlt] at h1
  have h4 : (cs.drop i).take 1 = [c] := by
    obtain ⟨h5, h6⟩ := List.getElem?_eq_some_iff.1 hci
    rw [List.drop_eq_getElem_cons h5, h6]; simp
  rw [h4] at h1
  exact ⟨n, _, h1⟩
end
/-- A CALL from the start. -/
theorem calls_of_vcall {P : Program} {f : FuncId} {vs : List Value} {vv : List V} {W : World} (h : VCall P f vv (fun _ => none) (fun r M' => (fun _ => none) = M' ∧ r = .sc (.bool true)))
    (he : vv.map er = vs.map (avT W.heap.size)) (ho : okL (heap0 W) vv) : Calls P f vs.toArray W (fun e w' => e = .returned (.bool true) ∧ Go.RowKit.Below W.heap.size W w') := by
  refine calls_of_acall ?_
  rw [← he]
  refine (h (heap0 W) (heap0 W) ⟨rfl, fun b _ => .inr rfl, fun b l hb => by cases hb⟩ ho).mono ?_
  rintro a H' ⟨r, M', F', rfl, _, _, _, _, rfl⟩
  rfl
end Go.M2

/- A system of the input, as values. -/
namespace Go.M2
open Go.Proofs
open Go.ChangeShapes Go.WideShapes Go.ChangeAt Go.RowKit
set_option linter.unusedVariables false
variable {HH : Type} {enc : TypeId × Value → HH} {W : World} {fuel : Nat} {cs : List Value} {x : DataW HH × List MemPlace}
theorem list4 {α : Type} {l : List α} (h : l.length = 4) : ∃ a b c d, l = [a, b, c, d] := by
  match l, h with
  | [a, b, c, d], _ => exact ⟨a, b, c, d, rfl⟩
theorem list3 {α : Type} {l : List α} (h : l.length = 3) : ∃ a b c, l = [a, b, c] := by
  match l, h with
  | [a, b, c], _ => exact ⟨a, b, c, rfl⟩
theorem in_i64 (h : DataW.trod enc Tryz.prog W 0 (fun _ => true) true fuel 3 cs = some x) : ∃ n : Int, cs = [.int .i64 n] := by
  obtain ⟨n, h1, _⟩ := in_int Tryz.underlying3 h
  exact ⟨n, h1⟩
theorem in_term (h : DataW.trod enc Tryz.prog W 0 (fun _ => true) true fuel 88 cs = some x) : ∃ t : TermS, LiftE W isT t cs ∧ True := by
  have c3 : Tryz.prog.cellsOf 3 = 1 := by kernel_rfl
  obtain ⟨xs, n, _, _, hl, hxl, hf⟩ := DataW.trod_struct Tryz.underlying88 h
  have hxl : xs.length = 4 := hxl
  have hl : cs.length = 4 := hl.trans (by kernel_rfl)
  obtain ⟨a, b, c, d, rfl⟩ := list4 hl
  have f0 := hf 0 ⟨ "Op", 3, 0, false, "", "", 0⟩ rfl
  have f1 := hf 1 ⟨ "N", 3, 1, false, "", "", 8⟩ rfl
  have f2 := hf 2 ⟨ "A", 3, 2, false, "", "", 16⟩ rfl
  have f3 := hf 3 ⟨ "B", 3, 3, false, "", "", 24⟩ rfl
  rw [List.getElem?_eq_getElem (by omega), c3] at f0 f1 f2 f3
  obtain ⟨n0, e0⟩ := in_i64 f0
  obtain ⟨n1, e1⟩ := in_i64 f1
  obtain ⟨n2, e2⟩ := in_i64 f2
  obtain ⟨n3, e3⟩ := in_i64 f3
  simp only [List.drop_zero, List.drop_succ_cons, List.take_succ_cons, List.take_zero, List.cons.injEq, and_true] at e0 e1 e2 e3
  subst e0 e1 e2 e3
  exact ⟨⟨n0, n1, n2, n3⟩, ⟨encT ⟨n0, n1, n2, n3⟩, rfl, by simp [encT, okL, okV], rfl⟩, trivial⟩
theorem in_var (h : DataW.trod enc Tryz.prog W 0 (fun _ => true) true fuel 105 cs = some x) : ∃ t : VarS, LiftE W isVar t cs ∧ True := by
  have c3 : Tryz.prog.cellsOf 3 = 1 := by kernel_rfl
  obtain ⟨xs, n, _, _, hl, hxl, hf⟩ := DataW.trod_struct Tryz.underlying105 h
  have hxl : xs.length = 3 := hxl
  have hl : cs.length = 3 := hl.trans (by kernel_rfl)
  obtain ⟨a, b, c, rfl⟩ := list3 hl
  have f0 := hf 0 ⟨ "Low", 3, 0, false, "", "", 0⟩ rfl
  have f1 := hf 1 ⟨ "High", 3, 1, false, "", "", 8⟩ rfl
  have f2 := hf 2 ⟨ "First", 3, 2, false, "", "", 16⟩ rfl
  rw [List.getElem?_eq_getElem (by omega), c3] at f0 f1 f2
  obtain ⟨n0, e0⟩ := in_i64 f0
  obtain ⟨n1, e1⟩ := in_i64 f1
  obtain ⟨n2, e2⟩ := in_i64 f2
  simp only [List.drop_zero, List.drop_succ_cons, List.take_succ_cons, List.take_zero, List.cons.injEq, and_true] at e0 e1 e2
  subst e0 e1 e2
  exact ⟨⟨n0, n1, n2⟩, ⟨encVar ⟨n0, n1, n2⟩, rfl, by simp [encVar, okL, okV], rfl⟩, trivial⟩
theorem in_ints (h : DataW.trod enc Tryz.prog W 0 (fun _ => true) true fuel 26 cs = some x) : ∃ ns : List Int, LiftE W (E1 (fun (ys : List Int) u => XI u ys)) ns cs ∧ LenOk ns := by
  obtain ⟨ns, h1, h2, _⟩ := in_list1 (E := isI) (good := fun n => -9223372036854775808 ≤ n ∧ n ≤ 9223372036854775807) Tryz.underlying26 (by kernel_rfl) (fun n cs x h => in_n Tryz.underlying3 h) h
  exact ⟨ns, h1, h2⟩
theorem in_terms (h : DataW.trod enc Tryz.prog W 0 (fun _ => true) true fuel 43 cs = some x) : ∃ ts : List TermS, LiftE W (E1 (fun (ys : List TermS) u => XT u ys)) ts cs ∧ LenOk ts := by
  obtain ⟨ns, h1, h2, _⟩ := in_list (E := isT) (good := fun _ => True) (sz := 4) Tryz.underlying43 (by kernel_rfl) (by omega) (fun n cs x h => in_term h) h
  exact ⟨ns, h1, h2⟩
theorem in_vars (h : DataW.trod enc Tryz.prog W 0 (fun _ => true) true fuel 22 cs = some x) : ∃ ts : List VarS, LiftE W (E1 (fun (ys : List VarS) u => XVar u ys)) ts cs ∧ LenOk ts := by
  obtain ⟨ns, h1, h2, _⟩ := in_list (E := isVar) (good := fun _ => True) (sz := 3) Tryz.underlying22 (by kernel_rfl) (by omega) (fun n cs x h => in_var h) h
  exact ⟨ns, h1, h2⟩
theorem in_termss (h : DataW.trod enc Tryz.prog W 0 (fun _ => true) true fuel 99 cs = some x) : ∃ ts : List (List TermS), LiftE W (E1 (fun (ys : List (List TermS)) u => XTT u ys)) ts cs ∧ (LenOk ts ∧ ∀ t ∈ ts, LenOk t) :=
  in_list1 (E := fun (ts : List TermS) u => XT u ts) (good := fun ts => LenOk ts) Tryz.underlying99 (by kernel_rfl) (fun n cs x h => in_terms h) h
theorem in_rule (h : DataW.trod enc Tryz.prog W 0 (fun _ => true) true fuel 101 cs = some x) : ∃ r : RuleS, LiftE W isRuleX r cs ∧ RuleLen r := by
  obtain ⟨xs, n, _, _, hl, hxl, hf⟩ := DataW.trod_struct Tryz.underlying101 h
  have hxl : xs.length = 3 := hxl
  have hl : cs.length = 3 := hl.trans (by kernel_rfl)
  have c1 : Tryz.prog.cellsOf 43 = 1 := by kernel_rfl
  have c2 : Tryz.prog.cellsOf 26 = 1 := by kernel_rfl
  have c3 : Tryz.prog.cellsOf 99 = 1 := by kernel_rfl
  obtain ⟨a, b, c, rfl⟩ := list3 hl
  have f0 := hf 0 ⟨ "When", 43, 0, false, "", "", 0⟩ rfl
  have f1 := hf 1 ⟨ "Sets", 26, 1, false, "", "", 24⟩ rfl
  have f2 := hf 2 ⟨ "Terms", 99, 2, false, "", "", 48⟩ rfl
  rw [List.getElem?_eq_getElem (by omega)] at f0 f1 f2
  simp only [c1, c2, c3, List.drop_zero, List.drop_succ_cons, List.take_succ_cons, List.take_zero] at f0 f1 f2
  obtain ⟨n0, e0, g0⟩ := in_terms f0
  obtain ⟨n1, e1, g1⟩ := in_ints f1
  obtain ⟨n2, e2, g2, g3⟩ := in_termss f2
  obtain ⟨u0, p0, q0, r0⟩ := e0.one
  obtain ⟨u1, p1, q1, r1⟩ := e1.one
  obtain ⟨u2, p2, q2, r2⟩ := e2.one
  exact ⟨⟨n0, n1, n2⟩, ⟨[u0, u1, u2], by simp [erl, p0, p1, p2], by simp only [okL]; exact ⟨q0, q1, q2, trivial⟩, u0, u1, u2, rfl, r0, r1, r2⟩, g0, g1, g2, g3⟩
theorem in_rules (h : DataW.trod enc Tryz.prog W 0 (fun _ => true) true fuel 23 cs = some x) : ∃ rs : List RuleS, LiftE W (E1 (fun (ys : List RuleS) u => XR u ys)) rs cs ∧ (LenOk rs ∧ ∀ r ∈ rs, RuleLen r) :=
  in_list (E := isRuleX) (good := RuleLen) (sz := 3) Tryz.underlying23 (by kernel_rfl) (by omega) (fun n cs x h => in_rule h) h
/-- What is handed in, as values. -/
def UpV {α : Type} (W : World) (E : α → V → Prop) (a : α) (v : Value) : Prop := ∃ u, er u = avT W.heap.size v ∧ okV (heap0 W) u ∧ E a u
theorem up_system {v : Value} (hv : ∃ a, v = .agg a) (h : DataW.trod enc Tryz.prog W 0 (fun _ => true) true fuel 25 v.cells.toList = some x) : ∃ s : SysS, UpV W (fun (s : SysS) u => isSysX s u) s v ∧ SysLen s := by
  obtain ⟨cs, rfl⟩ := hv
  have c1 : Tryz.prog.cellsOf 22 = 1 := by kernel_rfl
  have c2 : Tryz.prog.cellsOf 23 = 1 := by kernel_rfl
  obtain ⟨xs, n, _, _, hl, hxl, hf⟩ := DataW.trod_struct Tryz.underlying25 h
  have hxl : xs.length = 2 := hxl
  have hl : cs.toList.length = 2 := hl.trans (by kernel_rfl)
  obtain ⟨a, b, hab⟩ : ∃ a b, cs.toList = [a, b] := by
    match hcs : cs.toList, hl with
    | [a, b], _ => exact ⟨a, b, rfl⟩
  have f0 := hf 0 ⟨ "Vars", 22, 0, false, "", "", 0⟩ rfl
  have f1 := hf 1 ⟨ "Rules", 23, 1, false, "", "", 24⟩ rfl
  rw [List.getElem?_eq_getElem (by omega)] at f0 f1
  simp only [Value.cells, hab, c1, c2, List.drop_zero, List.drop_succ_cons, List.take_succ_cons, List.take_zero] at f0 f1
  obtain ⟨n0, e0, g0⟩ := in_vars f0
  obtain ⟨n1, e1, g1, g2⟩ := in_rules f1
  obtain ⟨u0, p0, q0, r0⟩ := e0.one
  obtain ⟨u1, p1, q1, r1⟩ := e1.one
  refine ⟨⟨n0, n1⟩, ⟨.agg [u0, u1], ?_, by simp only [okV, okL]; exact ⟨q0, q1, trivial⟩, u0, u1, rfl, r0, r1⟩, g0, g1, g2⟩
  simp [er, erl, avT, hab, p0, p1]
theorem avT_sl {N : Nat} {v : Value} (h : ∀ a, v ≠ .agg a) : avT N v = avC N v := by
  unfold avT
  split
  · rename_i a; exact absurd rfl (h a)
  · rfl
theorem up_ints {v : Value} (hv : ∀ a, v ≠ .agg a) (h : DataW.trod enc Tryz.prog W 0 (fun _ => true) true fuel 26 v.cells.toList = some x) : ∃ ns : List Int, UpV W (fun (ns : List Int) u => XI u ns) ns v ∧ LenOk ns := by
  obtain ⟨ns, e, g⟩ := in_ints h
  have hc : v.cells.toList = [v] := by
    cases v <;> first | rfl | exact absurd rfl (hv _)
  rw [hc] at e
  obtain ⟨u, p, q, r⟩ := e.one
  exact ⟨ns, ⟨u, by rw [avT_sl hv]; exact p, q, r⟩, g⟩
theorem up_terms {v : Value} (hv : ∀ a, v ≠ .agg a) (h : DataW.trod enc Tryz.prog W 0 (fun _ => true) true fuel 43 v.cells.toList = some x) : ∃ ns : List TermS, UpV W (fun (ns : List TermS) u => XT u ns) ns v ∧ LenOk ns := by
  obtain ⟨ns, e, g⟩ := in_terms h
  have hc : v.cells.toList = [v] := by
    cases v <;> first | rfl | exact absurd rfl (hv _)
  rw [hc] at e
  obtain ⟨u, p, q, r⟩ := e.one
  exact ⟨ns, ⟨u, by rw [avT_sl hv]; exact p, q, r⟩, g⟩
end Go.M2

/- The row of the law FnExactClosed: for every input its call returns true and leaves the input as it was. No condition beyond the row's own. -/
set_option linter.unusedVariables false
namespace Go.Proofs.YtpglaahejpkkdaaGreat
open Go.ChangeShapes Go.WideShapes Go.ChangeAt Go.RowKit Go.M2
theorem own : ownKnob Tryz.prog.godebug = none := by kernel_rfl
theorem laidOut : laidOutB Tryz.prog = true := by kernel_rfl
set_option maxRecDepth 100000 in
theorem wide_struct {W : World} {base : Nat} {v : Value} (h : Value.okWide Tryz.prog W .any base 25 v) : ∃ cs, v = .agg cs := by
  simp only [Value.okWide, Tryz.underlying25] at h
  obtain ⟨cs, h1, _⟩ := h
  exact ⟨cs, h1⟩
set_option maxRecDepth 100000 in
theorem wide_ints {W : World} {base : Nat} {v : Value} (h : Value.okWide Tryz.prog W .any base 26 v) : ∀ a, v ≠ .agg a := by
  rintro a rfl
  simp [Value.okWide, Tryz.underlying26, Cell.okWide, Cell.ok] at h
set_option maxRecDepth 100000 in
theorem lifted (os : Os) (started : os.Started) (H : Type) (enc : TypeId × Value → H) :
    ReturnsInHanded {} Tryz.checked os 8 .any (Rows.fnExactClosedSpec.pre6 enc Tryz.prog Tryz.f8 Rows.fnExactClosedRow.domain false) (Rows.fnExactClosedSpec.post enc Tryz.prog Tryz.f8 false true false false) := by
  refine returnsInHanded_of_change_sized (C := Tryz.checked) own started (by kernel_rfl) Tryz.func8
    (ChangeSpec.witness6 (enc := enc) (C := Tryz.checked) false ⟨#[], #[.agg #[.slice none 0 0, .slice none 0 0], .slice none 0 0], []⟩ 8 (by kernel_rfl) (by kernel_rfl) (by kernel_rfl) (by kernel_rfl)) ?_
  intro W base args ds gs before hval0 hW hcnd hsz0 _
  have hval : ∀ (j : Nat) t v, Tryz.f8.params[j]? = some t → args[j]? = some v → Value.okWide Tryz.prog W .any base t v := hval0
  have hW' := hW
  obtain ⟨p, q, hA0, hV, rfl, hfz, hnd⟩ := hW
  have hA : DataW.TrodAll enc Tryz.prog W 0 (fun _ => true) true Tryz.f8.params.toList args.toList ds p := hA0
  rw [Tryz.params8] at hA hval
  obtain ⟨v0, vs0, d0, ds0, p0, q0, hargs, rfl, rfl, h0, r0⟩ := trodAll_cons hA
  obtain ⟨v1, vs1, d1, ds1, p1, q1, rfl, rfl, rfl, h1, r1⟩ := trodAll_cons r0
  obtain ⟨rfl, rfl, rfl⟩ := trodAll_nil r1
  obtain rfl : args = #[v0, v1] := by cases args; simp_all
  obtain ⟨rfl, rfl⟩ := trodVars_none hV
  have k0 := h0
  have k1 := h1
  have lt0 : ∀ x ∈ p0, x.block < W.heap.size := by obtain ⟨m, hm⟩ := k0; exact DataW.trod_lt m _ _ _ hm
  have lt1 : ∀ x ∈ p1, x.block < W.heap.size := by obtain ⟨m, hm⟩ := k1; exact DataW.trod_lt m _ _ _ hm
  obtain ⟨s0, ⟨u0, e0, o0, x0⟩, g0⟩ : ∃ s : SysS, UpV W (fun (s : SysS) u => isSysX s u) s v0 ∧ SysLen s := by
    obtain ⟨m, hm⟩ := h0
    exact up_system (wide_struct (hval 0 25 v0 rfl rfl)) hm
  obtain ⟨s1, ⟨u1, e1, o1, x1⟩, g1⟩ : ∃ ns : List Int, UpV W (fun (ns : List Int) u => XI u ns) ns v1 ∧ LenOk ns := by
    obtain ⟨m, hm⟩ := h1
    exact up_ints (wide_ints (hval 1 26 v1 rfl rfl)) hm
  clear hA0 hval0 hsz0
  refine (calls_of_vcall (P := Tryz.prog) (f := 8) (vs := [v0, v1]) (vv := [u0, u1]) (W := W) (law_Closed x0 g0 x1 g1) (by simp [e0, e1]) (by simp only [okL]; exact ⟨o0, o1, trivial⟩)).mono fun e W' ⟨he, bel⟩ => ?_
  subst he
  exact ⟨_, rfl, _, _, _, [], _, [], hW', trodAll_mk1 (shut_bool Tryz.underlying4 _), trodAll_cons_mk (Below.trod laidOut (by kernel_rfl) (of_decide_eq_true (by kernel_rfl)) k0 bel lt0) (trodAll_cons_mk (Below.trod laidOut (by kernel_rfl) (of_decide_eq_true (by kernel_rfl)) k1 bel lt1) trodAll_mk0), rfl, bel.frame _, fun h => by cases h⟩
theorem over : Rows.fnExactClosedRow.holds Tryz.pinned (OpenSpec.ofChange Rows.fnExactClosedSpec) :=
  OpenClaim.holds_of_wide 8 Tryz.f8 rfl rfl rfl rfl rfl rfl rfl ⟨rfl, rfl, rfl, rfl, rfl⟩ rfl rfl rfl rfl rfl (by kernel_rfl) Tryz.func8 (by kernel_rfl)
    (of_decide_eq_true (by kernel_rfl)) (by unfold Func.isWrapper; first | (rw [if_pos (by decide +kernel)]; kernel_rfl) | (rw [if_neg (by decide +kernel)]; exact ⟨rfl, rfl⟩))
    (fun os started H enc _ => lifted os started H enc)
theorem FnExactClosed_holds : Rows.FnExactClosedSaid := over
end Go.Proofs.YtpglaahejpkkdaaGreat
