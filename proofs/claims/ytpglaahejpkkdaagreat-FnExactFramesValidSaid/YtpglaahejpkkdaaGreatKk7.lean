/- Contracts of a law's frame: copies of lists of structs. -/
import Derived.Test.YtpglaahejpkkdaaGreatKk6
import Derived.Test.YtpglaahejpkkdaaGreatChecked
set_option linter.unusedVariables false
set_option linter.unusedSimpArgs false
set_option maxRecDepth 10000
set_option maxHeartbeats 4000000
namespace Go.M2
open Go.Proofs
variable {M : MH}
def catV {α : Type} (enc : α → List V) (xs : List α) : List V := (xs.map enc).flatten
theorem catV_len {α : Type} {enc : α → List V} {sz : Nat} (he : ∀ x, (enc x).length = sz) : ∀ xs : List α, (catV enc xs).length = xs.length * sz
  | [] => by simp [catV]
  | x :: t => by
    have := catV_len he t
    simp only [catV, List.map_cons, List.flatten_cons, List.length_append, he, List.length_cons, Nat.succ_mul] at this ⊢
    omega
theorem catV_snoc {α : Type} {enc : α → List V} {xs : List α} {x : α} : catV enc (xs ++ [x]) = catV enc xs ++ enc x := by simp [catV]
theorem zeros_cat {α : Type} {enc : α → List V} {z : α} {zs : List AV} (h : enc z = zs.map V.sc) (n : Nat) : (zeros zs n).map V.sc = catV enc (List.replicate n z) := by
  induction n with
  | zero => rfl
  | succ n ih => simp only [zeros, catV, List.replicate_succ, List.flatten_cons, List.map_append, List.map_cons] at ih ⊢; rw [ih, h]
theorem cat_set {α : Type} {enc : α → List V} {z x : α} {xs : List α} {sz m o : Nat} (he : ∀ x, (enc x).length = sz) (ho : o = xs.length * sz) :
    setAtG (catV enc xs ++ catV enc (List.replicate (m + 1) z)) o (enc x) = catV enc (xs ++ [x]) ++ catV enc (List.replicate m z) := by
  have h1 := catV_len he xs
  have e1 : catV enc (List.replicate (m + 1) z) = enc z ++ catV enc (List.replicate m z) := by simp [catV, List.replicate_succ]
  rw [e1, setAtG_mid _ _ _ (by simp [he]; omega), catV_snoc, List.take_left' (by omega)]
  congr 1
  rw [← List.append_assoc, List.drop_left' (by simp [he]; omega)]
theorem x_toVarS {v : V} {xs : List VarS} (hv : XVar v xs) (hl : xs.length ≤ 1048576) : VCall Tryz.prog n_laws_toVarS [v] M (fun r M' => Gr 3 M M' r (catV encVar xs)) := by
  refine VCall.plain fun R hR => v_laws_toVarS rfl ?_
  have hlen := hv.len fun _ _ h => h.len
  simp (maxSteps := 2000000) (disch := first | omega | assumption | exact idP rfl | exact idP (bL rfl)) only [go_sem, reduceIte, Nat.reduceEqDiff, hlen]
  refine mks3 (by omega) (by simp [mostCells]; omega) (by simp [mostCells]; omega) ?_
  intro b3 hb3
  simp (maxSteps := 2000000) (disch := first | omega | assumption | exact idP rfl | exact idP (bL rfl)) only [go_sem, reduceIte, Nat.reduceEqDiff, zeros_cat (enc := encVar) (z := ⟨0, 0, 0⟩) (zs := [AV.int .i64 0, AV.int .i64 0, AV.int .i64 0]) rfl]
  have henc : ∀ x, (encVar x).length = 3 := fun x => rfl
  refine loop_k (fun e M' => ∃ i : Nat, i ≤ xs.length ∧ e 0 = v ∧ e 3 = .sc (.sl (some (b3, 0)) xs.length xs.length true 3) ∧ e 4 = .sc (.int .i64 i) ∧ Sub M M' ∧ M' b3 = some (catV encVar (xs.take i) ++ catV encVar (List.replicate (xs.length - i) ⟨0, 0, 0⟩))) (fun e _ => ctrV xs.length (e 4)) ?_ ?_
  · exact ⟨0, by omega, by simp (maxSteps := 2000000) (disch := first | omega | assumption | exact idP rfl | exact idP (bL rfl)) only [go_sem, reduceIte, Nat.reduceEqDiff], by simp (maxSteps := 2000000) (disch := first | omega | assumption | exact idP rfl | exact idP (bL rfl)) only [go_sem, reduceIte, Nat.reduceEqDiff], by simp (maxSteps := 2000000) (disch := first | omega | assumption | exact idP rfl | exact idP (bL rfl)) only [go_sem, reduceIte, Nat.reduceEqDiff]; rfl, (Sub.refl _).set hb3, by simp (maxSteps := 2000000) (disch := first | omega | assumption | exact idP rfl | exact idP (bL rfl)) only [go_sem, reduceIte, Nat.reduceEqDiff]; simp [catV]⟩
  · rintro e M1 ⟨i, hi, e0, e3, e4, hsub, hm⟩ K hK
    simp (maxSteps := 2000000) (disch := first | omega | assumption | exact idP rfl | exact idP (bL rfl)) only [go_sem, reduceIte, Nat.reduceEqDiff, e0, e3, e4, hlen]
    refine cond_dec (fun h => ?_) (fun h => ?_)
    · have hi' : i < xs.length := by omega
      have hv' := hv.get (by omega)
      have a1 : atN 3 v i = encVar xs[i] := hv'.elt hi'
      simp (maxSteps := 2000000) (disch := first | omega | assumption | exact idP rfl | exact idP (bL rfl)) only [go_sem, reduceIte, Nat.reduceEqDiff, e0, e3, e4, hv'.iaddr, a1]
      refine x_toVar.mono ?_
      rintro _ _ ⟨rfl, rfl⟩
      simp (maxSteps := 2000000) (disch := first | omega | assumption | exact idP rfl | exact idP (bL rfl)) only [go_sem, reduceIte, Nat.reduceEqDiff, e0, e3, e4, hm]
      have hti : (xs.take i).length = i := by simp; omega
      refine ⟨henc _, by simp [encVar, oneV, er, oneA], ?_, ?_⟩
      · rw [List.length_append, catV_len henc, catV_len henc, hti, List.length_replicate]; omega
      rw [show xs.length - i = (xs.length - (i + 1)) + 1 by omega, cat_set henc (by rw [hti]), ← take_snoc hi']
      simp (maxSteps := 2000000) (disch := first | omega | assumption | exact idP rfl | exact idP (bL rfl)) only [go_sem, reduceIte, Nat.reduceEqDiff, e0, e3, e4]
      exact hK _ _ ⟨i + 1, by omega, by simp (maxSteps := 2000000) (disch := first | omega | assumption | exact idP rfl | exact idP (bL rfl)) only [go_sem, reduceIte, Nat.reduceEqDiff], by simp (maxSteps := 2000000) (disch := first | omega | assumption | exact idP rfl | exact idP (bL rfl)) only [go_sem, reduceIte, Nat.reduceEqDiff], by simp (maxSteps := 2000000) (disch := first | omega | assumption | exact idP rfl | exact idP (bL rfl)) only [go_sem, reduceIte, Nat.reduceEqDiff]; rfl, hsub.set hb3, by simp (maxSteps := 2000000) (disch := first | omega | assumption | exact idP rfl | exact idP (bL rfl)) only [go_sem, reduceIte, Nat.reduceEqDiff]⟩ (by simp (maxSteps := 2000000) (disch := first | omega | assumption | exact idP rfl | exact idP (bL rfl)) only [go_sem, reduceIte, Nat.reduceEqDiff, ctrV_int, e4]; omega)
    · obtain rfl : i = xs.length := by omega
      simp only [List.take_length, Nat.sub_self, List.replicate_zero] at hm
      simp (maxSteps := 2000000) (disch := first | omega | assumption | exact idP rfl | exact idP (bL rfl)) only [go_sem, reduceIte, Nat.reduceEqDiff, e3]
      exact hR _ _ ⟨hsub, fun b' h' => by simp [blkV] at h'; subst h'; exact hb3, .inr ⟨b3, _, true, rfl, by simpa [catV] using hm, catV_len henc xs⟩⟩
theorem x_toTermS {v : V} {xs : List TermS} (hv : XT v xs) (hl : xs.length ≤ 1048576) : VCall Tryz.prog n_laws_toTermS [v] M (fun r M' => Gr 4 M M' r (catV encT xs)) := by
  refine VCall.plain fun R hR => v_laws_toTermS rfl ?_
  have hlen := hv.len fun _ _ h => h.len
  simp (maxSteps := 2000000) (disch := first | omega | assumption | exact idP rfl | exact idP (bL rfl)) only [go_sem, reduceIte, Nat.reduceEqDiff, hlen]
  refine mks3 (by omega) (by simp [mostCells]; omega) (by simp [mostCells]; omega) ?_
  intro b3 hb3
  simp (maxSteps := 2000000) (disch := first | omega | assumption | exact idP rfl | exact idP (bL rfl)) only [go_sem, reduceIte, Nat.reduceEqDiff, zeros_cat (enc := encT) (z := ⟨0, 0, 0, 0⟩) (zs := [AV.int .i64 0, AV.int .i64 0, AV.int .i64 0, AV.int .i64 0]) rfl]
  have henc : ∀ x, (encT x).length = 4 := fun x => rfl
  refine loop_k (fun e M' => ∃ i : Nat, i ≤ xs.length ∧ e 0 = v ∧ e 3 = .sc (.sl (some (b3, 0)) xs.length xs.length true 4) ∧ e 4 = .sc (.int .i64 i) ∧ Sub M M' ∧ M' b3 = some (catV encT (xs.take i) ++ catV encT (List.replicate (xs.length - i) ⟨0, 0, 0, 0⟩))) (fun e _ => ctrV xs.length (e 4)) ?_ ?_
  · exact ⟨0, by omega, by simp (maxSteps := 2000000) (disch := first | omega | assumption | exact idP rfl | exact idP (bL rfl)) only [go_sem, reduceIte, Nat.reduceEqDiff], by simp (maxSteps := 2000000) (disch := first | omega | assumption | exact idP rfl | exact idP (bL rfl)) only [go_sem, reduceIte, Nat.reduceEqDiff], by simp (maxSteps := 2000000) (disch := first | omega | assumption | exact idP rfl | exact idP (bL rfl)) only [go_sem, reduceIte, Nat.reduceEqDiff]; rfl, (Sub.refl _).set hb3, by simp (maxSteps := 2000000) (disch := first | omega | assumption | exact idP rfl | exact idP (bL rfl)) only [go_sem, reduceIte, Nat.reduceEqDiff]; simp [catV]⟩
  · rintro e M1 ⟨i, hi, e0, e3, e4, hsub, hm⟩ K hK
    simp (maxSteps := 2000000) (disch := first | omega | assumption | exact idP rfl | exact idP (bL rfl)) only [go_sem, reduceIte, Nat.reduceEqDiff, e0, e3, e4, hlen]
    refine cond_dec (fun h => ?_) (fun h => ?_)
    · have hi' : i < xs.length := by omega
      have hv' := hv.get (by omega)
      have a1 : atN 4 v i = encT xs[i] := hv'.elt hi'
      simp (maxSteps := 2000000) (disch := first | omega | assumption | exact idP rfl | exact idP (bL rfl)) only [go_sem, reduceIte, Nat.reduceEqDiff, e0, e3, e4, hv'.iaddr, a1]
      refine x_toTerm.mono ?_
      rintro _ _ ⟨rfl, rfl⟩
      simp (maxSteps := 2000000) (disch := first | omega | assumption | exact idP rfl | exact idP (bL rfl)) only [go_sem, reduceIte, Nat.reduceEqDiff, e0, e3, e4, hm]
      have hti : (xs.take i).length = i := by simp; omega
      refine ⟨henc _, by simp [encT, oneV, er, oneA], ?_, ?_⟩
      · rw [List.length_append, catV_len henc, catV_len henc, hti, List.length_replicate]; omega
      rw [show xs.length - i = (xs.length - (i + 1)) + 1 by omega, cat_set henc (by rw [hti]), ← take_snoc hi']
      simp (maxSteps := 2000000) (disch := first | omega | assumption | exact idP rfl | exact idP (bL rfl)) only [go_sem, reduceIte, Nat.reduceEqDiff, e0, e3, e4]
      exact hK _ _ ⟨i + 1, by omega, by simp (maxSteps := 2000000) (disch := first | omega | assumption | exact idP rfl | exact idP (bL rfl)) only [go_sem, reduceIte, Nat.reduceEqDiff], by simp (maxSteps := 2000000) (disch := first | omega | assumption | exact idP rfl | exact idP (bL rfl)) only [go_sem, reduceIte, Nat.reduceEqDiff], by simp (maxSteps := 2000000) (disch := first | omega | assumption | exact idP rfl | exact idP (bL rfl)) only [go_sem, reduceIte, Nat.reduceEqDiff]; rfl, hsub.set hb3, by simp (maxSteps := 2000000) (disch := first | omega | assumption | exact idP rfl | exact idP (bL rfl)) only [go_sem, reduceIte, Nat.reduceEqDiff]⟩ (by simp (maxSteps := 2000000) (disch := first | omega | assumption | exact idP rfl | exact idP (bL rfl)) only [go_sem, reduceIte, Nat.reduceEqDiff, ctrV_int, e4]; omega)
    · obtain rfl : i = xs.length := by omega
      simp only [List.take_length, Nat.sub_self, List.replicate_zero] at hm
      simp (maxSteps := 2000000) (disch := first | omega | assumption | exact idP rfl | exact idP (bL rfl)) only [go_sem, reduceIte, Nat.reduceEqDiff, e3]
      exact hR _ _ ⟨hsub, fun b' h' => by simp [blkV] at h'; subst h'; exact hb3, .inr ⟨b3, _, true, rfl, by simpa [catV] using hm, catV_len henc xs⟩⟩
theorem catV_at {α : Type} {enc : α → List V} {sz : Nat} (he : ∀ x, (enc x).length = sz) {xs : List α} {i : Nat} (hi : i < xs.length) : ((catV enc xs).drop (i * sz)).take sz = enc xs[i] := by
  have e1 : xs = xs.take i ++ xs[i] :: xs.drop (i + 1) := by rw [← List.drop_eq_getElem_cons hi, List.take_append_drop]
  have e2 : catV enc xs = catV enc (xs.take i) ++ (enc xs[i] ++ catV enc (xs.drop (i + 1))) := by
    have e3 : catV enc xs = catV enc (xs.take i ++ xs[i] :: xs.drop (i + 1)) := congrArg (catV enc) e1
    rw [e3]
    simp only [catV, List.map_append, List.map_cons, List.flatten_append, List.flatten_cons]
  have h3 := catV_len he (xs.take i)
  have h4 : (xs.take i).length = i := by simp; omega
  rw [e2, List.drop_left' (by rw [h3, h4]), List.take_left' (he _)]
theorem f_toVarS {v : V} {xs : List VarS} (hv : XVar v xs) (hl : xs.length ≤ 1048576) : VCall Tryz.prog n_laws_toVarS [v] M (fun r M' => M = M' ∧ LVar r xs) :=
  (VCall.fr1 (x_toVarS hv hl)).mono fun r M' ⟨h1, h2⟩ => ⟨h1, h2.lc (by omega) (catV_len (sz := 3) (enc := encVar) (fun _ => rfl) xs) fun i hi => catV_at (sz := 3) (enc := encVar) (fun _ => rfl) hi⟩
theorem f_toTermS {v : V} {xs : List TermS} (hv : XT v xs) (hl : xs.length ≤ 1048576) : VCall Tryz.prog n_laws_toTermS [v] M (fun r M' => M = M' ∧ LT r xs) :=
  (VCall.fr1 (x_toTermS hv hl)).mono fun r M' ⟨h1, h2⟩ => ⟨h1, h2.lc (by omega) (catV_len (sz := 4) (enc := encT) (fun _ => rfl) xs) fun i hi => catV_at (sz := 4) (enc := encT) (fun _ => rfl) hi⟩
end Go.M2

namespace Go.M2
open Go.Proofs
variable {M : MH}
theorem f_toTermSS {v : V} {xs : List (List TermS)} (hv : XTT v xs) (hl : xs.length ≤ 1048576) (hx : ∀ ts ∈ xs, ts.length ≤ 1048576) : VCall Tryz.prog n_laws_toTermSS [v] M (fun r M' => M = M' ∧ LTT r xs) := by
  refine VCall.froz fun R hP hG => v_laws_toTermSS rfl ?_
  have hlen := hv.len fun _ _ h => h.len
  simp (maxSteps := 2000000) (disch := first | omega | assumption | exact idP rfl | exact idP (bL rfl)) only [go_sem, reduceIte, Nat.reduceEqDiff, hlen]
  refine mks3 (by omega) (by simp [mostCells]; omega) (by simp [mostCells]; omega) ?_
  intro b3 hb3
  simp (maxSteps := 2000000) (disch := first | omega | assumption | exact idP rfl | exact idP (bL rfl)) only [go_sem, reduceIte, Nat.reduceEqDiff, zeros_nil]
  refine loop_k (fun e M' => ∃ (i : Nat) (us : List V), i ≤ xs.length ∧ e 0 = v ∧ e 3 = .sc (.sl (some (b3, 0)) xs.length xs.length true 1) ∧ e 4 = .sc (.int .i64 i) ∧ Sub M M' ∧ M' b3 = some (us ++ List.replicate (xs.length - i) nil1) ∧ Cs (fun ts u => LT u ts) us (xs.take i)) (fun e _ => ctrV xs.length (e 4)) ?_ ?_
  · exact ⟨0, [], by omega, by simp (maxSteps := 2000000) (disch := first | omega | assumption | exact idP rfl | exact idP (bL rfl)) only [go_sem, reduceIte, Nat.reduceEqDiff], by simp (maxSteps := 2000000) (disch := first | omega | assumption | exact idP rfl | exact idP (bL rfl)) only [go_sem, reduceIte, Nat.reduceEqDiff], by simp (maxSteps := 2000000) (disch := first | omega | assumption | exact idP rfl | exact idP (bL rfl)) only [go_sem, reduceIte, Nat.reduceEqDiff]; rfl, (Sub.refl _).set hb3, by simp (maxSteps := 2000000) (disch := first | omega | assumption | exact idP rfl | exact idP (bL rfl)) only [go_sem, reduceIte, Nat.reduceEqDiff]; simp, .nil⟩
  · rintro e M1 ⟨i, us, hi, e0, e3, e4, hsub, hm, hc⟩ K hK
    have hul : us.length = i := by have := hc.1; simp at this; omega
    simp (maxSteps := 2000000) (disch := first | omega | assumption | exact idP rfl | exact idP (bL rfl)) only [go_sem, reduceIte, Nat.reduceEqDiff, e0, e3, e4, hlen]
    refine cond_dec (fun h => ?_) (fun h => ?_)
    · have hi' : i < xs.length := by omega
      have hv' := hv.get (by omega)
      obtain ⟨q, hq⟩ : ∃ q, xs.length - i = q + 1 := ⟨xs.length - i - 1, by omega⟩
      rw [hq, List.replicate_succ] at hm
      simp (maxSteps := 2000000) (disch := first | omega | assumption | exact idP rfl | exact idP (bL rfl)) only [go_sem, reduceIte, Nat.reduceEqDiff, e0, e3, e4, hv'.iaddr]
      refine (f_toTermS (hv'.elt hi') (hx _ (List.getElem_mem hi'))).mono ?_
      rintro r _ ⟨rfl, hr⟩
      have hr1 := hr.one.1
      have hr2 := hr.one.2
      have hsm : (us ++ nil1 :: List.replicate q nil1).set i r = us ++ r :: List.replicate q nil1 := set_mid hul
      have hnl3 : i < (us ++ nil1 :: List.replicate q nil1).length := by simp; omega
      simp (maxSteps := 2000000) (disch := first | omega | assumption | exact idP rfl | exact idP (bL rfl)) only [go_sem, reduceIte, Nat.reduceEqDiff, e0, e3, e4, hm, hr2, hsm]
      refine hK _ _ ⟨i + 1, us ++ [r], by omega, by simp (maxSteps := 2000000) (disch := first | omega | assumption | exact idP rfl | exact idP (bL rfl)) only [go_sem, reduceIte, Nat.reduceEqDiff], by simp (maxSteps := 2000000) (disch := first | omega | assumption | exact idP rfl | exact idP (bL rfl)) only [go_sem, reduceIte, Nat.reduceEqDiff], by simp (maxSteps := 2000000) (disch := first | omega | assumption | exact idP rfl | exact idP (bL rfl)) only [go_sem, reduceIte, Nat.reduceEqDiff]; rfl, hsub.set hb3, by simp (maxSteps := 2000000) (disch := first | omega | assumption | exact idP rfl | exact idP (bL rfl)) only [go_sem, reduceIte, Nat.reduceEqDiff]; simp [show xs.length - (i + 1) = q by omega], ?_⟩ (by simp (maxSteps := 2000000) (disch := first | omega | assumption | exact idP rfl | exact idP (bL rfl)) only [go_sem, reduceIte, Nat.reduceEqDiff, ctrV_int, e4]; omega)
      rw [take_snoc hi']
      exact hc.snoc hr
    · obtain rfl : i = xs.length := by omega
      rw [List.take_length] at hc
      simp (maxSteps := 2000000) (disch := first | omega | assumption | exact idP rfl | exact idP (bL rfl)) only [go_sem, reduceIte, Nat.reduceEqDiff, e3]
      exact hG _ _ 1 us ⟨hsub, fun b' h' => by simp [blkV] at h'; subst h'; exact hb3, .inr ⟨b3, _, true, rfl, by simpa using hm, by omega⟩⟩ fun u hu => hu.lsC hc
theorem f_toRule {cs : List V} {r : RuleS} (hv : isRuleX r cs) (hf : RuleFit r) : VCall Tryz.prog n_laws_toRule [.agg cs] M (fun r' M' => M = M' ∧ ∃ ds, r' = .agg ds ∧ isRule r ds) := by
  refine VCall.pure fun R hR => v_laws_toRule rfl ?_
  obtain ⟨a, b, c, rfl, ha, hb, hc⟩ := hv
  obtain ⟨f1, f2, f3, f4⟩ := hf
  simp (maxSteps := 2000000) (disch := first | omega | assumption | exact idP rfl | exact idP (bL rfl)) only [go_sem, reduceIte, Nat.reduceEqDiff]
  intro b1 hb1
  try simp (maxSteps := 2000000) (disch := first | omega | assumption | exact idP rfl | exact idP (bL rfl)) only [go_sem, reduceIte, Nat.reduceEqDiff]
  intro b2 hb2
  try simp (maxSteps := 2000000) (disch := first | omega | assumption | exact idP rfl | exact idP (bL rfl)) only [go_sem, reduceIte, Nat.reduceEqDiff]
  intro b3 hb3
  have n21 := (fresh_set hb2).1
  have n32 := (fresh_set hb3).1
  have n31 := (fresh_set (fresh_set hb3).2).1
  simp (maxSteps := 2000000) (disch := first | omega | assumption | exact idP rfl | exact idP (bL rfl)) only [go_sem, reduceIte, Nat.reduceEqDiff]
  refine (f_toTermS ha f1).mono ?_
  rintro x _ ⟨rfl, hx⟩
  have hx1 := hx.one.1
  have hx2 := hx.one.2
  simp (maxSteps := 2000000) (disch := first | omega | assumption | exact idP rfl | exact idP (bL rfl)) only [go_sem, reduceIte, Nat.reduceEqDiff, hx2]
  refine (f_toIntS hb f2).mono ?_
  rintro y _ ⟨rfl, hy⟩
  have hy1 := hy.one.1
  have hy2 := hy.one.2
  simp (maxSteps := 2000000) (disch := first | omega | assumption | exact idP rfl | exact idP (bL rfl)) only [go_sem, reduceIte, Nat.reduceEqDiff, hy2]
  refine (f_toTermSS hc f3 f4).mono ?_
  rintro z _ ⟨rfl, hz⟩
  have hz1 := hz.one.1
  have hz2 := hz.one.2
  simp (maxSteps := 2000000) (disch := first | omega | assumption | exact idP rfl | exact idP (bL rfl)) only [go_sem, reduceIte, Nat.reduceEqDiff, hz2]
  refine hR _ _ ?_ ⟨_, rfl, x, y, z, rfl, hx, hy, hz⟩
  repeat (first | exact Sub.refl _ | assumption | (refine Sub.set ?_ (fresh_set hb2).2) | (refine Sub.set ?_ (fresh_set (fresh_set hb3).2).2) | (refine Sub.set' ?_ (by assumption)))
abbrev T3 := {l : List V // l.length = 3}
def z3 : T3 := ⟨[nil1, nil1, nil1], rfl⟩
theorem f_toRuleS {v : V} {xs : List RuleS} (hv : XR v xs) (hl : xs.length ≤ 1048576) (hx : ∀ r ∈ xs, RuleFit r) : VCall Tryz.prog n_laws_toRuleS [v] M (fun r M' => M = M' ∧ LR r xs) := by
  refine VCall.froz fun R hP hG => v_laws_toRuleS rfl ?_
  have hlen := hv.len fun _ _ h => h.len
  have henc : ∀ x : T3, x.val.length = 3 := fun x => x.property
  simp (maxSteps := 2000000) (disch := first | omega | assumption | exact idP rfl | exact idP (bL rfl)) only [go_sem, reduceIte, Nat.reduceEqDiff, hlen]
  refine mks3 (by omega) (by simp [mostCells]; omega) (by simp [mostCells]; omega) ?_
  intro b3 hb3
  simp (maxSteps := 2000000) (disch := first | omega | assumption | exact idP rfl | exact idP (bL rfl)) only [go_sem, reduceIte, Nat.reduceEqDiff, zeros_cat (enc := fun x : T3 => x.val) (z := z3) (zs := [AV.sl none 0 0 true 0, AV.sl none 0 0 true 0, AV.sl none 0 0 true 0]) rfl]
  refine loop_k (fun e M' => ∃ (i : Nat) (us : List T3), i ≤ xs.length ∧ us.length = i ∧ e 0 = v ∧ e 3 = .sc (.sl (some (b3, 0)) xs.length xs.length true 3) ∧ e 4 = .sc (.int .i64 i) ∧ Sub M M' ∧ M' b3 = some (catV (fun x : T3 => x.val) us ++ catV (fun x : T3 => x.val) (List.replicate (xs.length - i) z3)) ∧ ∀ j (h1 : j < xs.length) (h2 : j < us.length), isRule xs[j] us[j].val) (fun e _ => ctrV xs.length (e 4)) ?_ ?_
  · exact ⟨0, [], by omega, rfl, by simp (maxSteps := 2000000) (disch := first | omega | assumption | exact idP rfl | exact idP (bL rfl)) only [go_sem, reduceIte, Nat.reduceEqDiff], by simp (maxSteps := 2000000) (disch := first | omega | assumption | exact idP rfl | exact idP (bL rfl)) only [go_sem, reduceIte, Nat.reduceEqDiff], by simp (maxSteps := 2000000) (disch := first | omega | assumption | exact idP rfl | exact idP (bL rfl)) only [go_sem, reduceIte, Nat.reduceEqDiff]; rfl, (Sub.refl _).set hb3, by simp (maxSteps := 2000000) (disch := first | omega | assumption | exact idP rfl | exact idP (bL rfl)) only [go_sem, reduceIte, Nat.reduceEqDiff]; simp [catV], fun j _ h => by simp at h⟩
  · rintro e M1 ⟨i, us, hi, hul, e0, e3, e4, hsub, hm, hc⟩ K hK
    simp (maxSteps := 2000000) (disch := first | omega | assumption | exact idP rfl | exact idP (bL rfl)) only [go_sem, reduceIte, Nat.reduceEqDiff, e0, e3, e4, hlen]
    refine cond_dec (fun h => ?_) (fun h => ?_)
    · have hi' : i < xs.length := by omega
      have hv' := hv.get (by omega)
      have hcs := hv'.elt hi'
      have hrule := hcs
      obtain ⟨c1, c2, c3, hat, _, _, _⟩ := hcs
      rw [hat] at hrule
      simp (maxSteps := 2000000) (disch := first | omega | assumption | exact idP rfl | exact idP (bL rfl)) only [go_sem, reduceIte, Nat.reduceEqDiff, e0, e3, e4, hv'.iaddr, hat]
      refine (f_toRule hrule (hx _ (List.getElem_mem hi'))).mono ?_
      rintro _ _ ⟨rfl, ds, rfl, hr⟩
      have hr0 := hr
      obtain ⟨x, y, z, rfl, hx1, hx2, hx3⟩ := hr
      simp (maxSteps := 2000000) (disch := first | omega | assumption | exact idP rfl | exact idP (bL rfl)) only [go_sem, reduceIte, Nat.reduceEqDiff, e0, e3, e4, hm]
      refine ⟨rfl, by simp [hx1.one.1, hx2.one.1, hx3.one.1], ?_, ?_⟩
      · rw [List.length_append, catV_len henc, catV_len henc, hul, List.length_replicate]; omega
      rw [show xs.length - i = (xs.length - (i + 1)) + 1 by omega, cat_set (x := (⟨[x, y, z], rfl⟩ : T3)) henc (by rw [hul])]
      simp (maxSteps := 2000000) (disch := first | omega | assumption | exact idP rfl | exact idP (bL rfl)) only [go_sem, reduceIte, Nat.reduceEqDiff, e0, e3, e4]
      refine hK _ _ ⟨i + 1, us ++ [⟨[x, y, z], rfl⟩], by omega, by simp [hul], by simp (maxSteps := 2000000) (disch := first | omega | assumption | exact idP rfl | exact idP (bL rfl)) only [go_sem, reduceIte, Nat.reduceEqDiff], by simp (maxSteps := 2000000) (disch := first | omega | assumption | exact idP rfl | exact idP (bL rfl)) only [go_sem, reduceIte, Nat.reduceEqDiff], by simp (maxSteps := 2000000) (disch := first | omega | assumption | exact idP rfl | exact idP (bL rfl)) only [go_sem, reduceIte, Nat.reduceEqDiff]; rfl, hsub.set hb3, by simp (maxSteps := 2000000) (disch := first | omega | assumption | exact idP rfl | exact idP (bL rfl)) only [go_sem, reduceIte, Nat.reduceEqDiff], fun j h1 h2 => ?_⟩ (by simp (maxSteps := 2000000) (disch := first | omega | assumption | exact idP rfl | exact idP (bL rfl)) only [go_sem, reduceIte, Nat.reduceEqDiff, ctrV_int, e4]; omega)
      by_cases hj : j < us.length
      · rw [List.getElem_append_left hj]; exact hc j h1 hj
      · obtain rfl : j = us.length := by simp at h2; omega
        subst hul
        simpa using hr0
    · obtain rfl : i = xs.length := by omega
      simp (maxSteps := 2000000) (disch := first | omega | assumption | exact idP rfl | exact idP (bL rfl)) only [go_sem, reduceIte, Nat.reduceEqDiff, e3]
      exact hG _ _ 3 (catV (fun x : T3 => x.val) us) ⟨hsub, fun b' h' => by simp [blkV] at h'; subst h'; exact hb3, .inr ⟨b3, _, true, rfl, by simpa [catV] using hm, by rw [catV_len henc, hul]⟩⟩ fun u hu => hu.lc (by omega) (by rw [catV_len henc, hul]) fun j hj => by rw [catV_at henc (by omega)]; exact hc j hj (by omega)
theorem f_toSystem {v : V} {s : SysS} (hv : isSysX s v) (hf : SysFit s) : VCall Tryz.prog n_laws_toSystem [v] M (fun r' M' => M = M' ∧ isSys s r') := by
  refine VCall.pure fun R hR => v_laws_toSystem rfl ?_
  obtain ⟨a, b, rfl, ha, hb⟩ := hv
  obtain ⟨f1, f2, f3⟩ := hf
  simp (maxSteps := 2000000) (disch := first | omega | assumption | exact idP rfl | exact idP (bL rfl)) only [go_sem, reduceIte, Nat.reduceEqDiff]
  intro b1 hb1
  try simp (maxSteps := 2000000) (disch := first | omega | assumption | exact idP rfl | exact idP (bL rfl)) only [go_sem, reduceIte, Nat.reduceEqDiff]
  intro b2 hb2
  try simp (maxSteps := 2000000) (disch := first | omega | assumption | exact idP rfl | exact idP (bL rfl)) only [go_sem, reduceIte, Nat.reduceEqDiff]
  intro b3 hb3
  have n21 := (fresh_set hb2).1
  have n32 := (fresh_set hb3).1
  have n31 := (fresh_set (fresh_set hb3).2).1
  simp (maxSteps := 2000000) (disch := first | omega | assumption | exact idP rfl | exact idP (bL rfl)) only [go_sem, reduceIte, Nat.reduceEqDiff]
  refine (f_toVarS ha f1).mono ?_
  rintro x _ ⟨rfl, hx⟩
  have hx1 := hx.one.1
  have hx2 := hx.one.2
  simp (maxSteps := 2000000) (disch := first | omega | assumption | exact idP rfl | exact idP (bL rfl)) only [go_sem, reduceIte, Nat.reduceEqDiff, hx2]
  refine (f_toRuleS hb f2 f3).mono ?_
  rintro y _ ⟨rfl, hy⟩
  have hy1 := hy.one.1
  have hy2 := hy.one.2
  simp (maxSteps := 2000000) (disch := first | omega | assumption | exact idP rfl | exact idP (bL rfl)) only [go_sem, reduceIte, Nat.reduceEqDiff, hy2]
  refine hR _ _ ?_ ⟨x, y, rfl, hx, hy⟩
  repeat (first | exact Sub.refl _ | assumption | (refine Sub.set ?_ (fresh_set hb2).2) | (refine Sub.set ?_ (fresh_set (fresh_set hb3).2).2) | (refine Sub.set' ?_ (by assumption)))
end Go.M2

namespace Go.M2
open Go.Proofs
variable {M : MH}
theorem SysFit.sz {s : SysS} (h : SysFit s) : SysSz s := ⟨h.1, h.2.1, fun r hr => (h.2.2 r hr).2.1⟩
end Go.M2

namespace Go.M2
open Go.Proofs
def EV {α : Type} (E : α → List V → Prop) : Heap → α → List AV → Prop := fun H x cs => ∃ vs : List V, erl vs = cs ∧ okL H vs ∧ E x vs
theorem erl_len : ∀ l : List V, (erl l).length = l.length
  | [] => rfl
  | v :: t => by simp only [erl, List.length_cons, erl_len t]
theorem erl_app : ∀ a b : List V, erl (a ++ b) = erl a ++ erl b
  | [], b => rfl
  | v :: t, b => by simp only [List.cons_append, erl, erl_app t b]
theorem okL_app {H : Heap} : ∀ {a b : List V}, okL H a → okL H b → okL H (a ++ b)
  | [], b, _, h => h
  | v :: t, b, h, k => by
    simp only [List.cons_append, okL] at h ⊢
    exact ⟨h.1, okL_app h.2 k⟩
theorem lift_cells {α : Type} {E : α → List V → Prop} {H : Heap} {b sz : Nat} : ∀ {xs : List α} {o : Nat}, (∀ i (h : i < xs.length), ∃ cs, cs.length = sz ∧ Rd H b (o + i * sz) cs ∧ EV E H xs[i] cs) →
    ∃ vs : List V, vs.length = xs.length * sz ∧ Rd H b o (erl vs) ∧ okL H vs ∧ ∀ i (h : i < xs.length), E xs[i] ((vs.drop (i * sz)).take sz)
  | [], o, _ => ⟨[], by simp, Rd.nil _ _ _, by simp [okL], fun i h => by simp at h⟩
  | x :: t, o, h => by
    obtain ⟨cs, h1, h2, us, h3, h4, h5⟩ := h 0 (by simp)
    obtain ⟨vs, k1, k2, k3, k4⟩ := lift_cells (xs := t) (o := o + sz) (E := E) (H := H) (b := b) (sz := sz) (fun i hi => by
      obtain ⟨cs, q1, q2, q3⟩ := h (i + 1) (by simp; omega)
      exact ⟨cs, q1, by rw [show o + sz + i * sz = o + (i + 1) * sz by rw [Nat.succ_mul]; omega]; exact q2, by simpa using q3⟩)
    have hu : us.length = sz := by rw [← erl_len, h3]; exact h1
    refine ⟨us ++ vs, by simp [hu, k1, Nat.succ_mul]; omega, ?_, okL_app h4 k3, fun i hi => ?_⟩
    · intro i y hy
      rw [erl_app] at hy
      by_cases hlt : i < (erl us).length
      · rw [List.getElem?_append_left hlt, h3] at hy
        have := h2 i y hy
        simpa using this
      · rw [List.getElem?_append_right (by omega)] at hy
        have e1 : (erl us).length = sz := by rw [erl_len]; exact hu
        rw [e1] at hy hlt
        have := k2 (i - sz) y hy
        rwa [show o + sz + (i - sz) = o + i by omega] at this
    · cases i with
      | zero => simpa [List.take_left' hu] using h5
      | succ i =>
        have := k4 i (by simpa using hi)
        have e2 : (us ++ vs).drop ((i + 1) * sz) = vs.drop (i * sz) := by
          rw [show (i + 1) * sz = us.length + i * sz by rw [Nat.succ_mul, hu]; omega, List.drop_append]
          simp
        rw [e2]
        simpa using this
theorem lift_slice {α : Type} {E : α → List V → Prop} {H : Heap} {sz : Nat} {v : AV} {xs : List α} (h : InS sz (EV E) H v xs) : ∃ v', er v' = v ∧ okV H v' ∧ In (Lc sz E) v' xs := by
  rcases h with ⟨A, c, ex, k, rfl, h⟩ | ⟨rfl, rfl⟩
  · obtain ⟨vs, h1, h2, h3, h4⟩ := lift_cells h
    exact ⟨.fs A xs.length c ex k vs, rfl, by simp only [okV]; exact ⟨h2, h3⟩, .inl (.inr ⟨A, c, ex, k, vs, rfl, by omega, fun i hi => h4 i hi⟩)⟩
  · exact ⟨.sc .emp, rfl, by simp [okV], .inr ⟨rfl, rfl⟩⟩
def E1 {α : Type} (E : α → V → Prop) : α → List V → Prop := fun a cs => ∃ u, cs = [u] ∧ E a u
theorem lc1_ls {α : Type} {E : α → V → Prop} {v : V} {ys : List α} (h : Lc 1 (E1 E) v ys) : Ls E v ys := by
  rcases h with h | ⟨A, c, ex, k, xs, rfl, hl, h⟩
  · exact .inl h
  · refine .inr ⟨A, c, ex, k, xs, rfl, by omega, fun i hi => ?_⟩
    obtain ⟨u, h1, h2⟩ := h i hi
    have h3 : xs[i]? = some u := by
      have := congrArg (fun l => l[0]?) h1
      simpa [atN, List.getElem?_take, List.getElem?_drop] using this
    have h4 : at1 (.fs A ys.length c ex k xs) i = u := by
      simp [at1, List.getD_eq_getElem?_getD, h3]
    rw [h4]; exact h2
section
open Go.ChangeShapes Go.WideShapes Go.ChangeAt Go.RowKit
variable {HH : Type} {enc : TypeId × Value → HH} {P : Program} {W : World} {t e : TypeId} {fuel : Nat} {cs : List Value} {x : DataW HH × List MemPlace}
def LiftE {α : Type} (W : World) (E : α → List V → Prop) (a : α) (cs : List Value) : Prop := ∃ vs, erl vs = cs.map (avC W.heap.size) ∧ okL (heap0 W) vs ∧ E a vs
theorem in_list {α : Type} {E : α → List V → Prop} {good : α → Prop} {sz : Nat} (ht : P.underlying t = some (.slice e)) (hsz : P.cellsOf e = sz) (h0 : 0 < sz)
    (he : ∀ n cs x, DataW.trod enc P W 0 (fun _ => true) true n e cs = some x → ∃ a, LiftE W E a cs ∧ good a)
    (h : DataW.trod enc P W 0 (fun _ => true) true fuel t cs = some x) : ∃ xs : List α, LiftE W (E1 (fun (ys : List α) u => In (Lc sz E) u ys)) xs cs ∧ (xs.length ≤ 9223372036854775807 ∧ ∀ a ∈ xs, good a) := by
  obtain ⟨v, xs, rfl, h1, h2, h3⟩ := in_slice (E := EV E) (good := good) ht hsz h0 (fun n cs x hx => by
    obtain ⟨a, ⟨vs, h1, h2, h3⟩, h4⟩ := he n cs x hx
    exact ⟨a, ⟨vs, h1, h2, h3⟩, h4⟩) h
  obtain ⟨u, k1, k2, k3⟩ := lift_slice h1
  exact ⟨xs, ⟨[u], by simp [erl, k1], by simp only [okL]; exact ⟨k2, trivial⟩, u, rfl, k3⟩, h3, h2⟩
theorem in_list1 {α : Type} {E : α → V → Prop} {good : α → Prop} (ht : P.underlying t = some (.slice e)) (hsz : P.cellsOf e = 1)
    (he : ∀ n cs x, DataW.trod enc P W 0 (fun _ => true) true n e cs = some x → ∃ a, LiftE W (E1 E) a cs ∧ good a)
    (h : DataW.trod enc P W 0 (fun _ => true) true fuel t cs = some x) : ∃ xs : List α, LiftE W (E1 (fun (ys : List α) u => In (Ls E) u ys)) xs cs ∧ (xs.length ≤ 9223372036854775807 ∧ ∀ a ∈ xs, good a) := by
  obtain ⟨xs, ⟨vs, h1, h2, u, rfl, h3⟩, h4⟩ := in_list ht hsz (by omega) he h
  exact ⟨xs, ⟨[u], h1, h2, u, rfl, h3.imp lc1_ls id⟩, h4⟩
theorem in_n (ht : P.underlying t = some (.int .i64)) (h : DataW.trod enc P W 0 (fun _ => true) true fuel t cs = some x) : ∃ n, LiftE W (E1 isI) n cs ∧ (-9223372036854775808 ≤ n ∧ n ≤ 9223372036854775807) := by
  obtain ⟨n, rfl, h1⟩ := in_int ht h
  exact ⟨n, ⟨[.sc (.int .i64 n)], rfl, by simp [okL, okV], _, rfl, rfl⟩, h1⟩
theorem LiftE.one {α : Type} {E : α → V → Prop} {a : α} {c : Value} (h : LiftE W (E1 E) a [c]) : ∃ u, er u = avC W.heap.size c ∧ okV (heap0 W) u ∧ E a u := by
  obtain ⟨vs, h1, h2, u, rfl, h3⟩ := h
  simp only [erl, List.map_cons, List.map_nil, List.cons.injEq, and_true] at h1
  simp only [okL] at h2
  exact ⟨u, h1, h2.1, h3⟩
end
theorem calls_of_vcall {P : Program} {f : FuncId} {vs : List Value} {vv : List V} {W : World} (h : VCall P f vv (fun _ => none) (fun r M' => (fun _ => none) = M' ∧ r = .sc (.bool true)))
    (he : vv.map er = vs.map (avT W.heap.size)) (ho : okL (heap0 W) vv) : Calls P f vs.toArray W (fun e w' => e = .returned (.bool true) ∧ Go.RowKit.Below W.heap.size W w') := by
  refine calls_of_acall ?_
  rw [← he]
  refine (h (heap0 W) (heap0 W) ⟨rfl, fun b _ => .inr rfl, fun b l hb => by cases hb⟩ ho).mono ?_
  rintro a H' ⟨r, M', F', rfl, _, _, _, _, rfl⟩
  rfl
end Go.M2

namespace Go.M2
open Go.Proofs
open Go.ChangeShapes Go.WideShapes Go.ChangeAt Go.RowKit
variable {HH : Type} {enc : TypeId × Value → HH} {W : World} {fuel : Nat} {cs : List Value} {x : DataW HH × List MemPlace}
theorem list4 {α : Type} {l : List α} (h : l.length = 4) : ∃ a b c d, l = [a, b, c, d] := by
  match l, h with
  | [a, b, c, d], _ => exact ⟨a, b, c, d, rfl⟩
theorem list3 {α : Type} {l : List α} (h : l.length = 3) : ∃ a b c, l = [a, b, c] := by
  match l, h with
  | [a, b, c], _ => exact ⟨a, b, c, rfl⟩
theorem in_i64 (h : DataW.trod enc Tryz.prog W 0 (fun _ => true) true fuel 3 cs = some x) : ∃ n : Int, cs = [.int .i64 n] := by
  obtain ⟨n, h1, _⟩ := in_int Tryz.underlying3 h
  exact ⟨n, h1⟩
theorem in_term (h : DataW.trod enc Tryz.prog W 0 (fun _ => true) true fuel 88 cs = some x) : ∃ t : TermS, LiftE W isT t cs ∧ True := by
  have c3 : Tryz.prog.cellsOf 3 = 1 := by kernel_rfl
  obtain ⟨xs, n, _, _, hl, hxl, hf⟩ := DataW.trod_struct Tryz.underlying88 h
  have hxl : xs.length = 4 := hxl
  have hl : cs.length = 4 := hl.trans (by kernel_rfl)
  obtain ⟨a, b, c, d, rfl⟩ := list4 hl
  have f0 := hf 0 ⟨ "Op", 3, 0, false, "", "", 0⟩ rfl
  have f1 := hf 1 ⟨ "N", 3, 1, false, "", "", 8⟩ rfl
  have f2 := hf 2 ⟨ "A", 3, 2, false, "", "", 16⟩ rfl
  have f3 := hf 3 ⟨ "B", 3, 3, false, "", "", 24⟩ rfl
  rw [List.getElem?_eq_getElem (by omega), c3] at f0 f1 f2 f3
  obtain ⟨n0, e0⟩ := in_i64 f0
  obtain ⟨n1, e1⟩ := in_i64 f1
  obtain ⟨n2, e2⟩ := in_i64 f2
  obtain ⟨n3, e3⟩ := in_i64 f3
  simp only [List.drop_zero, List.drop_succ_cons, List.take_succ_cons, List.take_zero, List.cons.injEq, and_true] at e0 e1 e2 e3
  subst e0 e1 e2 e3
  exact ⟨⟨n0, n1, n2, n3⟩, ⟨encT ⟨n0, n1, n2, n3⟩, rfl, by simp [encT, okL, okV], rfl⟩, trivial⟩
theorem in_var (h : DataW.trod enc Tryz.prog W 0 (fun _ => true) true fuel 105 cs = some x) : ∃ t : VarS, LiftE W isVar t cs ∧ True := by
  have c3 : Tryz.prog.cellsOf 3 = 1 := by kernel_rfl
  obtain ⟨xs, n, _, _, hl, hxl, hf⟩ := DataW.trod_struct Tryz.underlying105 h
  have hxl : xs.length = 3 := hxl
  have hl : cs.length = 3 := hl.trans (by kernel_rfl)
  obtain ⟨a, b, c, rfl⟩ := list3 hl
  have f0 := hf 0 ⟨ "Low", 3, 0, false, "", "", 0⟩ rfl
  have f1 := hf 1 ⟨ "High", 3, 1, false, "", "", 8⟩ rfl
  have f2 := hf 2 ⟨ "First", 3, 2, false, "", "", 16⟩ rfl
  rw [List.getElem?_eq_getElem (by omega), c3] at f0 f1 f2
  obtain ⟨n0, e0⟩ := in_i64 f0
  obtain ⟨n1, e1⟩ := in_i64 f1
  obtain ⟨n2, e2⟩ := in_i64 f2
  simp only [List.drop_zero, List.drop_succ_cons, List.take_succ_cons, List.take_zero, List.cons.injEq, and_true] at e0 e1 e2
  subst e0 e1 e2
  exact ⟨⟨n0, n1, n2⟩, ⟨encVar ⟨n0, n1, n2⟩, rfl, by simp [encVar, okL, okV], rfl⟩, trivial⟩
theorem in_ints (h : DataW.trod enc Tryz.prog W 0 (fun _ => true) true fuel 26 cs = some x) : ∃ ns : List Int, LiftE W (E1 (fun (ys : List Int) u => XI u ys)) ns cs ∧ LenOk ns := by
  obtain ⟨ns, h1, h2, _⟩ := in_list1 (E := isI) (good := fun n => -9223372036854775808 ≤ n ∧ n ≤ 9223372036854775807) Tryz.underlying26 (by kernel_rfl) (fun n cs x h => in_n Tryz.underlying3 h) h
  exact ⟨ns, h1, h2⟩
theorem in_terms (h : DataW.trod enc Tryz.prog W 0 (fun _ => true) true fuel 43 cs = some x) : ∃ ts : List TermS, LiftE W (E1 (fun (ys : List TermS) u => XT u ys)) ts cs ∧ LenOk ts := by
  obtain ⟨ns, h1, h2, _⟩ := in_list (E := isT) (good := fun _ => True) (sz := 4) Tryz.underlying43 (by kernel_rfl) (by omega) (fun n cs x h => in_term h) h
  exact ⟨ns, h1, h2⟩
theorem in_vars (h : DataW.trod enc Tryz.prog W 0 (fun _ => true) true fuel 22 cs = some x) : ∃ ts : List VarS, LiftE W (E1 (fun (ys : List VarS) u => XVar u ys)) ts cs ∧ LenOk ts := by
  obtain ⟨ns, h1, h2, _⟩ := in_list (E := isVar) (good := fun _ => True) (sz := 3) Tryz.underlying22 (by kernel_rfl) (by omega) (fun n cs x h => in_var h) h
  exact ⟨ns, h1, h2⟩
theorem in_termss (h : DataW.trod enc Tryz.prog W 0 (fun _ => true) true fuel 99 cs = some x) : ∃ ts : List (List TermS), LiftE W (E1 (fun (ys : List (List TermS)) u => XTT u ys)) ts cs ∧ (LenOk ts ∧ ∀ t ∈ ts, LenOk t) :=
  in_list1 (E := fun (ts : List TermS) u => XT u ts) (good := fun ts => LenOk ts) Tryz.underlying99 (by kernel_rfl) (fun n cs x h => in_terms h) h
theorem in_rule (h : DataW.trod enc Tryz.prog W 0 (fun _ => true) true fuel 101 cs = some x) : ∃ r : RuleS, LiftE W isRuleX r cs ∧ RuleLen r := by
  obtain ⟨xs, n, _, _, hl, hxl, hf⟩ := DataW.trod_struct Tryz.underlying101 h
  have hxl : xs.length = 3 := hxl
  have hl : cs.length = 3 := hl.trans (by kernel_rfl)
  have c1 : Tryz.prog.cellsOf 43 = 1 := by kernel_rfl
  have c2 : Tryz.prog.cellsOf 26 = 1 := by kernel_rfl
  have c3 : Tryz.prog.cellsOf 99 = 1 := by kernel_rfl
  obtain ⟨a, b, c, rfl⟩ := list3 hl
  have f0 := hf 0 ⟨ "When", 43, 0, false, "", "", 0⟩ rfl
  have f1 := hf 1 ⟨ "Sets", 26, 1, false, "", "", 24⟩ rfl
  have f2 := hf 2 ⟨ "Terms", 99, 2, false, "", "", 48⟩ rfl
  rw [List.getElem?_eq_getElem (by omega)] at f0 f1 f2
  simp only [c1, c2, c3, List.drop_zero, List.drop_succ_cons, List.take_succ_cons, List.take_zero] at f0 f1 f2
  obtain ⟨n0, e0, g0⟩ := in_terms f0
  obtain ⟨n1, e1, g1⟩ := in_ints f1
  obtain ⟨n2, e2, g2, g3⟩ := in_termss f2
  obtain ⟨u0, p0, q0, r0⟩ := e0.one
  obtain ⟨u1, p1, q1, r1⟩ := e1.one
  obtain ⟨u2, p2, q2, r2⟩ := e2.one
  exact ⟨⟨n0, n1, n2⟩, ⟨[u0, u1, u2], by simp [erl, p0, p1, p2], by simp only [okL]; exact ⟨q0, q1, q2, trivial⟩, u0, u1, u2, rfl, r0, r1, r2⟩, g0, g1, g2, g3⟩
theorem in_rules (h : DataW.trod enc Tryz.prog W 0 (fun _ => true) true fuel 23 cs = some x) : ∃ rs : List RuleS, LiftE W (E1 (fun (ys : List RuleS) u => XR u ys)) rs cs ∧ (LenOk rs ∧ ∀ r ∈ rs, RuleLen r) :=
  in_list (E := isRuleX) (good := RuleLen) (sz := 3) Tryz.underlying23 (by kernel_rfl) (by omega) (fun n cs x h => in_rule h) h
def UpV {α : Type} (W : World) (E : α → V → Prop) (a : α) (v : Value) : Prop := ∃ u, er u = avT W.heap.size v ∧ okV (heap0 W) u ∧ E a u
theorem up_system {v : Value} (hv : ∃ a, v = .agg a) (h : DataW.trod enc Tryz.prog W 0 (fun _ => true) true fuel 25 v.cells.toList = some x) : ∃ s : SysS, UpV W (fun (s : SysS) u => isSysX s u) s v ∧ SysLen s := by
  obtain ⟨cs, rfl⟩ := hv
  have c1 : Tryz.prog.cellsOf 22 = 1 := by kernel_rfl
  have c2 : Tryz.prog.cellsOf 23 = 1 := by kernel_rfl
  obtain ⟨xs, n, _, _, hl, hxl, hf⟩ := DataW.trod_struct Tryz.underlying25 h
  have hxl : xs.length = 2 := hxl
  have hl : cs.toList.length = 2 := hl.trans (by kernel_rfl)
  obtain ⟨a, b, hab⟩ : ∃ a b, cs.toList = [a, b] := by
    match hcs : cs.toList, hl with
    | [a, b], _ => exact ⟨a, b, rfl⟩
  have f0 := hf 0 ⟨ "Vars", 22, 0, false, "", "", 0⟩ rfl
  have f1 := hf 1 ⟨ "Rules", 23, 1, false, "", "", 24⟩ rfl
  rw [List.getElem?_eq_getElem (by omega)] at f0 f1
  simp only [Value.cells, hab, c1, c2, List.drop_zero, List.drop_succ_cons, List.take_succ_cons, List.take_zero] at f0 f1
  obtain ⟨n0, e0, g0⟩ := in_vars f0
  obtain ⟨n1, e1, g1, g2⟩ := in_rules f1
  obtain ⟨u0, p0, q0, r0⟩ := e0.one
  obtain ⟨u1, p1, q1, r1⟩ := e1.one
  refine ⟨⟨n0, n1⟩, ⟨.agg [u0, u1], ?_, by simp only [okV, okL]; exact ⟨q0, q1, trivial⟩, u0, u1, rfl, r0, r1⟩, g0, g1, g2⟩
  simp [er, erl, avT, hab, p0, p1]
theorem avT_sl {N : Nat} {v : Value} (h : ∀ a, v ≠ .agg a) : avT N v = avC N v := by
  unfold avT
  split
  · rename_i a; exact absurd rfl (h a)
  · rfl
end Go.M2

namespace Go.M2
open Go.Proofs
variable {M : MH}
end Go.M2

namespace Go.M2
open Go.Proofs
variable {M : MH}
end Go.M2

namespace Go.M2
open Go.Proofs
variable {M : MH}
end Go.M2

namespace Go.M2
open Go.Proofs
variable {M : MH}
theorem mem_woF {xs ys : List Int} (h1 : SetOk 400 xs) (h2 : SetOk 400 ys) {x : Int} : x ∈ woF xs ys ↔ x ∈ xs ∧ ¬ x ∈ ys := by
  unfold woF
  rw [if_pos ⟨setB_iff.2 h1, setB_iff.2 h2⟩, mem_selL]
  constructor
  · rintro ⟨i, hi, hp, rfl⟩
    simpa [woB, inL] using hp
  · rintro ⟨q1, q2⟩
    have := h1.in x q1
    refine ⟨x.toNat, by omega, ?_, by omega⟩
    simp only [woB, inL, Int.toNat_of_nonneg this.1, Bool.and_eq_true, decide_eq_true_eq, Bool.not_eq_true', decide_eq_false_iff_not]
    exact ⟨q1, q2⟩
end Go.M2

namespace Go.M2
open Go.Proofs
variable {M : MH}
theorem Mem.base {M0 M1 M : MH} {f : List (Nat × List V)} (h : Mem M1 M f) (hs : Sub M0 M1) : Mem M0 M f := ⟨hs.trans h.sub, fun p hp => hs.none (h.new p hp), h.nd, h.at_⟩
theorem Mem.tail {M0 M : MH} {p : Nat × List V} {f : List (Nat × List V)} (h : Mem M0 M (p :: f)) : Mem M0 M f := Mem.right (f := [p]) h
theorem Mem.hd {M0 M : MH} {b : Nat} {l : List V} {f : List (Nat × List V)} (h : Mem M0 M ((b, l) :: f)) : M b = some l := h.at_ _ (List.mem_cons_self ..)
def One (v : V) : Prop := oneV v = true ∧ cellsV v = some [v]
theorem Ow.flat {sz : Nat} {M : MH} {v : V} {l : List V} (h : Ow sz M v l) : flat v := by
  rcases h with ⟨_, k, rfl⟩ | ⟨b, n, ex, rfl, _⟩ <;> simp [Go.M2.flat]
theorem d_toIntS {v : V} {xs : List Int} (hv : XI v xs) (hl : xs.length ≤ 1048576) : VCall Tryz.prog n_laws_toIntS [v] M (fun r M' => One r ∧ Dn M M' r (fun u => LI u xs)) :=
  (x_toIntS hv hl).mono fun r M' h => ⟨h.one, h.dn (flatL_vi xs) fun u hu => hu.li⟩
end Go.M2

namespace Go.M2
open Go.Proofs
variable {M : MH}
theorem t_Equal {v w : V} {xs ys : List Int} (hv : LI v xs) (hw : LI w ys) (hl : xs.length ≤ 1048576) (hl2 : ys.length ≤ 1048576) : VCall Tryz.prog n_slices_Equal_Sint_int [v, w] M (fun r M' => M = M' ∧ r = .sc (.bool (decide (xs = ys)))) := by
  refine VCall.pure fun R hR => v_slices_Equal_Sint_int rfl ?_
  simp (maxSteps := 2000000) (disch := first | omega | assumption | exact idP rfl | exact idP (bL rfl)) only [go_sem, reduceIte, Nat.reduceEqDiff, hv.len, hw.len]
  refine cond_dec (fun h => ?_) (fun h => ?_)
  · simp (maxSteps := 2000000) (disch := first | omega | assumption | exact idP rfl | exact idP (bL rfl)) only [go_sem, reduceIte, Nat.reduceEqDiff]
    have : ¬ xs = ys := fun e => h (by rw [e])
    exact hR _ _ (by (repeat (first | exact Sub.refl _ | assumption | (refine Sub.set' ?_ (by assumption))))) (by simp [this])
  · have hll : xs.length = ys.length := by omega
    simp (maxSteps := 2000000) (disch := first | omega | assumption | exact idP rfl | exact idP (bL rfl)) only [go_sem, reduceIte, Nat.reduceEqDiff, hv.len]
    refine loop_k (fun e M' => M' = M ∧ ∃ i : Nat, i ≤ xs.length ∧ e 0 = v ∧ e 1 = w ∧ e 12 = .sc (.int .i64 xs.length) ∧ e 13 = .sc (.int .i64 i) ∧ ∀ j (h1 : j < xs.length) (h2 : j < ys.length), j < i → xs[j] = ys[j]) (fun e _ => ctrV xs.length (e 13)) ?_ ?_
    · exact ⟨rfl, 0, by omega, by simp (maxSteps := 2000000) (disch := first | omega | assumption | exact idP rfl | exact idP (bL rfl)) only [go_sem, reduceIte, Nat.reduceEqDiff], by simp (maxSteps := 2000000) (disch := first | omega | assumption | exact idP rfl | exact idP (bL rfl)) only [go_sem, reduceIte, Nat.reduceEqDiff], by simp (maxSteps := 2000000) (disch := first | omega | assumption | exact idP rfl | exact idP (bL rfl)) only [go_sem, reduceIte, Nat.reduceEqDiff], by simp (maxSteps := 2000000) (disch := first | omega | assumption | exact idP rfl | exact idP (bL rfl)) only [go_sem, reduceIte, Nat.reduceEqDiff]; rfl, fun j _ _ h => by omega⟩
    · rintro e _ ⟨rfl, i, hi, e0, e1, e12, e13, hj⟩ K hK
      simp (maxSteps := 2000000) (disch := first | omega | assumption | exact idP rfl | exact idP (bL rfl)) only [go_sem, reduceIte, Nat.reduceEqDiff, e0, e1, e12, e13]
      refine cond_dec (fun hc => ?_) (fun hc => ?_)
      · have h1 : i < xs.length := by omega
        have h2 : i < ys.length := by omega
        simp (maxSteps := 2000000) (disch := first | omega | assumption | exact idP rfl | exact idP (bL rfl)) only [go_sem, reduceIte, Nat.reduceEqDiff, e0, e1, e12, e13, hv.iaddr, hw.iaddr, hv.at h1, hw.at h2]
        refine cond_dec (fun hn => ?_) (fun hn => ?_)
        · simp (maxSteps := 2000000) (disch := first | omega | assumption | exact idP rfl | exact idP (bL rfl)) only [go_sem, reduceIte, Nat.reduceEqDiff]
          have : ¬ xs = ys := fun e => hn (by simp only [e])
          exact hR _ _ (by (repeat (first | exact Sub.refl _ | assumption | (refine Sub.set' ?_ (by assumption))))) (by simp [this])
        · simp (maxSteps := 2000000) (disch := first | omega | assumption | exact idP rfl | exact idP (bL rfl)) only [go_sem, reduceIte, Nat.reduceEqDiff, e0, e1, e12, e13]
          refine hK _ _ ⟨rfl, i + 1, by omega, by simp (maxSteps := 2000000) (disch := first | omega | assumption | exact idP rfl | exact idP (bL rfl)) only [go_sem, reduceIte, Nat.reduceEqDiff, e0], by simp (maxSteps := 2000000) (disch := first | omega | assumption | exact idP rfl | exact idP (bL rfl)) only [go_sem, reduceIte, Nat.reduceEqDiff, e1], by simp (maxSteps := 2000000) (disch := first | omega | assumption | exact idP rfl | exact idP (bL rfl)) only [go_sem, reduceIte, Nat.reduceEqDiff, e12], by simp (maxSteps := 2000000) (disch := first | omega | assumption | exact idP rfl | exact idP (bL rfl)) only [go_sem, reduceIte, Nat.reduceEqDiff, e13]; rfl, fun j q1 q2 q3 => ?_⟩ (by simp (maxSteps := 2000000) (disch := first | omega | assumption | exact idP rfl | exact idP (bL rfl)) only [go_sem, reduceIte, Nat.reduceEqDiff, ctrV_int, e13]; omega)
          by_cases e : j = i
          · subst e; exact Classical.byContradiction hn
          · exact hj j q1 q2 (by omega)
      · obtain rfl : i = xs.length := by omega
        simp (maxSteps := 2000000) (disch := first | omega | assumption | exact idP rfl | exact idP (bL rfl)) only [go_sem, reduceIte, Nat.reduceEqDiff]
        have : xs = ys := List.ext_getElem hll fun j q1 q2 => hj j q1 q2 q1
        exact hR _ _ (by (repeat (first | exact Sub.refl _ | assumption | (refine Sub.set' ?_ (by assumption))))) (by simp [this])
def FrStep (s : SysS) (p f : List Int) : Prop := SetOk (sizeF s.vars) f ∧ (∀ x ∈ p, x ∈ f) ∧ (∀ x ∈ nextN s p, x ∈ f)
def FrOk (s : SysS) (fs : List (List Int)) : Prop := SysOk s ∧ 1 ≤ fs.length ∧ fs.length ≤ 30 ∧ fs[0]? = some [firstN s] ∧ ∀ i (h : i + 1 < fs.length), FrStep s fs[i] fs[i + 1]
noncomputable def frB (s : SysS) (fs : List (List Int)) : Bool := @decide (FrOk s fs) (Classical.propDecidable _)
theorem frB_true {s : SysS} {fs : List (List Int)} (h : FrOk s fs) : frB s fs = true := by unfold frB; exact (@decide_eq_true_iff _ (Classical.propDecidable _)).2 h
theorem frB_false {s : SysS} {fs : List (List Int)} (h : ¬ FrOk s fs) : frB s fs = false := by
  cases hb : frB s fs with
  | false => rfl
  | true => unfold frB at hb; exact absurd ((@decide_eq_true_iff _ (Classical.propDecidable _)).1 hb) h
theorem fr_set {s : SysS} {fs : List (List Int)} (hs : SysOk s) (h0 : fs[0]? = some [firstN s]) : ∀ i (h : i < fs.length), (∀ j (h2 : j + 1 < fs.length), j < i → FrStep s fs[j] fs[j + 1]) → SetOk (sizeF s.vars) fs[i]
  | 0, h, _ => by
    have : fs[0] = [firstN s] := by rw [List.getElem?_eq_getElem h] at h0; exact Option.some.inj h0
    rw [this]
    intro i hi _
    have hfb := firstN_bd hs
    obtain rfl : i = 0 := by simp at hi; omega
    exact ⟨⟨by simpa using hfb.1, by simp; omega⟩, fun h => by omega⟩
  | i + 1, h, hj => (hj i h (by omega)).1
theorem step_wo {s : SysS} {p f : List Int} (hs : SysOk s) (hp : SetOk (sizeF s.vars) p) : FrStep s p f ↔ setV s f = true ∧ (woF p f).length = 0 ∧ (woF (nextN s p) f).length = 0 := by
  have hsz := hs.sz
  rw [setV_iff]
  constructor
  · rintro ⟨h1, h2, h3⟩
    have h4 : SetOk 400 f := h1.mono (by omega)
    refine ⟨⟨hs, h1⟩, ?_, ?_⟩
    · rw [List.length_eq_zero_iff]
      exact List.eq_nil_iff_forall_not_mem.2 fun x hx => by
        obtain ⟨q1, q2⟩ := (mem_woF (hp.mono (by omega)) h4).1 hx
        exact q2 (h2 x q1)
    · rw [List.length_eq_zero_iff]
      exact List.eq_nil_iff_forall_not_mem.2 fun x hx => by
        obtain ⟨q1, q2⟩ := (mem_woF (nextN_ok s p) h4).1 hx
        exact q2 (h3 x q1)
  · rintro ⟨⟨_, h1⟩, h2, h3⟩
    have h4 : SetOk 400 f := h1.mono (by omega)
    rw [List.length_eq_zero_iff] at h2 h3
    refine ⟨h1, fun x hx => ?_, fun x hx => ?_⟩
    · apply Classical.byContradiction
      intro hn
      have := (mem_woF (hp.mono (by omega)) h4).2 ⟨hx, hn⟩
      rw [h2] at this; cases this
    · apply Classical.byContradiction
      intro hn
      have := (mem_woF (nextN_ok s p) h4).2 ⟨hx, hn⟩
      rw [h3] at this; cases this
theorem t_specFramesValid {v w : V} {s : SysS} {fs : List (List Int)} (hv : isSys s v) (hw : LII w fs) (hl : fs.length ≤ 1048576) (hl2 : ∀ f ∈ fs, f.length ≤ 1048576) :
    VCall Tryz.prog n_spec_FramesValid [v, w] M (fun r M' => M = M' ∧ r = .sc (.bool (frB s fs))) := by
  refine VCall.pure fun R hR => v_spec_FramesValid rfl ?_
  have hv0 := hv
  obtain ⟨a, b, rfl, ha, hb⟩ := hv
  have bad : ¬ FrOk s fs → V.sc (.bool false) = V.sc (.bool (frB s fs)) := fun h => by rw [frB_false h]
  simp (maxSteps := 2000000) (disch := first | omega | assumption | exact idP rfl | exact idP (bL rfl)) only [go_sem, reduceIte, Nat.reduceEqDiff]
  intro b2 hb2
  refine (t_SystemValidS hv0).mono ?_
  rintro _ _ ⟨rfl, rfl⟩
  cases h1 : sysB s with
  | false =>
    simp (maxSteps := 2000000) (disch := first | omega | assumption | exact idP rfl | exact idP (bL rfl)) only [go_sem, reduceIte, Nat.reduceEqDiff]
    exact hR _ _ (by (repeat (first | exact Sub.refl _ | assumption | (refine Sub.set' ?_ (by assumption))))) (bad fun h => by rw [(sysB_iff s).2 h.1] at h1; cases h1)
  | true =>
    have hs := (sysB_iff s).1 h1
    have hsz := hs.sz
    have hfb := firstN_bd hs
    by_cases h0 : (fs.length : Int) = 0
    · simp (maxSteps := 2000000) (disch := first | omega | assumption | exact idP rfl | exact idP (bL rfl)) only [go_sem, reduceIte, Nat.reduceEqDiff, hw.len, h0]
      exact hR _ _ (by (repeat (first | exact Sub.refl _ | assumption | (refine Sub.set' ?_ (by assumption))))) (bad fun h => by have := h.2.1; omega)
    · by_cases h30 : (30 : Int) < (fs.length : Int)
      · simp (maxSteps := 2000000) (disch := first | omega | assumption | exact idP rfl | exact idP (bL rfl)) only [go_sem, reduceIte, Nat.reduceEqDiff, hw.len, h0, h30]
        exact hR _ _ (by (repeat (first | exact Sub.refl _ | assumption | (refine Sub.set' ?_ (by assumption))))) (bad fun h => by have := h.2.2.1; omega)
      · have hf0 : 0 < fs.length := by omega
        have hia0 := hw.iaddr (k := .i64) (a := 0) (by omega) (by omega)
        have z0 : (0 : Int).toNat = 0 := rfl
        rw [z0] at hia0
        simp (maxSteps := 2000000) (disch := first | omega | assumption | exact idP rfl | exact idP (bL rfl)) only [go_sem, reduceIte, Nat.reduceEqDiff, hw.len, h0, h30, hia0]
        refine (VCall.fr1 (t_FirstState hv0 hs)).mono ?_
        rintro f _ ⟨rfl, hf⟩
        simp (maxSteps := 2000000) (disch := first | omega | assumption | exact idP rfl | exact idP (bL rfl)) only [go_sem, reduceIte, Nat.reduceEqDiff]
        refine (t_l4Number ha hf.li hs.vars hs.v5 (first_in hs)).mono ?_
        rintro _ _ ⟨rfl, rfl⟩
        have e9 : numF s.vars (firstF s) = firstN s := rfl
        simp (maxSteps := 2000000) (disch := first | omega | assumption | exact idP rfl | exact idP (bL rfl)) only [go_sem, reduceIte, Nat.reduceEqDiff, e9]
        intro b9 hb9
        have hg : Gr 1 (M.set b2 [a, b]) ((M.set b2 [a, b]).set b9 [.sc (.int .i64 (firstN s))]) (.sc (.sl (some (b9, 0)) 1 1 true 1)) ([firstN s].map vi) := Gr.new' (Sub.refl _) hb9 rfl
        have hn9 := (fresh_set hb9).1
        refine (VCall.give1 hg fun u M2 hu hs2 => (t_l2Same (hw.elt hf0) hu.li (hl2 _ (List.getElem_mem hf0))).mono fun r M' (h : M2 = M' ∧ r = .sc (.bool (decide (fs[0] = [firstN s])))) => (show Sub (M.set b2 [a, b]) M' ∧ r = .sc (.bool (decide (fs[0] = [firstN s]))) from ⟨h.1 ▸ hs2, h.2⟩)).mono ?_
        rintro _ M2 ⟨hs2, rfl⟩
        have hm2 := hs2 b2 _ set_same
        have hsub2 : Sub M M2 := fun q l hq => hs2 q l ((Sub.refl M).set' hb2 q l hq)
        by_cases hf : fs[0] = [firstN s]
        · simp (maxSteps := 2000000) (disch := first | omega | assumption | exact idP rfl | exact idP (bL rfl)) only [go_sem, reduceIte, Nat.reduceEqDiff, hf, hm2, hia0]
          have hf0' : fs[0]? = some [firstN s] := by rw [List.getElem?_eq_getElem hf0, hf]
          refine loop_k (fun e M' => M' = M2 ∧ ∃ i : Nat, 1 ≤ i ∧ i ≤ fs.length ∧ e 1 = w ∧ e 2 = .sc (.ptr (some (b2, 0))) ∧ e 5 = .sc (.int .i64 i) ∧ ∀ j (h : j + 1 < fs.length), j + 1 < i → FrStep s fs[j] fs[j + 1]) (fun e _ => ctrV fs.length (e 5)) ?_ ?_
          · exact ⟨rfl, 1, by omega, by omega, by simp (maxSteps := 2000000) (disch := first | omega | assumption | exact idP rfl | exact idP (bL rfl)) only [go_sem, reduceIte, Nat.reduceEqDiff], by simp (maxSteps := 2000000) (disch := first | omega | assumption | exact idP rfl | exact idP (bL rfl)) only [go_sem, reduceIte, Nat.reduceEqDiff], by simp (maxSteps := 2000000) (disch := first | omega | assumption | exact idP rfl | exact idP (bL rfl)) only [go_sem, reduceIte, Nat.reduceEqDiff]; rfl, fun j _ h => by omega⟩
          · rintro e _ ⟨rfl, i, hi1, hi, e1, e2, e5, hj⟩ K hK
            simp (maxSteps := 2000000) (disch := first | omega | assumption | exact idP rfl | exact idP (bL rfl)) only [go_sem, reduceIte, Nat.reduceEqDiff, e1, e2, e5, hw.len]
            refine cond_dec (fun hc => ?_) (fun hc => ?_)
            · have hi' : i < fs.length := by omega
              obtain ⟨q, hq⟩ : ∃ q, i = q + 1 := ⟨i - 1, by omega⟩
              subst hq
              have hqi : q < fs.length := by omega
              have hset := fr_set hs hf0' q hqi fun j h2 h3 => hj j h2 (by omega)
              have hst := step_wo (f := fs[q + 1]) hs hset
              have hp := hw.elt hqi
              have hff := hw.elt hi'
              have hpl := hl2 _ (List.getElem_mem hqi)
              have hfl := hl2 _ (List.getElem_mem hi')
              have ia1 := hw.iaddr (k := .i64) (a := ((q + 1 : Nat) : Int)) (by omega) (by omega)
              have ia2 := hw.iaddr (k := .i64) (a := ((q + 1 : Nat) : Int) - 1) (by omega) (by omega)
              rw [show (((q + 1 : Nat) : Int)).toNat = q + 1 by omega] at ia1
              rw [show (((q + 1 : Nat) : Int) - 1).toNat = q by omega] at ia2
              have no : ¬ FrStep s fs[q] fs[q + 1] → V.sc (.bool false) = V.sc (.bool (frB s fs)) := fun h => bad fun h2 => h (h2.2.2.2.2 q hi')
              simp (maxSteps := 2000000) (disch := first | omega | assumption | exact idP rfl | exact idP (bL rfl)) only [go_sem, reduceIte, Nat.reduceEqDiff, e1, e2, e5, hm2, ia1, ia2]
              refine (t_specSetValid hv0 hff hfl).mono ?_
              rintro _ _ ⟨rfl, rfl⟩
              cases hsv : setV s fs[q + 1] with
              | false =>
                simp (maxSteps := 2000000) (disch := first | omega | assumption | exact idP rfl | exact idP (bL rfl)) only [go_sem, reduceIte, Nat.reduceEqDiff, e1, e2, e5, hm2, ia1, ia2]
                exact hR _ _ hsub2 (no fun h => by rw [(hst.1 h).1] at hsv; cases hsv)
              | true =>
                simp (maxSteps := 2000000) (disch := first | omega | assumption | exact idP rfl | exact idP (bL rfl)) only [go_sem, reduceIte, Nat.reduceEqDiff, e1, e2, e5, hm2, ia1, ia2]
                refine (t_SetWithout hp hff hpl hfl).mono ?_
                rintro d1 _ ⟨rfl, hd1⟩
                by_cases hw1 : (0 : Int) < ((woF fs[q] fs[q + 1]).length : Int)
                · simp (maxSteps := 2000000) (disch := first | omega | assumption | exact idP rfl | exact idP (bL rfl)) only [go_sem, reduceIte, Nat.reduceEqDiff, e1, e2, e5, hm2, ia1, ia2, hd1.len, hw1]
                  exact hR _ _ hsub2 (no fun h => by have := (hst.1 h).2.1; omega)
                · simp (maxSteps := 2000000) (disch := first | omega | assumption | exact idP rfl | exact idP (bL rfl)) only [go_sem, reduceIte, Nat.reduceEqDiff, e1, e2, e5, hm2, ia1, ia2, hd1.len, hw1]
                  refine (t_NextNumbers hv0 hp hpl).mono ?_
                  rintro nx _ ⟨rfl, hnx⟩
                  have hnl := nextN_len (s := s) (xs := fs[q])
                  simp (maxSteps := 2000000) (disch := first | omega | assumption | exact idP rfl | exact idP (bL rfl)) only [go_sem, reduceIte, Nat.reduceEqDiff, e1, e2, e5, hm2, ia1, ia2]
                  refine (t_SetWithout hnx hff (by omega) hfl).mono ?_
                  rintro d2 _ ⟨rfl, hd2⟩
                  by_cases hw2 : (0 : Int) < ((woF (nextN s fs[q]) fs[q + 1]).length : Int)
                  · simp (maxSteps := 2000000) (disch := first | omega | assumption | exact idP rfl | exact idP (bL rfl)) only [go_sem, reduceIte, Nat.reduceEqDiff, e1, e2, e5, hm2, ia1, ia2, hd2.len, hw2]
                    exact hR _ _ hsub2 (no fun h => by have := (hst.1 h).2.2; omega)
                  · simp (maxSteps := 2000000) (disch := first | omega | assumption | exact idP rfl | exact idP (bL rfl)) only [go_sem, reduceIte, Nat.reduceEqDiff, e1, e2, e5, hm2, ia1, ia2, hd2.len, hw2]
                    refine hK _ _ ⟨rfl, q + 1 + 1, by omega, by omega, by simp (maxSteps := 2000000) (disch := first | omega | assumption | exact idP rfl | exact idP (bL rfl)) only [go_sem, reduceIte, Nat.reduceEqDiff, e1], by simp (maxSteps := 2000000) (disch := first | omega | assumption | exact idP rfl | exact idP (bL rfl)) only [go_sem, reduceIte, Nat.reduceEqDiff, e2], by simp (maxSteps := 2000000) (disch := first | omega | assumption | exact idP rfl | exact idP (bL rfl)) only [go_sem, reduceIte, Nat.reduceEqDiff, e5]; rfl, fun j h1 h2 => ?_⟩ (by simp (maxSteps := 2000000) (disch := first | omega | assumption | exact idP rfl | exact idP (bL rfl)) only [go_sem, reduceIte, Nat.reduceEqDiff, ctrV_int, e5]; omega)
                    by_cases e : j = q
                    · subst e; exact hst.2 ⟨hsv, by omega, by omega⟩
                    · exact hj j h1 (by omega)
            · obtain rfl : i = fs.length := by omega
              simp (maxSteps := 2000000) (disch := first | omega | assumption | exact idP rfl | exact idP (bL rfl)) only [go_sem, reduceIte, Nat.reduceEqDiff]
              refine hR _ _ hsub2 ?_
              rw [frB_true ⟨hs, by omega, by omega, hf0', fun j h => hj j h h⟩]
        · simp (maxSteps := 2000000) (disch := first | omega | assumption | exact idP rfl | exact idP (bL rfl)) only [go_sem, reduceIte, Nat.reduceEqDiff, hf, hm2, hia0]
          refine hR _ _ hsub2 (bad fun h => hf ?_)
          have := h.2.2.2.1
          rw [List.getElem?_eq_getElem hf0] at this
          exact Option.some.inj this
end Go.M2

namespace Go.M2
open Go.Proofs
open Go.ChangeShapes Go.WideShapes Go.ChangeAt Go.RowKit
variable {M : MH}
abbrev XII : V → List (List Int) → Prop := In (Ls (fun ys u => XI u ys))
theorem x_szIntSS {v : V} {xs : List (List Int)} {t : Int} (hv : XII v xs) (h0 : LenOk xs) (hx : ∀ ts ∈ xs, LenOk ts) (h1 : 0 ≤ t) (h2 : t ≤ 1048576) :
    VCall Tryz.prog n_laws_szIntSS [v, .sc (.int .i64 t)] M (fun r M' => M = M' ∧ ∃ k : Int, r = .sc (.int .i64 k) ∧ k ≤ t ∧ (0 ≤ k → xs.length ≤ 1048576 ∧ ∀ ts ∈ xs, ts.length ≤ 1048576)) := by
  refine VCall.pure fun R hR => v_laws_szIntSS rfl ?_
  unfold LenOk at h0 hx
  have hl := hv.len fun _ _ h => h.len
  (repeat' (first | ((first | with_reducible refine cond_dec (fun h => ?_) (fun h => ?_) | with_reducible refine guardK_dec (fun h => ?_) (fun h => ?_) | with_reducible refine guardD3_dec (fun h => ?_) (fun h => ?_)) <;> first | (exfalso; omega) | (simp (maxSteps := 2000000) (disch := first | omega | assumption | exact idP rfl | exact idP (bL rfl)) only [go_sem, reduceIte, Nat.reduceEqDiff, h, hl]) | skip) | ((first | with_reducible refine cond_split (fun h => ?_) (fun h => ?_) | with_reducible refine guardK_split (fun h => ?_) (fun h => ?_) | with_reducible refine guardD3_split (fun h => ?_) (fun h => ?_)) <;> ((try simp only [Bool.not_eq_true', Bool.not_eq_false'] at h); first | (simp (maxSteps := 2000000) (disch := first | omega | assumption | exact idP rfl | exact idP (bL rfl)) only [go_sem, reduceIte, Nat.reduceEqDiff, h, hl]) | skip)) | (with_reducible intro bk hbk; try have hnk := (fresh_set hbk).1) | (simp (maxSteps := 2000000) (disch := first | omega | assumption | exact idP rfl | exact idP (bL rfl)) only [go_sem, reduceIte, Nat.reduceEqDiff, hl])))
  · exact hR _ _ (by (repeat (first | exact Sub.refl _ | assumption | (refine Sub.set' ?_ (by assumption))))) ⟨_, rfl, by omega, by omega⟩
  · refine loop_k (fun e M' => M' = M ∧ ∃ (i : Nat) (k : Int), i ≤ xs.length ∧ e 0 = v ∧ e 1 = .sc (.int .i64 k) ∧ e 5 = .sc (.int .i64 i) ∧ 0 ≤ k ∧ k ≤ t ∧ ∀ j (hj : j < xs.length), j < i → xs[j].length ≤ 1048576) (fun e _ => ctrV xs.length (e 5)) ?_ ?_
    · exact ⟨rfl, 0, t - xs.length, by omega, by simp (maxSteps := 2000000) (disch := first | omega | assumption | exact idP rfl | exact idP (bL rfl)) only [go_sem, reduceIte, Nat.reduceEqDiff], by simp (maxSteps := 2000000) (disch := first | omega | assumption | exact idP rfl | exact idP (bL rfl)) only [go_sem, reduceIte, Nat.reduceEqDiff], by simp (maxSteps := 2000000) (disch := first | omega | assumption | exact idP rfl | exact idP (bL rfl)) only [go_sem, reduceIte, Nat.reduceEqDiff]; rfl, by omega, by omega, fun j _ h => by omega⟩
    · rintro e _ ⟨rfl, i, k, hi, e0, e1, e5, k0, k1, hj⟩ K hK
      simp (maxSteps := 2000000) (disch := first | omega | assumption | exact idP rfl | exact idP (bL rfl)) only [go_sem, reduceIte, Nat.reduceEqDiff, e0, e1, e5, hl]
      refine cond_dec (fun h => ?_) (fun h => ?_)
      · have hi' : i < xs.length := by omega
        have hv' := hv.get (by omega)
        simp (maxSteps := 2000000) (disch := first | omega | assumption | exact idP rfl | exact idP (bL rfl)) only [go_sem, reduceIte, Nat.reduceEqDiff, e0, e1, e5, hv'.iaddr]
        refine (x_szIntS (hv'.elt hi') (hx _ (List.getElem_mem hi')) k0 (by omega)).mono ?_
        rintro _ _ ⟨rfl, k2, rfl, q1, q2⟩
        (repeat' (first | ((first | with_reducible refine cond_dec (fun h => ?_) (fun h => ?_) | with_reducible refine guardK_dec (fun h => ?_) (fun h => ?_) | with_reducible refine guardD3_dec (fun h => ?_) (fun h => ?_)) <;> first | (exfalso; omega) | (simp (maxSteps := 2000000) (disch := first | omega | assumption | exact idP rfl | exact idP (bL rfl)) only [go_sem, reduceIte, Nat.reduceEqDiff, h]) | skip) | ((first | with_reducible refine cond_split (fun h => ?_) (fun h => ?_) | with_reducible refine guardK_split (fun h => ?_) (fun h => ?_) | with_reducible refine guardD3_split (fun h => ?_) (fun h => ?_)) <;> ((try simp only [Bool.not_eq_true', Bool.not_eq_false'] at h); first | (simp (maxSteps := 2000000) (disch := first | omega | assumption | exact idP rfl | exact idP (bL rfl)) only [go_sem, reduceIte, Nat.reduceEqDiff, h]) | skip)) | (with_reducible intro bk hbk; try have hnk := (fresh_set hbk).1) | (simp (maxSteps := 2000000) (disch := first | omega | assumption | exact idP rfl | exact idP (bL rfl)) only [go_sem, reduceIte, Nat.reduceEqDiff])))
        · exact hR _ _ (by (repeat (first | exact Sub.refl _ | assumption | (refine Sub.set' ?_ (by assumption))))) ⟨_, rfl, by omega, by omega⟩
        · refine hK _ _ ⟨rfl, i + 1, k2, by omega, by simp (maxSteps := 2000000) (disch := first | omega | assumption | exact idP rfl | exact idP (bL rfl)) only [go_sem, reduceIte, Nat.reduceEqDiff, e0], by simp (maxSteps := 2000000) (disch := first | omega | assumption | exact idP rfl | exact idP (bL rfl)) only [go_sem, reduceIte, Nat.reduceEqDiff], by simp (maxSteps := 2000000) (disch := first | omega | assumption | exact idP rfl | exact idP (bL rfl)) only [go_sem, reduceIte, Nat.reduceEqDiff, e5]; rfl, by omega, by omega, fun j hj1 hj2 => ?_⟩ (by simp (maxSteps := 2000000) (disch := first | omega | assumption | exact idP rfl | exact idP (bL rfl)) only [go_sem, reduceIte, Nat.reduceEqDiff, ctrV_int, e5]; omega)
          by_cases hji : j = i
          · subst hji; exact q2 (by omega)
          · exact hj j hj1 (by omega)
      · obtain rfl : i = xs.length := by omega
        simp (maxSteps := 2000000) (disch := first | omega | assumption | exact idP rfl | exact idP (bL rfl)) only [go_sem, reduceIte, Nat.reduceEqDiff, e1]
        refine hR _ _ (by (repeat (first | exact Sub.refl _ | assumption | (refine Sub.set' ?_ (by assumption))))) ⟨_, rfl, by omega, fun _ => ⟨by omega, fun ts hts => ?_⟩⟩
        obtain ⟨j, hj1, rfl⟩ := List.getElem_of_mem hts
        exact hj j hj1 (by omega)
theorem f_toIntSS {v : V} {xs : List (List Int)} (hv : XII v xs) (hl : xs.length ≤ 1048576) (hx : ∀ ts ∈ xs, ts.length ≤ 1048576) : VCall Tryz.prog n_laws_toIntSS [v] M (fun r M' => M = M' ∧ LII r xs) := by
  refine VCall.froz fun R hP hG => v_laws_toIntSS rfl ?_
  have hlen := hv.len fun _ _ h => h.len
  simp (maxSteps := 2000000) (disch := first | omega | assumption | exact idP rfl | exact idP (bL rfl)) only [go_sem, reduceIte, Nat.reduceEqDiff, hlen]
  refine mks3 (by omega) (by simp [mostCells]; omega) (by simp [mostCells]; omega) ?_
  intro b3 hb3
  simp (maxSteps := 2000000) (disch := first | omega | assumption | exact idP rfl | exact idP (bL rfl)) only [go_sem, reduceIte, Nat.reduceEqDiff, zeros_nil]
  refine loop_k (fun e M' => ∃ (i : Nat) (us : List V), i ≤ xs.length ∧ e 0 = v ∧ e 3 = .sc (.sl (some (b3, 0)) xs.length xs.length true 1) ∧ e 4 = .sc (.int .i64 i) ∧ Sub M M' ∧ M' b3 = some (us ++ List.replicate (xs.length - i) nil1) ∧ Cs isL us (xs.take i)) (fun e _ => ctrV xs.length (e 4)) ?_ ?_
  · exact ⟨0, [], by omega, by simp (maxSteps := 2000000) (disch := first | omega | assumption | exact idP rfl | exact idP (bL rfl)) only [go_sem, reduceIte, Nat.reduceEqDiff], by simp (maxSteps := 2000000) (disch := first | omega | assumption | exact idP rfl | exact idP (bL rfl)) only [go_sem, reduceIte, Nat.reduceEqDiff], by simp (maxSteps := 2000000) (disch := first | omega | assumption | exact idP rfl | exact idP (bL rfl)) only [go_sem, reduceIte, Nat.reduceEqDiff]; rfl, (Sub.refl _).set hb3, by simp (maxSteps := 2000000) (disch := first | omega | assumption | exact idP rfl | exact idP (bL rfl)) only [go_sem, reduceIte, Nat.reduceEqDiff]; simp, .nil⟩
  · rintro e M1 ⟨i, us, hi, e0, e3, e4, hsub, hm, hc⟩ K hK
    have hul : us.length = i := by have := hc.1; simp at this; omega
    simp (maxSteps := 2000000) (disch := first | omega | assumption | exact idP rfl | exact idP (bL rfl)) only [go_sem, reduceIte, Nat.reduceEqDiff, e0, e3, e4, hlen]
    refine cond_dec (fun h => ?_) (fun h => ?_)
    · have hi' : i < xs.length := by omega
      have hv' := hv.get (by omega)
      obtain ⟨q, hq⟩ : ∃ q, xs.length - i = q + 1 := ⟨xs.length - i - 1, by omega⟩
      rw [hq, List.replicate_succ] at hm
      simp (maxSteps := 2000000) (disch := first | omega | assumption | exact idP rfl | exact idP (bL rfl)) only [go_sem, reduceIte, Nat.reduceEqDiff, e0, e3, e4, hv'.iaddr]
      refine (f_toIntS (hv'.elt hi') (hx _ (List.getElem_mem hi'))).mono ?_
      rintro r _ ⟨rfl, hr⟩
      have hr1 := hr.one.1
      have hr2 := hr.one.2
      have hsm : (us ++ nil1 :: List.replicate q nil1).set i r = us ++ r :: List.replicate q nil1 := set_mid hul
      have hnl3 : i < (us ++ nil1 :: List.replicate q nil1).length := by simp; omega
      simp (maxSteps := 2000000) (disch := first | omega | assumption | exact idP rfl | exact idP (bL rfl)) only [go_sem, reduceIte, Nat.reduceEqDiff, e0, e3, e4, hm, hr2, hsm]
      refine hK _ _ ⟨i + 1, us ++ [r], by omega, by simp (maxSteps := 2000000) (disch := first | omega | assumption | exact idP rfl | exact idP (bL rfl)) only [go_sem, reduceIte, Nat.reduceEqDiff], by simp (maxSteps := 2000000) (disch := first | omega | assumption | exact idP rfl | exact idP (bL rfl)) only [go_sem, reduceIte, Nat.reduceEqDiff], by simp (maxSteps := 2000000) (disch := first | omega | assumption | exact idP rfl | exact idP (bL rfl)) only [go_sem, reduceIte, Nat.reduceEqDiff]; rfl, hsub.set hb3, by simp (maxSteps := 2000000) (disch := first | omega | assumption | exact idP rfl | exact idP (bL rfl)) only [go_sem, reduceIte, Nat.reduceEqDiff]; simp [show xs.length - (i + 1) = q by omega], ?_⟩ (by simp (maxSteps := 2000000) (disch := first | omega | assumption | exact idP rfl | exact idP (bL rfl)) only [go_sem, reduceIte, Nat.reduceEqDiff, ctrV_int, e4]; omega)
      rw [take_snoc hi']
      exact hc.snoc (x := xs[i]) hr
    · obtain rfl : i = xs.length := by omega
      rw [List.take_length] at hc
      simp (maxSteps := 2000000) (disch := first | omega | assumption | exact idP rfl | exact idP (bL rfl)) only [go_sem, reduceIte, Nat.reduceEqDiff, e3]
      exact hG _ _ 1 us ⟨hsub, fun b' h' => by simp [blkV] at h'; subst h'; exact hb3, .inr ⟨b3, _, true, rfl, by simpa using hm, by omega⟩⟩ fun u hu => hu.lsC hc
theorem x_eqIntSS {v w : V} {xs : List (List Int)} (hv : LII v xs) (hw : LII w xs) (hl : xs.length ≤ 1048576) (hl2 : ∀ ts ∈ xs, ts.length ≤ 1048576) : VCall Tryz.prog n_laws_eqIntSS [v, w] M (fun r M' => M = M' ∧ r = .sc (.bool true)) := by
  refine VCall.pure fun R hR => v_laws_eqIntSS rfl ?_
  (repeat' (first | ((first | with_reducible refine cond_dec (fun h => ?_) (fun h => ?_) | with_reducible refine guardK_dec (fun h => ?_) (fun h => ?_) | with_reducible refine guardD3_dec (fun h => ?_) (fun h => ?_)) <;> first | (exfalso; omega) | (simp (maxSteps := 2000000) (disch := first | omega | assumption | exact idP rfl | exact idP (bL rfl)) only [go_sem, reduceIte, Nat.reduceEqDiff, h, hv.len, hw.len]) | skip) | ((first | with_reducible refine cond_split (fun h => ?_) (fun h => ?_) | with_reducible refine guardK_split (fun h => ?_) (fun h => ?_) | with_reducible refine guardD3_split (fun h => ?_) (fun h => ?_)) <;> ((try simp only [Bool.not_eq_true', Bool.not_eq_false'] at h); first | (simp (maxSteps := 2000000) (disch := first | omega | assumption | exact idP rfl | exact idP (bL rfl)) only [go_sem, reduceIte, Nat.reduceEqDiff, h, hv.len, hw.len]) | skip)) | (with_reducible intro bk hbk; try have hnk := (fresh_set hbk).1) | (simp (maxSteps := 2000000) (disch := first | omega | assumption | exact idP rfl | exact idP (bL rfl)) only [go_sem, reduceIte, Nat.reduceEqDiff, hv.len, hw.len])))
  refine loop_k (fun e M' => M' = M ∧ ∃ i : Nat, i ≤ xs.length ∧ e 0 = v ∧ e 1 = w ∧ e 5 = .sc (.int .i64 i)) (fun e _ => ctrV xs.length (e 5)) ?_ ?_
  · exact ⟨rfl, 0, by omega, by simp (maxSteps := 2000000) (disch := first | omega | assumption | exact idP rfl | exact idP (bL rfl)) only [go_sem, reduceIte, Nat.reduceEqDiff], by simp (maxSteps := 2000000) (disch := first | omega | assumption | exact idP rfl | exact idP (bL rfl)) only [go_sem, reduceIte, Nat.reduceEqDiff], by simp (maxSteps := 2000000) (disch := first | omega | assumption | exact idP rfl | exact idP (bL rfl)) only [go_sem, reduceIte, Nat.reduceEqDiff]; rfl⟩
  · rintro e _ ⟨rfl, i, hi, e0, e1, e5⟩ K hK
    simp (maxSteps := 2000000) (disch := first | omega | assumption | exact idP rfl | exact idP (bL rfl)) only [go_sem, reduceIte, Nat.reduceEqDiff, e0, e1, e5, hv.len]
    refine cond_dec (fun h => ?_) (fun h => ?_)
    · have hi' : i < xs.length := by omega
      simp (maxSteps := 2000000) (disch := first | omega | assumption | exact idP rfl | exact idP (bL rfl)) only [go_sem, reduceIte, Nat.reduceEqDiff, e0, e1, e5, hv.iaddr, hw.iaddr]
      refine (x_eqIntS (hv.elt hi') (hw.elt hi') (hl2 _ (List.getElem_mem hi'))).mono ?_
      rintro _ _ ⟨rfl, rfl⟩
      have ei : decide (xs[i] = xs[i]) = true := by simp
      simp (maxSteps := 2000000) (disch := first | omega | assumption | exact idP rfl | exact idP (bL rfl)) only [go_sem, reduceIte, Nat.reduceEqDiff, ei, e0, e1, e5]
      exact hK _ _ ⟨rfl, i + 1, by omega, by simp (maxSteps := 2000000) (disch := first | omega | assumption | exact idP rfl | exact idP (bL rfl)) only [go_sem, reduceIte, Nat.reduceEqDiff, e0], by simp (maxSteps := 2000000) (disch := first | omega | assumption | exact idP rfl | exact idP (bL rfl)) only [go_sem, reduceIte, Nat.reduceEqDiff, e1], by simp (maxSteps := 2000000) (disch := first | omega | assumption | exact idP rfl | exact idP (bL rfl)) only [go_sem, reduceIte, Nat.reduceEqDiff, e5]; rfl⟩ (by simp (maxSteps := 2000000) (disch := first | omega | assumption | exact idP rfl | exact idP (bL rfl)) only [go_sem, reduceIte, Nat.reduceEqDiff, ctrV_int, e5]; omega)
    · obtain rfl : i = xs.length := by omega
      simp (maxSteps := 2000000) (disch := first | omega | assumption | exact idP rfl | exact idP (bL rfl)) only [go_sem, reduceIte, Nat.reduceEqDiff]
      exact hR _ _ (by (repeat (first | exact Sub.refl _ | assumption | (refine Sub.set' ?_ (by assumption))))) rfl
variable {HH : Type} {enc : TypeId × Value → HH} {W : World} {fuel : Nat} {cs : List Value} {x : DataW HH × List MemPlace}
theorem in_intss (h : DataW.trod enc Tryz.prog W 0 (fun _ => true) true fuel 52 cs = some x) : ∃ ts : List (List Int), LiftE W (E1 (fun (ys : List (List Int)) u => XII u ys)) ts cs ∧ (LenOk ts ∧ ∀ t ∈ ts, LenOk t) :=
  in_list1 (E := fun (ts : List Int) u => XI u ts) (good := fun ts => LenOk ts) Tryz.underlying52 (by kernel_rfl) (fun n cs x h => in_ints h) h
theorem up_intss {v : Value} (hv : ∀ a, v ≠ .agg a) (h : DataW.trod enc Tryz.prog W 0 (fun _ => true) true fuel 52 v.cells.toList = some x) : ∃ ns : List (List Int), UpV W (fun (ns : List (List Int)) u => XII u ns) ns v ∧ (LenOk ns ∧ ∀ t ∈ ns, LenOk t) := by
  obtain ⟨ns, e, g⟩ := in_intss h
  have hc : v.cells.toList = [v] := by
    cases v <;> first | rfl | exact absurd rfl (hv _)
  rw [hc] at e
  obtain ⟨u, p, q, r⟩ := e.one
  exact ⟨ns, ⟨u, by rw [avT_sl hv]; exact p, q, r⟩, g⟩
end Go.M2

namespace Go.M2
open Go.Proofs
variable {M : MH}
def KC : V → Prop
  | .fs _ n c _ k _ => k = 1 ∧ n ≤ c
  | _ => False
theorem d_toIntSS {v : V} {xs : List (List Int)} (hv : XII v xs) (hl : xs.length ≤ 1048576) (hx : ∀ ts ∈ xs, ts.length ≤ 1048576) : VCall Tryz.prog n_laws_toIntSS [v] M (fun r M' => One r ∧ Dn M M' r (fun u => LII u xs ∧ KC u)) := by
  refine VCall.plain fun R hR => v_laws_toIntSS rfl ?_
  have hlen := hv.len fun _ _ h => h.len
  simp (maxSteps := 2000000) (disch := first | omega | assumption | exact idP rfl | exact idP (bL rfl)) only [go_sem, reduceIte, Nat.reduceEqDiff, hlen]
  refine mks3 (by omega) (by simp [mostCells]; omega) (by simp [mostCells]; omega) ?_
  intro b3 hb3
  simp (maxSteps := 2000000) (disch := first | omega | assumption | exact idP rfl | exact idP (bL rfl)) only [go_sem, reduceIte, Nat.reduceEqDiff, zeros_nil]
  refine loop_k (fun e M' => ∃ (i : Nat) (us us' : List V) (fp : List (Nat × List V)), i ≤ xs.length ∧ e 0 = v ∧ e 3 = .sc (.sl (some (b3, 0)) xs.length xs.length true 1) ∧ e 4 = .sc (.int .i64 i) ∧ Tr us us' fp ∧ Mem M M' ((b3, us ++ List.replicate (xs.length - i) nil1) :: fp) ∧ flatL us ∧ (∀ q ∈ fp, flatL q.2) ∧ Cs isL us' (xs.take i)) (fun e _ => ctrV xs.length (e 4)) ?_ ?_
  · exact ⟨0, [], [], [], by omega, by simp (maxSteps := 2000000) (disch := first | omega | assumption | exact idP rfl | exact idP (bL rfl)) only [go_sem, reduceIte, Nat.reduceEqDiff], by simp (maxSteps := 2000000) (disch := first | omega | assumption | exact idP rfl | exact idP (bL rfl)) only [go_sem, reduceIte, Nat.reduceEqDiff], by simp (maxSteps := 2000000) (disch := first | omega | assumption | exact idP rfl | exact idP (bL rfl)) only [go_sem, reduceIte, Nat.reduceEqDiff]; rfl, .nil, by simpa using (Mem.nil (Sub.refl M)).new1 hb3, by simp [flatL], fun q hq => (by cases hq), .nil⟩
  · rintro e M1 ⟨i, us, us', fp, hi, e0, e3, e4, htr, hmem, hfl, hff, hc⟩ K hK
    have hul : us.length = i := by have := hc.1; have h2 := htr.len; simp at this; omega
    have hm := hmem.hd
    simp (maxSteps := 2000000) (disch := first | omega | assumption | exact idP rfl | exact idP (bL rfl)) only [go_sem, reduceIte, Nat.reduceEqDiff, e0, e3, e4, hlen]
    refine cond_dec (fun h => ?_) (fun h => ?_)
    · have hi' : i < xs.length := by omega
      have hv' := hv.get (by omega)
      obtain ⟨q, hq⟩ : ∃ q, xs.length - i = q + 1 := ⟨xs.length - i - 1, by omega⟩
      rw [hq, List.replicate_succ] at hm hmem
      simp (maxSteps := 2000000) (disch := first | omega | assumption | exact idP rfl | exact idP (bL rfl)) only [go_sem, reduceIte, Nat.reduceEqDiff, e0, e3, e4, hv'.iaddr]
      refine (d_toIntS (hv'.elt hi') (hx _ (List.getElem_mem hi'))).mono ?_
      rintro r M2 ⟨⟨hr1, hr2⟩, r', g, t1, t2, t3, t4, hr⟩
      have hmem2 := hmem.add t2
      rw [List.cons_append] at hmem2
      have hm2 := hmem2.hd
      have hsm : (us ++ nil1 :: List.replicate q nil1).set i r = us ++ r :: List.replicate q nil1 := set_mid hul
      have hnl3 : i < (us ++ nil1 :: List.replicate q nil1).length := by simp; omega
      simp (maxSteps := 2000000) (disch := first | omega | assumption | exact idP rfl | exact idP (bL rfl)) only [go_sem, reduceIte, Nat.reduceEqDiff, e0, e3, e4, hm2, hr2, hsm]
      refine hK _ _ ⟨i + 1, us ++ [r], us' ++ [r'], fp ++ g, by omega, by simp (maxSteps := 2000000) (disch := first | omega | assumption | exact idP rfl | exact idP (bL rfl)) only [go_sem, reduceIte, Nat.reduceEqDiff], by simp (maxSteps := 2000000) (disch := first | omega | assumption | exact idP rfl | exact idP (bL rfl)) only [go_sem, reduceIte, Nat.reduceEqDiff], by simp (maxSteps := 2000000) (disch := first | omega | assumption | exact idP rfl | exact idP (bL rfl)) only [go_sem, reduceIte, Nat.reduceEqDiff]; rfl, htr.append t1, ?_, ?_, ?_, ?_⟩ (by simp (maxSteps := 2000000) (disch := first | omega | assumption | exact idP rfl | exact idP (bL rfl)) only [go_sem, reduceIte, Nat.reduceEqDiff, ctrV_int, e4]; omega)
      · have := hmem2.upd (l' := us ++ r :: List.replicate q nil1)
        simpa [show xs.length - (i + 1) = q by omega] using this
      · exact flatL_all.2 fun w hw => by
          rcases List.mem_append.1 hw with h1 | h1
          · exact flatL_all.1 hfl w h1
          · rw [List.mem_singleton] at h1; subst h1; exact t3
      · intro w hw
        rcases List.mem_append.1 hw with h1 | h1
        · exact hff w h1
        · exact t4 w h1
      · rw [take_snoc hi']
        exact hc.snoc (x := xs[i]) hr
    · obtain rfl : i = xs.length := by omega
      rw [List.take_length] at hc
      simp (maxSteps := 2000000) (disch := first | omega | assumption | exact idP rfl | exact idP (bL rfl)) only [go_sem, reduceIte, Nat.reduceEqDiff, e3]
      simp only [Nat.sub_self, List.replicate_zero, List.append_nil] at hmem
      have hul' : us'.length = xs.length := hc.1
      refine hR _ _ ⟨⟨rfl, rfl⟩, .fs (some (b3, 0)) xs.length xs.length true 1 (us'.drop 0), (b3, us) :: (fp ++ []), .sl htr .nil, by simpa using hmem, by simp [flat], fun q hq => ?_, ?_⟩
      · simp only [List.append_nil, List.mem_cons] at hq
        rcases hq with rfl | h1
        · exact hfl
        · exact hff q h1
      · exact ⟨Fr.lsC (us := us') (.inr ⟨_, _, _, _, _, by rw [List.drop_zero], by omega⟩) hc, rfl, Nat.le_refl _⟩
theorem f_toIntSSk {v : V} {xs : List (List Int)} (hv : XII v xs) (hl : xs.length ≤ 1048576) (hx : ∀ ts ∈ xs, ts.length ≤ 1048576) : VCall Tryz.prog n_laws_toIntSS [v] M (fun r M' => M = M' ∧ LII r xs ∧ KC r) :=
  VCall.frT ((d_toIntSS hv hl hx).mono fun r M' h => h.2)
theorem ls_drop {α : Type} {E : α → V → Prop} {w : V} {ys : List α} {K : V → MH → Prop} (h : Ls E w ys) (hk : KC w) (h1 : 1 ≤ ys.length) (hK : ∀ v', Ls E v' (ys.drop 1) → K v' M) : slcdV 1 w M K := by
  rcases h with ⟨rfl, _, rfl⟩ | ⟨A, c, ex, k, xs, rfl, hx, he⟩
  · simp at h1
  · obtain ⟨rfl, hc⟩ := hk
    have big : ∀ A', Ls E (.fs A' (ys.length - 1) (c - 1) ex 1 ((xs.drop 1).take ((ys.length - 1) * 1))) (ys.drop 1) := fun A' => by
      refine .inr ⟨A', c - 1, ex, 1, _, by rw [List.length_drop], by simp; omega, fun i hi => ?_⟩
      rw [List.length_drop] at hi
      have h2 := he (i + 1) (by omega)
      have h3 : i + 1 < xs.length := by omega
      have e1 : (ys.drop 1)[i]'(by rw [List.length_drop]; exact hi) = ys[i + 1] := by rw [List.getElem_drop]; congr 1; omega
      rw [e1]
      have e2 : at1 (.fs A' (ys.length - 1) (c - 1) ex 1 ((xs.drop 1).take ((ys.length - 1) * 1))) i = at1 (.fs A ys.length c ex 1 xs) (i + 1) := by
        simp only [at1, List.getD_eq_getElem?_getD, Nat.mul_one]
        rw [List.getElem?_take, if_pos (by omega), List.getElem?_drop, Nat.add_comm 1 i]
      rw [e2]; exact h2
    simp only [slcdV]
    refine ⟨trivial, h1, hc, ?_⟩
    split
    · rename_i hce
      have hy : ys.drop 1 = [] := List.eq_nil_of_length_eq_zero (by rw [List.length_drop]; omega)
      exact ⟨hK _ (.inr ⟨_, _, _, _, _, by rw [hy]; rfl, by rw [hy]; simp, fun i hi => by rw [hy] at hi; simp at hi⟩), hK _ (.inr ⟨_, _, _, _, _, by rw [hy]; rfl, by rw [hy]; simp, fun i hi => by rw [hy] at hi; simp at hi⟩)⟩
    · exact hK _ (big _)
theorem t_impFramesValid {v w : V} {s : SysS} {fs : List (List Int)} (hv : isSys s v) (hz : SysSz s) (hw : LII w fs) (hkc : KC w) (hl : fs.length ≤ 1048576) (hl2 : ∀ f ∈ fs, f.length ≤ 1048576) :
    VCall Tryz.prog n_impl_FramesValid [v, w] M (fun r M' => M = M' ∧ r = .sc (.bool (frB s fs))) := by
  refine VCall.pure fun R hR => v_impl_FramesValid rfl ?_
  have hv0 := hv
  obtain ⟨a, b, rfl, ha, hb⟩ := hv
  have bad : ¬ FrOk s fs → V.sc (.bool false) = V.sc (.bool (frB s fs)) := fun h => by rw [frB_false h]
  simp (maxSteps := 2000000) (disch := first | omega | assumption | exact idP rfl | exact idP (bL rfl)) only [go_sem, reduceIte, Nat.reduceEqDiff]
  intro b2 hb2
  refine (t_impSystemValid hv0 hz).mono ?_
  rintro _ _ ⟨rfl, rfl⟩
  cases h1 : sysB s with
  | false =>
    simp (maxSteps := 2000000) (disch := first | omega | assumption | exact idP rfl | exact idP (bL rfl)) only [go_sem, reduceIte, Nat.reduceEqDiff]
    exact hR _ _ (by (repeat (first | exact Sub.refl _ | assumption | (refine Sub.set' ?_ (by assumption))))) (bad fun h => by rw [(sysB_iff s).2 h.1] at h1; cases h1)
  | true =>
    have hs := (sysB_iff s).1 h1
    have hsz := hs.sz
    have hfb := firstN_bd hs
    have htl := tabF_len s
    simp (maxSteps := 2000000) (disch := first | omega | assumption | exact idP rfl | exact idP (bL rfl)) only [go_sem, reduceIte, Nat.reduceEqDiff, hw.len]
    refine t_in.mono ?_
    rintro _ _ ⟨rfl, rfl⟩
    by_cases hin : (1 : Int) ≤ (fs.length : Int) ∧ (fs.length : Int) ≤ 30
    · have hf0 : 0 < fs.length := by omega
      have hia0 := hw.iaddr (k := .i64) (a := 0) (by omega) (by omega)
      have z0 : (0 : Int).toNat = 0 := rfl
      rw [z0] at hia0
      have hdi : decide ((1 : Int) ≤ (fs.length : Int) ∧ (fs.length : Int) ≤ 30) = true := by simp [hin]
      simp (maxSteps := 2000000) (disch := first | omega | assumption | exact idP rfl | exact idP (bL rfl)) only [go_sem, reduceIte, Nat.reduceEqDiff, hdi, hia0]
      refine (t_first hv0 hs).mono ?_
      rintro f _ ⟨rfl, hf⟩
      simp (maxSteps := 2000000) (disch := first | omega | assumption | exact idP rfl | exact idP (bL rfl)) only [go_sem, reduceIte, Nat.reduceEqDiff]
      refine (t_number ha hf hs.vars hs.v5 (first_in hs)).mono ?_
      rintro _ _ ⟨rfl, rfl⟩
      have e9 : numF s.vars (firstF s) = firstN s := rfl
      simp (maxSteps := 2000000) (disch := first | omega | assumption | exact idP rfl | exact idP (bL rfl)) only [go_sem, reduceIte, Nat.reduceEqDiff, e9]
      intro b9 hb9
      have hg : Gr 1 (M.set b2 [a, b]) ((M.set b2 [a, b]).set b9 [.sc (.int .i64 (firstN s))]) (.sc (.sl (some (b9, 0)) 1 1 true 1)) ([firstN s].map vi) := Gr.new' (Sub.refl _) hb9 rfl
      have hn9 := (fresh_set hb9).1
      refine (VCall.give1 hg fun u M2 hu hs2 => (t_Equal (hw.elt hf0) hu.li (hl2 _ (List.getElem_mem hf0)) (by simp)).mono fun r M' (h : M2 = M' ∧ r = .sc (.bool (decide (fs[0] = [firstN s])))) => (show Sub (M.set b2 [a, b]) M' ∧ r = .sc (.bool (decide (fs[0] = [firstN s]))) from ⟨h.1 ▸ hs2, h.2⟩)).mono ?_
      rintro _ M2 ⟨hs2, rfl⟩
      have hm2 := hs2 b2 _ set_same
      have hsub2 : Sub M M2 := fun q l hq => hs2 q l ((Sub.refl M).set' hb2 q l hq)
      by_cases hf : fs[0] = [firstN s]
      · have hf0' : fs[0]? = some [firstN s] := by rw [List.getElem?_eq_getElem hf0, hf]
        simp (maxSteps := 2000000) (disch := first | omega | assumption | exact idP rfl | exact idP (bL rfl)) only [go_sem, reduceIte, Nat.reduceEqDiff, hf, hm2, hia0]
        refine (f_nexts hv0 hs).mono ?_
        rintro t _ ⟨rfl, ht⟩
        simp (maxSteps := 2000000) (disch := first | omega | assumption | exact idP rfl | exact idP (bL rfl)) only [go_sem, reduceIte, Nat.reduceEqDiff]
        refine ls_drop hw hkc (by omega) fun w2 hw2 => ?_
        have hdl : (fs.drop 1).length = fs.length - 1 := by rw [List.length_drop]
        have hlen2 := hw2.len
        rw [hdl] at hlen2
        obtain ⟨n1, hn1⟩ : ∃ n1, fs.length = n1 + 1 := ⟨fs.length - 1, by omega⟩
        have hn2 : fs.length - 1 = n1 := by omega
        rw [hn2] at hlen2
        simp (maxSteps := 2000000) (disch := first | omega | assumption | exact idP rfl | exact idP (bL rfl)) only [go_sem, reduceIte, Nat.reduceEqDiff, hlen2]
        refine loop_k (fun e M' => ∃ i : Nat, i ≤ n1 ∧ e 1 = w ∧ e 2 = .sc (.ptr (some (b2, 0))) ∧ e 5 = t ∧ e 34 = w2 ∧ e 35 = .sc (.int .i64 n1) ∧ e 36 = .sc (.int .i64 i) ∧ Sub M M' ∧ M' b2 = some [a, b] ∧ ∀ j (h : j + 1 < fs.length), j < i → FrStep s fs[j] fs[j + 1]) (fun e _ => ctrV n1 (e 36)) ?_ ?_
        · exact ⟨0, by omega, by simp (maxSteps := 2000000) (disch := first | omega | assumption | exact idP rfl | exact idP (bL rfl)) only [go_sem, reduceIte, Nat.reduceEqDiff], by simp (maxSteps := 2000000) (disch := first | omega | assumption | exact idP rfl | exact idP (bL rfl)) only [go_sem, reduceIte, Nat.reduceEqDiff], by simp (maxSteps := 2000000) (disch := first | omega | assumption | exact idP rfl | exact idP (bL rfl)) only [go_sem, reduceIte, Nat.reduceEqDiff], by simp (maxSteps := 2000000) (disch := first | omega | assumption | exact idP rfl | exact idP (bL rfl)) only [go_sem, reduceIte, Nat.reduceEqDiff], by simp (maxSteps := 2000000) (disch := first | omega | assumption | exact idP rfl | exact idP (bL rfl)) only [go_sem, reduceIte, Nat.reduceEqDiff], by simp (maxSteps := 2000000) (disch := first | omega | assumption | exact idP rfl | exact idP (bL rfl)) only [go_sem, reduceIte, Nat.reduceEqDiff]; rfl, hsub2, hm2, fun j _ h => by omega⟩
        · rintro e M3 ⟨i, hi, e1, e2, e5, e34, e35, e36, hsub3, hm3, hj⟩ K hK
          simp (maxSteps := 2000000) (disch := first | omega | assumption | exact idP rfl | exact idP (bL rfl)) only [go_sem, reduceIte, Nat.reduceEqDiff, e1, e2, e5, e34, e35, e36]
          refine cond_dec (fun hc => ?_) (fun hc => ?_)
          · have hi1 : i + 1 < fs.length := by omega
            have hi0 : i < fs.length := by omega
            have hid : i < (fs.drop 1).length := by omega
            have hset := fr_set hs hf0' i hi0 fun j h2 h3 => hj j h2 (by omega)
            have e0 : (fs.drop 1)[i] = fs[i + 1] := by rw [List.getElem_drop]; congr 1; omega
            have hff := hw2.elt hid
            rw [e0] at hff
            have hp := hw.elt hi0
            have hpl := hl2 _ (List.getElem_mem hi0)
            have hfl := hl2 _ (List.getElem_mem hi1)
            have ia1 := hw2.iaddr (k := .i64) (a := (i : Int)) (by omega) (by omega)
            have ia2 := hw.iaddr (k := .i64) (a := (i : Int)) (by omega) (by omega)
            have no : ¬ FrStep s fs[i] fs[i + 1] → V.sc (.bool false) = V.sc (.bool (frB s fs)) := fun h => bad fun h2 => h (h2.2.2.2.2 i hi1)
            have nx : nextN s fs[i] = selL (tabF s).length (behB (tabF s) fs[i]) := by unfold nextN; rw [if_pos (setV_iff.2 ⟨hs, hset⟩)]
            simp (maxSteps := 2000000) (disch := first | omega | assumption | exact idP rfl | exact idP (bL rfl)) only [go_sem, reduceIte, Nat.reduceEqDiff, e1, e2, e5, e34, e35, e36, ia1, hm3]
            refine (t_impSize ha hs.vars hs.v5).mono ?_
            rintro _ _ ⟨rfl, rfl⟩
            simp (maxSteps := 2000000) (disch := first | omega | assumption | exact idP rfl | exact idP (bL rfl)) only [go_sem, reduceIte, Nat.reduceEqDiff]
            refine (t_setOk hff hfl (by omega)).mono ?_
            rintro _ _ ⟨rfl, rfl⟩
            cases hsb : setB (sizeF s.vars) fs[i + 1] with
            | false =>
              simp (maxSteps := 2000000) (disch := first | omega | assumption | exact idP rfl | exact idP (bL rfl)) only [go_sem, reduceIte, Nat.reduceEqDiff]
              exact hR _ _ hsub3 (no fun h => by rw [setB_iff.2 h.1] at hsb; cases hsb)
            | true =>
              have hset2 := setB_iff.1 hsb
              have hin2 := hset2.in
              simp (maxSteps := 2000000) (disch := first | omega | assumption | exact idP rfl | exact idP (bL rfl)) only [go_sem, reduceIte, Nat.reduceEqDiff, e1, e2, e5, e34, e35, e36, hm3]
              refine (t_impSize ha hs.vars hs.v5).mono ?_
              rintro _ _ ⟨rfl, rfl⟩
              have hle : sizeF s.vars = ((tabF s).length : Int) := by omega
              rw [hle]
              simp (maxSteps := 2000000) (disch := first | omega | assumption | exact idP rfl | exact idP (bL rfl)) only [go_sem, reduceIte, Nat.reduceEqDiff]
              refine (f_marks hff (by omega) hfl (by rw [← hle]; exact hin2)).mono ?_
              rintro m _ ⟨rfl, hm⟩
              have hm1 := hm.one.1
              have hm4 := hm.one.2
              simp (maxSteps := 2000000) (disch := first | omega | assumption | exact idP rfl | exact idP (bL rfl)) only [go_sem, reduceIte, Nat.reduceEqDiff, hm1, hm4]
              intro b8 hb8
              have n8 : b2 ≠ b8 := fun e => by subst e; rw [hb8] at hm3; cases hm3
              have q8 : (M3.set b8 [m]) b8 = some [m] := set_same
              have cl : ∀ y : Int, 0 ≤ y → y < sizeF s.vars → VCall Tryz.prog n_impl_FramesValid_1 (.sc (.int .i64 y) :: [.sc (.ptr (some (b8, 0)))]) (M3.set b8 [m]) (fun r M' => (M3.set b8 [m]) = M' ∧ r = .sc (.bool (!inL fs[i + 1] y.toNat))) := by
                intro y y0 y1
                have q1 : y.toNat < (mkL (tabF s).length (inL fs[i + 1])).length := by rw [mkL_len]; omega
                have w1 := hm.iaddr (k := .i64) (a := y) y0 (by rw [mkL_len]; omega)
                refine VCall.pure fun R hR => v_impl_FramesValid_1 rfl ?_
                simp (maxSteps := 2000000) (disch := first | omega | assumption | exact idP rfl | exact idP (bL rfl)) only [go_sem, reduceIte, Nat.reduceEqDiff, q8, w1, hm.at q1, mkL_get]
                exact hR _ _ (by (repeat (first | exact Sub.refl _ | assumption | (refine Sub.set' ?_ (by assumption))))) rfl
              have hpin := hset.in
              simp (maxSteps := 2000000) (disch := first | omega | assumption | exact idP rfl | exact idP (bL rfl)) only [go_sem, reduceIte, Nat.reduceEqDiff, e1, e2, e5, e34, e35, e36, hm1, hm4, ia2]
              refine (t_ContainsInt hp hpl (fun y hy => cl y (hpin y hy).1 (hpin y hy).2)).mono ?_
              rintro _ _ ⟨rfl, rfl⟩
              have any_iff : ∀ l : List Int, (∀ y ∈ l, 0 ≤ y) → ((l.any fun y => !inL fs[i + 1] y.toNat) = false ↔ ∀ y ∈ l, y ∈ fs[i + 1]) := fun l hl0 => by
                rw [List.any_eq_false]
                constructor
                · intro h y hy
                  have := h y hy
                  simpa [inL, Int.toNat_of_nonneg (hl0 y hy)] using this
                · intro h y hy
                  have := h y hy
                  simpa [inL, Int.toNat_of_nonneg (hl0 y hy)] using this
              have a1 := any_iff fs[i] fun y hy => (hpin y hy).1
              cases hc1 : fs[i].any fun y => !inL fs[i + 1] y.toNat with
              | true =>
                simp (maxSteps := 2000000) (disch := first | omega | assumption | exact idP rfl | exact idP (bL rfl)) only [go_sem, reduceIte, Nat.reduceEqDiff]
                exact hR _ _ (hsub3.set' hb8) (no fun h => by rw [a1.2 h.2.1] at hc1; cases hc1)
              | false =>
                have htin := tabF_in hs
                simp (maxSteps := 2000000) (disch := first | omega | assumption | exact idP rfl | exact idP (bL rfl)) only [go_sem, reduceIte, Nat.reduceEqDiff, e1, e2, e5, e34, e35, e36, ia2]
                refine (t_over ht hp (by omega) hpl (by rw [← hle]; exact hpin) htin).mono ?_
                rintro ov _ ⟨rfl, hov⟩
                have hsl : (selL (tabF s).length (behB (tabF s) fs[i])).length ≤ (tabF s).length := selL_len
                have hovin : ∀ y ∈ selL (tabF s).length (behB (tabF s) fs[i]), 0 ≤ y ∧ y < sizeF s.vars := fun y hy => by
                  obtain ⟨j, hj1, _, rfl⟩ := mem_selL.1 hy
                  omega
                simp (maxSteps := 2000000) (disch := first | omega | assumption | exact idP rfl | exact idP (bL rfl)) only [go_sem, reduceIte, Nat.reduceEqDiff]
                refine (t_ContainsInt hov (by omega) (fun y hy => cl y (hovin y hy).1 (hovin y hy).2)).mono ?_
                rintro _ _ ⟨rfl, rfl⟩
                have a2 := any_iff _ fun y hy => (hovin y hy).1
                cases hc2 : (selL (tabF s).length (behB (tabF s) fs[i])).any fun y => !inL fs[i + 1] y.toNat with
                | true =>
                  simp (maxSteps := 2000000) (disch := first | omega | assumption | exact idP rfl | exact idP (bL rfl)) only [go_sem, reduceIte, Nat.reduceEqDiff]
                  exact hR _ _ (hsub3.set' hb8) (no fun h => by rw [a2.2 (by rw [← nx]; exact h.2.2)] at hc2; cases hc2)
                | false =>
                  simp (maxSteps := 2000000) (disch := first | omega | assumption | exact idP rfl | exact idP (bL rfl)) only [go_sem, reduceIte, Nat.reduceEqDiff, e1, e2, e5, e34, e35, e36]
                  refine hK _ _ ⟨i + 1, by omega, by simp (maxSteps := 2000000) (disch := first | omega | assumption | exact idP rfl | exact idP (bL rfl)) only [go_sem, reduceIte, Nat.reduceEqDiff, e1], by simp (maxSteps := 2000000) (disch := first | omega | assumption | exact idP rfl | exact idP (bL rfl)) only [go_sem, reduceIte, Nat.reduceEqDiff, e2], by simp (maxSteps := 2000000) (disch := first | omega | assumption | exact idP rfl | exact idP (bL rfl)) only [go_sem, reduceIte, Nat.reduceEqDiff, e5], by simp (maxSteps := 2000000) (disch := first | omega | assumption | exact idP rfl | exact idP (bL rfl)) only [go_sem, reduceIte, Nat.reduceEqDiff, e34], by simp (maxSteps := 2000000) (disch := first | omega | assumption | exact idP rfl | exact idP (bL rfl)) only [go_sem, reduceIte, Nat.reduceEqDiff, e35], by simp (maxSteps := 2000000) (disch := first | omega | assumption | exact idP rfl | exact idP (bL rfl)) only [go_sem, reduceIte, Nat.reduceEqDiff, e36]; rfl, hsub3.set' hb8, by rw [set_ne n8]; exact hm3, fun j h1 h2 => ?_⟩ (by simp (maxSteps := 2000000) (disch := first | omega | assumption | exact idP rfl | exact idP (bL rfl)) only [go_sem, reduceIte, Nat.reduceEqDiff, ctrV_int, e36]; omega)
                  by_cases e : j = i
                  · subst e; exact ⟨hset2, a1.1 hc1, by rw [nx]; exact a2.1 hc2⟩
                  · exact hj j h1 (by omega)
          · obtain rfl : i = n1 := by omega
            simp (maxSteps := 2000000) (disch := first | omega | assumption | exact idP rfl | exact idP (bL rfl)) only [go_sem, reduceIte, Nat.reduceEqDiff]
            refine hR _ _ hsub3 ?_
            rw [frB_true ⟨hs, by omega, by omega, hf0', fun j h => hj j h (by omega)⟩]
      · simp (maxSteps := 2000000) (disch := first | omega | assumption | exact idP rfl | exact idP (bL rfl)) only [go_sem, reduceIte, Nat.reduceEqDiff, hf, hm2, hia0]
        refine hR _ _ hsub2 (bad fun h => hf ?_)
        have := h.2.2.2.1
        rw [List.getElem?_eq_getElem hf0] at this
        exact Option.some.inj this
    · have hdi : decide ((1 : Int) ≤ (fs.length : Int) ∧ (fs.length : Int) ≤ 30) = false := by simp; omega
      simp (maxSteps := 2000000) (disch := first | omega | assumption | exact idP rfl | exact idP (bL rfl)) only [go_sem, reduceIte, Nat.reduceEqDiff, hdi]
      exact hR _ _ (by (repeat (first | exact Sub.refl _ | assumption | (refine Sub.set' ?_ (by assumption))))) (bad fun h => hin ⟨by have := h.2.1; omega, by have := h.2.2.1; omega⟩)
end Go.M2

namespace Go.M2
open Go.Proofs
variable {M : MH}
theorem law_FramesValid {v w : V} {s : SysS} {fs : List (List Int)} (hv : isSysX s v) (hl : SysLen s) (hw : XII w fs) (hfl : LenOk fs ∧ ∀ f ∈ fs, LenOk f) :
    VCall Tryz.prog n_laws_FnExactFramesValid [v, w] M (fun r M' => M = M' ∧ r = .sc (.bool true)) := by
  refine VCall.pure fun R hR => v_laws_FnExactFramesValid rfl ?_
  have hv0 := hv
  obtain ⟨a, b, rfl, ha, hb⟩ := hv
  (repeat' (first | ((first | with_reducible refine cond_dec (fun h => ?_) (fun h => ?_) | with_reducible refine guardK_dec (fun h => ?_) (fun h => ?_) | with_reducible refine guardD3_dec (fun h => ?_) (fun h => ?_)) <;> first | (exfalso; omega) | (simp (maxSteps := 2000000) (disch := first | omega | assumption | exact idP rfl | exact idP (bL rfl)) only [go_sem, reduceIte, Nat.reduceEqDiff, h]) | skip) | ((first | with_reducible refine cond_split (fun h => ?_) (fun h => ?_) | with_reducible refine guardK_split (fun h => ?_) (fun h => ?_) | with_reducible refine guardD3_split (fun h => ?_) (fun h => ?_)) <;> ((try simp only [Bool.not_eq_true', Bool.not_eq_false'] at h); first | (simp (maxSteps := 2000000) (disch := first | omega | assumption | exact idP rfl | exact idP (bL rfl)) only [go_sem, reduceIte, Nat.reduceEqDiff, h]) | skip)) | (with_reducible intro bk hbk; try have hnk := (fresh_set hbk).1) | (simp (maxSteps := 2000000) (disch := first | omega | assumption | exact idP rfl | exact idP (bL rfl)) only [go_sem, reduceIte, Nat.reduceEqDiff])))
  refine (x_szSystem hv0 hl (by omega) (by omega)).mono ?_
  rintro _ _ ⟨rfl, k, rfl, hk1, hk⟩
  (repeat' (first | ((first | with_reducible refine cond_dec (fun h => ?_) (fun h => ?_) | with_reducible refine guardK_dec (fun h => ?_) (fun h => ?_) | with_reducible refine guardD3_dec (fun h => ?_) (fun h => ?_)) <;> first | (exfalso; omega) | (simp (maxSteps := 2000000) (disch := first | omega | assumption | exact idP rfl | exact idP (bL rfl)) only [go_sem, reduceIte, Nat.reduceEqDiff, h]) | skip) | ((first | with_reducible refine cond_split (fun h => ?_) (fun h => ?_) | with_reducible refine guardK_split (fun h => ?_) (fun h => ?_) | with_reducible refine guardD3_split (fun h => ?_) (fun h => ?_)) <;> ((try simp only [Bool.not_eq_true', Bool.not_eq_false'] at h); first | (simp (maxSteps := 2000000) (disch := first | omega | assumption | exact idP rfl | exact idP (bL rfl)) only [go_sem, reduceIte, Nat.reduceEqDiff, h]) | skip)) | (with_reducible intro bk hbk; try have hnk := (fresh_set hbk).1) | (simp (maxSteps := 2000000) (disch := first | omega | assumption | exact idP rfl | exact idP (bL rfl)) only [go_sem, reduceIte, Nat.reduceEqDiff])))
  · exact hR _ _ (by (repeat (first | exact Sub.refl _ | assumption | (refine Sub.set' ?_ (by assumption))))) rfl
  · have hf := hk (by omega)
    refine (x_szIntSS hw hfl.1 hfl.2 (by omega) (by omega)).mono ?_
    rintro _ _ ⟨rfl, k2, rfl, hk3, hk4⟩
    (repeat' (first | ((first | with_reducible refine cond_dec (fun h => ?_) (fun h => ?_) | with_reducible refine guardK_dec (fun h => ?_) (fun h => ?_) | with_reducible refine guardD3_dec (fun h => ?_) (fun h => ?_)) <;> first | (exfalso; omega) | (simp (maxSteps := 2000000) (disch := first | omega | assumption | exact idP rfl | exact idP (bL rfl)) only [go_sem, reduceIte, Nat.reduceEqDiff, h]) | skip) | ((first | with_reducible refine cond_split (fun h => ?_) (fun h => ?_) | with_reducible refine guardK_split (fun h => ?_) (fun h => ?_) | with_reducible refine guardD3_split (fun h => ?_) (fun h => ?_)) <;> ((try simp only [Bool.not_eq_true', Bool.not_eq_false'] at h); first | (simp (maxSteps := 2000000) (disch := first | omega | assumption | exact idP rfl | exact idP (bL rfl)) only [go_sem, reduceIte, Nat.reduceEqDiff, h]) | skip)) | (with_reducible intro bk hbk; try have hnk := (fresh_set hbk).1) | (simp (maxSteps := 2000000) (disch := first | omega | assumption | exact idP rfl | exact idP (bL rfl)) only [go_sem, reduceIte, Nat.reduceEqDiff])))
    · exact hR _ _ (by (repeat (first | exact Sub.refl _ | assumption | (refine Sub.set' ?_ (by assumption))))) rfl
    · obtain ⟨hwl, hwl2⟩ := hk4 (by omega)
      refine (f_toSystem hv0 hf).mono ?_
      rintro s1 _ ⟨rfl, hs1⟩
      simp (maxSteps := 2000000) (disch := first | omega | assumption | exact idP rfl | exact idP (bL rfl)) only [go_sem, reduceIte, Nat.reduceEqDiff]
      refine (f_toIntSS hw hwl hwl2).mono ?_
      rintro w1 _ ⟨rfl, hw1⟩
      simp (maxSteps := 2000000) (disch := first | omega | assumption | exact idP rfl | exact idP (bL rfl)) only [go_sem, reduceIte, Nat.reduceEqDiff]
      refine (t_specFramesValid hs1 hw1 hwl hwl2).mono ?_
      rintro _ _ ⟨rfl, rfl⟩
      simp (maxSteps := 2000000) (disch := first | omega | assumption | exact idP rfl | exact idP (bL rfl)) only [go_sem, reduceIte, Nat.reduceEqDiff]
      refine (f_toSystem hv0 hf).mono ?_
      rintro s2 _ ⟨rfl, hs2⟩
      have hs20 := hs2
      obtain ⟨a2, b2, rfl, ha2, hb2⟩ := hs2
      simp (maxSteps := 2000000) (disch := first | omega | assumption | exact idP rfl | exact idP (bL rfl)) only [go_sem, reduceIte, Nat.reduceEqDiff, ha2.one.1, ha2.one.2, hb2.one.1, hb2.one.2]
      intro b7 hb7
      have n7 := (fresh_set hb7).1
      have o1 := ha2.one.1
      have o2 := hb2.one.1
      simp (maxSteps := 2000000) (disch := first | omega | assumption | exact idP rfl | exact idP (bL rfl)) only [go_sem, reduceIte, Nat.reduceEqDiff]
      refine (f_toIntSSk hw hwl hwl2).mono ?_
      rintro w2 _ ⟨rfl, hw2, hkc⟩
      simp (maxSteps := 2000000) (disch := first | omega | assumption | exact idP rfl | exact idP (bL rfl)) only [go_sem, reduceIte, Nat.reduceEqDiff]
      refine (t_impFramesValid hs20 hf.sz hw2 hkc hwl hwl2).mono ?_
      rintro _ _ ⟨rfl, rfl⟩
      generalize frB s fs = t
      cases t
      all_goals simp (maxSteps := 2000000) (disch := first | omega | assumption | exact idP rfl | exact idP (bL rfl)) only [go_sem, reduceIte, Nat.reduceEqDiff, beq_self_eq_true, Bool.not_true, BEq.rfl]
      all_goals refine (f_toSystem hv0 hf).mono ?_
      all_goals rintro s3 _ ⟨rfl, hs3⟩
      all_goals simp (maxSteps := 2000000) (disch := first | omega | assumption | exact idP rfl | exact idP (bL rfl)) only [go_sem, reduceIte, Nat.reduceEqDiff]
      all_goals refine (x_eqSystem hs20 hs3 hf).mono ?_
      all_goals rintro _ _ ⟨rfl, rfl⟩
      all_goals simp (maxSteps := 2000000) (disch := first | omega | assumption | exact idP rfl | exact idP (bL rfl)) only [go_sem, reduceIte, Nat.reduceEqDiff]
      all_goals refine (f_toIntSS hw hwl hwl2).mono ?_
      all_goals rintro w3 _ ⟨rfl, hw3⟩
      all_goals simp (maxSteps := 2000000) (disch := first | omega | assumption | exact idP rfl | exact idP (bL rfl)) only [go_sem, reduceIte, Nat.reduceEqDiff]
      all_goals refine (x_eqIntSS hw2 hw3 hwl hwl2).mono ?_
      all_goals rintro _ _ ⟨rfl, rfl⟩
      all_goals simp (maxSteps := 2000000) (disch := first | omega | assumption | exact idP rfl | exact idP (bL rfl)) only [go_sem, reduceIte, Nat.reduceEqDiff]
      all_goals exact hR _ _ (by (repeat (first | exact Sub.refl _ | assumption | (refine Sub.set' ?_ (by assumption))))) rfl
end Go.M2
