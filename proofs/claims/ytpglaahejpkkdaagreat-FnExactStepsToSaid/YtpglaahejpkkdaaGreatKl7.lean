/- Copies of a system that are owned whole. -/
import Derived.Test.YtpglaahejpkkdaaGreatKl6
set_option linter.unusedVariables false
set_option linter.unusedSimpArgs false
set_option maxRecDepth 10000
set_option maxHeartbeats 4000000
namespace Go.M2
open Go.Proofs
variable {M : MH}
theorem Mem.base {M0 M1 M : MH} {f : List (Nat × List V)} (h : Mem M1 M f) (hs : Sub M0 M1) : Mem M0 M f := ⟨hs.trans h.sub, fun p hp => hs.none (h.new p hp), h.nd, h.at_⟩
theorem Mem.tail {M0 M : MH} {p : Nat × List V} {f : List (Nat × List V)} (h : Mem M0 M (p :: f)) : Mem M0 M f := Mem.right (f := [p]) h
theorem Mem.hd {M0 M : MH} {b : Nat} {l : List V} {f : List (Nat × List V)} (h : Mem M0 M ((b, l) :: f)) : M b = some l := h.at_ _ (List.mem_cons_self ..)
def DnL (M0 M : MH) (l : List V) (p : List V → Prop) : Prop := ∃ l' fp, Tr l l' fp ∧ Mem M0 M fp ∧ flatL l ∧ (∀ q ∈ fp, flatL q.2) ∧ p l'
def One (v : V) : Prop := oneV v = true ∧ cellsV v = some [v]
theorem Ow.flat {sz : Nat} {M : MH} {v : V} {l : List V} (h : Ow sz M v l) : flat v := by
  rcases h with ⟨_, k, rfl⟩ | ⟨b, n, ex, rfl, _⟩ <;> simp [Go.M2.flat]
theorem catV_flat {α : Type} {enc : α → List V} (he : ∀ x, flatL (enc x)) : ∀ xs : List α, flatL (catV enc xs)
  | [] => by simp [catV, flatL]
  | x :: t => flatL_all.2 fun v hv => by
    have ih := catV_flat he t
    simp only [catV, List.map_cons, List.flatten_cons, List.mem_append] at hv
    rcases hv with h1 | h1
    · exact flatL_all.1 (he x) v h1
    · exact flatL_all.1 ih v h1
theorem encT_flat (x : TermS) : flatL (encT x) := by simp [encT, flatL, flat]
theorem encVar_flat (x : VarS) : flatL (encVar x) := by simp [encVar, flatL, flat]
theorem d_toTermS {v : V} {xs : List TermS} (hv : XT v xs) (hl : xs.length ≤ 1048576) : VCall Tryz.prog n_laws_toTermS [v] M (fun r M' => One r ∧ Dn M M' r (fun u => LT u xs)) :=
  (x_toTermS hv hl).mono fun r M' h => ⟨h.one, h.dn (catV_flat encT_flat xs) fun u hu => hu.lc (by omega) (catV_len (sz := 4) (enc := encT) (fun _ => rfl) xs) fun i hi => catV_at (sz := 4) (enc := encT) (fun _ => rfl) hi⟩
theorem d_toVarS {v : V} {xs : List VarS} (hv : XVar v xs) (hl : xs.length ≤ 1048576) : VCall Tryz.prog n_laws_toVarS [v] M (fun r M' => One r ∧ Dn M M' r (fun u => LVar u xs)) :=
  (x_toVarS hv hl).mono fun r M' h => ⟨h.one, h.dn (catV_flat encVar_flat xs) fun u hu => hu.lc (by omega) (catV_len (sz := 3) (enc := encVar) (fun _ => rfl) xs) fun i hi => catV_at (sz := 3) (enc := encVar) (fun _ => rfl) hi⟩
theorem d_toIntS {v : V} {xs : List Int} (hv : XI v xs) (hl : xs.length ≤ 1048576) : VCall Tryz.prog n_laws_toIntS [v] M (fun r M' => One r ∧ Dn M M' r (fun u => LI u xs)) :=
  (x_toIntS hv hl).mono fun r M' h => ⟨h.one, h.dn (flatL_vi xs) fun u hu => hu.li⟩
theorem d_toTermSS {v : V} {xs : List (List TermS)} (hv : XTT v xs) (hl : xs.length ≤ 1048576) (hx : ∀ ts ∈ xs, ts.length ≤ 1048576) : VCall Tryz.prog n_laws_toTermSS [v] M (fun r M' => One r ∧ Dn M M' r (fun u => LTT u xs)) := by
  refine VCall.plain fun R hR => v_laws_toTermSS rfl ?_
  have hlen := hv.len fun _ _ h => h.len
  simp (maxSteps := 2000000) (disch := first | omega | assumption | exact idP rfl | exact idP (bL rfl)) only [go_sem, reduceIte, Nat.reduceEqDiff, hlen]
  refine mks3 (by omega) (by simp [mostCells]; omega) (by simp [mostCells]; omega) ?_
  intro b3 hb3
  simp (maxSteps := 2000000) (disch := first | omega | assumption | exact idP rfl | exact idP (bL rfl)) only [go_sem, reduceIte, Nat.reduceEqDiff, zeros_nil]
  refine loop_k (fun e M' => ∃ (i : Nat) (us us' : List V) (fp : List (Nat × List V)), i ≤ xs.length ∧ e 0 = v ∧ e 3 = .sc (.sl (some (b3, 0)) xs.length xs.length true 1) ∧ e 4 = .sc (.int .i64 i) ∧ Tr us us' fp ∧ Mem M M' ((b3, us ++ List.replicate (xs.length - i) nil1) :: fp) ∧ flatL us ∧ (∀ q ∈ fp, flatL q.2) ∧ Cs (fun ts u => LT u ts) us' (xs.take i)) (fun e _ => ctrV xs.length (e 4)) ?_ ?_
  · exact ⟨0, [], [], [], by omega, by simp (maxSteps := 2000000) (disch := first | omega | assumption | exact idP rfl | exact idP (bL rfl)) only [go_sem, reduceIte, Nat.reduceEqDiff], by simp (maxSteps := 2000000) (disch := first | omega | assumption | exact idP rfl | exact idP (bL rfl)) only [go_sem, reduceIte, Nat.reduceEqDiff], by simp (maxSteps := 2000000) (disch := first | omega | assumption | exact idP rfl | exact idP (bL rfl)) only [go_sem, reduceIte, Nat.reduceEqDiff]; rfl, .nil, by simpa using (Mem.nil (Sub.refl M)).new1 hb3, by simp [flatL], fun q hq => (by cases hq), .nil⟩
  · rintro e M1 ⟨i, us, us', fp, hi, e0, e3, e4, htr, hmem, hfl, hff, hc⟩ K hK
    have hul : us.length = i := by have := hc.1; have h2 := htr.len; simp at this; omega
    have hm := hmem.hd
    simp (maxSteps := 2000000) (disch := first | omega | assumption | exact idP rfl | exact idP (bL rfl)) only [go_sem, reduceIte, Nat.reduceEqDiff, e0, e3, e4, hlen]
    refine cond_dec (fun h => ?_) (fun h => ?_)
    · have hi' : i < xs.length := by omega
      have hv' := hv.get (by omega)
      obtain ⟨q, hq⟩ : ∃ q, xs.length - i = q + 1 := ⟨xs.length - i - 1, by omega⟩
      rw [hq, List.replicate_succ] at hm hmem
      simp (maxSteps := 2000000) (disch := first | omega | assumption | exact idP rfl | exact idP (bL rfl)) only [go_sem, reduceIte, Nat.reduceEqDiff, e0, e3, e4, hv'.iaddr]
      refine (d_toTermS (hv'.elt hi') (hx _ (List.getElem_mem hi'))).mono ?_
      rintro r M2 ⟨⟨hr1, hr2⟩, r', g, t1, t2, t3, t4, hr⟩
      have hmem2 := hmem.add t2
      rw [List.cons_append] at hmem2
      have hm2 := hmem2.hd
      have hsm : (us ++ nil1 :: List.replicate q nil1).set i r = us ++ r :: List.replicate q nil1 := set_mid hul
      have hnl3 : i < (us ++ nil1 :: List.replicate q nil1).length := by simp; omega
      simp (maxSteps := 2000000) (disch := first | omega | assumption | exact idP rfl | exact idP (bL rfl)) only [go_sem, reduceIte, Nat.reduceEqDiff, e0, e3, e4, hm2, hr2, hsm]
      refine hK _ _ ⟨i + 1, us ++ [r], us' ++ [r'], fp ++ g, by omega, by simp (maxSteps := 2000000) (disch := first | omega | assumption | exact idP rfl | exact idP (bL rfl)) only [go_sem, reduceIte, Nat.reduceEqDiff], by simp (maxSteps := 2000000) (disch := first | omega | assumption | exact idP rfl | exact idP (bL rfl)) only [go_sem, reduceIte, Nat.reduceEqDiff], by simp (maxSteps := 2000000) (disch := first | omega | assumption | exact idP rfl | exact idP (bL rfl)) only [go_sem, reduceIte, Nat.reduceEqDiff]; rfl, htr.append t1, ?_, ?_, ?_, ?_⟩ (by simp (maxSteps := 2000000) (disch := first | omega | assumption | exact idP rfl | exact idP (bL rfl)) only [go_sem, reduceIte, Nat.reduceEqDiff, ctrV_int, e4]; omega)
      · have := hmem2.upd (l' := us ++ r :: List.replicate q nil1)
        simpa [show xs.length - (i + 1) = q by omega] using this
      · exact flatL_all.2 fun w hw => by
          rcases List.mem_append.1 hw with h1 | h1
          · exact flatL_all.1 hfl w h1
          · rw [List.mem_singleton] at h1; subst h1; exact t3
      · intro w hw
        rcases List.mem_append.1 hw with h1 | h1
        · exact hff w h1
        · exact t4 w h1
      · rw [take_snoc hi']
        exact hc.snoc hr
    · obtain rfl : i = xs.length := by omega
      rw [List.take_length] at hc
      simp (maxSteps := 2000000) (disch := first | omega | assumption | exact idP rfl | exact idP (bL rfl)) only [go_sem, reduceIte, Nat.reduceEqDiff, e3]
      simp only [Nat.sub_self, List.replicate_zero, List.append_nil] at hmem
      have hul' : us'.length = xs.length := hc.1
      refine hR _ _ ⟨⟨rfl, rfl⟩, .fs (some (b3, 0)) xs.length xs.length true 1 (us'.drop 0), (b3, us) :: (fp ++ []), .sl htr .nil, by simpa using hmem, by simp [flat], fun q hq => ?_, ?_⟩
      · simp only [List.append_nil, List.mem_cons] at hq
        rcases hq with rfl | h1
        · exact hfl
        · exact hff q h1
      · exact Fr.lsC (us := us') (.inr ⟨_, _, _, _, _, by rw [List.drop_zero], by omega⟩) hc
theorem d_toRule {cs : List V} {r : RuleS} (hv : isRuleX r cs) (hf : RuleFit r) : VCall Tryz.prog n_laws_toRule [.agg cs] M (fun r' M' => ∃ ds, r' = .agg ds ∧ ds.length = 3 ∧ ds.all oneV = true ∧ DnL M M' ds (isRule r)) := by
  refine VCall.plain fun R hR => v_laws_toRule rfl ?_
  obtain ⟨a, b, c, rfl, ha, hb, hc⟩ := hv
  obtain ⟨f1, f2, f3, f4⟩ := hf
  simp (maxSteps := 2000000) (disch := first | omega | assumption | exact idP rfl | exact idP (bL rfl)) only [go_sem, reduceIte, Nat.reduceEqDiff]
  intro b1 hb1
  try simp (maxSteps := 2000000) (disch := first | omega | assumption | exact idP rfl | exact idP (bL rfl)) only [go_sem, reduceIte, Nat.reduceEqDiff]
  intro b2 hb2
  try simp (maxSteps := 2000000) (disch := first | omega | assumption | exact idP rfl | exact idP (bL rfl)) only [go_sem, reduceIte, Nat.reduceEqDiff]
  intro b3 hb3
  have n21 := (fresh_set hb2).1
  have n32 := (fresh_set hb3).1
  have n31 := (fresh_set (fresh_set hb3).2).1
  have m0 := (((Mem.nil (Sub.refl M)).new1 hb1).new1 hb2).new1 (l := [.sc (.sl none 0 0 true 0), .sc (.sl none 0 0 true 0), .sc (.sl none 0 0 true 0)]) hb3
  simp (maxSteps := 2000000) (disch := first | omega | assumption | exact idP rfl | exact idP (bL rfl)) only [go_sem, reduceIte, Nat.reduceEqDiff]
  refine (d_toTermS ha f1).mono ?_
  rintro x M2 ⟨⟨hx1, hx2⟩, x', gx, tx, mx, fx, ffx, hx⟩
  have m1 := m0.add mx
  simp only [List.cons_append, List.nil_append] at m1
  have q1 := m1.hd
  have q2 := m1.tail.hd
  have q3 := m1.tail.tail.hd
  simp (maxSteps := 2000000) (disch := first | omega | assumption | exact idP rfl | exact idP (bL rfl)) only [go_sem, reduceIte, Nat.reduceEqDiff, q1, q2, q3, hx2]
  have m2 := m1.upd (l' := [x, nil1, nil1])
  simp only [nil1] at m2
  refine (d_toIntS hb f2).mono ?_
  rintro y M3 ⟨⟨hy1, hy2⟩, y', gy, ty, my, fy, ffy, hy⟩
  have m3 := m2.add my
  simp only [List.cons_append, List.nil_append] at m3
  have q1 := m3.hd
  have q2 := m3.tail.hd
  have q3 := m3.tail.tail.hd
  simp (maxSteps := 2000000) (disch := first | omega | assumption | exact idP rfl | exact idP (bL rfl)) only [go_sem, reduceIte, Nat.reduceEqDiff, q1, q2, q3, hy2]
  have m4 := m3.upd (l' := [x, y, nil1])
  simp only [nil1] at m4
  refine (d_toTermSS hc f3 f4).mono ?_
  rintro z M4 ⟨⟨hz1, hz2⟩, z', gz, tz, mz, fz, ffz, hz⟩
  have m5 := m4.add mz
  simp only [List.cons_append, List.nil_append] at m5
  have q1 := m5.hd
  have q2 := m5.tail.hd
  have q3 := m5.tail.tail.hd
  simp (maxSteps := 2000000) (disch := first | omega | assumption | exact idP rfl | exact idP (bL rfl)) only [go_sem, reduceIte, Nat.reduceEqDiff, q1, q2, q3, hz2]
  have m6 := (m5.upd (l' := [x, y, z])).perm (List.Perm.swap ..)
  have m7 := m6.upd (l' := [x, y, z])
  refine hR _ _ ⟨[x, y, z], rfl, rfl, by simp [hx1, hy1, hz1], [x', y', z'], gx ++ gy ++ gz, (tx.append ty).append tz, m7.tail.tail.tail, ?_, fun q hq => ?_, x', y', z', rfl, hx, hy, hz⟩
  · simp only [flatL]; exact ⟨fx, fy, fz, trivial⟩
  · rcases List.mem_append.1 hq with h1 | h1
    · rcases List.mem_append.1 h1 with h2 | h2
      · exact ffx q h2
      · exact ffy q h2
    · exact ffz q h1
theorem d_toRuleS {v : V} {xs : List RuleS} (hv : XR v xs) (hl : xs.length ≤ 1048576) (hx : ∀ r ∈ xs, RuleFit r) : VCall Tryz.prog n_laws_toRuleS [v] M (fun r M' => One r ∧ Dn M M' r (fun u => LR u xs)) := by
  refine VCall.plain fun R hR => v_laws_toRuleS rfl ?_
  have hlen := hv.len fun _ _ h => h.len
  have henc : ∀ x : T3, x.val.length = 3 := fun x => x.property
  simp (maxSteps := 2000000) (disch := first | omega | assumption | exact idP rfl | exact idP (bL rfl)) only [go_sem, reduceIte, Nat.reduceEqDiff, hlen]
  refine mks3 (by omega) (by simp [mostCells]; omega) (by simp [mostCells]; omega) ?_
  intro b3 hb3
  simp (maxSteps := 2000000) (disch := first | omega | assumption | exact idP rfl | exact idP (bL rfl)) only [go_sem, reduceIte, Nat.reduceEqDiff, zeros_cat (enc := fun x : T3 => x.val) (z := z3) (zs := [AV.sl none 0 0 true 0, AV.sl none 0 0 true 0, AV.sl none 0 0 true 0]) rfl]
  refine loop_k (fun e M' => ∃ (i : Nat) (us us' : List T3) (fp : List (Nat × List V)), i ≤ xs.length ∧ us.length = i ∧ us'.length = i ∧ e 0 = v ∧ e 3 = .sc (.sl (some (b3, 0)) xs.length xs.length true 3) ∧ e 4 = .sc (.int .i64 i) ∧ Tr (catV (fun x : T3 => x.val) us) (catV (fun x : T3 => x.val) us') fp ∧ Mem M M' ((b3, catV (fun x : T3 => x.val) us ++ catV (fun x : T3 => x.val) (List.replicate (xs.length - i) z3)) :: fp) ∧ flatL (catV (fun x : T3 => x.val) us) ∧ (∀ q ∈ fp, flatL q.2) ∧ ∀ j (h1 : j < xs.length) (h2 : j < us'.length), isRule xs[j] us'[j].val) (fun e _ => ctrV xs.length (e 4)) ?_ ?_
  · exact ⟨0, [], [], [], by omega, rfl, rfl, by simp (maxSteps := 2000000) (disch := first | omega | assumption | exact idP rfl | exact idP (bL rfl)) only [go_sem, reduceIte, Nat.reduceEqDiff], by simp (maxSteps := 2000000) (disch := first | omega | assumption | exact idP rfl | exact idP (bL rfl)) only [go_sem, reduceIte, Nat.reduceEqDiff], by simp (maxSteps := 2000000) (disch := first | omega | assumption | exact idP rfl | exact idP (bL rfl)) only [go_sem, reduceIte, Nat.reduceEqDiff]; rfl, .nil, by simpa [catV] using (Mem.nil (Sub.refl M)).new1 hb3, by simp [catV, flatL], fun q hq => (by cases hq), fun j _ h => by simp at h⟩
  · rintro e M1 ⟨i, us, us', fp, hi, hul, hul', e0, e3, e4, htr, hmem, hfl, hff, hc⟩ K hK
    have hm := hmem.hd
    simp (maxSteps := 2000000) (disch := first | omega | assumption | exact idP rfl | exact idP (bL rfl)) only [go_sem, reduceIte, Nat.reduceEqDiff, e0, e3, e4, hlen]
    refine cond_dec (fun h => ?_) (fun h => ?_)
    · have hi' : i < xs.length := by omega
      have hv' := hv.get (by omega)
      have hcs := hv'.elt hi'
      have hrule := hcs
      obtain ⟨c1, c2, c3, hat, _, _, _⟩ := hcs
      rw [hat] at hrule
      simp (maxSteps := 2000000) (disch := first | omega | assumption | exact idP rfl | exact idP (bL rfl)) only [go_sem, reduceIte, Nat.reduceEqDiff, e0, e3, e4, hv'.iaddr, hat]
      refine (d_toRule hrule (hx _ (List.getElem_mem hi'))).mono ?_
      rintro _ M2 ⟨ds, rfl, hd3, hd1, ds', g, t1, t2, t3, t4, hr⟩
      have hmem2 := hmem.add t2
      rw [List.cons_append] at hmem2
      have hm2 := hmem2.hd
      have hd3' : ds'.length = 3 := by rw [t1.len, hd3]
      simp (maxSteps := 2000000) (disch := first | omega | assumption | exact idP rfl | exact idP (bL rfl)) only [go_sem, reduceIte, Nat.reduceEqDiff, e0, e3, e4, hm2]
      refine ⟨hd3, hd1, ?_, ?_⟩
      · rw [List.length_append, catV_len henc, catV_len henc, hul, List.length_replicate]; omega
      rw [show xs.length - i = (xs.length - (i + 1)) + 1 by omega, cat_set (x := (⟨ds, hd3⟩ : T3)) henc (by rw [hul])]
      simp (maxSteps := 2000000) (disch := first | omega | assumption | exact idP rfl | exact idP (bL rfl)) only [go_sem, reduceIte, Nat.reduceEqDiff, e0, e3, e4]
      have hca : catV (fun x : T3 => x.val) (us ++ [⟨ds, hd3⟩]) = catV (fun x : T3 => x.val) us ++ ds := catV_snoc
      have hca' : catV (fun x : T3 => x.val) (us' ++ [⟨ds', hd3'⟩]) = catV (fun x : T3 => x.val) us' ++ ds' := catV_snoc
      refine hK _ _ ⟨i + 1, us ++ [⟨ds, hd3⟩], us' ++ [⟨ds', hd3'⟩], fp ++ g, by omega, by simp [hul], by simp [hul'], by simp (maxSteps := 2000000) (disch := first | omega | assumption | exact idP rfl | exact idP (bL rfl)) only [go_sem, reduceIte, Nat.reduceEqDiff], by simp (maxSteps := 2000000) (disch := first | omega | assumption | exact idP rfl | exact idP (bL rfl)) only [go_sem, reduceIte, Nat.reduceEqDiff], by simp (maxSteps := 2000000) (disch := first | omega | assumption | exact idP rfl | exact idP (bL rfl)) only [go_sem, reduceIte, Nat.reduceEqDiff]; rfl, ?_, ?_, ?_, ?_, fun j h1 h2 => ?_⟩ (by simp (maxSteps := 2000000) (disch := first | omega | assumption | exact idP rfl | exact idP (bL rfl)) only [go_sem, reduceIte, Nat.reduceEqDiff, ctrV_int, e4]; omega)
      · rw [hca, hca']; exact htr.append t1
      · exact hmem2.upd
      · rw [hca]
        exact flatL_all.2 fun w hw => by
          rcases List.mem_append.1 hw with h1 | h1
          · exact flatL_all.1 hfl w h1
          · exact flatL_all.1 t3 w h1
      · intro w hw
        rcases List.mem_append.1 hw with h1 | h1
        · exact hff w h1
        · exact t4 w h1
      · by_cases hj : j < us'.length
        · rw [List.getElem_append_left hj]; exact hc j h1 hj
        · obtain rfl : j = us'.length := by simp at h2; omega
          have e9 : us'.length = i := hul'
          simp only [List.getElem_append_right (Nat.le_refl _), Nat.sub_self, List.getElem_cons_zero]
          simp only [e9]
          exact hr
    · obtain rfl : i = xs.length := by omega
      simp (maxSteps := 2000000) (disch := first | omega | assumption | exact idP rfl | exact idP (bL rfl)) only [go_sem, reduceIte, Nat.reduceEqDiff, e3]
      have hcz : catV (fun x : T3 => x.val) (List.replicate (xs.length - xs.length) z3) = [] := by simp [catV]
      rw [hcz, List.append_nil] at hmem
      have hcl := catV_len henc us'
      refine hR _ _ ⟨⟨rfl, rfl⟩, .fs (some (b3, 0)) xs.length xs.length true 3 ((catV (fun x : T3 => x.val) us').drop 0), (b3, catV (fun x : T3 => x.val) us) :: (fp ++ []), .sl htr .nil, by simpa using hmem, by simp [flat], fun q hq => ?_, ?_⟩
      · simp only [List.append_nil, List.mem_cons] at hq
        rcases hq with rfl | h1
        · exact hfl
        · exact hff q h1
      · exact Fr.lc (l := catV (fun x : T3 => x.val) us') (.inr ⟨_, _, _, _, _, by rw [List.drop_zero], by rw [hcl, hul']⟩) (by omega) (by rw [hcl, hul']) fun j hj => by rw [catV_at henc (by omega)]; exact hc j hj (by omega)
theorem d_toSystem {v : V} {s : SysS} (hv : isSysX s v) (hf : SysFit s) : VCall Tryz.prog n_laws_toSystem [v] M (fun r' M' => ∃ x y, r' = .agg [x, y] ∧ One x ∧ One y ∧ DnL M M' [x, y] (fun l => ∃ x' y', l = [x', y'] ∧ LVar x' s.vars ∧ LR y' s.rules)) := by
  refine VCall.plain fun R hR => v_laws_toSystem rfl ?_
  obtain ⟨a, b, rfl, ha, hb⟩ := hv
  obtain ⟨f1, f2, f3⟩ := hf
  simp (maxSteps := 2000000) (disch := first | omega | assumption | exact idP rfl | exact idP (bL rfl)) only [go_sem, reduceIte, Nat.reduceEqDiff]
  intro b1 hb1
  try simp (maxSteps := 2000000) (disch := first | omega | assumption | exact idP rfl | exact idP (bL rfl)) only [go_sem, reduceIte, Nat.reduceEqDiff]
  intro b2 hb2
  try simp (maxSteps := 2000000) (disch := first | omega | assumption | exact idP rfl | exact idP (bL rfl)) only [go_sem, reduceIte, Nat.reduceEqDiff]
  intro b3 hb3
  have n21 := (fresh_set hb2).1
  have n32 := (fresh_set hb3).1
  have n31 := (fresh_set (fresh_set hb3).2).1
  have m0 := (((Mem.nil (Sub.refl M)).new1 hb1).new1 hb2).new1 (l := [.sc (.sl none 0 0 true 0), .sc (.sl none 0 0 true 0)]) hb3
  simp (maxSteps := 2000000) (disch := first | omega | assumption | exact idP rfl | exact idP (bL rfl)) only [go_sem, reduceIte, Nat.reduceEqDiff]
  refine (d_toVarS ha f1).mono ?_
  rintro x M2 ⟨⟨hx1, hx2⟩, x', gx, tx, mx, fx, ffx, hx⟩
  have m1 := m0.add mx
  simp only [List.cons_append, List.nil_append] at m1
  have q1 := m1.hd
  have q2 := m1.tail.hd
  have q3 := m1.tail.tail.hd
  simp (maxSteps := 2000000) (disch := first | omega | assumption | exact idP rfl | exact idP (bL rfl)) only [go_sem, reduceIte, Nat.reduceEqDiff, q1, q2, q3, hx2]
  have m2 := m1.upd (l' := [x, nil1])
  simp only [nil1] at m2
  refine (d_toRuleS hb f2 f3).mono ?_
  rintro y M3 ⟨⟨hy1, hy2⟩, y', gy, ty, my, fy, ffy, hy⟩
  have m3 := m2.add my
  simp only [List.cons_append, List.nil_append] at m3
  have q1 := m3.hd
  have q2 := m3.tail.hd
  have q3 := m3.tail.tail.hd
  simp (maxSteps := 2000000) (disch := first | omega | assumption | exact idP rfl | exact idP (bL rfl)) only [go_sem, reduceIte, Nat.reduceEqDiff, q1, q2, q3, hy2]
  have m6 := (m3.upd (l' := [x, y])).perm (List.Perm.swap ..)
  have m7 := m6.upd (l' := [x, y])
  refine hR _ _ ⟨x, y, rfl, ⟨hx1, hx2⟩, ⟨hy1, hy2⟩, [x', y'], gx ++ gy, tx.append ty, m7.tail.tail.tail, ?_, fun q hq => ?_, x', y', rfl, hx, hy⟩
  · simp only [flatL]; exact ⟨fx, fy, trivial⟩
  · rcases List.mem_append.1 hq with h2 | h2
    · exact ffx q h2
    · exact ffy q h2
end Go.M2

namespace Go.M2
open Go.Proofs
variable {M : MH}
def LfM (sz : Nat) (M : MH) (v : V) (ok : Nat → Prop) : Prop := (∃ q, v = .sc (.sl none 0 0 true q)) ∨ ∃ b o n c ex kk l, v = .sc (.sl (some (b, o)) n c ex kk) ∧ M b = some l ∧ (0 < n → o + n * sz ≤ l.length) ∧ n ≤ 1048576 ∧ ok b
def mkPost (M : MH) (k d : Int) (ok : Nat → Prop) : V → MH → Prop := fun r M' => ∃ k' : Int, r = .sc (.int .i64 k') ∧ k ≤ k' ∧ k' ≤ k + d ∧ ∀ q, ¬ ok q → M' q = M q
theorem t_markIntS {v : V} {k : Int} {ok : Nat → Prop} (hv : LfM 1 M v ok) (hk : 0 ≤ k) (hk2 : k ≤ 9000000000000000000) : VCall Tryz.prog n_laws_markIntS [v, .sc (.int .i64 k)] M (mkPost M k 1048576 ok) := by
  refine VCall.plain fun R hR => v_laws_markIntS rfl ?_
  rcases hv with ⟨q, rfl⟩ | ⟨b, o, n, c, ex, kk, l, rfl, hm, hl, hn, hok⟩
  · simp (maxSteps := 2000000) (disch := first | omega | assumption | exact idP rfl | exact idP (bL rfl)) only [go_sem, reduceIte, Nat.reduceEqDiff]
    refine loop_k (fun e M' => M' = M ∧ e 0 = .sc (.sl none 0 0 true q) ∧ e 1 = .sc (.int .i64 k) ∧ e 5 = .sc (.int .i64 0)) (fun e _ => 0) ⟨rfl, by simp (maxSteps := 2000000) (disch := first | omega | assumption | exact idP rfl | exact idP (bL rfl)) only [go_sem, reduceIte, Nat.reduceEqDiff], by simp (maxSteps := 2000000) (disch := first | omega | assumption | exact idP rfl | exact idP (bL rfl)) only [go_sem, reduceIte, Nat.reduceEqDiff], by simp (maxSteps := 2000000) (disch := first | omega | assumption | exact idP rfl | exact idP (bL rfl)) only [go_sem, reduceIte, Nat.reduceEqDiff]⟩ ?_
    rintro e _ ⟨rfl, e0, e1, e5⟩ K hK
    simp (maxSteps := 2000000) (disch := first | omega | assumption | exact idP rfl | exact idP (bL rfl)) only [go_sem, reduceIte, Nat.reduceEqDiff, e0, e1, e5]
    exact hR _ _ ⟨k, rfl, by omega, by omega, fun q _ => rfl⟩
  · simp (maxSteps := 2000000) (disch := first | omega | assumption | exact idP rfl | exact idP (bL rfl)) only [go_sem, reduceIte, Nat.reduceEqDiff]
    refine loop_k (fun e M' => ∃ (i : Nat) (l' : List V), i ≤ n ∧ e 0 = .sc (.sl (some (b, o)) n c ex kk) ∧ e 1 = .sc (.int .i64 (k + i)) ∧ e 5 = .sc (.int .i64 i) ∧ (∀ q, q ≠ b → M' q = M q) ∧ M' b = some l' ∧ l'.length = l.length) (fun e _ => ctrV n (e 5)) ?_ ?_
    · exact ⟨0, l, by omega, by simp (maxSteps := 2000000) (disch := first | omega | assumption | exact idP rfl | exact idP (bL rfl)) only [go_sem, reduceIte, Nat.reduceEqDiff], by simp (maxSteps := 2000000) (disch := first | omega | assumption | exact idP rfl | exact idP (bL rfl)) only [go_sem, reduceIte, Nat.reduceEqDiff]; simp, by simp (maxSteps := 2000000) (disch := first | omega | assumption | exact idP rfl | exact idP (bL rfl)) only [go_sem, reduceIte, Nat.reduceEqDiff]; rfl, fun _ _ => rfl, hm, rfl⟩
    · rintro e M1 ⟨i, l', hi, e0, e1, e5, hq, hm1, hl1⟩ K hK
      simp (maxSteps := 2000000) (disch := first | omega | assumption | exact idP rfl | exact idP (bL rfl)) only [go_sem, reduceIte, Nat.reduceEqDiff, e0, e1, e5]
      refine cond_dec (fun h => ?_) (fun h => ?_)
      · have hl := hl (by omega)
        have hso : o + i * 1 < l'.length := by omega
        have hso2 : o + i < l'.length := by omega
        simp (maxSteps := 2000000) (disch := first | omega | assumption | exact idP rfl | exact idP (bL rfl)) only [go_sem, reduceIte, Nat.reduceEqDiff, e0, e1, e5, hm1]
        exact hK _ _ ⟨i + 1, _, by omega, by simp (maxSteps := 2000000) (disch := first | omega | assumption | exact idP rfl | exact idP (bL rfl)) only [go_sem, reduceIte, Nat.reduceEqDiff, e0], by simp (maxSteps := 2000000) (disch := first | omega | assumption | exact idP rfl | exact idP (bL rfl)) only [go_sem, reduceIte, Nat.reduceEqDiff]; rw [Int.natCast_add, Int.add_assoc]; rfl, by simp (maxSteps := 2000000) (disch := first | omega | assumption | exact idP rfl | exact idP (bL rfl)) only [go_sem, reduceIte, Nat.reduceEqDiff]; rfl, fun q hqb => by rw [set_ne hqb]; exact hq q hqb, set_same, by simp [hl1]⟩ (by simp (maxSteps := 2000000) (disch := first | omega | assumption | exact idP rfl | exact idP (bL rfl)) only [go_sem, reduceIte, Nat.reduceEqDiff, ctrV_int, e5]; omega)
      · obtain rfl : i = n := by omega
        simp (maxSteps := 2000000) (disch := first | omega | assumption | exact idP rfl | exact idP (bL rfl)) only [go_sem, reduceIte, Nat.reduceEqDiff, e1]
        exact hR _ _ ⟨_, rfl, by omega, by omega, fun q hq1 => hq q fun e => hq1 (by rw [e]; exact hok)⟩
theorem t_markVarS {v : V} {k : Int} {ok : Nat → Prop} (hv : LfM 3 M v ok) (hk : 0 ≤ k) (hk2 : k ≤ 9000000000000000000) : VCall Tryz.prog n_laws_markVarS [v, .sc (.int .i64 k)] M (mkPost M k 3145728 ok) := by
  refine VCall.plain fun R hR => v_laws_markVarS rfl ?_
  rcases hv with ⟨q, rfl⟩ | ⟨b, o, n, c, ex, kk, l, rfl, hm, hl, hn, hok⟩
  · simp (maxSteps := 2000000) (disch := first | omega | assumption | exact idP rfl | exact idP (bL rfl)) only [go_sem, reduceIte, Nat.reduceEqDiff]
    refine loop_k (fun e M' => M' = M ∧ e 0 = .sc (.sl none 0 0 true q) ∧ e 1 = .sc (.int .i64 k) ∧ e 5 = .sc (.int .i64 0)) (fun e _ => 0) ⟨rfl, by simp (maxSteps := 2000000) (disch := first | omega | assumption | exact idP rfl | exact idP (bL rfl)) only [go_sem, reduceIte, Nat.reduceEqDiff], by simp (maxSteps := 2000000) (disch := first | omega | assumption | exact idP rfl | exact idP (bL rfl)) only [go_sem, reduceIte, Nat.reduceEqDiff], by simp (maxSteps := 2000000) (disch := first | omega | assumption | exact idP rfl | exact idP (bL rfl)) only [go_sem, reduceIte, Nat.reduceEqDiff]⟩ ?_
    rintro e _ ⟨rfl, e0, e1, e5⟩ K hK
    simp (maxSteps := 2000000) (disch := first | omega | assumption | exact idP rfl | exact idP (bL rfl)) only [go_sem, reduceIte, Nat.reduceEqDiff, e0, e1, e5]
    exact hR _ _ ⟨k, rfl, by omega, by omega, fun q _ => rfl⟩
  · simp (maxSteps := 2000000) (disch := first | omega | assumption | exact idP rfl | exact idP (bL rfl)) only [go_sem, reduceIte, Nat.reduceEqDiff]
    refine loop_k (fun e M' => ∃ (i : Nat) (l' : List V), i ≤ n ∧ e 0 = .sc (.sl (some (b, o)) n c ex kk) ∧ e 1 = .sc (.int .i64 (k + 3 * i)) ∧ e 5 = .sc (.int .i64 i) ∧ (∀ q, q ≠ b → M' q = M q) ∧ M' b = some l' ∧ l'.length = l.length) (fun e _ => ctrV n (e 5)) ?_ ?_
    · exact ⟨0, l, by omega, by simp (maxSteps := 2000000) (disch := first | omega | assumption | exact idP rfl | exact idP (bL rfl)) only [go_sem, reduceIte, Nat.reduceEqDiff], by simp (maxSteps := 2000000) (disch := first | omega | assumption | exact idP rfl | exact idP (bL rfl)) only [go_sem, reduceIte, Nat.reduceEqDiff]; simp, by simp (maxSteps := 2000000) (disch := first | omega | assumption | exact idP rfl | exact idP (bL rfl)) only [go_sem, reduceIte, Nat.reduceEqDiff]; rfl, fun _ _ => rfl, hm, rfl⟩
    · rintro e M1 ⟨i, l', hi, e0, e1, e5, hq, hm1, hl1⟩ K hK
      simp (maxSteps := 2000000) (disch := first | omega | assumption | exact idP rfl | exact idP (bL rfl)) only [go_sem, reduceIte, Nat.reduceEqDiff, e0, e1, e5]
      refine cond_dec (fun h => ?_) (fun h => ?_)
      · have hl := hl (by omega)
        have hso : o + i * 3 < l'.length := by omega
        have hso2 : ∀ x, o + i * 3 + 1 < (l'.set (o + i * 3) x).length := fun x => by rw [List.length_set]; omega
        have hso3 : ∀ x y, o + i * 3 + 2 < ((l'.set (o + i * 3) x).set (o + i * 3 + 1) y).length := fun x y => by rw [List.length_set, List.length_set]; omega
        have hs2 := hso2 (.sc (.int .i64 (k + 3 * (i : Int))))
        have hs3 := hso3 (.sc (.int .i64 (k + 3 * (i : Int)))) (.sc (.int .i64 (k + 3 * (i : Int) + 1)))
        simp (maxSteps := 2000000) (disch := first | omega | assumption | exact idP rfl | exact idP (bL rfl)) only [go_sem, reduceIte, Nat.reduceEqDiff, e0, e1, e5, hm1]
        exact hK _ _ ⟨i + 1, _, by omega, by simp (maxSteps := 2000000) (disch := first | omega | assumption | exact idP rfl | exact idP (bL rfl)) only [go_sem, reduceIte, Nat.reduceEqDiff, e0], by simp (maxSteps := 2000000) (disch := first | omega | assumption | exact idP rfl | exact idP (bL rfl)) only [go_sem, reduceIte, Nat.reduceEqDiff]; congr 2; omega, by simp (maxSteps := 2000000) (disch := first | omega | assumption | exact idP rfl | exact idP (bL rfl)) only [go_sem, reduceIte, Nat.reduceEqDiff]; rfl, fun q hqb => by simp only [MH.set, if_neg hqb]; exact hq q hqb, set_same, by simp [hl1]⟩ (by simp (maxSteps := 2000000) (disch := first | omega | assumption | exact idP rfl | exact idP (bL rfl)) only [go_sem, reduceIte, Nat.reduceEqDiff, ctrV_int, e5]; omega)
      · obtain rfl : i = n := by omega
        simp (maxSteps := 2000000) (disch := first | omega | assumption | exact idP rfl | exact idP (bL rfl)) only [go_sem, reduceIte, Nat.reduceEqDiff, e1]
        exact hR _ _ ⟨_, rfl, by omega, by omega, fun q hq1 => hq q fun e => hq1 (by rw [e]; exact hok)⟩
theorem t_markTermS {v : V} {k : Int} {ok : Nat → Prop} (hv : LfM 4 M v ok) (hk : 0 ≤ k) (hk2 : k ≤ 9000000000000000000) : VCall Tryz.prog n_laws_markTermS [v, .sc (.int .i64 k)] M (mkPost M k 4194304 ok) := by
  refine VCall.plain fun R hR => v_laws_markTermS rfl ?_
  rcases hv with ⟨q, rfl⟩ | ⟨b, o, n, c, ex, kk, l, rfl, hm, hl, hn, hok⟩
  · simp (maxSteps := 2000000) (disch := first | omega | assumption | exact idP rfl | exact idP (bL rfl)) only [go_sem, reduceIte, Nat.reduceEqDiff]
    refine loop_k (fun e M' => M' = M ∧ e 0 = .sc (.sl none 0 0 true q) ∧ e 1 = .sc (.int .i64 k) ∧ e 5 = .sc (.int .i64 0)) (fun e _ => 0) ⟨rfl, by simp (maxSteps := 2000000) (disch := first | omega | assumption | exact idP rfl | exact idP (bL rfl)) only [go_sem, reduceIte, Nat.reduceEqDiff], by simp (maxSteps := 2000000) (disch := first | omega | assumption | exact idP rfl | exact idP (bL rfl)) only [go_sem, reduceIte, Nat.reduceEqDiff], by simp (maxSteps := 2000000) (disch := first | omega | assumption | exact idP rfl | exact idP (bL rfl)) only [go_sem, reduceIte, Nat.reduceEqDiff]⟩ ?_
    rintro e _ ⟨rfl, e0, e1, e5⟩ K hK
    simp (maxSteps := 2000000) (disch := first | omega | assumption | exact idP rfl | exact idP (bL rfl)) only [go_sem, reduceIte, Nat.reduceEqDiff, e0, e1, e5]
    exact hR _ _ ⟨k, rfl, by omega, by omega, fun q _ => rfl⟩
  · simp (maxSteps := 2000000) (disch := first | omega | assumption | exact idP rfl | exact idP (bL rfl)) only [go_sem, reduceIte, Nat.reduceEqDiff]
    refine loop_k (fun e M' => ∃ (i : Nat) (l' : List V), i ≤ n ∧ e 0 = .sc (.sl (some (b, o)) n c ex kk) ∧ e 1 = .sc (.int .i64 (k + 4 * i)) ∧ e 5 = .sc (.int .i64 i) ∧ (∀ q, q ≠ b → M' q = M q) ∧ M' b = some l' ∧ l'.length = l.length) (fun e _ => ctrV n (e 5)) ?_ ?_
    · exact ⟨0, l, by omega, by simp (maxSteps := 2000000) (disch := first | omega | assumption | exact idP rfl | exact idP (bL rfl)) only [go_sem, reduceIte, Nat.reduceEqDiff], by simp (maxSteps := 2000000) (disch := first | omega | assumption | exact idP rfl | exact idP (bL rfl)) only [go_sem, reduceIte, Nat.reduceEqDiff]; simp, by simp (maxSteps := 2000000) (disch := first | omega | assumption | exact idP rfl | exact idP (bL rfl)) only [go_sem, reduceIte, Nat.reduceEqDiff]; rfl, fun _ _ => rfl, hm, rfl⟩
    · rintro e M1 ⟨i, l', hi, e0, e1, e5, hq, hm1, hl1⟩ K hK
      simp (maxSteps := 2000000) (disch := first | omega | assumption | exact idP rfl | exact idP (bL rfl)) only [go_sem, reduceIte, Nat.reduceEqDiff, e0, e1, e5]
      refine cond_dec (fun h => ?_) (fun h => ?_)
      · have hl := hl (by omega)
        have hso : o + i * 4 < l'.length := by omega
        have hso2 : ∀ x, o + i * 4 + 1 < (l'.set (o + i * 4) x).length := fun x => by rw [List.length_set]; omega
        have hso3 : ∀ x y, o + i * 4 + 2 < ((l'.set (o + i * 4) x).set (o + i * 4 + 1) y).length := fun x y => by rw [List.length_set, List.length_set]; omega
        have hso4 : ∀ x y z, o + i * 4 + 3 < (((l'.set (o + i * 4) x).set (o + i * 4 + 1) y).set (o + i * 4 + 2) z).length := fun x y z => by rw [List.length_set, List.length_set, List.length_set]; omega
        have hs2 := hso2 (.sc (.int .i64 (k + 4 * (i : Int))))
        have hs3 := hso3 (.sc (.int .i64 (k + 4 * (i : Int)))) (.sc (.int .i64 (k + 4 * (i : Int) + 1)))
        have hs4 := hso4 (.sc (.int .i64 (k + 4 * (i : Int)))) (.sc (.int .i64 (k + 4 * (i : Int) + 1))) (.sc (.int .i64 (k + 4 * (i : Int) + 1 + 1)))
        simp (maxSteps := 2000000) (disch := first | omega | assumption | exact idP rfl | exact idP (bL rfl)) only [go_sem, reduceIte, Nat.reduceEqDiff, e0, e1, e5, hm1]
        exact hK _ _ ⟨i + 1, _, by omega, by simp (maxSteps := 2000000) (disch := first | omega | assumption | exact idP rfl | exact idP (bL rfl)) only [go_sem, reduceIte, Nat.reduceEqDiff, e0], by simp (maxSteps := 2000000) (disch := first | omega | assumption | exact idP rfl | exact idP (bL rfl)) only [go_sem, reduceIte, Nat.reduceEqDiff]; congr 2; omega, by simp (maxSteps := 2000000) (disch := first | omega | assumption | exact idP rfl | exact idP (bL rfl)) only [go_sem, reduceIte, Nat.reduceEqDiff]; rfl, fun q hqb => by simp only [MH.set, if_neg hqb]; exact hq q hqb, set_same, by simp [hl1]⟩ (by simp (maxSteps := 2000000) (disch := first | omega | assumption | exact idP rfl | exact idP (bL rfl)) only [go_sem, reduceIte, Nat.reduceEqDiff, ctrV_int, e5]; omega)
      · obtain rfl : i = n := by omega
        simp (maxSteps := 2000000) (disch := first | omega | assumption | exact idP rfl | exact idP (bL rfl)) only [go_sem, reduceIte, Nat.reduceEqDiff, e1]
        exact hR _ _ ⟨_, rfl, by omega, by omega, fun q hq1 => hq q fun e => hq1 (by rw [e]; exact hok)⟩
end Go.M2

namespace Go.M2
open Go.Proofs
variable {M : MH}
theorem Tr.inv1 {x : V} {l' : List V} {fp : List (Nat × List V)} (h : Tr [x] l' fp) : (l' = [x] ∧ fp = []) ∨ (∃ b o n c ex k cs cs' g, x = .sc (.sl (some (b, o)) n c ex k) ∧ l' = [.fs (some (b, o)) n c ex k (cs'.drop o)] ∧ Tr cs cs' g ∧ fp = (b, cs) :: g) ∨ (∃ a a', l' = [V.agg a'] ∧ x = .agg a) ∨ (∃ a a', l' = [V.tup a'] ∧ x = .tup a) := by
  cases h with
  | keep v h1 => cases h1; exact .inl ⟨rfl, rfl⟩
  | sl h1 h2 => cases h2; exact .inr (.inl ⟨_, _, _, _, _, _, _, _, _, rfl, rfl, h1, by simp⟩)
  | agg h1 h2 => cases h2; exact .inr (.inr (.inl ⟨_, _, rfl, rfl⟩))
  | tup h1 h2 => cases h2; exact .inr (.inr (.inr ⟨_, _, rfl, rfl⟩))
theorem Tr.uncons {x : V} {t l' : List V} {fp : List (Nat × List V)} (h : Tr (x :: t) l' fp) : ∃ x' t' f1 f2, l' = x' :: t' ∧ fp = f1 ++ f2 ∧ Tr [x] [x'] f1 ∧ Tr t t' f2 := by
  obtain ⟨a', b', f1, f2, rfl, rfl, h1, h2⟩ := Tr.split (a := [x]) (b := t) (b' := []) (by simpa using h)
  have := h1.len
  match a', this with
  | [x'], _ => exact ⟨x', b', f1, f2, rfl, rfl, h1, h2⟩
theorem Tr.win {x x' : V} {fp : List (Nat × List V)} {sz : Nat} {α : Type} {E : α → List V → Prop} {ys : List α} (h : Tr [x] [x'] fp) (hf : flat x) (hx : Lc sz E x' ys) :
    (∃ q, x = .sc (.sl none 0 0 true q) ∧ ys = []) ∨ ∃ b o c ex k cs cs' g, x = .sc (.sl (some (b, o)) ys.length c ex k) ∧ Tr cs cs' g ∧ fp = (b, cs) :: g ∧ (0 < ys.length * sz → o + ys.length * sz ≤ cs.length) ∧ ∀ i (hi : i < ys.length), E ys[i] ((cs'.drop (o + i * sz)).take sz) := by
  rcases h.inv1 with ⟨h1, h2⟩ | ⟨b, o, n, c, ex, k, cs, cs', g, rfl, h1, h2, rfl⟩ | ⟨a, a', h1, rfl⟩ | ⟨a, a', h1, rfl⟩
  · rw [List.cons.injEq] at h1
    obtain ⟨rfl, _⟩ := h1
    rcases hx with ⟨rfl, q, rfl⟩ | ⟨A, c, ex, k, zs, rfl, _⟩
    · exact .inl ⟨q, rfl, rfl⟩
    · simp [flat] at hf
  · rw [List.cons.injEq] at h1
    obtain ⟨rfl, _⟩ := h1
    rcases hx with ⟨_, q, h3⟩ | ⟨A, c2, ex2, k2, zs, h3, h4, h5⟩
    · cases h3
    · injection h3 with e1 e2 e3 e4 e5 e6
      subst e2 e6
      refine .inr ⟨b, o, c, ex, k, cs, cs', g, rfl, h2, rfl, ?_, fun i hi => ?_⟩
      · have := h2.len
        rw [List.length_drop] at h4
        intro h0
        omega
      · have := h5 i hi
        simpa [atN, List.drop_drop, Nat.add_comm] using this
  · rw [List.cons.injEq] at h1
    obtain ⟨rfl, _⟩ := h1
    rcases hx with ⟨_, q, h3⟩ | ⟨A, c2, ex2, k2, zs, h3, _⟩ <;> cases h3
  · rw [List.cons.injEq] at h1
    obtain ⟨rfl, _⟩ := h1
    rcases hx with ⟨_, q, h3⟩ | ⟨A, c2, ex2, k2, zs, h3, _⟩ <;> cases h3
theorem ls_lc {α : Type} {E : α → V → Prop} {v : V} {ys : List α} (h : Ls E v ys) : Lc 1 (fun a cs => ∃ u, cs = [u] ∧ E a u) v ys := by
  rcases h with h | ⟨A, c, ex, k, xs, rfl, hl, h⟩
  · exact .inl h
  · refine .inr ⟨A, c, ex, k, xs, rfl, by omega, fun i hi => ?_⟩
    have h2 := h i hi
    have h3 : i < xs.length := by omega
    refine ⟨xs[i], ?_, by simpa [at1, List.getD, h3] using h2⟩
    simp only [atN, Nat.mul_one]
    rw [List.drop_eq_getElem_cons h3, List.take_succ_cons, List.take_zero]
theorem inF_mem {fp : List (Nat × List V)} {p : Nat × List V} (h : p ∈ fp) : inF fp p.1 = true := inF_iff.2 ⟨p.2, h⟩
theorem inF_append {f g : List (Nat × List V)} {q : Nat} : inF (f ++ g) q = (inF f q || inF g q) := by simp [inF]
theorem leaf_of {sz : Nat} {x x' : V} {fp : List (Nat × List V)} {α : Type} {E : α → List V → Prop} {ys : List α} {M : MH} (h : Tr [x] [x'] fp) (hf : flat x) (hx : Lc sz E x' ys) (hs : 0 < sz) (hl : ys.length ≤ 1048576) (hm : ∀ p ∈ fp, M p.1 = some p.2) : LfM sz M x (fun q => inF fp q = true) := by
  rcases h.win hf hx with ⟨q, rfl, _⟩ | ⟨b, o, c, ex, k, cs, cs', g, rfl, h2, rfl, h3, _⟩
  · exact .inl ⟨q, rfl⟩
  · exact .inr ⟨b, o, ys.length, c, ex, k, cs, rfl, hm (b, cs) (List.mem_cons_self ..), fun h0 => h3 (Nat.mul_pos h0 hs), hl, inF_mem (p := (b, cs)) (List.mem_cons_self ..)⟩
theorem nd_hd {b : Nat} {cs : List V} {g : List (Nat × List V)} (h : Nd2 ((b, cs) :: g)) : inF g b = false ∧ Nd2 g := by
  have hn : (b :: g.map (·.1)).Nodup := h
  obtain ⟨n1, n2⟩ := List.nodup_cons.1 hn
  refine ⟨?_, n2⟩
  cases hb : inF g b with
  | false => rfl
  | true =>
    obtain ⟨l, hl⟩ := inF_iff.1 hb
    exact absurd (List.mem_map_of_mem hl) n1
theorem nd_sep {f g : List (Nat × List V)} (h : Nd2 (f ++ g)) {p : Nat × List V} (hp : p ∈ g) : inF f p.1 = false := by
  cases hb : inF f p.1 with
  | false => rfl
  | true =>
    obtain ⟨l, hl⟩ := inF_iff.1 hb
    have h1 := (Nd2.append h).2.2 _ hl
    simp only at h1
    rw [inF_mem hp] at h1; cases h1
theorem take_one {cs : List V} {j : Nat} (h : j < cs.length) : cs.take (j + 1) = cs.take j ++ [cs[j]] := List.take_succ_eq_append_getElem h
theorem t_markTermSS {v v' : V} {fp : List (Nat × List V)} {tss : List (List TermS)} {k : Int} (ht : Tr [v] [v'] fp) (hf : flat v) (hff : ∀ q ∈ fp, flatL q.2) (hv : LTT v' tss) (hn : Nd2 fp) (hm : ∀ p ∈ fp, M p.1 = some p.2) (hl : tss.length ≤ 1048576) (hl2 : ∀ ts ∈ tss, ts.length ≤ 1048576) (hk : 0 ≤ k) (hk2 : k ≤ 8900000000000000000) :
    VCall Tryz.prog n_laws_markTermSS [v, .sc (.int .i64 k)] M (mkPost M k 4398046511104 (fun q => inF fp q = true)) := by
  refine VCall.plain fun R hR => v_laws_markTermSS rfl ?_
  rcases ht.win hf (ls_lc hv) with ⟨q, rfl, rfl⟩ | ⟨b, o, c, ex, kk, cs, cs', g, rfl, h2, rfl, h3, h4⟩
  · simp (maxSteps := 2000000) (disch := first | omega | assumption | exact idP rfl | exact idP (bL rfl)) only [go_sem, reduceIte, Nat.reduceEqDiff]
    refine loop_k (fun e M' => M' = M ∧ e 0 = .sc (.sl none 0 0 true q) ∧ e 1 = .sc (.int .i64 k) ∧ e 5 = .sc (.int .i64 0)) (fun e _ => 0) ⟨rfl, by simp (maxSteps := 2000000) (disch := first | omega | assumption | exact idP rfl | exact idP (bL rfl)) only [go_sem, reduceIte, Nat.reduceEqDiff], by simp (maxSteps := 2000000) (disch := first | omega | assumption | exact idP rfl | exact idP (bL rfl)) only [go_sem, reduceIte, Nat.reduceEqDiff], by simp (maxSteps := 2000000) (disch := first | omega | assumption | exact idP rfl | exact idP (bL rfl)) only [go_sem, reduceIte, Nat.reduceEqDiff]⟩ ?_
    rintro e _ ⟨rfl, e0, e1, e5⟩ K hK
    simp (maxSteps := 2000000) (disch := first | omega | assumption | exact idP rfl | exact idP (bL rfl)) only [go_sem, reduceIte, Nat.reduceEqDiff, e0, e1, e5]
    exact hR _ _ ⟨k, rfl, by omega, by omega, fun q _ => rfl⟩
  · obtain ⟨hbg, hng⟩ := nd_hd hn
    have hmb : M b = some cs := hm (b, cs) (List.mem_cons_self ..)
    have hmg : ∀ p ∈ g, M p.1 = some p.2 := fun p hp => hm p (List.mem_cons_of_mem _ hp)
    have hfc : flatL cs := hff (b, cs) (List.mem_cons_self ..)
    have hgo : ∀ q, inF g q = true → inF ((b, cs) :: g) q = true := fun q hq => by
      obtain ⟨l, hl⟩ := inF_iff.1 hq
      exact inF_iff.2 ⟨l, List.mem_cons_of_mem _ hl⟩
    simp (maxSteps := 2000000) (disch := first | omega | assumption | exact idP rfl | exact idP (bL rfl)) only [go_sem, reduceIte, Nat.reduceEqDiff]
    refine loop_k (fun e M' => ∃ (i : Nat) (k' : Int) (g1 g2 : List (Nat × List V)) (l1 l2 : List V), i ≤ tss.length ∧ e 0 = .sc (.sl (some (b, o)) tss.length c ex kk) ∧ e 1 = .sc (.int .i64 k') ∧ e 5 = .sc (.int .i64 i) ∧ k ≤ k' ∧ k' ≤ k + 4194304 * i ∧ Tr (cs.take (o + i)) l1 g1 ∧ Tr (cs.drop (o + i)) l2 g2 ∧ g = g1 ++ g2 ∧ cs' = l1 ++ l2 ∧ ∀ q, inF g1 q = false → M' q = M q) (fun e _ => ctrV tss.length (e 5)) ?_ ?_
    · obtain ⟨l1, l2, g1, g2, rfl, rfl, h5, h6⟩ := Tr.split (a := cs.take o) (b := cs.drop o) (b' := []) (by rw [List.take_append_drop]; exact h2)
      exact ⟨0, k, g1, g2, l1, l2, by omega, by simp (maxSteps := 2000000) (disch := first | omega | assumption | exact idP rfl | exact idP (bL rfl)) only [go_sem, reduceIte, Nat.reduceEqDiff], by simp (maxSteps := 2000000) (disch := first | omega | assumption | exact idP rfl | exact idP (bL rfl)) only [go_sem, reduceIte, Nat.reduceEqDiff], by simp (maxSteps := 2000000) (disch := first | omega | assumption | exact idP rfl | exact idP (bL rfl)) only [go_sem, reduceIte, Nat.reduceEqDiff]; rfl, by omega, by omega, h5, h6, rfl, rfl, fun _ _ => rfl⟩
    · rintro e M1 ⟨i, k', g1, g2, l1, l2, hi, e0, e1, e5, k1, k2, t1, t2, rfl, rfl, hq⟩ K hK
      simp (maxSteps := 2000000) (disch := first | omega | assumption | exact idP rfl | exact idP (bL rfl)) only [go_sem, reduceIte, Nat.reduceEqDiff, e0, e1, e5]
      refine cond_dec (fun h => ?_) (fun h => ?_)
      · have hi' : i < tss.length := by omega
        have h3 := h3 (by omega)
        have hj : o + i < cs.length := by omega
        have hcx : cs[o + i]? = some cs[o + i] := List.getElem?_eq_getElem hj
        have hcx2 : cs[o + i * 1]? = some cs[o + i] := by rw [Nat.mul_one]; exact hcx
        rw [List.drop_eq_getElem_cons hj] at t2
        obtain ⟨x', r', gx, gr, rfl, rfl, t3, t4⟩ := t2.uncons
        have hl1 : l1.length = o + i := by rw [t1.len, List.length_take]; omega
        obtain ⟨u, h5, h6⟩ := h4 i hi'
        rw [Nat.mul_one, List.drop_left' hl1, List.take_succ_cons, List.take_zero, List.cons.injEq] at h5
        obtain ⟨rfl, _⟩ := h5
        have hb1 : M1 b = some cs := by
          rw [hq b (by rw [inF_append] at hbg; simp only [Bool.or_eq_false_iff] at hbg; exact hbg.1)]; exact hmb
        simp (maxSteps := 2000000) (disch := first | omega | assumption | exact idP rfl | exact idP (bL rfl)) only [go_sem, reduceIte, Nat.reduceEqDiff, e0, e1, e5, hb1, hcx, hcx2]
        refine (t_markTermS (leaf_of t3 (flatL_all.1 hfc _ (List.getElem_mem hj)) h6 (by omega) (hl2 _ (List.getElem_mem hi')) (fun p hp => ?_)) (by omega) (by omega)).mono ?_
        · rw [hq p.1 (nd_sep hng (List.mem_append_left _ hp))]
          exact hmg p (List.mem_append_right _ (List.mem_append_left _ hp))
        · rintro _ M2 ⟨k3, rfl, p1, p2, p3⟩
          simp (maxSteps := 2000000) (disch := first | omega | assumption | exact idP rfl | exact idP (bL rfl)) only [go_sem, reduceIte, Nat.reduceEqDiff, e0, e1, e5]
          refine hK _ _ ⟨i + 1, k3, g1 ++ gx, gr, l1 ++ [x'], r', by omega, by simp (maxSteps := 2000000) (disch := first | omega | assumption | exact idP rfl | exact idP (bL rfl)) only [go_sem, reduceIte, Nat.reduceEqDiff, e0], by simp (maxSteps := 2000000) (disch := first | omega | assumption | exact idP rfl | exact idP (bL rfl)) only [go_sem, reduceIte, Nat.reduceEqDiff], by simp (maxSteps := 2000000) (disch := first | omega | assumption | exact idP rfl | exact idP (bL rfl)) only [go_sem, reduceIte, Nat.reduceEqDiff]; rfl, by omega, by omega, ?_, t4, by simp, by simp, fun q hq2 => ?_⟩ (by simp (maxSteps := 2000000) (disch := first | omega | assumption | exact idP rfl | exact idP (bL rfl)) only [go_sem, reduceIte, Nat.reduceEqDiff, ctrV_int, e5]; omega)
          · rw [← Nat.add_assoc, take_one hj]; exact t1.append t3
          · rw [inF_append, Bool.or_eq_false_iff] at hq2
            rw [p3 q (fun hc => by have hc : inF gx q = true := hc; rw [hq2.2] at hc; cases hc)]
            exact hq q hq2.1
      · obtain rfl : i = tss.length := by omega
        simp (maxSteps := 2000000) (disch := first | omega | assumption | exact idP rfl | exact idP (bL rfl)) only [go_sem, reduceIte, Nat.reduceEqDiff, e1]
        refine hR _ _ ⟨k', rfl, k1, by omega, fun q hq1 => hq q ?_⟩
        cases hc : inF g1 q with
        | false => rfl
        | true => exact absurd (hgo q (by rw [inF_append, hc]; rfl)) hq1
theorem t_markRuleS {v v' : V} {fp : List (Nat × List V)} {rs : List RuleS} {k : Int} (ht : Tr [v] [v'] fp) (hf : flat v) (hff : ∀ q ∈ fp, flatL q.2) (hv : LR v' rs) (hn : Nd2 fp) (hm : ∀ p ∈ fp, M p.1 = some p.2) (hl : rs.length ≤ 1048576) (hl2 : ∀ r ∈ rs, RuleFit r) (hk : 0 ≤ k) (hk2 : k ≤ 4000000000000000000) :
    VCall Tryz.prog n_laws_markRuleS [v, .sc (.int .i64 k)] M (mkPost M k 4700000000000000000 (fun q => inF fp q = true)) := by
  refine VCall.plain fun R hR => v_laws_markRuleS rfl ?_
  rcases ht.win hf hv with ⟨q, rfl, rfl⟩ | ⟨b, o, c, ex, kk, cs, cs', g, rfl, h2, rfl, h3, h4⟩
  · simp (maxSteps := 2000000) (disch := first | omega | assumption | exact idP rfl | exact idP (bL rfl)) only [go_sem, reduceIte, Nat.reduceEqDiff]
    refine loop_k (fun e M' => M' = M ∧ e 0 = .sc (.sl none 0 0 true q) ∧ e 1 = .sc (.int .i64 k) ∧ e 5 = .sc (.int .i64 0)) (fun e _ => 0) ⟨rfl, by simp (maxSteps := 2000000) (disch := first | omega | assumption | exact idP rfl | exact idP (bL rfl)) only [go_sem, reduceIte, Nat.reduceEqDiff], by simp (maxSteps := 2000000) (disch := first | omega | assumption | exact idP rfl | exact idP (bL rfl)) only [go_sem, reduceIte, Nat.reduceEqDiff], by simp (maxSteps := 2000000) (disch := first | omega | assumption | exact idP rfl | exact idP (bL rfl)) only [go_sem, reduceIte, Nat.reduceEqDiff]⟩ ?_
    rintro e _ ⟨rfl, e0, e1, e5⟩ K hK
    simp (maxSteps := 2000000) (disch := first | omega | assumption | exact idP rfl | exact idP (bL rfl)) only [go_sem, reduceIte, Nat.reduceEqDiff, e0, e1, e5]
    exact hR _ _ ⟨k, rfl, by omega, by omega, fun q _ => rfl⟩
  · obtain ⟨hbg, hng⟩ := nd_hd hn
    have hmb : M b = some cs := hm (b, cs) (List.mem_cons_self ..)
    have hmg : ∀ p ∈ g, M p.1 = some p.2 := fun p hp => hm p (List.mem_cons_of_mem _ hp)
    have hfc : flatL cs := hff (b, cs) (List.mem_cons_self ..)
    have hfg : ∀ q ∈ g, flatL q.2 := fun q hq => hff q (List.mem_cons_of_mem _ hq)
    have hgo : ∀ q, inF g q = true → inF ((b, cs) :: g) q = true := fun q hq => by
      obtain ⟨l, hl⟩ := inF_iff.1 hq
      exact inF_iff.2 ⟨l, List.mem_cons_of_mem _ hl⟩
    simp (maxSteps := 2000000) (disch := first | omega | assumption | exact idP rfl | exact idP (bL rfl)) only [go_sem, reduceIte, Nat.reduceEqDiff]
    refine loop_k (fun e M' => ∃ (i : Nat) (k' : Int) (g1 g2 : List (Nat × List V)) (l1 l2 : List V), i ≤ rs.length ∧ e 0 = .sc (.sl (some (b, o)) rs.length c ex kk) ∧ e 1 = .sc (.int .i64 k') ∧ e 5 = .sc (.int .i64 i) ∧ k ≤ k' ∧ k' ≤ k + 4398051753984 * i ∧ Tr (cs.take (o + i * 3)) l1 g1 ∧ Tr (cs.drop (o + i * 3)) l2 g2 ∧ g = g1 ++ g2 ∧ cs' = l1 ++ l2 ∧ ∀ q, inF g1 q = false → M' q = M q) (fun e _ => ctrV rs.length (e 5)) ?_ ?_
    · obtain ⟨l1, l2, g1, g2, rfl, rfl, h5, h6⟩ := Tr.split (a := cs.take o) (b := cs.drop o) (b' := []) (by rw [List.take_append_drop]; exact h2)
      exact ⟨0, k, g1, g2, l1, l2, by omega, by simp (maxSteps := 2000000) (disch := first | omega | assumption | exact idP rfl | exact idP (bL rfl)) only [go_sem, reduceIte, Nat.reduceEqDiff], by simp (maxSteps := 2000000) (disch := first | omega | assumption | exact idP rfl | exact idP (bL rfl)) only [go_sem, reduceIte, Nat.reduceEqDiff], by simp (maxSteps := 2000000) (disch := first | omega | assumption | exact idP rfl | exact idP (bL rfl)) only [go_sem, reduceIte, Nat.reduceEqDiff]; rfl, by omega, by omega, by simpa using h5, by simpa using h6, rfl, rfl, fun _ _ => rfl⟩
    · rintro e M1 ⟨i, k', g1, g2, l1, l2, hi, e0, e1, e5, k1, k2, t1, t2, rfl, rfl, hq⟩ K hK
      simp (maxSteps := 2000000) (disch := first | omega | assumption | exact idP rfl | exact idP (bL rfl)) only [go_sem, reduceIte, Nat.reduceEqDiff, e0, e1, e5]
      refine cond_dec (fun h => ?_) (fun h => ?_)
      · have hi' : i < rs.length := by omega
        have h3 := h3 (by omega)
        have j0 : o + i * 3 < cs.length := by omega
        have j1 : o + i * 3 + 1 < cs.length := by omega
        have j2 : o + i * 3 + 2 < cs.length := by omega
        have c0 : cs[o + i * 3]? = some cs[o + i * 3] := List.getElem?_eq_getElem j0
        have c00 : cs[o + i * 3 + 0]? = some cs[o + i * 3] := c0
        have c1 : cs[o + i * 3 + 1]? = some cs[o + i * 3 + 1] := List.getElem?_eq_getElem j1
        have c2 : cs[o + i * 3 + 2]? = some cs[o + i * 3 + 2] := List.getElem?_eq_getElem j2
        have hfl := hl2 _ (List.getElem_mem hi')
        obtain ⟨f1, f2, f3, f4⟩ := hfl
        rw [List.drop_eq_getElem_cons j0, List.drop_eq_getElem_cons j1, List.drop_eq_getElem_cons j2] at t2
        obtain ⟨x', r1, gx, w1, rfl, rfl, tx, t3⟩ := t2.uncons
        obtain ⟨y', r2, gy, w2, rfl, rfl, ty, t4⟩ := t3.uncons
        obtain ⟨z', r3, gz, w3, rfl, rfl, tz, t5⟩ := t4.uncons
        have hl1 : l1.length = o + i * 3 := by rw [t1.len, List.length_take]; omega
        obtain ⟨u1, u2, u3, h5, hx, hy, hz⟩ := h4 i hi'
        rw [List.drop_left' hl1] at h5
        simp only [List.take_succ_cons, List.take_zero, List.cons.injEq, and_true] at h5
        obtain ⟨rfl, rfl, rfl⟩ := h5
        have sep : ∀ p, p ∈ gx ++ (gy ++ (gz ++ w3)) → inF g1 p.1 = false := fun p hp => nd_sep hng hp
        have hn2 := (Nd2.append hng).2.1
        have hb1 : ∀ M2 : MH, (∀ q, inF (g1 ++ (gx ++ (gy ++ (gz ++ w3)))) q = false → M2 q = M q) → M2 b = some cs := fun M2 hM2 => by rw [hM2 b hbg]; exact hmb
        have i1 : ∀ q, inF (g1 ++ (gx ++ (gy ++ (gz ++ w3)))) q = false → M1 q = M q := fun q hq2 => hq q (by rw [inF_append, Bool.or_eq_false_iff] at hq2; exact hq2.1)
        have b1 := hb1 M1 i1
        simp (maxSteps := 2000000) (disch := first | omega | assumption | exact idP rfl | exact idP (bL rfl)) only [go_sem, reduceIte, Nat.reduceEqDiff, e0, e1, e5, b1, c0, c00, c1, c2]
        refine (t_markTermS (leaf_of tx (flatL_all.1 hfc _ (List.getElem_mem j0)) hx (by omega) f1 (fun p hp => ?_)) (by omega) (by omega)).mono ?_
        · rw [hq p.1 (sep p (List.mem_append_left _ hp))]
          exact hmg p (List.mem_append_right _ (List.mem_append_left _ hp))
        rintro _ M2 ⟨k3, rfl, p1, p2, p3⟩
        have m2 : ∀ q, inF gx q = false → M2 q = M1 q := fun q hq2 => p3 q (fun hc => by have hc : inF gx q = true := hc; rw [hq2] at hc; cases hc)
        have b2 := hb1 M2 fun q hq2 => by
          rw [m2 q (by simp only [inF_append, Bool.or_eq_false_iff] at hq2; exact hq2.2.1)]; exact i1 q hq2
        simp (maxSteps := 2000000) (disch := first | omega | assumption | exact idP rfl | exact idP (bL rfl)) only [go_sem, reduceIte, Nat.reduceEqDiff, e0, e1, e5, b2, c0, c00, c1, c2]
        refine (t_markIntS (leaf_of ty (flatL_all.1 hfc _ (List.getElem_mem j1)) (ls_lc hy) (by omega) f2 (fun p hp => ?_)) (by omega) (by omega)).mono ?_
        · rw [m2 p.1 (nd_sep hn2 (List.mem_append_left _ hp)), hq p.1 (sep p (List.mem_append_right _ (List.mem_append_left _ hp)))]
          exact hmg p (List.mem_append_right _ (List.mem_append_right _ (List.mem_append_left _ hp)))
        rintro _ M3 ⟨k4, rfl, p4, p5, p6⟩
        have m3 : ∀ q, inF gy q = false → M3 q = M2 q := fun q hq2 => p6 q (fun hc => by have hc : inF gy q = true := hc; rw [hq2] at hc; cases hc)
        have b3 := hb1 M3 fun q hq2 => by
          simp only [inF_append, Bool.or_eq_false_iff] at hq2
          rw [m3 q hq2.2.2.1, m2 q hq2.2.1]; exact hq q hq2.1
        simp (maxSteps := 2000000) (disch := first | omega | assumption | exact idP rfl | exact idP (bL rfl)) only [go_sem, reduceIte, Nat.reduceEqDiff, e0, e1, e5, b3, c0, c00, c1, c2]
        have hn3 := (Nd2.append hn2).2.1
        refine (t_markTermSS tz (flatL_all.1 hfc _ (List.getElem_mem j2)) (fun q hq2 => hfg q (List.mem_append_right _ (List.mem_append_right _ (List.mem_append_right _ (List.mem_append_left _ hq2))))) hz (Nd2.append (Nd2.append hn3).2.1).1 (fun p hp => ?_) f3 f4 (by omega) (by omega)).mono ?_
        · rw [m3 p.1 (nd_sep hn3 (List.mem_append_left _ hp)), m2 p.1 (nd_sep hn2 (List.mem_append_right _ (List.mem_append_left _ hp))), hq p.1 (sep p (List.mem_append_right _ (List.mem_append_right _ (List.mem_append_left _ hp))))]
          exact hmg p (List.mem_append_right _ (List.mem_append_right _ (List.mem_append_right _ (List.mem_append_left _ hp))))
        rintro _ M4 ⟨k5, rfl, p7, p8, p9⟩
        have m4 : ∀ q, inF gz q = false → M4 q = M3 q := fun q hq2 => p9 q (fun hc => by have hc : inF gz q = true := hc; rw [hq2] at hc; cases hc)
        simp (maxSteps := 2000000) (disch := first | omega | assumption | exact idP rfl | exact idP (bL rfl)) only [go_sem, reduceIte, Nat.reduceEqDiff, e0, e1, e5]
        refine hK _ _ ⟨i + 1, k5, g1 ++ (gx ++ (gy ++ gz)), w3, l1 ++ [x', y', z'], r3, by omega, by simp (maxSteps := 2000000) (disch := first | omega | assumption | exact idP rfl | exact idP (bL rfl)) only [go_sem, reduceIte, Nat.reduceEqDiff, e0], by simp (maxSteps := 2000000) (disch := first | omega | assumption | exact idP rfl | exact idP (bL rfl)) only [go_sem, reduceIte, Nat.reduceEqDiff], by simp (maxSteps := 2000000) (disch := first | omega | assumption | exact idP rfl | exact idP (bL rfl)) only [go_sem, reduceIte, Nat.reduceEqDiff]; rfl, by omega, by omega, ?_, ?_, by simp, by simp, fun q hq2 => ?_⟩ (by simp (maxSteps := 2000000) (disch := first | omega | assumption | exact idP rfl | exact idP (bL rfl)) only [go_sem, reduceIte, Nat.reduceEqDiff, ctrV_int, e5]; omega)
        · rw [show o + (i + 1) * 3 = o + i * 3 + 1 + 1 + 1 by omega, take_one j2, take_one j1, take_one j0, List.append_assoc, List.append_assoc]
          exact t1.append (tx.append (ty.append tz))
        · rw [show o + (i + 1) * 3 = o + i * 3 + 1 + 1 + 1 by omega]; exact t5
        · simp only [inF_append, Bool.or_eq_false_iff] at hq2
          rw [m4 q hq2.2.2.2, m3 q hq2.2.2.1, m2 q hq2.2.1]
          exact hq q hq2.1
      · obtain rfl : i = rs.length := by omega
        simp (maxSteps := 2000000) (disch := first | omega | assumption | exact idP rfl | exact idP (bL rfl)) only [go_sem, reduceIte, Nat.reduceEqDiff, e1]
        refine hR _ _ ⟨k', rfl, k1, by omega, fun q hq1 => hq q ?_⟩
        cases hc : inF g1 q with
        | false => rfl
        | true => exact absurd (hgo q (by rw [inF_append, hc]; rfl)) hq1
structure OwnS (M0 M : MH) (s : SysS) (x y : V) (x' y' : V) (fp : List (Nat × List V)) : Prop where
  tr : Tr [x, y] [x', y'] fp
  mem : Mem M0 M fp
  fl : flatL [x, y]
  ff : ∀ q ∈ fp, flatL q.2
  lx : LVar x' s.vars
  ly : LR y' s.rules
theorem OwnS.sys {M0 M : MH} {s : SysS} {x y x' y' : V} {fp : List (Nat × List V)} (h : OwnS M0 M s x y x' y' fp) : isSys s (.agg [x', y']) := ⟨x', y', rfl, h.lx, h.ly⟩
theorem o_toSystem {v : V} {s : SysS} (hv : isSysX s v) (hf : SysFit s) : VCall Tryz.prog n_laws_toSystem [v] M (fun r' M' => ∃ x y x' y' fp, r' = .agg [x, y] ∧ One x ∧ One y ∧ OwnS M M' s x y x' y' fp) :=
  (d_toSystem hv hf).mono fun r M' ⟨x, y, h1, h2, h3, l', fp, t1, t2, t3, t4, x', y', h4, h5, h6⟩ => ⟨x, y, x', y', fp, h1, h2, h3, by subst h4; exact ⟨t1, t2, t3, t4, h5, h6⟩⟩
theorem t_markSystem {M0 : MH} {s : SysS} {x y x' y' : V} {fp : List (Nat × List V)} {k : Int} (h : OwnS M0 M s x y x' y' fp) (hf : SysFit s) (hk : 0 ≤ k) (hk2 : k ≤ 3000000000000000000) :
    VCall Tryz.prog n_laws_markSystem [.agg [x, y], .sc (.int .i64 k)] M (fun r M' => ∃ k' : Int, r = .sc (.int .i64 k') ∧ k ≤ k' ∧ k' ≤ 7800000000000000000 ∧ Sub M0 M' ∧ ∀ q l, M q = some l → inF fp q = false → M' q = some l) := by
  refine VCall.plain fun R hR => v_laws_markSystem rfl ?_
  obtain ⟨f1, f2, f3⟩ := hf
  obtain ⟨u1, r1, gx, gr, e1, rfl, tx, t2⟩ := h.tr.uncons
  obtain ⟨u2, r2, gy, gr2, e2, rfl, ty, t3⟩ := t2.uncons
  rw [List.cons.injEq] at e1
  obtain ⟨rfl, rfl⟩ := e1
  rw [List.cons.injEq] at e2
  obtain ⟨rfl, rfl⟩ := e2
  cases t3
  have hfl := h.fl
  simp only [flatL] at hfl
  have hnd := h.mem.nd
  rw [List.append_nil] at hnd
  have hat := h.mem.at_
  have hff := h.ff
  simp only [List.append_nil] at hat hff
  simp (maxSteps := 2000000) (disch := first | omega | assumption | exact idP rfl | exact idP (bL rfl)) only [go_sem, reduceIte, Nat.reduceEqDiff]
  intro b2 hb2
  have hne : ∀ q l, M q = some l → q ≠ b2 := fun q l hq e => by subst e; rw [hb2] at hq; cases hq
  refine (t_markVarS (leaf_of tx hfl.1 h.lx (by omega) f1 (fun p hp => ?_)) hk (by omega)).mono ?_
  · rw [set_ne (hne _ _ (hat p (List.mem_append_left _ hp)))]; exact hat p (List.mem_append_left _ hp)
  rintro _ M2 ⟨k3, rfl, p1, p2, p3⟩
  have m2 : ∀ q, inF gx q = false → M2 q = (M.set b2 [x, y]) q := fun q hq2 => p3 q (fun hc => by have hc : inF gx q = true := hc; rw [hq2] at hc; cases hc)
  have hb2x : inF gx b2 = false := by
    cases hc : inF gx b2 with
    | false => rfl
    | true =>
      obtain ⟨l, hl⟩ := inF_iff.1 hc
      have := hat _ (List.mem_append_left _ hl)
      rw [hb2] at this; cases this
  have q2 : M2 b2 = some [x, y] := by rw [m2 b2 hb2x]; exact set_same
  simp (maxSteps := 2000000) (disch := first | omega | assumption | exact idP rfl | exact idP (bL rfl)) only [go_sem, reduceIte, Nat.reduceEqDiff, q2]
  refine (t_markRuleS ty hfl.2.1 (fun q hq => hff q (List.mem_append_right _ hq)) h.ly (Nd2.append hnd).2.1 (fun p hp => ?_) f2 f3 (by omega) (by omega)).mono ?_
  · rw [m2 p.1 (nd_sep hnd hp), set_ne (hne _ _ (hat p (List.mem_append_right _ hp)))]; exact hat p (List.mem_append_right _ hp)
  rintro _ M3 ⟨k4, rfl, p4, p5, p6⟩
  have m3 : ∀ q, inF gy q = false → M3 q = M2 q := fun q hq2 => p6 q (fun hc => by have hc : inF gy q = true := hc; rw [hq2] at hc; cases hc)
  simp (maxSteps := 2000000) (disch := first | omega | assumption | exact idP rfl | exact idP (bL rfl)) only [go_sem, reduceIte, Nat.reduceEqDiff]
  have keep : ∀ q l, M q = some l → inF (gx ++ gy) q = false → M3 q = some l := fun q l hq hn => by
    rw [inF_append, Bool.or_eq_false_iff] at hn
    rw [m3 q hn.2, m2 q hn.1, set_ne (hne q l hq)]; exact hq
  refine hR _ _ ⟨k4, rfl, by omega, by omega, fun q l hq => keep q l (h.mem.sub q l hq) ?_, fun q l hq hn => keep q l hq (by simpa using hn)⟩
  cases hc : inF (gx ++ gy) q with
  | false => rfl
  | true =>
    obtain ⟨l2, hl⟩ := inF_iff.1 hc
    have := h.mem.new _ (by simpa using hl)
    simp only at this
    rw [this] at hq; cases hq
end Go.M2

namespace Go.M2
open Go.Proofs
variable {M : MH}
theorem Dn.nil1 {k : Nat} : Dn M M (.sc (.sl none 0 0 true k)) (fun u => LI u []) := ⟨_, [], .refl _, .nil (Sub.refl _), by simp [flat], fun q hq => (by cases hq), .nil⟩
theorem Gr.dnI {M' : MH} {v : V} {ys : List Int} (h : Gr 1 M M' v (ys.map vi)) : Dn M M' v (fun u => LI u ys) := h.dn (flatL_vi ys) fun u hu => hu.li
def Hd (M : MH) (v : V) (n : Nat) (k : Int) : Prop := (n = 0 ∧ ∃ q, v = .sc (.sl none 0 0 true q)) ∨ ∃ b o c ex kk l, v = .sc (.sl (some (b, o)) n c ex kk) ∧ M b = some l ∧ ∀ i, i < n → l[o + i]? = some (.sc (.int .i64 (k + i)))
theorem t_heldIntS {v : V} {n : Nat} {k : Int} (hv : Hd M v n k) (hn : n ≤ 1048576) (hk : 0 ≤ k) (hk2 : k ≤ 9000000000000000000) : VCall Tryz.prog n_laws_heldIntS [v, .sc (.int .i64 k)] M (fun r M' => M = M' ∧ r = .sc (.int .i64 (k + n))) := by
  refine VCall.pure fun R hR => v_laws_heldIntS rfl ?_
  rcases hv with ⟨rfl, q, rfl⟩ | ⟨b, o, c, ex, kk, l, rfl, hm, hl⟩
  · simp (maxSteps := 2000000) (disch := first | omega | assumption | exact idP rfl | exact idP (bL rfl)) only [go_sem, reduceIte, Nat.reduceEqDiff]
    refine loop_k (fun e M' => M' = M ∧ e 0 = .sc (.sl none 0 0 true q) ∧ e 1 = .sc (.int .i64 k) ∧ e 5 = .sc (.int .i64 0)) (fun e _ => 0) ⟨rfl, by simp (maxSteps := 2000000) (disch := first | omega | assumption | exact idP rfl | exact idP (bL rfl)) only [go_sem, reduceIte, Nat.reduceEqDiff], by simp (maxSteps := 2000000) (disch := first | omega | assumption | exact idP rfl | exact idP (bL rfl)) only [go_sem, reduceIte, Nat.reduceEqDiff], by simp (maxSteps := 2000000) (disch := first | omega | assumption | exact idP rfl | exact idP (bL rfl)) only [go_sem, reduceIte, Nat.reduceEqDiff]⟩ ?_
    rintro e _ ⟨rfl, e0, e1, e5⟩ K hK
    simp (maxSteps := 2000000) (disch := first | omega | assumption | exact idP rfl | exact idP (bL rfl)) only [go_sem, reduceIte, Nat.reduceEqDiff, e0, e1, e5]
    exact hR _ _ (by (repeat (first | exact Sub.refl _ | assumption | (refine Sub.set' ?_ (by assumption))))) (by rw [Int.natCast_zero, Int.add_zero]; rfl)
  · simp (maxSteps := 2000000) (disch := first | omega | assumption | exact idP rfl | exact idP (bL rfl)) only [go_sem, reduceIte, Nat.reduceEqDiff]
    refine loop_k (fun e M' => M' = M ∧ ∃ i : Nat, i ≤ n ∧ e 0 = .sc (.sl (some (b, o)) n c ex kk) ∧ e 1 = .sc (.int .i64 (k + i)) ∧ e 5 = .sc (.int .i64 i)) (fun e _ => ctrV n (e 5)) ?_ ?_
    · exact ⟨rfl, 0, by omega, by simp (maxSteps := 2000000) (disch := first | omega | assumption | exact idP rfl | exact idP (bL rfl)) only [go_sem, reduceIte, Nat.reduceEqDiff], by simp (maxSteps := 2000000) (disch := first | omega | assumption | exact idP rfl | exact idP (bL rfl)) only [go_sem, reduceIte, Nat.reduceEqDiff]; simp, by simp (maxSteps := 2000000) (disch := first | omega | assumption | exact idP rfl | exact idP (bL rfl)) only [go_sem, reduceIte, Nat.reduceEqDiff]; rfl⟩
    · rintro e _ ⟨rfl, i, hi, e0, e1, e5⟩ K hK
      simp (maxSteps := 2000000) (disch := first | omega | assumption | exact idP rfl | exact idP (bL rfl)) only [go_sem, reduceIte, Nat.reduceEqDiff, e0, e1, e5]
      refine cond_dec (fun h => ?_) (fun h => ?_)
      · have h1 := hl i (by omega)
        have h2 : l[o + i * 1]? = some (.sc (.int .i64 (k + i))) := by rw [Nat.mul_one]; exact h1
        (repeat' (first | ((first | with_reducible refine cond_dec (fun h => ?_) (fun h => ?_) | with_reducible refine guardK_dec (fun h => ?_) (fun h => ?_) | with_reducible refine guardD3_dec (fun h => ?_) (fun h => ?_)) <;> first | (exfalso; omega) | (simp (maxSteps := 2000000) (disch := first | omega | assumption | exact idP rfl | exact idP (bL rfl)) only [go_sem, reduceIte, Nat.reduceEqDiff, h, e0, e1, e5, hm, h1, h2]) | skip) | ((first | with_reducible refine cond_split (fun h => ?_) (fun h => ?_) | with_reducible refine guardK_split (fun h => ?_) (fun h => ?_) | with_reducible refine guardD3_split (fun h => ?_) (fun h => ?_)) <;> ((try simp only [Bool.not_eq_true', Bool.not_eq_false'] at h); first | (simp (maxSteps := 2000000) (disch := first | omega | assumption | exact idP rfl | exact idP (bL rfl)) only [go_sem, reduceIte, Nat.reduceEqDiff, h, e0, e1, e5, hm, h1, h2]) | skip)) | (with_reducible intro bk hbk; try have hnk := (fresh_set hbk).1) | (simp (maxSteps := 2000000) (disch := first | omega | assumption | exact idP rfl | exact idP (bL rfl)) only [go_sem, reduceIte, Nat.reduceEqDiff, e0, e1, e5, hm, h1, h2])))
        exact hK _ _ ⟨rfl, i + 1, by omega, by simp (maxSteps := 2000000) (disch := first | omega | assumption | exact idP rfl | exact idP (bL rfl)) only [go_sem, reduceIte, Nat.reduceEqDiff, e0], by simp (maxSteps := 2000000) (disch := first | omega | assumption | exact idP rfl | exact idP (bL rfl)) only [go_sem, reduceIte, Nat.reduceEqDiff, e1]; rw [Int.natCast_add, Int.add_assoc]; rfl, by simp (maxSteps := 2000000) (disch := first | omega | assumption | exact idP rfl | exact idP (bL rfl)) only [go_sem, reduceIte, Nat.reduceEqDiff, e5]; rfl⟩ (by simp (maxSteps := 2000000) (disch := first | omega | assumption | exact idP rfl | exact idP (bL rfl)) only [go_sem, reduceIte, Nat.reduceEqDiff, ctrV_int, e5]; omega)
      · obtain rfl : i = n := by omega
        simp (maxSteps := 2000000) (disch := first | omega | assumption | exact idP rfl | exact idP (bL rfl)) only [go_sem, reduceIte, Nat.reduceEqDiff, e1]
        exact hR _ _ (by (repeat (first | exact Sub.refl _ | assumption | (refine Sub.set' ?_ (by assumption))))) rfl
theorem t_markR {v v' : V} {fp : List (Nat × List V)} {ys : List Int} (ht : Tr [v] [v'] fp) (hf : flat v) (hv : LI v' ys) (hm : ∀ p ∈ fp, M p.1 = some p.2) (hl : ys.length ≤ 1048576) :
    VCall Tryz.prog n_laws_markIntS [v, .sc (.int .i64 1)] M (fun r M' => r = .sc (.int .i64 (1 + ys.length)) ∧ Hd M' v ys.length 1 ∧ ∀ q, inF fp q = false → M' q = M q) := by
  refine VCall.plain fun R hR => v_laws_markIntS rfl ?_
  rcases ht.win hf (ls_lc hv) with ⟨q, rfl, rfl⟩ | ⟨b, o, c, ex, kk, cs, cs', g, rfl, h2, rfl, h3, h4⟩
  · simp (maxSteps := 2000000) (disch := first | omega | assumption | exact idP rfl | exact idP (bL rfl)) only [go_sem, reduceIte, Nat.reduceEqDiff]
    refine loop_k (fun e M' => M' = M ∧ e 0 = .sc (.sl none 0 0 true q) ∧ e 1 = .sc (.int .i64 1) ∧ e 5 = .sc (.int .i64 0)) (fun e _ => 0) ⟨rfl, by simp (maxSteps := 2000000) (disch := first | omega | assumption | exact idP rfl | exact idP (bL rfl)) only [go_sem, reduceIte, Nat.reduceEqDiff], by simp (maxSteps := 2000000) (disch := first | omega | assumption | exact idP rfl | exact idP (bL rfl)) only [go_sem, reduceIte, Nat.reduceEqDiff], by simp (maxSteps := 2000000) (disch := first | omega | assumption | exact idP rfl | exact idP (bL rfl)) only [go_sem, reduceIte, Nat.reduceEqDiff]⟩ ?_
    rintro e _ ⟨rfl, e0, e1, e5⟩ K hK
    simp (maxSteps := 2000000) (disch := first | omega | assumption | exact idP rfl | exact idP (bL rfl)) only [go_sem, reduceIte, Nat.reduceEqDiff, e0, e1, e5]
    exact hR _ _ ⟨rfl, .inl ⟨rfl, q, rfl⟩, fun q _ => rfl⟩
  · have hmb : M b = some cs := hm (b, cs) (List.mem_cons_self ..)
    simp (maxSteps := 2000000) (disch := first | omega | assumption | exact idP rfl | exact idP (bL rfl)) only [go_sem, reduceIte, Nat.reduceEqDiff]
    refine loop_k (fun e M' => ∃ (i : Nat) (l' : List V), i ≤ ys.length ∧ e 0 = .sc (.sl (some (b, o)) ys.length c ex kk) ∧ e 1 = .sc (.int .i64 (1 + i)) ∧ e 5 = .sc (.int .i64 i) ∧ (∀ q, q ≠ b → M' q = M q) ∧ M' b = some l' ∧ l'.length = cs.length ∧ ∀ j, j < i → l'[o + j]? = some (.sc (.int .i64 (1 + j)))) (fun e _ => ctrV ys.length (e 5)) ?_ ?_
    · exact ⟨0, cs, by omega, by simp (maxSteps := 2000000) (disch := first | omega | assumption | exact idP rfl | exact idP (bL rfl)) only [go_sem, reduceIte, Nat.reduceEqDiff], by simp (maxSteps := 2000000) (disch := first | omega | assumption | exact idP rfl | exact idP (bL rfl)) only [go_sem, reduceIte, Nat.reduceEqDiff]; simp, by simp (maxSteps := 2000000) (disch := first | omega | assumption | exact idP rfl | exact idP (bL rfl)) only [go_sem, reduceIte, Nat.reduceEqDiff]; rfl, fun _ _ => rfl, hmb, rfl, fun j hj => by omega⟩
    · rintro e M1 ⟨i, l', hi, e0, e1, e5, hq, hm1, hl1, hj⟩ K hK
      simp (maxSteps := 2000000) (disch := first | omega | assumption | exact idP rfl | exact idP (bL rfl)) only [go_sem, reduceIte, Nat.reduceEqDiff, e0, e1, e5]
      refine cond_dec (fun h => ?_) (fun h => ?_)
      · have h3 := h3 (by omega)
        have hso : o + i * 1 < l'.length := by omega
        have hso2 : o + i < l'.length := by omega
        simp (maxSteps := 2000000) (disch := first | omega | assumption | exact idP rfl | exact idP (bL rfl)) only [go_sem, reduceIte, Nat.reduceEqDiff, e0, e1, e5, hm1]
        refine hK _ _ ⟨i + 1, l'.set (o + i) (.sc (.int .i64 (1 + i))), by omega, by simp (maxSteps := 2000000) (disch := first | omega | assumption | exact idP rfl | exact idP (bL rfl)) only [go_sem, reduceIte, Nat.reduceEqDiff, e0], by simp (maxSteps := 2000000) (disch := first | omega | assumption | exact idP rfl | exact idP (bL rfl)) only [go_sem, reduceIte, Nat.reduceEqDiff]; rw [Int.natCast_add, Int.add_assoc]; rfl, by simp (maxSteps := 2000000) (disch := first | omega | assumption | exact idP rfl | exact idP (bL rfl)) only [go_sem, reduceIte, Nat.reduceEqDiff]; rfl, fun q hqb => by rw [set_ne hqb]; exact hq q hqb, by rw [set_same], by simp [hl1], fun j hj2 => ?_⟩ (by simp (maxSteps := 2000000) (disch := first | omega | assumption | exact idP rfl | exact idP (bL rfl)) only [go_sem, reduceIte, Nat.reduceEqDiff, ctrV_int, e5]; omega)
        by_cases e : j = i
        · subst e; rw [List.getElem?_set_self (by omega)]
        · rw [List.getElem?_set_ne (by omega)]; exact hj j (by omega)
      · obtain rfl : i = ys.length := by omega
        simp (maxSteps := 2000000) (disch := first | omega | assumption | exact idP rfl | exact idP (bL rfl)) only [go_sem, reduceIte, Nat.reduceEqDiff, e1]
        refine hR _ _ ⟨rfl, .inr ⟨b, o, c, ex, kk, l', rfl, hm1, hj⟩, fun q hq1 => hq q fun e => ?_⟩
        rw [e] at hq1
        have := inF_mem (fp := (b, cs) :: g) (p := (b, cs)) (List.mem_cons_self ..)
        simp only at this
        rw [this] at hq1; cases hq1
end Go.M2

namespace Go.M2
open Go.Proofs
variable {M : MH}
theorem flat_bool {b : Bool} : ∀ r : V, r = .sc (.bool b) → flat r := fun r h => by subst h; simp [flat]
theorem l_eqIntS {v v' w : V} {fp : List (Nat × List V)} {xs : List Int} (ht : Tr [v] [v'] fp) (hv : LI v' xs) (hm : ∀ p ∈ fp, M p.1 = some p.2) (hn : Nd2 fp) (hw : LI w xs) (hl : xs.length ≤ 1048576) : VCall Tryz.prog n_laws_eqIntS [v, w] M (fun r M' => M = M' ∧ r = .sc (.bool true)) := by
  have h2 : Tr [v, w] [v', w] (fp ++ []) := ht.append (.keep w .nil)
  rw [List.append_nil] at h2
  refine VCall.lendP h2 hm hn flat_bool fun M' => (x_eqIntS hv hw hl).mono fun r M'' ⟨h3, h4⟩ => ⟨h3, by rw [h4]; simp⟩
theorem OwnS.more {M0 M M' : MH} {s : SysS} {x y x' y' : V} {fp : List (Nat × List V)} (h : OwnS M0 M s x y x' y' fp) (hs : Sub M M') : OwnS M0 M' s x y x' y' fp := ⟨h.tr, h.mem.more hs, h.fl, h.ff, h.lx, h.ly⟩
theorem OwnS.arg {M0 M : MH} {s : SysS} {x y x' y' : V} {fp : List (Nat × List V)} (h : OwnS M0 M s x y x' y' fp) : Tr [.agg [x, y]] [.agg [x', y']] fp := by
  have := Tr.agg h.tr Tr.nil
  rwa [List.append_nil] at this
theorem l_eqSystem {M0 : MH} {s : SysS} {x y x' y' w : V} {fp : List (Nat × List V)} (h : OwnS M0 M s x y x' y' fp) (hw : isSys s w) (hf : SysFit s) : VCall Tryz.prog n_laws_eqSystem [.agg [x, y], w] M (fun r M' => M = M' ∧ r = .sc (.bool true)) := by
  have h2 : Tr [.agg [x, y], w] [.agg [x', y'], w] (fp ++ []) := h.arg.append (.keep w .nil)
  rw [List.append_nil] at h2
  exact VCall.lendP h2 h.mem.at_ h.mem.nd flat_bool fun M' => x_eqSystem h.sys hw hf
end Go.M2

namespace Go.M2
open Go.Proofs
variable {M : MH}
theorem u_and {n : Nat} (h : n ≤ 400) : binF .and (.int .u64 (n : Int)) (.int .u64 4294967295) = some (.int .u64 (n : Int)) := by
  have key : ∀ n : Fin 401, IntKind.u64.wrap ((BitVec.ofInt IntKind.u64.bits ((n.val : Nat) : Int)) &&& (BitVec.ofInt IntKind.u64.bits 4294967295)).toNat = ((n.val : Nat) : Int) := by decide +kernel
  have := key ⟨n, by omega⟩
  simp only [binF, isSh, intBin, Bool.false_eq_true, if_false, if_true]
  simp only at this
  rw [this]
theorem u_shr {n : Nat} (h : n ≤ 400) : binF .shr (.int .u64 (n : Int)) (.int .u64 32) = some (.int .u64 0) := by
  have key : ∀ n : Fin 401, Int.fdiv ((n.val : Nat) : Int) (2 ^ (min (32 : Int).toNat IntKind.u64.bits)) = 0 := by decide +kernel
  have := key ⟨n, by omega⟩
  simp only [binF, isSh, shF, if_true]
  simp only at this
  rw [this, if_neg (by omega)]
theorem u_wrap {n : Nat} (h : n ≤ 400) : IntKind.u64.wrap (n : Int) = (n : Int) := by
  have key : ∀ n : Fin 401, IntKind.u64.wrap ((n.val : Nat) : Int) = ((n.val : Nat) : Int) := by decide +kernel
  exact key ⟨n, by omega⟩
theorem t_Mul64 {n : Nat} (h : n ≤ 400) : VCall Tryz.prog n_math_bits_Mul64 [.sc (.int .u64 1), .sc (.int .u64 (n : Int))] M (fun r M' => M = M' ∧ r = .tup [.sc (.int .u64 0), .sc (.int .u64 (n : Int))]) := by
  refine VCall.pure fun R hR => v_math_bits_Mul64 rfl ?_
  have a1 : binF .and (.int .u64 1) (.int .u64 4294967295) = some (.int .u64 1) := u_and (n := 1) (by omega)
  have s1 : binF .shr (.int .u64 1) (.int .u64 32) = some (.int .u64 0) := u_shr (n := 1) (by omega)
  have a0 : binF .and (.int .u64 0) (.int .u64 4294967295) = some (.int .u64 0) := u_and (n := 0) (by omega)
  have s0 : binF .shr (.int .u64 0) (.int .u64 32) = some (.int .u64 0) := u_shr (n := 0) (by omega)
  have an := u_and h
  have sn := u_shr h
  have w0 : IntKind.u64.wrap 0 = 0 := u_wrap (n := 0) (by omega)
  have wn := u_wrap h
  simp (maxSteps := 2000000) (disch := first | omega | assumption | exact idP rfl | exact idP (bL rfl)) only [go_sem, reduceIte, Nat.reduceEqDiff, a1, s1, a0, s0, an, sn, w0, wn, Int.one_mul, Int.zero_mul, Int.mul_zero, Int.add_zero, Int.zero_add]
  exact hR _ _ (by (repeat (first | exact Sub.refl _ | assumption | (refine Sub.set' ?_ (by assumption))))) rfl
theorem t_Mul {n : Nat} (h : n ≤ 400) : VCall Tryz.prog n_math_bits_Mul [.sc (.int .u64 1), .sc (.int .u64 (n : Int))] M (fun r M' => M = M' ∧ r = .tup [.sc (.int .u64 0), .sc (.int .u64 (n : Int))]) := by
  refine VCall.pure fun R hR => v_math_bits_Mul rfl ?_
  simp (maxSteps := 2000000) (disch := first | omega | assumption | exact idP rfl | exact idP (bL rfl)) only [go_sem, reduceIte, Nat.reduceEqDiff]
  refine (t_Mul64 h).mono ?_
  rintro _ _ ⟨rfl, rfl⟩
  simp (maxSteps := 2000000) (disch := first | omega | assumption | exact idP rfl | exact idP (bL rfl)) only [go_sem, reduceIte, Nat.reduceEqDiff]
  exact hR _ _ (by (repeat (first | exact Sub.refl _ | assumption | (refine Sub.set' ?_ (by assumption))))) rfl
theorem t_Repeat {v : V} {x : Int} {n : Nat} (hv : LI v [x]) (h1 : 1 ≤ n) (h : n ≤ 400) : VCall Tryz.prog n_slices_Repeat_Sint_int [v, .sc (.int .i64 (n : Int))] M (fun r M' => Gr 1 M M' r ((List.replicate n x).map vi)) := by
  refine VCall.plain fun R hR => v_slices_Repeat_Sint_int rfl ?_
  have hlen : lenF (er v) = some (.int .i64 1) := hv.len
  have w1 : IntKind.u64.wrap 1 = 1 := u_wrap (n := 1) (by omega)
  have wn := u_wrap h
  have hneg : ¬ (n : Int) < 0 := by omega
  simp (maxSteps := 2000000) (disch := first | omega | assumption | exact idP rfl | exact idP (bL rfl)) only [go_sem, reduceIte, Nat.reduceEqDiff, hneg, hlen, w1, wn]
  refine (t_Mul h).mono ?_
  rintro _ _ ⟨rfl, rfl⟩
  have hbig : ¬ (9223372036854775807 : Int) < (n : Int) := by omega
  have hz0 : ¬ (0 : Int) < 0 := by omega
  simp (maxSteps := 2000000) (disch := first | omega | assumption | exact idP rfl | exact idP (bL rfl)) only [go_sem, reduceIte, Nat.reduceEqDiff, hbig, hz0]
  refine mks3 (by omega) (by simp [mostCells]; omega) (by simp [mostCells]; omega) ?_
  intro b7 hb7
  have hcs := LI.cells (M := M.set b7 ((zeros [AV.int .i64 0] n).map V.sc)) hv
  simp only [List.length_singleton, Nat.one_mul, List.map_cons, List.map_nil] at hcs
  have hls : lenS v = some 1 := hv.lenS
  simp (maxSteps := 2000000) (disch := first | omega | assumption | exact idP rfl | exact idP (bL rfl)) only [go_sem, reduceIte, Nat.reduceEqDiff]
  simp only [copyV, hls, Nat.min_eq_left h1, Nat.mul_one, hcs]
  rw [if_neg (by omega)]
  simp only [set_same]
  refine ⟨by simp [vi, oneV, er, oneA], by rw [zeros_vi]; simp; omega, ?_⟩
  have e1 : setAtG ((zeros [AV.int .i64 0] n).map V.sc) 0 [vi x] = (List.replicate 1 x ++ List.replicate (n - 1) 0).map vi := by
    obtain ⟨q, rfl⟩ : ∃ q, n = q + 1 := ⟨n - 1, by omega⟩
    rw [zeros_vi, List.replicate_succ]
    simp [setAtG]
  rw [e1]
  simp (maxSteps := 2000000) (disch := first | omega | assumption | exact idP rfl | exact idP (bL rfl)) only [go_sem, reduceIte, Nat.reduceEqDiff]
  refine loop_g (fun k e M' => ∃ m : Nat, 1 ≤ m ∧ m ≤ n ∧ n - m = k ∧ e 7 = .sc (.sl (some (b7, 0)) n n true 1) ∧ e 8 = .sc (.int .i64 m) ∧ Sub M M' ∧ M' b7 = some ((List.replicate m x ++ List.replicate (n - m) 0).map vi)) (n - 1) ?_ ?_
  · exact ⟨1, by omega, by omega, rfl, by simp (maxSteps := 2000000) (disch := first | omega | assumption | exact idP rfl | exact idP (bL rfl)) only [go_sem, reduceIte, Nat.reduceEqDiff], by simp (maxSteps := 2000000) (disch := first | omega | assumption | exact idP rfl | exact idP (bL rfl)) only [go_sem, reduceIte, Nat.reduceEqDiff] <;> rfl, (Sub.refl M).set' hb7, set_same⟩
  · rintro k e M1 ⟨m, m1, m2, rfl, e7, e8, hsub, hm⟩ K hK
    simp (maxSteps := 2000000) (disch := first | omega | assumption | exact idP rfl | exact idP (bL rfl)) only [go_sem, reduceIte, Nat.reduceEqDiff, e7, e8]
    refine cond_dec (fun hc => ?_) (fun hc => ?_)
    · have hmn : m < n := by omega
      have s1 : slcV 1 (some (.int .i64 (m : Int))) none none (.sc (.sl (some (b7, 0)) n n true 1)) = some (.sc (.sl (some (b7, m)) (n - m) (n - m) true 1)) := by
        have hle : (m : Int) ≤ (n : Int) := by omega
        simp only [slcV, slcF, bnds, natIn, Option.isSome_none, Bool.false_eq_true, if_false, hle, and_true, Int.natCast_nonneg, if_true, Int.toNat_natCast]
        rw [if_neg (by simp)]
        simp [show ¬ n = m by omega]
      have s2 : slcV 1 none (some (.int .i64 (m : Int))) none (.sc (.sl (some (b7, 0)) n n true 1)) = some (.sc (.sl (some (b7, 0)) m n true 1)) := by
        have hle : (m : Int) ≤ (n : Int) := by omega
        simp only [slcV, slcF, bnds, natIn, Option.isSome_none, Bool.false_eq_true, if_false, hle, and_true, Int.natCast_nonneg, if_true, Int.toNat_natCast]
        rw [if_neg (by simp)]
        simp
      simp (maxSteps := 2000000) (disch := first | omega | assumption | exact idP rfl | exact idP (bL rfl)) only [go_sem, reduceIte, Nat.reduceEqDiff, e7, e8, s1, s2]
      obtain ⟨c, hc⟩ : ∃ c, min m (n - m) = c := ⟨_, rfl⟩
      have hc1 : 1 ≤ c := by omega
      have hcm : c ≤ m := by omega
      have hcn : c ≤ n - m := by omega
      have htk : (((List.replicate m x ++ List.replicate (n - m) (0 : Int)).map vi).drop 0).take c = (List.replicate c x).map vi := by
        rw [List.drop_zero, ← List.map_take, List.take_append_of_le_length (by simp; omega), List.take_replicate, Nat.min_eq_left hcm]
      refine copy_own hm hm hc (by omega) (by simp; omega) (by simp; omega) (by rw [htk]; simp [vi, oneV, er, oneA]) ?_
      rw [htk]
      have hset : setAtG ((List.replicate m x ++ List.replicate (n - m) (0 : Int)).map vi) m ((List.replicate c x).map vi) = (List.replicate (m + c) x ++ List.replicate (n - (m + c)) 0).map vi := by
        rw [setAtG_mid _ _ _ (by simp; omega)]
        simp only [← List.map_take, ← List.map_drop, ← List.map_append]
        congr 1
        rw [List.take_left' (by simp), List.length_map, List.length_replicate, List.drop_append, List.length_replicate, List.drop_eq_nil_of_le (by simp <;> omega), List.nil_append, List.drop_replicate, List.replicate_append_replicate]
        congr 2; omega
      rw [hset]
      simp (maxSteps := 2000000) (disch := first | omega | assumption | exact idP rfl | exact idP (bL rfl)) only [go_sem, reduceIte, Nat.reduceEqDiff, e7, e8]
      exact hK (n - (m + c)) _ _ (by omega) ⟨m + c, by omega, by omega, rfl, by simp (maxSteps := 2000000) (disch := first | omega | assumption | exact idP rfl | exact idP (bL rfl)) only [go_sem, reduceIte, Nat.reduceEqDiff, e7], by simp (maxSteps := 2000000) (disch := first | omega | assumption | exact idP rfl | exact idP (bL rfl)) only [go_sem, reduceIte, Nat.reduceEqDiff]; rw [Int.natCast_add], hsub.set hb7, set_same⟩
    · obtain rfl : m = n := by omega
      rw [Nat.sub_self, List.replicate_zero, List.append_nil] at hm
      simp (maxSteps := 2000000) (disch := first | omega | assumption | exact idP rfl | exact idP (bL rfl)) only [go_sem, reduceIte, Nat.reduceEqDiff, e7]
      exact hR _ _ ⟨hsub, fun b' h' => by simp [blkV] at h'; subst h'; exact hb7, .inr ⟨b7, m, true, rfl, hm, by simp⟩⟩
end Go.M2

namespace Go.M2
open Go.Proofs
variable {M : MH}
structure SO (tab : List (List Int)) (N : Nat) (st : Nat → Prop) (f : Nat → Int) (row : List Int) : Prop where
  a : ∀ i, 0 ≤ f i → i < N ∧ f i = dst tab st i
  m : ∀ i, f i < 0 → f i = -1
  b : ∀ i, st i → 0 ≤ f i
  c : ∀ x ∈ row, 0 ≤ x ∧ 0 ≤ f x.toNat
  d : ∀ i : Nat, 0 ≤ f i → ¬ (i : Int) ∈ row → ∀ y ∈ tab.getD i [], 0 ≤ f y.toNat
  srt : row.Pairwise fun x y => f x.toNat ≤ f y.toNat
  up : ∀ x t, row = x :: t → ∀ z ∈ t, f z.toNat ≤ f x.toNat + 1
structure SI (tab : List (List Int)) (N : Nat) (st : Nat → Prop) (f : Nat → Int) (row : List Int) (n j : Nat) : Prop where
  a : ∀ i, 0 ≤ f i → i < N ∧ f i = dst tab st i
  m : ∀ i, f i < 0 → f i = -1
  b : ∀ i, st i → 0 ≤ f i
  c : ∀ x ∈ row, 0 ≤ x ∧ 0 ≤ f x.toNat
  d : ∀ i : Nat, 0 ≤ f i → ¬ (i : Int) ∈ row → i ≠ n → ∀ y ∈ tab.getD i [], 0 ≤ f y.toNat
  e : ∀ y ∈ (tab.getD n []).take j, 0 ≤ f y.toNat
  n_ : 0 ≤ f n
  srt : row.Pairwise fun x y => f x.toNat ≤ f y.toNat
  lo : ∀ z ∈ row, f n ≤ f z.toNat
  up : ∀ z ∈ row, f z.toNat ≤ f n + 1
section
variable {tab : List (List Int)} {N : Nat} {st : Nat → Prop} {f : Nat → Int} {row : List Int} {n j : Nat} {x : Int}
theorem SO.pop (h : SO tab N st f (x :: row)) : SI tab N st f row x.toNat 0 := by
  obtain ⟨hx0, hx1⟩ := h.c x (List.mem_cons_self ..)
  obtain ⟨s1, s2⟩ := List.pairwise_cons.1 h.srt
  refine ⟨h.a, h.m, h.b, fun y hy => h.c y (List.mem_cons_of_mem _ hy), fun i hi hr hn => h.d i hi fun hm => ?_, fun y hy => by simp at hy, hx1, s2, s1, h.up x row rfl⟩
  rcases List.mem_cons.1 hm with h1 | h1
  · omega
  · exact hr h1
theorem SI.done (h : SI tab N st f row n j) (hj : (tab.getD n []).length ≤ j) : SO tab N st f row := by
  refine ⟨h.a, h.m, h.b, h.c, fun i hi hr => ?_, h.srt, fun y t ht z hz => ?_⟩
  · by_cases e : i = n
    · subst e
      have := h.e
      rwa [List.take_of_length_le hj] at this
    · exact h.d i hi hr e
  · have h1 := h.up z (by rw [ht]; exact List.mem_cons_of_mem _ hz)
    have h2 := h.lo y (by rw [ht]; exact List.mem_cons_self ..)
    omega
theorem SI.skip (h : SI tab N st f row n j) (hj : j < (tab.getD n []).length) (hm : 0 ≤ f (tab.getD n [])[j].toNat) : SI tab N st f row n (j + 1) := by
  refine ⟨h.a, h.m, h.b, h.c, h.d, fun y hy => ?_, h.n_, h.srt, h.lo, h.up⟩
  rw [take_snoc hj, List.mem_append, List.mem_singleton] at hy
  rcases hy with h1 | rfl
  · exact h.e y h1
  · exact hm
theorem SI.near (h : SI tab N st f row n j) : ∀ (k : Nat) (i : Nat), dst tab st i = (k : Int) → (k : Int) ≤ f n → 0 ≤ f i := by
  intro k
  induction k with
  | zero => exact fun i hi _ => h.b i (dst_zero.1 hi)
  | succ k ih =>
    intro i hi hk
    obtain ⟨p, y, hp, hy, rfl⟩ := dst_pred hi
    have h1 := ih p hp (by omega)
    have h2 := (h.a p h1).2
    exact h.d p h1 (fun hr => by have := h.lo _ hr; simp only [Int.toNat_natCast] at this; omega) (fun e => by subst e; omega) y hy
theorem SI.push (h : SI tab N st f row n j) (hj : j < (tab.getD n []).length) (h0 : 0 ≤ (tab.getD n [])[j]) (hN : (tab.getD n [])[j].toNat < N) (hneg : f (tab.getD n [])[j].toNat < 0) :
    SI tab N st (fun i => if i = (tab.getD n [])[j].toNat then f n + 1 else f i) (row ++ [(tab.getD n [])[j]]) n (j + 1) := by
  generalize hy : (tab.getD n [])[j] = y at *
  have hmem : y ∈ tab.getD n [] := by rw [← hy]; exact List.getElem_mem hj
  obtain ⟨hn1, hn2⟩ := h.a n h.n_
  obtain ⟨d, hd⟩ : ∃ d : Nat, f n = (d : Int) := ⟨(f n).toNat, by have := h.n_; omega⟩
  have hdn : dst tab st n = (d : Int) := by omega
  have hnx := dst_next hdn hmem
  have hdy : dst tab st y.toNat = f n + 1 := by
    by_cases hle : dst tab st y.toNat ≤ f n
    · have := h.near (dst tab st y.toNat).toNat y.toNat (by omega) (by omega)
      omega
    · omega
  have hny : n ≠ y.toNat := fun e => by have := h.n_; rw [e] at this; omega
  have hry : ∀ z ∈ row, z.toNat ≠ y.toNat := fun z hz e => by have := (h.c z hz).2; rw [e] at this; omega
  have hnn := h.n_
  have up : ∀ i, 0 ≤ f i → 0 ≤ (if i = y.toNat then f n + 1 else f i) := fun i hi => by split <;> omega
  have en : (if n = y.toNat then f n + 1 else f n) = f n := if_neg hny
  refine ⟨fun i hi => ?_, fun i hi => ?_, fun i hi => up i (h.b i hi), fun z hz => ?_, fun i hi hr hn z hz => ?_, fun z hz => ?_, up n h.n_, ?_, fun z hz => ?_, fun z hz => ?_⟩
  · by_cases e : i = y.toNat
    · subst e; rw [if_pos rfl]; exact ⟨hN, hdy.symm⟩
    · rw [if_neg e] at hi ⊢; exact h.a i hi
  · by_cases e : i = y.toNat
    · simp only [if_pos e] at hi; omega
    · simp only [if_neg e] at hi ⊢; exact h.m i hi
  · rcases List.mem_append.1 hz with h1 | h1
    · exact ⟨(h.c z h1).1, up _ (h.c z h1).2⟩
    · rw [List.mem_singleton] at h1
      subst h1
      exact ⟨h0, by simp only [if_true]; omega⟩
  · by_cases e : i = y.toNat
    · exact absurd (List.mem_append_right _ (List.mem_singleton.2 (by omega))) hr
    · simp only [if_neg e] at hi
      exact up _ (h.d i hi (fun hm => hr (List.mem_append_left _ hm)) hn z hz)
  · rw [take_snoc hj, List.mem_append, List.mem_singleton, hy] at hz
    rcases hz with h1 | rfl
    · exact up _ (h.e z h1)
    · simp only [if_true]; omega
  · rw [List.pairwise_append]
    refine ⟨h.srt.imp_of_mem fun {p q} hp hq hpq => ?_, List.pairwise_singleton .., fun p hp q hq => ?_⟩
    · simp only [if_neg (hry p hp), if_neg (hry q hq)]; exact hpq
    · rw [List.mem_singleton] at hq
      subst hq
      simp only [if_neg (hry p hp), if_true]
      exact h.up p hp
  · simp only [en]
    rcases List.mem_append.1 hz with h1 | h1
    · simp only [if_neg (hry z h1)]; exact h.lo z h1
    · rw [List.mem_singleton] at h1; subst h1; simp only [if_true]; omega
  · simp only [en]
    rcases List.mem_append.1 hz with h1 | h1
    · simp only [if_neg (hry z h1)]; exact h.up z h1
    · rw [List.mem_singleton] at h1; subst h1; simp only [if_true]; omega
theorem SO.final (h : SO tab N st f []) (i : Nat) : f i = dst tab st i := by
  have all : ∀ i, Rch tab st i → 0 ≤ f i := fun i hi => by
    induction hi with
    | base h1 => exact h.b _ h1
    | step _ hx ih => exact h.d _ ih (by simp) _ hx
  by_cases hi : 0 ≤ f i
  · exact (h.a i hi).2
  · have h1 := h.m i (by omega)
    have h2 := dst_ge tab st i
    have h3 : ¬ 0 ≤ dst tab st i := fun h4 => hi (all i (dst_rch.1 h4))
    omega
end
theorem t_steps {v : V} {tab : List (List Int)} {x0 : Int} (hv : LII v tab) (hN : tab.length ≤ 400) (hx0 : 0 ≤ x0 ∧ x0 < (tab.length : Int)) (htl : ∀ r ∈ tab, r.length ≤ 1048576 ∧ ∀ x ∈ r, 0 ≤ x ∧ x < (tab.length : Int)) :
    VCall Tryz.prog n_impl_steps [v, .sc (.int .i64 x0)] M (fun r M' => Gr 1 M M' r ((mkI tab.length (dst tab fun i => (i : Int) ∈ [x0])).map vi)) := by
  refine VCall.plain fun R hR => v_impl_steps rfl ?_
  obtain ⟨N, hNe⟩ : ∃ N, tab.length = N := ⟨_, rfl⟩
  have hvl := hv.len
  rw [hNe] at hvl hN hx0 htl hR
  simp (maxSteps := 2000000) (disch := first | omega | assumption | exact idP rfl | exact idP (bL rfl)) only [go_sem, reduceIte, Nat.reduceEqDiff, hvl]
  intro b9 hb9
  have hg : Gr 1 M (M.set b9 [.sc (.int .i64 (-1))]) (.sc (.sl (some (b9, 0)) 1 1 true 1)) ([(-1 : Int)].map vi) := Gr.new' (Sub.refl M) hb9 rfl
  refine (VCall.give0 hg fun u M2 hu hs2 => (t_Repeat (n := N) hu.li (by omega) hN).mono fun r M' hr => hr.base hs2).mono ?_
  rintro out M1 hout
  have hrep : (List.replicate N (-1 : Int)) = mkI N fun _ => -1 := by unfold mkI; rw [List.map_const', List.length_range]
  rw [hrep] at hout
  have hia : ∀ {k : IntKind} {a : Int}, 0 ≤ a → a < (N : Int) → iaddrV 1 out (.int k a) = some (.sc (.ptr (some (oB out, a.toNat)))) := fun q1 q2 => hout.own.iaddr q1 (by rw [len_vi, mkI_len]; exact q2)
  have hm0 := hout.at (by rw [len_vi, mkI_len]; omega)
  have hso : x0.toNat < ((mkI N fun _ => (-1 : Int)).map vi).length := by rw [len_vi, mkI_len]; omega
  have hst1 := hout.setO (l' := (mkI N fun i => if i = x0.toNat then 0 else -1).map vi) (by rw [len_vi, mkI_len]; omega) (by simp [mkI_len])
  have hset1 : ((mkI N fun _ => (-1 : Int)).map vi).set x0.toNat (.sc (.int .i64 0)) = (mkI N fun i => if i = x0.toNat then 0 else -1).map vi := by
    rw [set_vi', mkI_set]
    intro i hi; rfl
  have hoq : ∃ q, out = .sc (.sl (some (oB out, 0)) N N q 1) := by
    rcases hout.own with ⟨h1, _⟩ | ⟨b, n', ex, rfl, h1, h2⟩
    · have := congrArg List.length h1; rw [len_vi, mkI_len] at this; simp at this; omega
    · rw [len_vi, mkI_len] at h2
      obtain rfl : n' = N := by omega
      exact ⟨ex, rfl⟩
  have hnew : M (oB out) = none := by
    obtain ⟨q, hq⟩ := hoq
    exact hout.new (oB out) (by rw [hq]; rfl)
  obtain ⟨b5, hb5⟩ : ∃ b, oB out = b := ⟨_, rfl⟩
  rw [hb5] at hia hm0 hst1 hnew
  simp (maxSteps := 2000000) (disch := first | omega | assumption | exact idP rfl | exact idP (bL rfl)) only [go_sem, reduceIte, Nat.reduceEqDiff, hia, hm0]
  rw [hset1]
  intro b6 hb6
  have n65 : b6 ≠ b5 := (fresh_set hb6).1
  obtain ⟨qx, hq⟩ := hoq
  rw [hb5] at hq
  have hsub1 := hst1.sub
  have hM6 : M b6 = none := hsub1.none hb6
  have s0 : SO tab N (fun i => (i : Int) ∈ [x0]) (fun i => if i = x0.toNat then 0 else -1) [x0] := by
    refine ⟨fun i hi => ?_, fun i hi => ?_, fun i hi => ?_, fun y hy => ?_, fun i hi hr => ?_, List.pairwise_singleton .., fun y t ht z hz => ?_⟩
    · by_cases e : i = x0.toNat
      · subst e
        have hst : ((x0.toNat : Nat) : Int) ∈ [x0] := by rw [List.mem_singleton]; omega
        rw [if_pos rfl]
        exact ⟨by omega, ((dst_zero (tab := tab) (st := fun i : Nat => (i : Int) ∈ [x0])).2 hst).symm⟩
      · rw [if_neg e] at hi; omega
    · by_cases e : i = x0.toNat
      · simp only [if_pos e] at hi; omega
      · simp only [if_neg e]
    · rw [List.mem_singleton] at hi
      rw [if_pos (by omega)]; omega
    · rw [List.mem_singleton] at hy
      subst hy
      exact ⟨hx0.1, by rw [if_pos rfl]; omega⟩
    · by_cases e : i = x0.toNat
      · exact absurd (List.mem_singleton.2 (by omega)) hr
      · rw [if_neg e] at hi; omega
    · rw [List.cons.injEq] at ht
      rw [← ht.2] at hz; cases hz
  have hun0 : unm N (fun i => decide (0 ≤ (if i = x0.toNat then (0 : Int) else -1))) ≤ N := by unfold unm; exact Nat.le_trans (List.length_filter_le ..) (by simp)
  refine loop_g (fun k e M' => e 0 = v ∧ e 5 = .sc (.sl (some (b5, 0)) N N qx 1) ∧ ∃ (f : Nat → Int) (row : List Int), blkV (e 6) ≠ some b5 ∧ Wn M M' (e 6) row ∧ M' b5 = some ((mkI N f).map vi) ∧ SO tab N (fun i => (i : Int) ∈ [x0]) f row ∧ row.length + unm N (fun i => decide (0 ≤ f i)) ≤ k ∧ k ≤ 1000 ∧ ∀ i, f i + unm N (fun i => decide (0 ≤ f i)) ≤ N) (1 + N) ?_ ?_
  · refine ⟨by simp (maxSteps := 2000000) (disch := first | omega | assumption | exact idP rfl | exact idP (bL rfl)) only [go_sem, reduceIte, Nat.reduceEqDiff], by simp (maxSteps := 2000000) (disch := first | omega | assumption | exact idP rfl | exact idP (bL rfl)) only [go_sem, reduceIte, Nat.reduceEqDiff, hq], _, [x0], by simp (maxSteps := 2000000) (disch := first | omega | assumption | exact idP rfl | exact idP (bL rfl)) only [go_sem, reduceIte, Nat.reduceEqDiff]; simpa [blkV] using n65, ?_, by rw [set_ne (fun e => n65 e.symm)]; exact set_same, s0, ?_, by omega, fun i => ?_⟩
    · simp (maxSteps := 2000000) (disch := first | omega | assumption | exact idP rfl | exact idP (bL rfl)) only [go_sem, reduceIte, Nat.reduceEqDiff]
      exact ⟨b6, 0, true, [.sc (.int .i64 x0)], rfl, set_same, by simp, by simp [vi], hM6, fun i l hi => by rw [set_ne (fun e => by subst e; rw [hM6] at hi; cases hi)]; exact hsub1 i l hi⟩
    · simp only [List.length_singleton]; omega
    · have : (if i = x0.toNat then (0 : Int) else -1) ≤ 0 := by split <;> omega
      omega
  · rintro k e M3 ⟨e0, e5, f, row, g6, gw, gm, gq, gk, gk2, gu⟩ K hK
    simp (maxSteps := 2000000) (disch := first | omega | assumption | exact idP rfl | exact idP (bL rfl)) only [go_sem, reduceIte, Nat.reduceEqDiff, gw.len]
    refine cond_dec (fun h => ?_) (fun h => ?_)
    · match row, gw, gq, gk, h with
      | [], _, _, _, h => simp at h
      | x :: row, gw, gq, gk, h =>
        obtain ⟨p, p1, p2⟩ := gw.head
        have qi := gq.pop
        have hxN := (gq.a _ qi.n_).1
        have hx00 := (gq.c x (List.mem_cons_self ..)).1
        have hxt : x.toNat < tab.length := by omega
        have hgd : tab.getD x.toNat [] = tab[x.toNat] := by simp [List.getD, hxt]
        have hrow := hv.elt hxt
        have hri := htl _ (List.getElem_mem hxt)
        simp only [List.length_cons] at gk
        simp (maxSteps := 2000000) (disch := first | omega | assumption | exact idP rfl | exact idP (bL rfl)) only [go_sem, reduceIte, Nat.reduceEqDiff, p1, p2]
        refine wn_drop gw fun v' gw' hbv => ?_
        have g6' : blkV v' ≠ some b5 := by rw [hbv]; exact g6
        simp (maxSteps := 2000000) (disch := first | omega | assumption | exact idP rfl | exact idP (bL rfl)) only [go_sem, reduceIte, Nat.reduceEqDiff, e0, e5, hv.iaddr, hrow.len]
        refine loop_k (fun e' M' => ∃ j : Nat, j ≤ tab[x.toNat].length ∧ e' 0 = v ∧ e' 5 = .sc (.sl (some (b5, 0)) N N qx 1) ∧ e' 7 = .sc (.int .i64 x) ∧ e' 30 = at1 v x.toNat ∧ e' 31 = .sc (.int .i64 tab[x.toNat].length) ∧ e' 32 = .sc (.int .i64 j) ∧ ∃ (f : Nat → Int) (row : List Int), blkV (e' 6) ≠ some b5 ∧ Wn M M' (e' 6) row ∧ M' b5 = some ((mkI N f).map vi) ∧ SI tab N (fun i => (i : Int) ∈ [x0]) f row x.toNat j ∧ row.length + unm N (fun i => decide (0 ≤ f i)) + 1 ≤ k ∧ ∀ i, f i + unm N (fun i => decide (0 ≤ f i)) ≤ N) (fun e' _ => ctrV tab[x.toNat].length (e' 32)) ?_ ?_
        · exact ⟨0, by omega, by simp (maxSteps := 2000000) (disch := first | omega | assumption | exact idP rfl | exact idP (bL rfl)) only [go_sem, reduceIte, Nat.reduceEqDiff, e0], by simp (maxSteps := 2000000) (disch := first | omega | assumption | exact idP rfl | exact idP (bL rfl)) only [go_sem, reduceIte, Nat.reduceEqDiff, e5], by simp (maxSteps := 2000000) (disch := first | omega | assumption | exact idP rfl | exact idP (bL rfl)) only [go_sem, reduceIte, Nat.reduceEqDiff], by simp (maxSteps := 2000000) (disch := first | omega | assumption | exact idP rfl | exact idP (bL rfl)) only [go_sem, reduceIte, Nat.reduceEqDiff], by simp (maxSteps := 2000000) (disch := first | omega | assumption | exact idP rfl | exact idP (bL rfl)) only [go_sem, reduceIte, Nat.reduceEqDiff], by simp (maxSteps := 2000000) (disch := first | omega | assumption | exact idP rfl | exact idP (bL rfl)) only [go_sem, reduceIte, Nat.reduceEqDiff]; rfl, f, row, by simp (maxSteps := 2000000) (disch := first | omega | assumption | exact idP rfl | exact idP (bL rfl)) only [go_sem, reduceIte, Nat.reduceEqDiff]; exact g6', by simp (maxSteps := 2000000) (disch := first | omega | assumption | exact idP rfl | exact idP (bL rfl)) only [go_sem, reduceIte, Nat.reduceEqDiff]; exact gw', gm, qi, by omega, gu⟩
        · rintro e' M4 ⟨j, hj, f0, f5, f7, f30, f31, f32, f, row, u6, uw, um, uq, uk, uu⟩ K2 hK2
          simp (maxSteps := 2000000) (disch := first | omega | assumption | exact idP rfl | exact idP (bL rfl)) only [go_sem, reduceIte, Nat.reduceEqDiff, f0, f5, f7, f30, f31, f32]
          refine cond_dec (fun h => ?_) (fun h => ?_)
          · have hj' : j < tab[x.toNat].length := by omega
            have hyj0 := hri.2 _ (List.getElem_mem hj')
            have hjd : j < (tab.getD x.toNat []).length := by rw [hgd]; exact hj'
            have hyd : (tab.getD x.toNat [])[j] = tab[x.toNat][j] := by simp only [hgd]
            obtain ⟨y, hy⟩ : ∃ y, tab[x.toNat][j] = y := ⟨_, rfl⟩
            rw [hy] at hyj0 hyd
            have hat := hrow.at hj'
            rw [hy] at hat
            have hyl := vi_at (n := N) (f := f) (i := y.toNat) (by omega)
            have hnl := vi_at (n := N) (f := f) (i := x.toNat) (by omega)
            have hso : y.toNat < ((mkI N f).map vi).length := by rw [len_vi, mkI_len]; omega
            simp (maxSteps := 2000000) (disch := first | omega | assumption | exact idP rfl | exact idP (bL rfl)) only [go_sem, reduceIte, Nat.reduceEqDiff, f0, f5, f7, f30, f31, f32, hrow.iaddr, hat, um, hyl]
            refine cond_dec (fun hneg => ?_) (fun hneg => ?_)
            · have hb1 := uu x.toNat
              have hb2 := uq.n_
              simp (maxSteps := 2000000) (disch := first | omega | assumption | exact idP rfl | exact idP (bL rfl)) only [go_sem, reduceIte, Nat.reduceEqDiff, f0, f5, f7, f30, f31, f32, um, hnl]
              intro bt hbt
              have hfset : ((mkI N f).map vi).set y.toNat (.sc (.int .i64 (f x.toNat + 1))) = (mkI N fun i => if i = y.toNat then f x.toNat + 1 else f i).map vi := by
                rw [set_vi', mkI_set]
                intro i hi; rfl
              rw [hfset] at hbt ⊢
              have uw2 := uw.oth (l' := (mkI N fun i => if i = y.toNat then f x.toNat + 1 else f i).map vi) u6 hnew
              refine wn_app uw2 hbt (by omega) (by omega) ?_
              intro v2 M5 gw5 ho5
              simp (maxSteps := 2000000) (disch := first | omega | assumption | exact idP rfl | exact idP (bL rfl)) only [go_sem, reduceIte, Nat.reduceEqDiff, f0, f5, f7, f30, f31, f32]
              have q2 := uq.push hjd (by rw [hyd]; exact hyj0.1) (by rw [hyd]; omega) (by rw [hyd]; exact hneg)
              simp only [hyd] at q2
              obtain ⟨r1, r2⟩ := ho5 b5 _ set_same u6
              have hun := unm_lt (n := N) (m := fun i => decide (0 ≤ f i)) (m' := fun i => decide (0 ≤ (if i = y.toNat then f x.toNat + 1 else f i))) (k := y.toNat) (by omega) (by simp; omega) (by simp; omega) (fun i hi => by
                simp only [decide_eq_true_eq] at hi ⊢
                split <;> omega)
              refine hK2 _ _ ⟨j + 1, by omega, by simp (maxSteps := 2000000) (disch := first | omega | assumption | exact idP rfl | exact idP (bL rfl)) only [go_sem, reduceIte, Nat.reduceEqDiff, f0], by simp (maxSteps := 2000000) (disch := first | omega | assumption | exact idP rfl | exact idP (bL rfl)) only [go_sem, reduceIte, Nat.reduceEqDiff, f5], by simp (maxSteps := 2000000) (disch := first | omega | assumption | exact idP rfl | exact idP (bL rfl)) only [go_sem, reduceIte, Nat.reduceEqDiff, f7], by simp (maxSteps := 2000000) (disch := first | omega | assumption | exact idP rfl | exact idP (bL rfl)) only [go_sem, reduceIte, Nat.reduceEqDiff, f30], by simp (maxSteps := 2000000) (disch := first | omega | assumption | exact idP rfl | exact idP (bL rfl)) only [go_sem, reduceIte, Nat.reduceEqDiff, f31], by simp (maxSteps := 2000000) (disch := first | omega | assumption | exact idP rfl | exact idP (bL rfl)) only [go_sem, reduceIte, Nat.reduceEqDiff, f32]; rfl, _, _, by simp (maxSteps := 2000000) (disch := first | omega | assumption | exact idP rfl | exact idP (bL rfl)) only [go_sem, reduceIte, Nat.reduceEqDiff]; exact r2, by simp (maxSteps := 2000000) (disch := first | omega | assumption | exact idP rfl | exact idP (bL rfl)) only [go_sem, reduceIte, Nat.reduceEqDiff]; exact gw5, r1, q2, by simp only [List.length_append, List.length_singleton]; omega, fun i => ?_⟩ (by simp (maxSteps := 2000000) (disch := first | omega | assumption | exact idP rfl | exact idP (bL rfl)) only [go_sem, reduceIte, Nat.reduceEqDiff, ctrV_int, f32]; omega)
              have := uu i
              by_cases e : i = y.toNat
              · rw [if_pos e]; omega
              · rw [if_neg e]; omega
            · simp (maxSteps := 2000000) (disch := first | omega | assumption | exact idP rfl | exact idP (bL rfl)) only [go_sem, reduceIte, Nat.reduceEqDiff, f0, f5, f7, f30, f31, f32]
              refine hK2 _ _ ⟨j + 1, by omega, by simp (maxSteps := 2000000) (disch := first | omega | assumption | exact idP rfl | exact idP (bL rfl)) only [go_sem, reduceIte, Nat.reduceEqDiff, f0], by simp (maxSteps := 2000000) (disch := first | omega | assumption | exact idP rfl | exact idP (bL rfl)) only [go_sem, reduceIte, Nat.reduceEqDiff, f5], by simp (maxSteps := 2000000) (disch := first | omega | assumption | exact idP rfl | exact idP (bL rfl)) only [go_sem, reduceIte, Nat.reduceEqDiff, f7], by simp (maxSteps := 2000000) (disch := first | omega | assumption | exact idP rfl | exact idP (bL rfl)) only [go_sem, reduceIte, Nat.reduceEqDiff, f30], by simp (maxSteps := 2000000) (disch := first | omega | assumption | exact idP rfl | exact idP (bL rfl)) only [go_sem, reduceIte, Nat.reduceEqDiff, f31], by simp (maxSteps := 2000000) (disch := first | omega | assumption | exact idP rfl | exact idP (bL rfl)) only [go_sem, reduceIte, Nat.reduceEqDiff, f32]; rfl, f, row, by simp (maxSteps := 2000000) (disch := first | omega | assumption | exact idP rfl | exact idP (bL rfl)) only [go_sem, reduceIte, Nat.reduceEqDiff]; exact u6, by simp (maxSteps := 2000000) (disch := first | omega | assumption | exact idP rfl | exact idP (bL rfl)) only [go_sem, reduceIte, Nat.reduceEqDiff]; exact uw, um, uq.skip hjd (by rw [hyd]; omega), uk, uu⟩ (by simp (maxSteps := 2000000) (disch := first | omega | assumption | exact idP rfl | exact idP (bL rfl)) only [go_sem, reduceIte, Nat.reduceEqDiff, ctrV_int, f32]; omega)
          · obtain rfl : j = tab[x.toNat].length := by omega
            simp (maxSteps := 2000000) (disch := first | omega | assumption | exact idP rfl | exact idP (bL rfl)) only [go_sem, reduceIte, Nat.reduceEqDiff, f0, f5]
            exact hK (k - 1) _ _ (by omega) ⟨by simp (maxSteps := 2000000) (disch := first | omega | assumption | exact idP rfl | exact idP (bL rfl)) only [go_sem, reduceIte, Nat.reduceEqDiff, f0], by simp (maxSteps := 2000000) (disch := first | omega | assumption | exact idP rfl | exact idP (bL rfl)) only [go_sem, reduceIte, Nat.reduceEqDiff, f5], f, row, by simp (maxSteps := 2000000) (disch := first | omega | assumption | exact idP rfl | exact idP (bL rfl)) only [go_sem, reduceIte, Nat.reduceEqDiff]; exact u6, by simp (maxSteps := 2000000) (disch := first | omega | assumption | exact idP rfl | exact idP (bL rfl)) only [go_sem, reduceIte, Nat.reduceEqDiff]; exact uw, um, uq.done (by rw [hgd]; omega), by omega, by omega, uu⟩
    · have hr0 : row = [] := List.eq_nil_of_length_eq_zero (by omega)
      subst hr0
      simp (maxSteps := 2000000) (disch := first | omega | assumption | exact idP rfl | exact idP (bL rfl)) only [go_sem, reduceIte, Nat.reduceEqDiff, e5]
      rw [mkI_ext (g := dst tab fun i => (i : Int) ∈ [x0]) (fun i _ => gq.final i)] at gm
      exact hR _ _ ⟨gw.sub, fun b' h' => by simp [blkV] at h'; subst h'; exact hnew, .inr ⟨b5, _, qx, rfl, gm, by rw [len_vi, mkI_len]; omega⟩⟩
theorem o_impStepsTo {v : V} {s : SysS} (hv : isSys s v) (hz : SysSz s) : VCall Tryz.prog n_impl_StepsTo [v] M (fun r M' => Gr 1 M M' r ((stepsS s).map vi)) := by
  refine VCall.plain fun R hR => v_impl_StepsTo rfl ?_
  have hv0 := hv
  obtain ⟨a, b, rfl, ha, hb⟩ := hv
  (repeat' (first | ((first | with_reducible refine cond_dec (fun h => ?_) (fun h => ?_) | with_reducible refine guardK_dec (fun h => ?_) (fun h => ?_) | with_reducible refine guardD3_dec (fun h => ?_) (fun h => ?_)) <;> first | (exfalso; omega) | (simp (maxSteps := 2000000) (disch := first | omega | assumption | exact idP rfl | exact idP (bL rfl)) only [go_sem, reduceIte, Nat.reduceEqDiff, h]) | skip) | ((first | with_reducible refine cond_split (fun h => ?_) (fun h => ?_) | with_reducible refine guardK_split (fun h => ?_) (fun h => ?_) | with_reducible refine guardD3_split (fun h => ?_) (fun h => ?_)) <;> ((try simp only [Bool.not_eq_true', Bool.not_eq_false'] at h); first | (simp (maxSteps := 2000000) (disch := first | omega | assumption | exact idP rfl | exact idP (bL rfl)) only [go_sem, reduceIte, Nat.reduceEqDiff, h]) | skip)) | ((with_reducible refine (t_impSystemValid hv0 hz).mono ?_); rintro _ _ ⟨rfl, rfl⟩) | (with_reducible intro bk hbk; try have hnk := (fresh_set hbk).1) | (simp (maxSteps := 2000000) (disch := first | omega | assumption | exact idP rfl | exact idP (bL rfl)) only [go_sem, reduceIte, Nat.reduceEqDiff])))
  · refine hR _ _ ?_
    unfold stepsS
    rw [if_neg (by rw [h]; simp)]
    exact .nil (by (repeat (first | exact Sub.refl _ | assumption | (refine Sub.set' ?_ (by assumption)))))
  · have hs := (sysB_iff s).1 h
    have hsz := hs.sz
    have htl := tabF_len s
    have hfb := firstN_bd hs
    refine (f_nexts hv0 hs).mono ?_
    rintro t _ ⟨rfl, ht⟩
    simp (maxSteps := 2000000) (disch := first | omega | assumption | exact idP rfl | exact idP (bL rfl)) only [go_sem, reduceIte, Nat.reduceEqDiff]
    refine (t_first hv0 hs).mono ?_
    rintro f _ ⟨rfl, hf⟩
    simp (maxSteps := 2000000) (disch := first | omega | assumption | exact idP rfl | exact idP (bL rfl)) only [go_sem, reduceIte, Nat.reduceEqDiff]
    refine (t_number ha hf hs.vars hs.v5 (first_in hs)).mono ?_
    rintro _ _ ⟨rfl, rfl⟩
    have e9 : numF s.vars (firstF s) = firstN s := rfl
    simp (maxSteps := 2000000) (disch := first | omega | assumption | exact idP rfl | exact idP (bL rfl)) only [go_sem, reduceIte, Nat.reduceEqDiff, e9]
    refine (t_steps ht (by omega) (by omega) (tabF_in hs)).mono ?_
    rintro r M2 hg
    simp (maxSteps := 2000000) (disch := first | omega | assumption | exact idP rfl | exact idP (bL rfl)) only [go_sem, reduceIte, Nat.reduceEqDiff]
    refine (VCall.give0 hg fun u M3 hu hs2 => (t_cloneInt hu.li (by rw [mkI_len]; omega)).mono fun r M' hr => hr.base hs2).mono ?_
    rintro r M3 hg2
    simp (maxSteps := 2000000) (disch := first | omega | assumption | exact idP rfl | exact idP (bL rfl)) only [go_sem, reduceIte, Nat.reduceEqDiff]
    refine hR _ _ ?_
    unfold stepsS
    rw [if_pos h]
    exact hg2.base ((Sub.refl M).set' hbk)
theorem stepsS_len (s : SysS) : (stepsS s).length ≤ 400 := by
  unfold stepsS
  split
  · rename_i h
    have := ((sysB_iff s).1 h).sz
    have htl := tabF_len s
    rw [mkI_len]; omega
  · simp
end Go.M2

namespace Go.M2
open Go.Proofs
variable {M : MH}
theorem d_impStepsTo {v : V} {s : SysS} (hv : isSys s v) (hz : SysSz s) : VCall Tryz.prog n_impl_StepsTo [v] M (fun r M' => Dn M M' r (fun u => LI u (stepsS s))) :=
  (o_impStepsTo hv hz).mono fun r M' h => h.dnI
end Go.M2

namespace Go.M2
open Go.Proofs
variable {M : MH}
theorem law_StepsTo {v : V} {s : SysS} (hv : isSysX s v) (hl : SysLen s) :
    VCall Tryz.prog n_laws_FnExactStepsTo [v] M (fun r M' => M = M' ∧ r = .sc (.bool true)) := by
  refine VCall.pure fun R hR => v_laws_FnExactStepsTo rfl ?_
  have hv0 := hv
  obtain ⟨a, b, rfl, ha, hb⟩ := hv
  (repeat' (first | ((first | with_reducible refine cond_dec (fun h => ?_) (fun h => ?_) | with_reducible refine guardK_dec (fun h => ?_) (fun h => ?_) | with_reducible refine guardD3_dec (fun h => ?_) (fun h => ?_)) <;> first | (exfalso; omega) | (simp (maxSteps := 2000000) (disch := first | omega | assumption | exact idP rfl | exact idP (bL rfl)) only [go_sem, reduceIte, Nat.reduceEqDiff, h]) | skip) | ((first | with_reducible refine cond_split (fun h => ?_) (fun h => ?_) | with_reducible refine guardK_split (fun h => ?_) (fun h => ?_) | with_reducible refine guardD3_split (fun h => ?_) (fun h => ?_)) <;> ((try simp only [Bool.not_eq_true', Bool.not_eq_false'] at h); first | (simp (maxSteps := 2000000) (disch := first | omega | assumption | exact idP rfl | exact idP (bL rfl)) only [go_sem, reduceIte, Nat.reduceEqDiff, h]) | skip)) | (with_reducible intro bk hbk; try have hnk := (fresh_set hbk).1) | (simp (maxSteps := 2000000) (disch := first | omega | assumption | exact idP rfl | exact idP (bL rfl)) only [go_sem, reduceIte, Nat.reduceEqDiff])))
  · refine (x_szSystem hv0 hl (by omega) (by omega)).mono ?_
    rintro _ _ ⟨rfl, k, rfl, hk1, hk⟩
    (repeat' (first | ((first | with_reducible refine cond_dec (fun h => ?_) (fun h => ?_) | with_reducible refine guardK_dec (fun h => ?_) (fun h => ?_) | with_reducible refine guardD3_dec (fun h => ?_) (fun h => ?_)) <;> first | (exfalso; omega) | (simp (maxSteps := 2000000) (disch := first | omega | assumption | exact idP rfl | exact idP (bL rfl)) only [go_sem, reduceIte, Nat.reduceEqDiff, h]) | skip) | ((first | with_reducible refine cond_split (fun h => ?_) (fun h => ?_) | with_reducible refine guardK_split (fun h => ?_) (fun h => ?_) | with_reducible refine guardD3_split (fun h => ?_) (fun h => ?_)) <;> ((try simp only [Bool.not_eq_true', Bool.not_eq_false'] at h); first | (simp (maxSteps := 2000000) (disch := first | omega | assumption | exact idP rfl | exact idP (bL rfl)) only [go_sem, reduceIte, Nat.reduceEqDiff, h]) | skip)) | (with_reducible intro bk hbk; try have hnk := (fresh_set hbk).1) | (simp (maxSteps := 2000000) (disch := first | omega | assumption | exact idP rfl | exact idP (bL rfl)) only [go_sem, reduceIte, Nat.reduceEqDiff])))
    · exact hR _ _ (by (repeat (first | exact Sub.refl _ | assumption | (refine Sub.set' ?_ (by assumption))))) rfl
    · have hf := hk (by omega)
      have hzl : (stepsS s).length ≤ 1048576 := Nat.le_trans (stepsS_len s) (by omega)
      generalize hz : stepsS s = zs at *
      refine (f_toSystem hv0 hf).mono ?_
      rintro s1 _ ⟨rfl, hs1⟩
      simp (maxSteps := 2000000) (disch := first | omega | assumption | exact idP rfl | exact idP (bL rfl)) only [go_sem, reduceIte, Nat.reduceEqDiff]
      refine (t_StepsTo hs1).mono ?_
      rintro w0 _ ⟨rfl, hw0⟩
      rw [hz] at hw0
      simp (maxSteps := 2000000) (disch := first | omega | assumption | exact idP rfl | exact idP (bL rfl)) only [go_sem, reduceIte, Nat.reduceEqDiff]
      have hsub0 : Sub M (M.set bk [a, b]) := (Sub.refl M).set' hbk
      refine (o_toSystem hv0 hf).mono ?_
      rintro _ M1 ⟨x, y, x', y', fp, rfl, ⟨ox1, ox2⟩, ⟨oy1, oy2⟩, hos⟩
      simp (maxSteps := 2000000) (disch := first | omega | assumption | exact idP rfl | exact idP (bL rfl)) only [go_sem, reduceIte, Nat.reduceEqDiff, ox1, ox2, oy1, oy2]
      intro b7 hb7
      have hs7 : Sub M1 (M1.set b7 [x, y]) := (Sub.refl M1).set' hb7
      have hbk1 : M1 bk = some [a, b] := hos.mem.sub bk _ set_same
      have nbk : bk ≠ b7 := fun e => by subst e; rw [hb7] at hbk1; cases hbk1
      have hos3 := hos.more hs7
      have hm7 : (M1.set b7 [x, y]) b7 = some [x, y] := set_same
      have hmk : (M1.set b7 [x, y]) bk = some [a, b] := hs7 bk _ hbk1
      have htr : Tr [.agg [x, y]] [.agg [x', y']] fp := hos.arg
      refine (VCall.lendD htr hos3.mem.at_ hos3.mem.nd fun M' => d_impStepsTo hos.sys hf.sz).mono ?_
      rintro g0 M4 ⟨g0', fg, tg, mg, flg, ffg, hg0⟩
      rw [hz] at hg0
      have hos4 := hos3.more mg.sub
      have hmk4 : M4 bk = some [a, b] := mg.sub bk _ hmk
      have hm74 : M4 b7 = some [x, y] := mg.sub b7 _ hm7
      simp (maxSteps := 2000000) (disch := first | omega | assumption | exact idP rfl | exact idP (bL rfl)) only [go_sem, reduceIte, Nat.reduceEqDiff]
      refine (l_eqIntS tg hg0 mg.at_ mg.nd hw0 hzl).mono ?_
      rintro _ _ ⟨rfl, rfl⟩
      simp (maxSteps := 2000000) (disch := first | omega | assumption | exact idP rfl | exact idP (bL rfl)) only [go_sem, reduceIte, Nat.reduceEqDiff, hmk4, hm74]
      refine (f_toSystem hv0 hf).mono ?_
      rintro s3 _ ⟨rfl, hs3⟩
      simp (maxSteps := 2000000) (disch := first | omega | assumption | exact idP rfl | exact idP (bL rfl)) only [go_sem, reduceIte, Nat.reduceEqDiff, hm74]
      refine (l_eqSystem hos4 hs3 hf).mono ?_
      rintro _ _ ⟨rfl, rfl⟩
      simp (maxSteps := 2000000) (disch := first | omega | assumption | exact idP rfl | exact idP (bL rfl)) only [go_sem, reduceIte, Nat.reduceEqDiff, hm74]
      refine (t_markSystem hos4 hf (by omega) (by omega)).mono ?_
      rintro _ M5 ⟨k5, rfl, k51, k52, sub5, keep5⟩
      have ng : ∀ p ∈ fg, inF fp p.1 = false := fun p hp => by
        cases hc : inF fp p.1 with
        | false => rfl
        | true =>
          obtain ⟨l, hl⟩ := inF_iff.1 hc
          have e1 := hos3.mem.at_ _ hl
          have e2 := mg.new p hp
          simp only at e1
          rw [e1] at e2; cases e2
      have hg5 : ∀ p ∈ fg, M5 p.1 = some p.2 := fun p hp => keep5 _ _ (mg.at_ p hp) (ng p hp)
      have hmk5 : M5 bk = some [a, b] := sub5 bk _ set_same
      simp (maxSteps := 2000000) (disch := first | omega | assumption | exact idP rfl | exact idP (bL rfl)) only [go_sem, reduceIte, Nat.reduceEqDiff]
      have hg6 := hg5
      have old : ∀ q l, (M.set bk [a, b]) q = some l → inF fg q = false := fun q l hq => by
        cases hc : inF fg q with
        | false => rfl
        | true =>
          obtain ⟨l2, hl⟩ := inF_iff.1 hc
          have e2 := mg.new _ hl
          have e1 := hos3.mem.sub q _ hq
          simp only at e2
          rw [e1] at e2; cases e2
      have hk6 : ¬ k5 < 0 := by omega
      simp (maxSteps := 2000000) (disch := first | omega | assumption | exact idP rfl | exact idP (bL rfl)) only [go_sem, reduceIte, Nat.reduceEqDiff, hk6]
      refine (l_eqIntS tg hg0 hg6 mg.nd hw0 hzl).mono ?_
      rintro _ _ ⟨rfl, rfl⟩
      simp (maxSteps := 2000000) (disch := first | omega | assumption | exact idP rfl | exact idP (bL rfl)) only [go_sem, reduceIte, Nat.reduceEqDiff]
      refine (t_markR tg flg hg0 hg6 hzl).mono ?_
      rintro _ M7 ⟨rfl, hd7, keep7⟩
      have sub7 : Sub (M.set bk [a, b]) M7 := fun q l hq => by
        rw [keep7 q (old q l hq)]; exact sub5 q l hq
      have hmk7 : M7 bk = some [a, b] := sub7 bk _ set_same
      simp (maxSteps := 2000000) (disch := first | omega | assumption | exact idP rfl | exact idP (bL rfl)) only [go_sem, reduceIte, Nat.reduceEqDiff]
      refine (t_heldIntS hd7 hzl (by omega) (by omega)).mono ?_
      rintro _ _ ⟨rfl, rfl⟩
      have hneg : ¬ (1 : Int) + (zs.length : Int) < 0 := by omega
      simp (maxSteps := 2000000) (disch := first | omega | assumption | exact idP rfl | exact idP (bL rfl)) only [go_sem, reduceIte, Nat.reduceEqDiff, hneg, hmk7]
      refine (f_toSystem hv0 hf).mono ?_
      rintro s4 _ ⟨rfl, hs4⟩
      simp (maxSteps := 2000000) (disch := first | omega | assumption | exact idP rfl | exact idP (bL rfl)) only [go_sem, reduceIte, Nat.reduceEqDiff]
      refine (VCall.frT (d_impStepsTo hs4 hf.sz)).mono ?_
      rintro h0 _ ⟨rfl, hh0⟩
      rw [hz] at hh0
      simp (maxSteps := 2000000) (disch := first | omega | assumption | exact idP rfl | exact idP (bL rfl)) only [go_sem, reduceIte, Nat.reduceEqDiff]
      refine (x_eqIntS hh0 hw0 hzl).mono ?_
      rintro _ _ ⟨rfl, rfl⟩
      have ei : decide (zs = zs) = true := by simp
      simp (maxSteps := 2000000) (disch := first | omega | assumption | exact idP rfl | exact idP (bL rfl)) only [go_sem, reduceIte, Nat.reduceEqDiff, ei]
      refine (t_heldIntS hd7 hzl (by omega) (by omega)).mono ?_
      rintro _ _ ⟨rfl, rfl⟩
      simp (maxSteps := 2000000) (disch := first | omega | assumption | exact idP rfl | exact idP (bL rfl)) only [go_sem, reduceIte, Nat.reduceEqDiff, hneg]
      exact hR _ _ (hsub0.trans sub7) rfl
end Go.M2
