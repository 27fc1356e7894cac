/- Contracts: marks laid into a whole system that is owned; what is held. -/
import Derived.Test.YtpglaahejpkkdaaGreatKj6
set_option linter.unusedVariables false
set_option linter.unusedSimpArgs false
set_option maxRecDepth 10000
set_option maxHeartbeats 4000000
namespace Go.M2
open Go.Proofs
variable {M : MH}
theorem Tr.inv1 {x : V} {l' : List V} {fp : List (Nat × List V)} (h : Tr [x] l' fp) : (l' = [x] ∧ fp = []) ∨ (∃ b o n c ex k cs cs' g, x = .sc (.sl (some (b, o)) n c ex k) ∧ l' = [.fs (some (b, o)) n c ex k (cs'.drop o)] ∧ Tr cs cs' g ∧ fp = (b, cs) :: g) ∨ (∃ a a', l' = [V.agg a'] ∧ x = .agg a) ∨ (∃ a a', l' = [V.tup a'] ∧ x = .tup a) := by
  cases h with
  | keep v h1 => cases h1; exact .inl ⟨rfl, rfl⟩
  | sl h1 h2 => cases h2; exact .inr (.inl ⟨_, _, _, _, _, _, _, _, _, rfl, rfl, h1, by simp⟩)
  | agg h1 h2 => cases h2; exact .inr (.inr (.inl ⟨_, _, rfl, rfl⟩))
  | tup h1 h2 => cases h2; exact .inr (.inr (.inr ⟨_, _, rfl, rfl⟩))
theorem Tr.uncons {x : V} {t l' : List V} {fp : List (Nat × List V)} (h : Tr (x :: t) l' fp) : ∃ x' t' f1 f2, l' = x' :: t' ∧ fp = f1 ++ f2 ∧ Tr [x] [x'] f1 ∧ Tr t t' f2 := by
  obtain ⟨a', b', f1, f2, rfl, rfl, h1, h2⟩ := Tr.split (a := [x]) (b := t) (b' := []) (by simpa using h)
  have := h1.len
  match a', this with
  | [x'], _ => exact ⟨x', b', f1, f2, rfl, rfl, h1, h2⟩
theorem Tr.win {x x' : V} {fp : List (Nat × List V)} {sz : Nat} {α : Type} {E : α → List V → Prop} {ys : List α} (h : Tr [x] [x'] fp) (hf : flat x) (hx : Lc sz E x' ys) :
    (∃ q, x = .sc (.sl none 0 0 true q) ∧ ys = []) ∨ ∃ b o c ex k cs cs' g, x = .sc (.sl (some (b, o)) ys.length c ex k) ∧ Tr cs cs' g ∧ fp = (b, cs) :: g ∧ (0 < ys.length * sz → o + ys.length * sz ≤ cs.length) ∧ ∀ i (hi : i < ys.length), E ys[i] ((cs'.drop (o + i * sz)).take sz) := by
  rcases h.inv1 with ⟨h1, h2⟩ | ⟨b, o, n, c, ex, k, cs, cs', g, rfl, h1, h2, rfl⟩ | ⟨a, a', h1, rfl⟩ | ⟨a, a', h1, rfl⟩
  · rw [List.cons.injEq] at h1
    obtain ⟨rfl, _⟩ := h1
    rcases hx with ⟨rfl, q, rfl⟩ | ⟨A, c, ex, k, zs, rfl, _⟩
    · exact .inl ⟨q, rfl, rfl⟩
    · simp [flat] at hf
  · rw [List.cons.injEq] at h1
    obtain ⟨rfl, _⟩ := h1
    rcases hx with ⟨_, q, h3⟩ | ⟨A, c2, ex2, k2, zs, h3, h4, h5⟩
    · cases h3
    · injection h3 with e1 e2 e3 e4 e5 e6
      subst e2 e6
      refine .inr ⟨b, o, c, ex, k, cs, cs', g, rfl, h2, rfl, ?_, fun i hi => ?_⟩
      · have := h2.len
        rw [List.length_drop] at h4
        intro h0
        omega
      · have := h5 i hi
        simpa [atN, List.drop_drop, Nat.add_comm] using this
  · rw [List.cons.injEq] at h1
    obtain ⟨rfl, _⟩ := h1
    rcases hx with ⟨_, q, h3⟩ | ⟨A, c2, ex2, k2, zs, h3, _⟩ <;> cases h3
  · rw [List.cons.injEq] at h1
    obtain ⟨rfl, _⟩ := h1
    rcases hx with ⟨_, q, h3⟩ | ⟨A, c2, ex2, k2, zs, h3, _⟩ <;> cases h3
theorem ls_lc {α : Type} {E : α → V → Prop} {v : V} {ys : List α} (h : Ls E v ys) : Lc 1 (fun a cs => ∃ u, cs = [u] ∧ E a u) v ys := by
  rcases h with h | ⟨A, c, ex, k, xs, rfl, hl, h⟩
  · exact .inl h
  · refine .inr ⟨A, c, ex, k, xs, rfl, by omega, fun i hi => ?_⟩
    have h2 := h i hi
    have h3 : i < xs.length := by omega
    refine ⟨xs[i], ?_, by simpa [at1, List.getD, h3] using h2⟩
    simp only [atN, Nat.mul_one]
    rw [List.drop_eq_getElem_cons h3, List.take_succ_cons, List.take_zero]
theorem inF_mem {fp : List (Nat × List V)} {p : Nat × List V} (h : p ∈ fp) : inF fp p.1 = true := inF_iff.2 ⟨p.2, h⟩
theorem inF_append {f g : List (Nat × List V)} {q : Nat} : inF (f ++ g) q = (inF f q || inF g q) := by simp [inF]
theorem leaf_of {sz : Nat} {x x' : V} {fp : List (Nat × List V)} {α : Type} {E : α → List V → Prop} {ys : List α} {M : MH} (h : Tr [x] [x'] fp) (hf : flat x) (hx : Lc sz E x' ys) (hs : 0 < sz) (hl : ys.length ≤ 1048576) (hm : ∀ p ∈ fp, M p.1 = some p.2) : LfM sz M x (fun q => inF fp q = true) := by
  rcases h.win hf hx with ⟨q, rfl, _⟩ | ⟨b, o, c, ex, k, cs, cs', g, rfl, h2, rfl, h3, _⟩
  · exact .inl ⟨q, rfl⟩
  · exact .inr ⟨b, o, ys.length, c, ex, k, cs, rfl, hm (b, cs) (List.mem_cons_self ..), fun h0 => h3 (Nat.mul_pos h0 hs), hl, inF_mem (p := (b, cs)) (List.mem_cons_self ..)⟩
theorem nd_hd {b : Nat} {cs : List V} {g : List (Nat × List V)} (h : Nd2 ((b, cs) :: g)) : inF g b = false ∧ Nd2 g := by
  have hn : (b :: g.map (·.1)).Nodup := h
  obtain ⟨n1, n2⟩ := List.nodup_cons.1 hn
  refine ⟨?_, n2⟩
  cases hb : inF g b with
  | false => rfl
  | true =>
    obtain ⟨l, hl⟩ := inF_iff.1 hb
    exact absurd (List.mem_map_of_mem hl) n1
theorem nd_sep {f g : List (Nat × List V)} (h : Nd2 (f ++ g)) {p : Nat × List V} (hp : p ∈ g) : inF f p.1 = false := by
  cases hb : inF f p.1 with
  | false => rfl
  | true =>
    obtain ⟨l, hl⟩ := inF_iff.1 hb
    have h1 := (Nd2.append h).2.2 _ hl
    simp only at h1
    rw [inF_mem hp] at h1; cases h1
theorem take_one {cs : List V} {j : Nat} (h : j < cs.length) : cs.take (j + 1) = cs.take j ++ [cs[j]] := List.take_succ_eq_append_getElem h
theorem t_markTermSS {v v' : V} {fp : List (Nat × List V)} {tss : List (List TermS)} {k : Int} (ht : Tr [v] [v'] fp) (hf : flat v) (hff : ∀ q ∈ fp, flatL q.2) (hv : LTT v' tss) (hn : Nd2 fp) (hm : ∀ p ∈ fp, M p.1 = some p.2) (hl : tss.length ≤ 1048576) (hl2 : ∀ ts ∈ tss, ts.length ≤ 1048576) (hk : 0 ≤ k) (hk2 : k ≤ 8900000000000000000) :
    VCall Tryz.prog n_laws_markTermSS [v, .sc (.int .i64 k)] M (mkPost M k 4398046511104 (fun q => inF fp q = true)) := by
  refine VCall.plain fun R hR => v_laws_markTermSS rfl ?_
  rcases ht.win hf (ls_lc hv) with ⟨q, rfl, rfl⟩ | ⟨b, o, c, ex, kk, cs, cs', g, rfl, h2, rfl, h3, h4⟩
  · simp (maxSteps := 2000000) (disch := first | omega | assumption | exact idP rfl | exact idP (bL rfl)) only [go_sem, reduceIte, Nat.reduceEqDiff]
    refine loop_k (fun e M' => M' = M ∧ e 0 = .sc (.sl none 0 0 true q) ∧ e 1 = .sc (.int .i64 k) ∧ e 5 = .sc (.int .i64 0)) (fun e _ => 0) ⟨rfl, by simp (maxSteps := 2000000) (disch := first | omega | assumption | exact idP rfl | exact idP (bL rfl)) only [go_sem, reduceIte, Nat.reduceEqDiff], by simp (maxSteps := 2000000) (disch := first | omega | assumption | exact idP rfl | exact idP (bL rfl)) only [go_sem, reduceIte, Nat.reduceEqDiff], by simp (maxSteps := 2000000) (disch := first | omega | assumption | exact idP rfl | exact idP (bL rfl)) only [go_sem, reduceIte, Nat.reduceEqDiff]⟩ ?_
    rintro e _ ⟨rfl, e0, e1, e5⟩ K hK
    simp (maxSteps := 2000000) (disch := first | omega | assumption | exact idP rfl | exact idP (bL rfl)) only [go_sem, reduceIte, Nat.reduceEqDiff, e0, e1, e5]
    exact hR _ _ ⟨k, rfl, by omega, by omega, fun q _ => rfl⟩
  · obtain ⟨hbg, hng⟩ := nd_hd hn
    have hmb : M b = some cs := hm (b, cs) (List.mem_cons_self ..)
    have hmg : ∀ p ∈ g, M p.1 = some p.2 := fun p hp => hm p (List.mem_cons_of_mem _ hp)
    have hfc : flatL cs := hff (b, cs) (List.mem_cons_self ..)
    have hgo : ∀ q, inF g q = true → inF ((b, cs) :: g) q = true := fun q hq => by
      obtain ⟨l, hl⟩ := inF_iff.1 hq
      exact inF_iff.2 ⟨l, List.mem_cons_of_mem _ hl⟩
    simp (maxSteps := 2000000) (disch := first | omega | assumption | exact idP rfl | exact idP (bL rfl)) only [go_sem, reduceIte, Nat.reduceEqDiff]
    refine loop_k (fun e M' => ∃ (i : Nat) (k' : Int) (g1 g2 : List (Nat × List V)) (l1 l2 : List V), i ≤ tss.length ∧ e 0 = .sc (.sl (some (b, o)) tss.length c ex kk) ∧ e 1 = .sc (.int .i64 k') ∧ e 5 = .sc (.int .i64 i) ∧ k ≤ k' ∧ k' ≤ k + 4194304 * i ∧ Tr (cs.take (o + i)) l1 g1 ∧ Tr (cs.drop (o + i)) l2 g2 ∧ g = g1 ++ g2 ∧ cs' = l1 ++ l2 ∧ ∀ q, inF g1 q = false → M' q = M q) (fun e _ => ctrV tss.length (e 5)) ?_ ?_
    · obtain ⟨l1, l2, g1, g2, rfl, rfl, h5, h6⟩ := Tr.split (a := cs.take o) (b := cs.drop o) (b' := []) (by rw [List.take_append_drop]; exact h2)
      exact ⟨0, k, g1, g2, l1, l2, by omega, by simp (maxSteps := 2000000) (disch := first | omega | assumption | exact idP rfl | exact idP (bL rfl)) only [go_sem, reduceIte, Nat.reduceEqDiff], by simp (maxSteps := 2000000) (disch := first | omega | assumption | exact idP rfl | exact idP (bL rfl)) only [go_sem, reduceIte, Nat.reduceEqDiff], by simp (maxSteps := 2000000) (disch := first | omega | assumption | exact idP rfl | exact idP (bL rfl)) only [go_sem, reduceIte, Nat.reduceEqDiff]; rfl, by omega, by omega, h5, h6, rfl, rfl, fun _ _ => rfl⟩
    · rintro e M1 ⟨i, k', g1, g2, l1, l2, hi, e0, e1, e5, k1, k2, t1, t2, rfl, rfl, hq⟩ K hK
      simp (maxSteps := 2000000) (disch := first | omega | assumption | exact idP rfl | exact idP (bL rfl)) only [go_sem, reduceIte, Nat.reduceEqDiff, e0, e1, e5]
      refine cond_dec (fun h => ?_) (fun h => ?_)
      · have hi' : i < tss.length := by omega
        have h3 := h3 (by omega)
        have hj : o + i < cs.length := by omega
        have hcx : cs[o + i]? = some cs[o + i] := List.getElem?_eq_getElem hj
        have hcx2 : cs[o + i * 1]? = some cs[o + i] := by rw [Nat.mul_one]; exact hcx
        rw [List.drop_eq_getElem_cons hj] at t2
        obtain ⟨x', r', gx, gr, rfl, rfl, t3, t4⟩ := t2.uncons
        have hl1 : l1.length = o + i := by rw [t1.len, List.length_take]; omega
        obtain ⟨u, h5, h6⟩ := h4 i hi'
        rw [Nat.mul_one, List.drop_left' hl1, List.take_succ_cons, List.take_zero, List.cons.injEq] at h5
        obtain ⟨rfl, _⟩ := h5
        have hb1 : M1 b = some cs := by
          rw [hq b (by rw [inF_append] at hbg; simp only [Bool.or_eq_false_iff] at hbg; exact hbg.1)]; exact hmb
        simp (maxSteps := 2000000) (disch := first | omega | assumption | exact idP rfl | exact idP (bL rfl)) only [go_sem, reduceIte, Nat.reduceEqDiff, e0, e1, e5, hb1, hcx, hcx2]
        refine (t_markTermS (leaf_of t3 (flatL_all.1 hfc _ (List.getElem_mem hj)) h6 (by omega) (hl2 _ (List.getElem_mem hi')) (fun p hp => ?_)) (by omega) (by omega)).mono ?_
        · rw [hq p.1 (nd_sep hng (List.mem_append_left _ hp))]
          exact hmg p (List.mem_append_right _ (List.mem_append_left _ hp))
        · rintro _ M2 ⟨k3, rfl, p1, p2, p3⟩
          simp (maxSteps := 2000000) (disch := first | omega | assumption | exact idP rfl | exact idP (bL rfl)) only [go_sem, reduceIte, Nat.reduceEqDiff, e0, e1, e5]
          refine hK _ _ ⟨i + 1, k3, g1 ++ gx, gr, l1 ++ [x'], r', by omega, by simp (maxSteps := 2000000) (disch := first | omega | assumption | exact idP rfl | exact idP (bL rfl)) only [go_sem, reduceIte, Nat.reduceEqDiff, e0], by simp (maxSteps := 2000000) (disch := first | omega | assumption | exact idP rfl | exact idP (bL rfl)) only [go_sem, reduceIte, Nat.reduceEqDiff], by simp (maxSteps := 2000000) (disch := first | omega | assumption | exact idP rfl | exact idP (bL rfl)) only [go_sem, reduceIte, Nat.reduceEqDiff]; rfl, by omega, by omega, ?_, t4, by simp, by simp, fun q hq2 => ?_⟩ (by simp (maxSteps := 2000000) (disch := first | omega | assumption | exact idP rfl | exact idP (bL rfl)) only [go_sem, reduceIte, Nat.reduceEqDiff, ctrV_int, e5]; omega)
          · rw [← Nat.add_assoc, take_one hj]; exact t1.append t3
          · rw [inF_append, Bool.or_eq_false_iff] at hq2
            rw [p3 q (fun hc => by have hc : inF gx q = true := hc; rw [hq2.2] at hc; cases hc)]
            exact hq q hq2.1
      · obtain rfl : i = tss.length := by omega
        simp (maxSteps := 2000000) (disch := first | omega | assumption | exact idP rfl | exact idP (bL rfl)) only [go_sem, reduceIte, Nat.reduceEqDiff, e1]
        refine hR _ _ ⟨k', rfl, k1, by omega, fun q hq1 => hq q ?_⟩
        cases hc : inF g1 q with
        | false => rfl
        | true => exact absurd (hgo q (by rw [inF_append, hc]; rfl)) hq1
theorem t_markRuleS {v v' : V} {fp : List (Nat × List V)} {rs : List RuleS} {k : Int} (ht : Tr [v] [v'] fp) (hf : flat v) (hff : ∀ q ∈ fp, flatL q.2) (hv : LR v' rs) (hn : Nd2 fp) (hm : ∀ p ∈ fp, M p.1 = some p.2) (hl : rs.length ≤ 1048576) (hl2 : ∀ r ∈ rs, RuleFit r) (hk : 0 ≤ k) (hk2 : k ≤ 4000000000000000000) :
    VCall Tryz.prog n_laws_markRuleS [v, .sc (.int .i64 k)] M (mkPost M k 4700000000000000000 (fun q => inF fp q = true)) := by
  refine VCall.plain fun R hR => v_laws_markRuleS rfl ?_
  rcases ht.win hf hv with ⟨q, rfl, rfl⟩ | ⟨b, o, c, ex, kk, cs, cs', g, rfl, h2, rfl, h3, h4⟩
  · simp (maxSteps := 2000000) (disch := first | omega | assumption | exact idP rfl | exact idP (bL rfl)) only [go_sem, reduceIte, Nat.reduceEqDiff]
    refine loop_k (fun e M' => M' = M ∧ e 0 = .sc (.sl none 0 0 true q) ∧ e 1 = .sc (.int .i64 k) ∧ e 5 = .sc (.int .i64 0)) (fun e _ => 0) ⟨rfl, by simp (maxSteps := 2000000) (disch := first | omega | assumption | exact idP rfl | exact idP (bL rfl)) only [go_sem, reduceIte, Nat.reduceEqDiff], by simp (maxSteps := 2000000) (disch := first | omega | assumption | exact idP rfl | exact idP (bL rfl)) only [go_sem, reduceIte, Nat.reduceEqDiff], by simp (maxSteps := 2000000) (disch := first | omega | assumption | exact idP rfl | exact idP (bL rfl)) only [go_sem, reduceIte, Nat.reduceEqDiff]⟩ ?_
    rintro e _ ⟨rfl, e0, e1, e5⟩ K hK
    simp (maxSteps := 2000000) (disch := first | omega | assumption | exact idP rfl | exact idP (bL rfl)) only [go_sem, reduceIte, Nat.reduceEqDiff, e0, e1, e5]
    exact hR _ _ ⟨k, rfl, by omega, by omega, fun q _ => rfl⟩
  · obtain ⟨hbg, hng⟩ := nd_hd hn
    have hmb : M b = some cs := hm (b, cs) (List.mem_cons_self ..)
    have hmg : ∀ p ∈ g, M p.1 = some p.2 := fun p hp => hm p (List.mem_cons_of_mem _ hp)
    have hfc : flatL cs := hff (b, cs) (List.mem_cons_self ..)
    have hfg : ∀ q ∈ g, flatL q.2 := fun q hq => hff q (List.mem_cons_of_mem _ hq)
    have hgo : ∀ q, inF g q = true → inF ((b, cs) :: g) q = true := fun q hq => by
      obtain ⟨l, hl⟩ := inF_iff.1 hq
      exact inF_iff.2 ⟨l, List.mem_cons_of_mem _ hl⟩
    simp (maxSteps := 2000000) (disch := first | omega | assumption | exact idP rfl | exact idP (bL rfl)) only [go_sem, reduceIte, Nat.reduceEqDiff]
    refine loop_k (fun e M' => ∃ (i : Nat) (k' : Int) (g1 g2 : List (Nat × List V)) (l1 l2 : List V), i ≤ rs.length ∧ e 0 = .sc (.sl (some (b, o)) rs.length c ex kk) ∧ e 1 = .sc (.int .i64 k') ∧ e 5 = .sc (.int .i64 i) ∧ k ≤ k' ∧ k' ≤ k + 4398051753984 * i ∧ Tr (cs.take (o + i * 3)) l1 g1 ∧ Tr (cs.drop (o + i * 3)) l2 g2 ∧ g = g1 ++ g2 ∧ cs' = l1 ++ l2 ∧ ∀ q, inF g1 q = false → M' q = M q) (fun e _ => ctrV rs.length (e 5)) ?_ ?_
    · obtain ⟨l1, l2, g1, g2, rfl, rfl, h5, h6⟩ := Tr.split (a := cs.take o) (b := cs.drop o) (b' := []) (by rw [List.take_append_drop]; exact h2)
      exact ⟨0, k, g1, g2, l1, l2, by omega, by simp (maxSteps := 2000000) (disch := first | omega | assumption | exact idP rfl | exact idP (bL rfl)) only [go_sem, reduceIte, Nat.reduceEqDiff], by simp (maxSteps := 2000000) (disch := first | omega | assumption | exact idP rfl | exact idP (bL rfl)) only [go_sem, reduceIte, Nat.reduceEqDiff], by simp (maxSteps := 2000000) (disch := first | omega | assumption | exact idP rfl | exact idP (bL rfl)) only [go_sem, reduceIte, Nat.reduceEqDiff]; rfl, by omega, by omega, by simpa using h5, by simpa using h6, rfl, rfl, fun _ _ => rfl⟩
    · rintro e M1 ⟨i, k', g1, g2, l1, l2, hi, e0, e1, e5, k1, k2, t1, t2, rfl, rfl, hq⟩ K hK
      simp (maxSteps := 2000000) (disch := first | omega | assumption | exact idP rfl | exact idP (bL rfl)) only [go_sem, reduceIte, Nat.reduceEqDiff, e0, e1, e5]
      refine cond_dec (fun h => ?_) (fun h => ?_)
      · have hi' : i < rs.length := by omega
        have h3 := h3 (by omega)
        have j0 : o + i * 3 < cs.length := by omega
        have j1 : o + i * 3 + 1 < cs.length := by omega
        have j2 : o + i * 3 + 2 < cs.length := by omega
        have c0 : cs[o + i * 3]? = some cs[o + i * 3] := List.getElem?_eq_getElem j0
        have c00 : cs[o + i * 3 + 0]? = some cs[o + i * 3] := c0
        have c1 : cs[o + i * 3 + 1]? = some cs[o + i * 3 + 1] := List.getElem?_eq_getElem j1
        have c2 : cs[o + i * 3 + 2]? = some cs[o + i * 3 + 2] := List.getElem?_eq_getElem j2
        have hfl := hl2 _ (List.getElem_mem hi')
        obtain ⟨f1, f2, f3, f4⟩ := hfl
        rw [List.drop_eq_getElem_cons j0, List.drop_eq_getElem_cons j1, List.drop_eq_getElem_cons j2] at t2
        obtain ⟨x', r1, gx, w1, rfl, rfl, tx, t3⟩ := t2.uncons
        obtain ⟨y', r2, gy, w2, rfl, rfl, ty, t4⟩ := t3.uncons
        obtain ⟨z', r3, gz, w3, rfl, rfl, tz, t5⟩ := t4.uncons
        have hl1 : l1.length = o + i * 3 := by rw [t1.len, List.length_take]; omega
        obtain ⟨u1, u2, u3, h5, hx, hy, hz⟩ := h4 i hi'
        rw [List.drop_left' hl1] at h5
        simp only [List.take_succ_cons, List.take_zero, List.cons.injEq, and_true] at h5
        obtain ⟨rfl, rfl, rfl⟩ := h5
        have sep : ∀ p, p ∈ gx ++ (gy ++ (gz ++ w3)) → inF g1 p.1 = false := fun p hp => nd_sep hng hp
        have hn2 := (Nd2.append hng).2.1
        have hb1 : ∀ M2 : MH, (∀ q, inF (g1 ++ (gx ++ (gy ++ (gz ++ w3)))) q = false → M2 q = M q) → M2 b = some cs := fun M2 hM2 => by rw [hM2 b hbg]; exact hmb
        have i1 : ∀ q, inF (g1 ++ (gx ++ (gy ++ (gz ++ w3)))) q = false → M1 q = M q := fun q hq2 => hq q (by rw [inF_append, Bool.or_eq_false_iff] at hq2; exact hq2.1)
        have b1 := hb1 M1 i1
        simp (maxSteps := 2000000) (disch := first | omega | assumption | exact idP rfl | exact idP (bL rfl)) only [go_sem, reduceIte, Nat.reduceEqDiff, e0, e1, e5, b1, c0, c00, c1, c2]
        refine (t_markTermS (leaf_of tx (flatL_all.1 hfc _ (List.getElem_mem j0)) hx (by omega) f1 (fun p hp => ?_)) (by omega) (by omega)).mono ?_
        · rw [hq p.1 (sep p (List.mem_append_left _ hp))]
          exact hmg p (List.mem_append_right _ (List.mem_append_left _ hp))
        rintro _ M2 ⟨k3, rfl, p1, p2, p3⟩
        have m2 : ∀ q, inF gx q = false → M2 q = M1 q := fun q hq2 => p3 q (fun hc => by have hc : inF gx q = true := hc; rw [hq2] at hc; cases hc)
        have b2 := hb1 M2 fun q hq2 => by
          rw [m2 q (by simp only [inF_append, Bool.or_eq_false_iff] at hq2; exact hq2.2.1)]; exact i1 q hq2
        simp (maxSteps := 2000000) (disch := first | omega | assumption | exact idP rfl | exact idP (bL rfl)) only [go_sem, reduceIte, Nat.reduceEqDiff, e0, e1, e5, b2, c0, c00, c1, c2]
        refine (t_markIntS (leaf_of ty (flatL_all.1 hfc _ (List.getElem_mem j1)) (ls_lc hy) (by omega) f2 (fun p hp => ?_)) (by omega) (by omega)).mono ?_
        · rw [m2 p.1 (nd_sep hn2 (List.mem_append_left _ hp)), hq p.1 (sep p (List.mem_append_right _ (List.mem_append_left _ hp)))]
          exact hmg p (List.mem_append_right _ (List.mem_append_right _ (List.mem_append_left _ hp)))
        rintro _ M3 ⟨k4, rfl, p4, p5, p6⟩
        have m3 : ∀ q, inF gy q = false → M3 q = M2 q := fun q hq2 => p6 q (fun hc => by have hc : inF gy q = true := hc; rw [hq2] at hc; cases hc)
        have b3 := hb1 M3 fun q hq2 => by
          simp only [inF_append, Bool.or_eq_false_iff] at hq2
          rw [m3 q hq2.2.2.1, m2 q hq2.2.1]; exact hq q hq2.1
        simp (maxSteps := 2000000) (disch := first | omega | assumption | exact idP rfl | exact idP (bL rfl)) only [go_sem, reduceIte, Nat.reduceEqDiff, e0, e1, e5, b3, c0, c00, c1, c2]
        have hn3 := (Nd2.append hn2).2.1
        refine (t_markTermSS tz (flatL_all.1 hfc _ (List.getElem_mem j2)) (fun q hq2 => hfg q (List.mem_append_right _ (List.mem_append_right _ (List.mem_append_right _ (List.mem_append_left _ hq2))))) hz (Nd2.append (Nd2.append hn3).2.1).1 (fun p hp => ?_) f3 f4 (by omega) (by omega)).mono ?_
        · rw [m3 p.1 (nd_sep hn3 (List.mem_append_left _ hp)), m2 p.1 (nd_sep hn2 (List.mem_append_right _ (List.mem_append_left _ hp))), hq p.1 (sep p (List.mem_append_right _ (List.mem_append_right _ (List.mem_append_left _ hp))))]
          exact hmg p (List.mem_append_right _ (List.mem_append_right _ (List.mem_append_right _ (List.mem_append_left _ hp))))
        rintro _ M4 ⟨k5, rfl, p7, p8, p9⟩
        have m4 : ∀ q, inF gz q = false → M4 q = M3 q := fun q hq2 => p9 q (fun hc => by have hc : inF gz q = true := hc; rw [hq2] at hc; cases hc)
        simp (maxSteps := 2000000) (disch := first | omega | assumption | exact idP rfl | exact idP (bL rfl)) only [go_sem, reduceIte, Nat.reduceEqDiff, e0, e1, e5]
        refine hK _ _ ⟨i + 1, k5, g1 ++ (gx ++ (gy ++ gz)), w3, l1 ++ [x', y', z'], r3, by omega, by simp (maxSteps := 2000000) (disch := first | omega | assumption | exact idP rfl | exact idP (bL rfl)) only [go_sem, reduceIte, Nat.reduceEqDiff, e0], by simp (maxSteps := 2000000) (disch := first | omega | assumption | exact idP rfl | exact idP (bL rfl)) only [go_sem, reduceIte, Nat.reduceEqDiff], by simp (maxSteps := 2000000) (disch := first | omega | assumption | exact idP rfl | exact idP (bL rfl)) only [go_sem, reduceIte, Nat.reduceEqDiff]; rfl, by omega, by omega, ?_, ?_, by simp, by simp, fun q hq2 => ?_⟩ (by simp (maxSteps := 2000000) (disch := first | omega | assumption | exact idP rfl | exact idP (bL rfl)) only [go_sem, reduceIte, Nat.reduceEqDiff, ctrV_int, e5]; omega)
        · rw [show o + (i + 1) * 3 = o + i * 3 + 1 + 1 + 1 by omega, take_one j2, take_one j1, take_one j0, List.append_assoc, List.append_assoc]
          exact t1.append (tx.append (ty.append tz))
        · rw [show o + (i + 1) * 3 = o + i * 3 + 1 + 1 + 1 by omega]; exact t5
        · simp only [inF_append, Bool.or_eq_false_iff] at hq2
          rw [m4 q hq2.2.2.2, m3 q hq2.2.2.1, m2 q hq2.2.1]
          exact hq q hq2.1
      · obtain rfl : i = rs.length := by omega
        simp (maxSteps := 2000000) (disch := first | omega | assumption | exact idP rfl | exact idP (bL rfl)) only [go_sem, reduceIte, Nat.reduceEqDiff, e1]
        refine hR _ _ ⟨k', rfl, k1, by omega, fun q hq1 => hq q ?_⟩
        cases hc : inF g1 q with
        | false => rfl
        | true => exact absurd (hgo q (by rw [inF_append, hc]; rfl)) hq1
structure OwnS (M0 M : MH) (s : SysS) (x y : V) (x' y' : V) (fp : List (Nat × List V)) : Prop where
  tr : Tr [x, y] [x', y'] fp
  mem : Mem M0 M fp
  fl : flatL [x, y]
  ff : ∀ q ∈ fp, flatL q.2
  lx : LVar x' s.vars
  ly : LR y' s.rules
theorem OwnS.sys {M0 M : MH} {s : SysS} {x y x' y' : V} {fp : List (Nat × List V)} (h : OwnS M0 M s x y x' y' fp) : isSys s (.agg [x', y']) := ⟨x', y', rfl, h.lx, h.ly⟩
theorem o_toSystem {v : V} {s : SysS} (hv : isSysX s v) (hf : SysFit s) : VCall Tryz.prog n_laws_toSystem [v] M (fun r' M' => ∃ x y x' y' fp, r' = .agg [x, y] ∧ One x ∧ One y ∧ OwnS M M' s x y x' y' fp) :=
  (d_toSystem hv hf).mono fun r M' ⟨x, y, h1, h2, h3, l', fp, t1, t2, t3, t4, x', y', h4, h5, h6⟩ => ⟨x, y, x', y', fp, h1, h2, h3, by subst h4; exact ⟨t1, t2, t3, t4, h5, h6⟩⟩
theorem t_markSystem {M0 : MH} {s : SysS} {x y x' y' : V} {fp : List (Nat × List V)} {k : Int} (h : OwnS M0 M s x y x' y' fp) (hf : SysFit s) (hk : 0 ≤ k) (hk2 : k ≤ 3000000000000000000) :
    VCall Tryz.prog n_laws_markSystem [.agg [x, y], .sc (.int .i64 k)] M (fun r M' => ∃ k' : Int, r = .sc (.int .i64 k') ∧ k ≤ k' ∧ k' ≤ 7800000000000000000 ∧ Sub M0 M' ∧ ∀ q l, M q = some l → inF fp q = false → M' q = some l) := by
  refine VCall.plain fun R hR => v_laws_markSystem rfl ?_
  obtain ⟨f1, f2, f3⟩ := hf
  obtain ⟨u1, r1, gx, gr, e1, rfl, tx, t2⟩ := h.tr.uncons
  obtain ⟨u2, r2, gy, gr2, e2, rfl, ty, t3⟩ := t2.uncons
  rw [List.cons.injEq] at e1
  obtain ⟨rfl, rfl⟩ := e1
  rw [List.cons.injEq] at e2
  obtain ⟨rfl, rfl⟩ := e2
  cases t3
  have hfl := h.fl
  simp only [flatL] at hfl
  have hnd := h.mem.nd
  rw [List.append_nil] at hnd
  have hat := h.mem.at_
  have hff := h.ff
  simp only [List.append_nil] at hat hff
  simp (maxSteps := 2000000) (disch := first | omega | assumption | exact idP rfl | exact idP (bL rfl)) only [go_sem, reduceIte, Nat.reduceEqDiff]
  intro b2 hb2
  have hne : ∀ q l, M q = some l → q ≠ b2 := fun q l hq e => by subst e; rw [hb2] at hq; cases hq
  refine (t_markVarS (leaf_of tx hfl.1 h.lx (by omega) f1 (fun p hp => ?_)) hk (by omega)).mono ?_
  · rw [set_ne (hne _ _ (hat p (List.mem_append_left _ hp)))]; exact hat p (List.mem_append_left _ hp)
  rintro _ M2 ⟨k3, rfl, p1, p2, p3⟩
  have m2 : ∀ q, inF gx q = false → M2 q = (M.set b2 [x, y]) q := fun q hq2 => p3 q (fun hc => by have hc : inF gx q = true := hc; rw [hq2] at hc; cases hc)
  have hb2x : inF gx b2 = false := by
    cases hc : inF gx b2 with
    | false => rfl
    | true =>
      obtain ⟨l, hl⟩ := inF_iff.1 hc
      have := hat _ (List.mem_append_left _ hl)
      rw [hb2] at this; cases this
  have q2 : M2 b2 = some [x, y] := by rw [m2 b2 hb2x]; exact set_same
  simp (maxSteps := 2000000) (disch := first | omega | assumption | exact idP rfl | exact idP (bL rfl)) only [go_sem, reduceIte, Nat.reduceEqDiff, q2]
  refine (t_markRuleS ty hfl.2.1 (fun q hq => hff q (List.mem_append_right _ hq)) h.ly (Nd2.append hnd).2.1 (fun p hp => ?_) f2 f3 (by omega) (by omega)).mono ?_
  · rw [m2 p.1 (nd_sep hnd hp), set_ne (hne _ _ (hat p (List.mem_append_right _ hp)))]; exact hat p (List.mem_append_right _ hp)
  rintro _ M3 ⟨k4, rfl, p4, p5, p6⟩
  have m3 : ∀ q, inF gy q = false → M3 q = M2 q := fun q hq2 => p6 q (fun hc => by have hc : inF gy q = true := hc; rw [hq2] at hc; cases hc)
  simp (maxSteps := 2000000) (disch := first | omega | assumption | exact idP rfl | exact idP (bL rfl)) only [go_sem, reduceIte, Nat.reduceEqDiff]
  have keep : ∀ q l, M q = some l → inF (gx ++ gy) q = false → M3 q = some l := fun q l hq hn => by
    rw [inF_append, Bool.or_eq_false_iff] at hn
    rw [m3 q hn.2, m2 q hn.1, set_ne (hne q l hq)]; exact hq
  refine hR _ _ ⟨k4, rfl, by omega, by omega, fun q l hq => keep q l (h.mem.sub q l hq) ?_, fun q l hq hn => keep q l hq (by simpa using hn)⟩
  cases hc : inF (gx ++ gy) q with
  | false => rfl
  | true =>
    obtain ⟨l2, hl⟩ := inF_iff.1 hc
    have := h.mem.new _ (by simpa using hl)
    simp only at this
    rw [this] at hq; cases hq
end Go.M2

namespace Go.M2
open Go.Proofs
variable {M : MH}
theorem o_over {v w : V} {tab : List (List Int)} {xs : List Int} (hv : LII v tab) (hw : LI w xs) (hn : tab.length ≤ 1048576) (hl : xs.length ≤ 1048576) (hin : ∀ x ∈ xs, 0 ≤ x ∧ x < (tab.length : Int))
    (htl : ∀ r ∈ tab, r.length ≤ 1048576 ∧ ∀ x ∈ r, 0 ≤ x ∧ x < (tab.length : Int)) :
    VCall Tryz.prog n_impl_over [v, w] M (fun r M' => Gr 1 M M' r ((selL tab.length (behB tab xs)).map vi)) := by
  refine VCall.plain fun R hR => v_impl_over rfl ?_
  simp (maxSteps := 2000000) (disch := first | omega | assumption | exact idP rfl | exact idP (bL rfl)) only [go_sem, reduceIte, Nat.reduceEqDiff, hv.len]
  refine mks3 (by omega) (by simp [mostCells]; omega) (by simp [mostCells]; omega) ?_
  intro b9 hb9
  simp (maxSteps := 2000000) (disch := first | omega | assumption | exact idP rfl | exact idP (bL rfl)) only [go_sem, reduceIte, Nat.reduceEqDiff, hw.len, zeros_vb, mkL_none]
  refine loop_k (fun e M' => ∃ i : Nat, i ≤ xs.length ∧ e 0 = v ∧ e 5 = .sc (.sl (some (b9, 0)) tab.length tab.length true 1) ∧ e 13 = w ∧ e 14 = .sc (.int .i64 xs.length) ∧ e 15 = .sc (.int .i64 i) ∧ Sub M M' ∧ M' b9 = some ((mkL tab.length (behB tab (xs.take i))).map vb)) (fun e _ => ctrV xs.length (e 15)) ?_ ?_
  · refine ⟨0, by omega, by simp (maxSteps := 2000000) (disch := first | omega | assumption | exact idP rfl | exact idP (bL rfl)) only [go_sem, reduceIte, Nat.reduceEqDiff], by simp (maxSteps := 2000000) (disch := first | omega | assumption | exact idP rfl | exact idP (bL rfl)) only [go_sem, reduceIte, Nat.reduceEqDiff], by simp (maxSteps := 2000000) (disch := first | omega | assumption | exact idP rfl | exact idP (bL rfl)) only [go_sem, reduceIte, Nat.reduceEqDiff], by simp (maxSteps := 2000000) (disch := first | omega | assumption | exact idP rfl | exact idP (bL rfl)) only [go_sem, reduceIte, Nat.reduceEqDiff], by simp (maxSteps := 2000000) (disch := first | omega | assumption | exact idP rfl | exact idP (bL rfl)) only [go_sem, reduceIte, Nat.reduceEqDiff]; rfl, (Sub.refl _).set hb9, ?_⟩
    simp (maxSteps := 2000000) (disch := first | omega | assumption | exact idP rfl | exact idP (bL rfl)) only [go_sem, reduceIte, Nat.reduceEqDiff]
    rw [mkL_ext]
    intro i hi; simp [behB]
  · rintro e M1 ⟨i, hi, e0, e5, e13, e14, e15, hsub, hm⟩ K hK
    simp (maxSteps := 2000000) (disch := first | omega | assumption | exact idP rfl | exact idP (bL rfl)) only [go_sem, reduceIte, Nat.reduceEqDiff, e0, e5, e13, e14, e15]
    refine cond_dec (fun h => ?_) (fun h => ?_)
    · have hi' : i < xs.length := by omega
      have hxi := hin _ (List.getElem_mem hi')
      have hxt : xs[i].toNat < tab.length := by omega
      have hrow := hv.elt hxt
      have hrl := htl _ (List.getElem_mem hxt)
      simp (maxSteps := 2000000) (disch := first | omega | assumption | exact idP rfl | exact idP (bL rfl)) only [go_sem, reduceIte, Nat.reduceEqDiff, e0, e5, e13, e14, e15, hw.iaddr, hw.at hi', hv.iaddr, hrow.len]
      refine loop_k (fun e' M' => ∃ j : Nat, j ≤ tab[xs[i].toNat].length ∧ e' 0 = v ∧ e' 5 = .sc (.sl (some (b9, 0)) tab.length tab.length true 1) ∧ e' 13 = w ∧ e' 14 = .sc (.int .i64 xs.length) ∧ e' 15 = .sc (.int .i64 i) ∧ e' 22 = at1 v xs[i].toNat ∧ e' 23 = .sc (.int .i64 tab[xs[i].toNat].length) ∧ e' 24 = .sc (.int .i64 j) ∧ Sub M M' ∧ M' b9 = some ((mkL tab.length (fun q => behB tab (xs.take i) q || inL (tab[xs[i].toNat].take j) q)).map vb)) (fun e' _ => ctrV tab[xs[i].toNat].length (e' 24)) ?_ ?_
      · refine ⟨0, by omega, by simp (maxSteps := 2000000) (disch := first | omega | assumption | exact idP rfl | exact idP (bL rfl)) only [go_sem, reduceIte, Nat.reduceEqDiff], by simp (maxSteps := 2000000) (disch := first | omega | assumption | exact idP rfl | exact idP (bL rfl)) only [go_sem, reduceIte, Nat.reduceEqDiff], by simp (maxSteps := 2000000) (disch := first | omega | assumption | exact idP rfl | exact idP (bL rfl)) only [go_sem, reduceIte, Nat.reduceEqDiff], by simp (maxSteps := 2000000) (disch := first | omega | assumption | exact idP rfl | exact idP (bL rfl)) only [go_sem, reduceIte, Nat.reduceEqDiff], by simp (maxSteps := 2000000) (disch := first | omega | assumption | exact idP rfl | exact idP (bL rfl)) only [go_sem, reduceIte, Nat.reduceEqDiff], by simp (maxSteps := 2000000) (disch := first | omega | assumption | exact idP rfl | exact idP (bL rfl)) only [go_sem, reduceIte, Nat.reduceEqDiff], by simp (maxSteps := 2000000) (disch := first | omega | assumption | exact idP rfl | exact idP (bL rfl)) only [go_sem, reduceIte, Nat.reduceEqDiff], by simp (maxSteps := 2000000) (disch := first | omega | assumption | exact idP rfl | exact idP (bL rfl)) only [go_sem, reduceIte, Nat.reduceEqDiff]; rfl, hsub, ?_⟩
        rw [hm, mkL_ext (q := fun q => behB tab (xs.take i) q || inL (tab[xs[i].toNat].take 0) q)]
        intro i hi; simp [inL]
      · rintro e' M2 ⟨j, hj, f0, f5, f13, f14, f15, f22, f23, f24, hsub2, hm2⟩ K2 hK2
        simp (maxSteps := 2000000) (disch := first | omega | assumption | exact idP rfl | exact idP (bL rfl)) only [go_sem, reduceIte, Nat.reduceEqDiff, f0, f5, f13, f14, f15, f22, f23, f24]
        refine cond_dec (fun h => ?_) (fun h => ?_)
        · have hj' : j < tab[xs[i].toNat].length := by omega
          have hxj := hrl.2 _ (List.getElem_mem hj')
          have hso : tab[xs[i].toNat][j].toNat < ((mkL tab.length (fun q => behB tab (xs.take i) q || inL (tab[xs[i].toNat].take j) q)).map vb).length := by rw [len_vb', mkL_len]; omega
          simp (maxSteps := 2000000) (disch := first | omega | assumption | exact idP rfl | exact idP (bL rfl)) only [go_sem, reduceIte, Nat.reduceEqDiff, f0, f5, f13, f14, f15, f22, f23, f24, hrow.iaddr, hrow.at hj', hm2]
          refine hK2 _ _ ⟨j + 1, by omega, by simp (maxSteps := 2000000) (disch := first | omega | assumption | exact idP rfl | exact idP (bL rfl)) only [go_sem, reduceIte, Nat.reduceEqDiff], by simp (maxSteps := 2000000) (disch := first | omega | assumption | exact idP rfl | exact idP (bL rfl)) only [go_sem, reduceIte, Nat.reduceEqDiff], by simp (maxSteps := 2000000) (disch := first | omega | assumption | exact idP rfl | exact idP (bL rfl)) only [go_sem, reduceIte, Nat.reduceEqDiff], by simp (maxSteps := 2000000) (disch := first | omega | assumption | exact idP rfl | exact idP (bL rfl)) only [go_sem, reduceIte, Nat.reduceEqDiff], by simp (maxSteps := 2000000) (disch := first | omega | assumption | exact idP rfl | exact idP (bL rfl)) only [go_sem, reduceIte, Nat.reduceEqDiff], by simp (maxSteps := 2000000) (disch := first | omega | assumption | exact idP rfl | exact idP (bL rfl)) only [go_sem, reduceIte, Nat.reduceEqDiff], by simp (maxSteps := 2000000) (disch := first | omega | assumption | exact idP rfl | exact idP (bL rfl)) only [go_sem, reduceIte, Nat.reduceEqDiff], by simp (maxSteps := 2000000) (disch := first | omega | assumption | exact idP rfl | exact idP (bL rfl)) only [go_sem, reduceIte, Nat.reduceEqDiff]; rfl, hsub2.set hb9, ?_⟩ (by simp (maxSteps := 2000000) (disch := first | omega | assumption | exact idP rfl | exact idP (bL rfl)) only [go_sem, reduceIte, Nat.reduceEqDiff, ctrV_int, f24]; omega)
          simp (maxSteps := 2000000) (disch := first | omega | assumption | exact idP rfl | exact idP (bL rfl)) only [go_sem, reduceIte, Nat.reduceEqDiff]
          rw [set_vb', mkL_set]
          intro q hq
          simp only [inL, take_snoc hj', List.mem_append, List.mem_singleton, Bool.decide_or, Bool.or_assoc]
          congr 2
          apply decide_eq_decide.2
          omega
        · obtain rfl : j = tab[xs[i].toNat].length := by omega
          rw [List.take_length] at hm2
          simp (maxSteps := 2000000) (disch := first | omega | assumption | exact idP rfl | exact idP (bL rfl)) only [go_sem, reduceIte, Nat.reduceEqDiff, f0, f5, f13, f14, f15]
          refine hK _ _ ⟨i + 1, by omega, by simp (maxSteps := 2000000) (disch := first | omega | assumption | exact idP rfl | exact idP (bL rfl)) only [go_sem, reduceIte, Nat.reduceEqDiff], by simp (maxSteps := 2000000) (disch := first | omega | assumption | exact idP rfl | exact idP (bL rfl)) only [go_sem, reduceIte, Nat.reduceEqDiff], by simp (maxSteps := 2000000) (disch := first | omega | assumption | exact idP rfl | exact idP (bL rfl)) only [go_sem, reduceIte, Nat.reduceEqDiff], by simp (maxSteps := 2000000) (disch := first | omega | assumption | exact idP rfl | exact idP (bL rfl)) only [go_sem, reduceIte, Nat.reduceEqDiff], by simp (maxSteps := 2000000) (disch := first | omega | assumption | exact idP rfl | exact idP (bL rfl)) only [go_sem, reduceIte, Nat.reduceEqDiff]; rfl, hsub2, ?_⟩ (by simp (maxSteps := 2000000) (disch := first | omega | assumption | exact idP rfl | exact idP (bL rfl)) only [go_sem, reduceIte, Nat.reduceEqDiff, ctrV_int, e15, f15]; omega)
          rw [hm2, mkL_ext]
          intro q hq
          rw [behB_snoc hi']
          simp [inL, List.getD, hxt]
    · obtain rfl : i = xs.length := by omega
      rw [List.take_length] at hm
      simp (maxSteps := 2000000) (disch := first | omega | assumption | exact idP rfl | exact idP (bL rfl)) only [go_sem, reduceIte, Nat.reduceEqDiff, e5]
      have hg : Gr 1 M M1 (.sc (.sl (some (b9, 0)) tab.length tab.length true 1)) ((mkL tab.length (behB tab xs)).map vb) := ⟨hsub, fun b' h' => by simp [blkV] at h'; subst h'; exact hb9, .inr ⟨b9, _, true, rfl, hm, by rw [len_vb', mkL_len]; omega⟩⟩
      refine (VCall.give0 hg fun u M2 hu hs2 => (t_listOf hu.lb hn).mono fun r M' hr => hr.base hs2).mono ?_
      rintro r M2 hg2
      simp (maxSteps := 2000000) (disch := first | omega | assumption | exact idP rfl | exact idP (bL rfl)) only [go_sem, reduceIte, Nat.reduceEqDiff]
      exact hR _ _ hg2
theorem Dn.nil1 {k : Nat} : Dn M M (.sc (.sl none 0 0 true k)) (fun u => LI u []) := ⟨_, [], .refl _, .nil (Sub.refl _), by simp [flat], fun q hq => (by cases hq), .nil⟩
theorem Dn.nilS {M' : MH} {k : Nat} (h : Sub M M') : Dn M M' (.sc (.sl none 0 0 true k)) (fun u => LI u []) := ⟨_, [], .refl _, .nil h, by simp [flat], fun q hq => (by cases hq), .nil⟩
theorem Gr.dnI {M' : MH} {v : V} {ys : List Int} (h : Gr 1 M M' v (ys.map vi)) : Dn M M' v (fun u => LI u ys) := h.dn (flatL_vi ys) fun u hu => hu.li
def Hd (M : MH) (v : V) (n : Nat) (k : Int) : Prop := (n = 0 ∧ ∃ q, v = .sc (.sl none 0 0 true q)) ∨ ∃ b o c ex kk l, v = .sc (.sl (some (b, o)) n c ex kk) ∧ M b = some l ∧ ∀ i, i < n → l[o + i]? = some (.sc (.int .i64 (k + i)))
theorem t_heldIntS {v : V} {n : Nat} {k : Int} (hv : Hd M v n k) (hn : n ≤ 1048576) (hk : 0 ≤ k) (hk2 : k ≤ 9000000000000000000) : VCall Tryz.prog n_laws_heldIntS [v, .sc (.int .i64 k)] M (fun r M' => M = M' ∧ r = .sc (.int .i64 (k + n))) := by
  refine VCall.pure fun R hR => v_laws_heldIntS rfl ?_
  rcases hv with ⟨rfl, q, rfl⟩ | ⟨b, o, c, ex, kk, l, rfl, hm, hl⟩
  · simp (maxSteps := 2000000) (disch := first | omega | assumption | exact idP rfl | exact idP (bL rfl)) only [go_sem, reduceIte, Nat.reduceEqDiff]
    refine loop_k (fun e M' => M' = M ∧ e 0 = .sc (.sl none 0 0 true q) ∧ e 1 = .sc (.int .i64 k) ∧ e 5 = .sc (.int .i64 0)) (fun e _ => 0) ⟨rfl, by simp (maxSteps := 2000000) (disch := first | omega | assumption | exact idP rfl | exact idP (bL rfl)) only [go_sem, reduceIte, Nat.reduceEqDiff], by simp (maxSteps := 2000000) (disch := first | omega | assumption | exact idP rfl | exact idP (bL rfl)) only [go_sem, reduceIte, Nat.reduceEqDiff], by simp (maxSteps := 2000000) (disch := first | omega | assumption | exact idP rfl | exact idP (bL rfl)) only [go_sem, reduceIte, Nat.reduceEqDiff]⟩ ?_
    rintro e _ ⟨rfl, e0, e1, e5⟩ K hK
    simp (maxSteps := 2000000) (disch := first | omega | assumption | exact idP rfl | exact idP (bL rfl)) only [go_sem, reduceIte, Nat.reduceEqDiff, e0, e1, e5]
    exact hR _ _ (by (repeat (first | exact Sub.refl _ | assumption | (refine Sub.set' ?_ (by assumption))))) (by rw [Int.natCast_zero, Int.add_zero]; rfl)
  · simp (maxSteps := 2000000) (disch := first | omega | assumption | exact idP rfl | exact idP (bL rfl)) only [go_sem, reduceIte, Nat.reduceEqDiff]
    refine loop_k (fun e M' => M' = M ∧ ∃ i : Nat, i ≤ n ∧ e 0 = .sc (.sl (some (b, o)) n c ex kk) ∧ e 1 = .sc (.int .i64 (k + i)) ∧ e 5 = .sc (.int .i64 i)) (fun e _ => ctrV n (e 5)) ?_ ?_
    · exact ⟨rfl, 0, by omega, by simp (maxSteps := 2000000) (disch := first | omega | assumption | exact idP rfl | exact idP (bL rfl)) only [go_sem, reduceIte, Nat.reduceEqDiff], by simp (maxSteps := 2000000) (disch := first | omega | assumption | exact idP rfl | exact idP (bL rfl)) only [go_sem, reduceIte, Nat.reduceEqDiff]; simp, by simp (maxSteps := 2000000) (disch := first | omega | assumption | exact idP rfl | exact idP (bL rfl)) only [go_sem, reduceIte, Nat.reduceEqDiff]; rfl⟩
    · rintro e _ ⟨rfl, i, hi, e0, e1, e5⟩ K hK
      simp (maxSteps := 2000000) (disch := first | omega | assumption | exact idP rfl | exact idP (bL rfl)) only [go_sem, reduceIte, Nat.reduceEqDiff, e0, e1, e5]
      refine cond_dec (fun h => ?_) (fun h => ?_)
      · have h1 := hl i (by omega)
        have h2 : l[o + i * 1]? = some (.sc (.int .i64 (k + i))) := by rw [Nat.mul_one]; exact h1
        (repeat' (first | ((first | with_reducible refine cond_dec (fun h => ?_) (fun h => ?_) | with_reducible refine guardK_dec (fun h => ?_) (fun h => ?_) | with_reducible refine guardD3_dec (fun h => ?_) (fun h => ?_)) <;> first | (exfalso; omega) | (simp (maxSteps := 2000000) (disch := first | omega | assumption | exact idP rfl | exact idP (bL rfl)) only [go_sem, reduceIte, Nat.reduceEqDiff, h, e0, e1, e5, hm, h1, h2]) | skip) | ((first | with_reducible refine cond_split (fun h => ?_) (fun h => ?_) | with_reducible refine guardK_split (fun h => ?_) (fun h => ?_) | with_reducible refine guardD3_split (fun h => ?_) (fun h => ?_)) <;> ((try simp only [Bool.not_eq_true', Bool.not_eq_false'] at h); first | (simp (maxSteps := 2000000) (disch := first | omega | assumption | exact idP rfl | exact idP (bL rfl)) only [go_sem, reduceIte, Nat.reduceEqDiff, h, e0, e1, e5, hm, h1, h2]) | skip)) | (with_reducible intro bk hbk; try have hnk := (fresh_set hbk).1) | (simp (maxSteps := 2000000) (disch := first | omega | assumption | exact idP rfl | exact idP (bL rfl)) only [go_sem, reduceIte, Nat.reduceEqDiff, e0, e1, e5, hm, h1, h2])))
        exact hK _ _ ⟨rfl, i + 1, by omega, by simp (maxSteps := 2000000) (disch := first | omega | assumption | exact idP rfl | exact idP (bL rfl)) only [go_sem, reduceIte, Nat.reduceEqDiff, e0], by simp (maxSteps := 2000000) (disch := first | omega | assumption | exact idP rfl | exact idP (bL rfl)) only [go_sem, reduceIte, Nat.reduceEqDiff, e1]; rw [Int.natCast_add, Int.add_assoc]; rfl, by simp (maxSteps := 2000000) (disch := first | omega | assumption | exact idP rfl | exact idP (bL rfl)) only [go_sem, reduceIte, Nat.reduceEqDiff, e5]; rfl⟩ (by simp (maxSteps := 2000000) (disch := first | omega | assumption | exact idP rfl | exact idP (bL rfl)) only [go_sem, reduceIte, Nat.reduceEqDiff, ctrV_int, e5]; omega)
      · obtain rfl : i = n := by omega
        simp (maxSteps := 2000000) (disch := first | omega | assumption | exact idP rfl | exact idP (bL rfl)) only [go_sem, reduceIte, Nat.reduceEqDiff, e1]
        exact hR _ _ (by (repeat (first | exact Sub.refl _ | assumption | (refine Sub.set' ?_ (by assumption))))) rfl
theorem t_markR {v v' : V} {fp : List (Nat × List V)} {ys : List Int} (ht : Tr [v] [v'] fp) (hf : flat v) (hv : LI v' ys) (hm : ∀ p ∈ fp, M p.1 = some p.2) (hl : ys.length ≤ 1048576) :
    VCall Tryz.prog n_laws_markIntS [v, .sc (.int .i64 1)] M (fun r M' => r = .sc (.int .i64 (1 + ys.length)) ∧ Hd M' v ys.length 1 ∧ ∀ q, inF fp q = false → M' q = M q) := by
  refine VCall.plain fun R hR => v_laws_markIntS rfl ?_
  rcases ht.win hf (ls_lc hv) with ⟨q, rfl, rfl⟩ | ⟨b, o, c, ex, kk, cs, cs', g, rfl, h2, rfl, h3, h4⟩
  · simp (maxSteps := 2000000) (disch := first | omega | assumption | exact idP rfl | exact idP (bL rfl)) only [go_sem, reduceIte, Nat.reduceEqDiff]
    refine loop_k (fun e M' => M' = M ∧ e 0 = .sc (.sl none 0 0 true q) ∧ e 1 = .sc (.int .i64 1) ∧ e 5 = .sc (.int .i64 0)) (fun e _ => 0) ⟨rfl, by simp (maxSteps := 2000000) (disch := first | omega | assumption | exact idP rfl | exact idP (bL rfl)) only [go_sem, reduceIte, Nat.reduceEqDiff], by simp (maxSteps := 2000000) (disch := first | omega | assumption | exact idP rfl | exact idP (bL rfl)) only [go_sem, reduceIte, Nat.reduceEqDiff], by simp (maxSteps := 2000000) (disch := first | omega | assumption | exact idP rfl | exact idP (bL rfl)) only [go_sem, reduceIte, Nat.reduceEqDiff]⟩ ?_
    rintro e _ ⟨rfl, e0, e1, e5⟩ K hK
    simp (maxSteps := 2000000) (disch := first | omega | assumption | exact idP rfl | exact idP (bL rfl)) only [go_sem, reduceIte, Nat.reduceEqDiff, e0, e1, e5]
    exact hR _ _ ⟨rfl, .inl ⟨rfl, q, rfl⟩, fun q _ => rfl⟩
  · have hmb : M b = some cs := hm (b, cs) (List.mem_cons_self ..)
    simp (maxSteps := 2000000) (disch := first | omega | assumption | exact idP rfl | exact idP (bL rfl)) only [go_sem, reduceIte, Nat.reduceEqDiff]
    refine loop_k (fun e M' => ∃ (i : Nat) (l' : List V), i ≤ ys.length ∧ e 0 = .sc (.sl (some (b, o)) ys.length c ex kk) ∧ e 1 = .sc (.int .i64 (1 + i)) ∧ e 5 = .sc (.int .i64 i) ∧ (∀ q, q ≠ b → M' q = M q) ∧ M' b = some l' ∧ l'.length = cs.length ∧ ∀ j, j < i → l'[o + j]? = some (.sc (.int .i64 (1 + j)))) (fun e _ => ctrV ys.length (e 5)) ?_ ?_
    · exact ⟨0, cs, by omega, by simp (maxSteps := 2000000) (disch := first | omega | assumption | exact idP rfl | exact idP (bL rfl)) only [go_sem, reduceIte, Nat.reduceEqDiff], by simp (maxSteps := 2000000) (disch := first | omega | assumption | exact idP rfl | exact idP (bL rfl)) only [go_sem, reduceIte, Nat.reduceEqDiff]; simp, by simp (maxSteps := 2000000) (disch := first | omega | assumption | exact idP rfl | exact idP (bL rfl)) only [go_sem, reduceIte, Nat.reduceEqDiff]; rfl, fun _ _ => rfl, hmb, rfl, fun j hj => by omega⟩
    · rintro e M1 ⟨i, l', hi, e0, e1, e5, hq, hm1, hl1, hj⟩ K hK
      simp (maxSteps := 2000000) (disch := first | omega | assumption | exact idP rfl | exact idP (bL rfl)) only [go_sem, reduceIte, Nat.reduceEqDiff, e0, e1, e5]
      refine cond_dec (fun h => ?_) (fun h => ?_)
      · have h3 := h3 (by omega)
        have hso : o + i * 1 < l'.length := by omega
        have hso2 : o + i < l'.length := by omega
        simp (maxSteps := 2000000) (disch := first | omega | assumption | exact idP rfl | exact idP (bL rfl)) only [go_sem, reduceIte, Nat.reduceEqDiff, e0, e1, e5, hm1]
        refine hK _ _ ⟨i + 1, l'.set (o + i) (.sc (.int .i64 (1 + i))), by omega, by simp (maxSteps := 2000000) (disch := first | omega | assumption | exact idP rfl | exact idP (bL rfl)) only [go_sem, reduceIte, Nat.reduceEqDiff, e0], by simp (maxSteps := 2000000) (disch := first | omega | assumption | exact idP rfl | exact idP (bL rfl)) only [go_sem, reduceIte, Nat.reduceEqDiff]; rw [Int.natCast_add, Int.add_assoc]; rfl, by simp (maxSteps := 2000000) (disch := first | omega | assumption | exact idP rfl | exact idP (bL rfl)) only [go_sem, reduceIte, Nat.reduceEqDiff]; rfl, fun q hqb => by rw [set_ne hqb]; exact hq q hqb, by rw [set_same], by simp [hl1], fun j hj2 => ?_⟩ (by simp (maxSteps := 2000000) (disch := first | omega | assumption | exact idP rfl | exact idP (bL rfl)) only [go_sem, reduceIte, Nat.reduceEqDiff, ctrV_int, e5]; omega)
        by_cases e : j = i
        · subst e; rw [List.getElem?_set_self (by omega)]
        · rw [List.getElem?_set_ne (by omega)]; exact hj j (by omega)
      · obtain rfl : i = ys.length := by omega
        simp (maxSteps := 2000000) (disch := first | omega | assumption | exact idP rfl | exact idP (bL rfl)) only [go_sem, reduceIte, Nat.reduceEqDiff, e1]
        refine hR _ _ ⟨rfl, .inr ⟨b, o, c, ex, kk, l', rfl, hm1, hj⟩, fun q hq1 => hq q fun e => ?_⟩
        rw [e] at hq1
        have := inF_mem (fp := (b, cs) :: g) (p := (b, cs)) (List.mem_cons_self ..)
        simp only at this
        rw [this] at hq1; cases hq1
end Go.M2

namespace Go.M2
open Go.Proofs
variable {M : MH}
theorem flat_bool {b : Bool} : ∀ r : V, r = .sc (.bool b) → flat r := fun r h => by subst h; simp [flat]
theorem l_eqIntS {v v' w : V} {fp : List (Nat × List V)} {xs : List Int} (ht : Tr [v] [v'] fp) (hv : LI v' xs) (hm : ∀ p ∈ fp, M p.1 = some p.2) (hn : Nd2 fp) (hw : LI w xs) (hl : xs.length ≤ 1048576) : VCall Tryz.prog n_laws_eqIntS [v, w] M (fun r M' => M = M' ∧ r = .sc (.bool true)) := by
  have h2 : Tr [v, w] [v', w] (fp ++ []) := ht.append (.keep w .nil)
  rw [List.append_nil] at h2
  refine VCall.lendP h2 hm hn flat_bool fun M' => (x_eqIntS hv hw hl).mono fun r M'' ⟨h3, h4⟩ => ⟨h3, by rw [h4]; simp⟩
theorem OwnS.more {M0 M M' : MH} {s : SysS} {x y x' y' : V} {fp : List (Nat × List V)} (h : OwnS M0 M s x y x' y' fp) (hs : Sub M M') : OwnS M0 M' s x y x' y' fp := ⟨h.tr, h.mem.more hs, h.fl, h.ff, h.lx, h.ly⟩
theorem OwnS.arg {M0 M : MH} {s : SysS} {x y x' y' : V} {fp : List (Nat × List V)} (h : OwnS M0 M s x y x' y' fp) : Tr [.agg [x, y]] [.agg [x', y']] fp := by
  have := Tr.agg h.tr Tr.nil
  rwa [List.append_nil] at this
theorem l_eqSystem {M0 : MH} {s : SysS} {x y x' y' w : V} {fp : List (Nat × List V)} (h : OwnS M0 M s x y x' y' fp) (hw : isSys s w) (hf : SysFit s) : VCall Tryz.prog n_laws_eqSystem [.agg [x, y], w] M (fun r M' => M = M' ∧ r = .sc (.bool true)) := by
  have h2 : Tr [.agg [x, y], w] [.agg [x', y'], w] (fp ++ []) := h.arg.append (.keep w .nil)
  rw [List.append_nil] at h2
  exact VCall.lendP h2 h.mem.at_ h.mem.nd flat_bool fun M' => x_eqSystem h.sys hw hf
end Go.M2

namespace Go.M2
open Go.Proofs
variable {M : MH}
def aheadB (tab : List (List Int)) (m : Nat → Bool) (n : Nat) : Bool := (tab.getD n []).any fun y => m y.toNat
theorem t_l4Ahead {v w : V} {tab : List (List Int)} {m : Nat → Bool} (hv : LII v tab) (hw : LB w (mkL tab.length m)) (hn : tab.length ≤ 1048576)
    (htl : ∀ r ∈ tab, r.length ≤ 1048576 ∧ ∀ x ∈ r, 0 ≤ x ∧ x < (tab.length : Int)) :
    VCall Tryz.prog n_spec_l4Ahead [v, w] M (fun r M' => M = M' ∧ LB r (mkL tab.length (aheadB tab m))) := by
  have key : VCall Tryz.prog n_spec_l4Ahead [v, w] M (fun r M' => Gr 1 M M' r ((mkL tab.length (aheadB tab m)).map vb)) := by
    refine VCall.plain fun R hR => v_spec_l4Ahead rfl ?_
    obtain ⟨N, hNe⟩ : ∃ N, tab.length = N := ⟨_, rfl⟩
    have hvl := hv.len
    rw [hNe] at hvl hw hn htl hR
    simp (maxSteps := 2000000) (disch := first | omega | assumption | exact idP rfl | exact idP (bL rfl)) only [go_sem, reduceIte, Nat.reduceEqDiff, hvl]
    refine mks3 (by omega) (by simp [mostCells]; omega) (by simp [mostCells]; omega) ?_
    intro b5 hb5
    simp (maxSteps := 2000000) (disch := first | omega | assumption | exact idP rfl | exact idP (bL rfl)) only [go_sem, reduceIte, Nat.reduceEqDiff, zeros_vb', mkL_none]
    refine loop_k (fun e M' => ∃ i : Nat, i ≤ N ∧ e 0 = v ∧ e 1 = w ∧ e 5 = .sc (.sl (some (b5, 0)) N N true 1) ∧ e 6 = .sc (.int .i64 i) ∧ Sub M M' ∧ M' b5 = some ((mkL N fun j => decide (j < i) && aheadB tab m j).map vb)) (fun e _ => ctrV N (e 6)) ?_ ?_
    · refine ⟨0, by omega, by simp (maxSteps := 2000000) (disch := first | omega | assumption | exact idP rfl | exact idP (bL rfl)) only [go_sem, reduceIte, Nat.reduceEqDiff], by simp (maxSteps := 2000000) (disch := first | omega | assumption | exact idP rfl | exact idP (bL rfl)) only [go_sem, reduceIte, Nat.reduceEqDiff], by simp (maxSteps := 2000000) (disch := first | omega | assumption | exact idP rfl | exact idP (bL rfl)) only [go_sem, reduceIte, Nat.reduceEqDiff], by simp (maxSteps := 2000000) (disch := first | omega | assumption | exact idP rfl | exact idP (bL rfl)) only [go_sem, reduceIte, Nat.reduceEqDiff]; rfl, (Sub.refl _).set hb5, ?_⟩
      simp (maxSteps := 2000000) (disch := first | omega | assumption | exact idP rfl | exact idP (bL rfl)) only [go_sem, reduceIte, Nat.reduceEqDiff]
      rw [mkL_ext]
      intro i hi; simp
    · rintro e M1 ⟨i, hi, e0, e1, e5, e6, hsub, hm⟩ K hK
      simp (maxSteps := 2000000) (disch := first | omega | assumption | exact idP rfl | exact idP (bL rfl)) only [go_sem, reduceIte, Nat.reduceEqDiff, e0, e1, e5, e6, hvl]
      refine cond_dec (fun h => ?_) (fun h => ?_)
      · have hit : i < tab.length := by omega
        have hrow := hv.elt hit
        have hri := htl _ (List.getElem_mem hit)
        have hgd : tab.getD i [] = tab[i] := by simp [List.getD, hit]
        simp (maxSteps := 2000000) (disch := first | omega | assumption | exact idP rfl | exact idP (bL rfl)) only [go_sem, reduceIte, Nat.reduceEqDiff, e0, e1, e5, e6]
        refine loop_k (fun e2 M' => ∃ j : Nat, j ≤ tab[i].length ∧ e2 0 = v ∧ e2 1 = w ∧ e2 5 = .sc (.sl (some (b5, 0)) N N true 1) ∧ e2 6 = .sc (.int .i64 i) ∧ e2 7 = .sc (.int .i64 j) ∧ Sub M M' ∧ M' b5 = some ((mkL N fun q => if q = i then (tab[i].take j).any (fun y => m y.toNat) else decide (q < i) && aheadB tab m q).map vb)) (fun e2 _ => ctrV tab[i].length (e2 7)) ?_ ?_
        · refine ⟨0, by omega, by simp (maxSteps := 2000000) (disch := first | omega | assumption | exact idP rfl | exact idP (bL rfl)) only [go_sem, reduceIte, Nat.reduceEqDiff, e0], by simp (maxSteps := 2000000) (disch := first | omega | assumption | exact idP rfl | exact idP (bL rfl)) only [go_sem, reduceIte, Nat.reduceEqDiff, e1], by simp (maxSteps := 2000000) (disch := first | omega | assumption | exact idP rfl | exact idP (bL rfl)) only [go_sem, reduceIte, Nat.reduceEqDiff, e5], by simp (maxSteps := 2000000) (disch := first | omega | assumption | exact idP rfl | exact idP (bL rfl)) only [go_sem, reduceIte, Nat.reduceEqDiff, e6], by simp (maxSteps := 2000000) (disch := first | omega | assumption | exact idP rfl | exact idP (bL rfl)) only [go_sem, reduceIte, Nat.reduceEqDiff]; rfl, hsub, ?_⟩
          rw [hm, mkL_ext]
          intro q hq
          by_cases e : q = i
          · subst e; simp
          · rw [if_neg e]
        · rintro e2 M2 ⟨j, hj, u0, u1, u5, u6, u7, hsub2, hm2⟩ K2 hK2
          simp (maxSteps := 2000000) (disch := first | omega | assumption | exact idP rfl | exact idP (bL rfl)) only [go_sem, reduceIte, Nat.reduceEqDiff, u0, u1, u5, u6, u7, hv.iaddr, hrow.len]
          refine cond_dec (fun h2 => ?_) (fun h2 => ?_)
          · have hj' : j < tab[i].length := by omega
            have hyj := hri.2 _ (List.getElem_mem hj')
            obtain ⟨y, hy⟩ : ∃ y, tab[i][j] = y := ⟨_, rfl⟩
            rw [hy] at hyj
            have hym : y.toNat < (mkL N m).length := by rw [mkL_len]; omega
            have w1 := hw.iaddr (k := .i64) (a := y) hyj.1 (by rw [mkL_len]; omega)
            have hat := hrow.at hj'
            rw [hy] at hat
            have hso : i < ((mkL N fun q => if q = i then (tab[i].take j).any (fun y => m y.toNat) else decide (q < i) && aheadB tab m q).map vb).length := by rw [len_vb', mkL_len]; omega
            cases hmy : m y.toNat with
            | true =>
              simp (maxSteps := 2000000) (disch := first | omega | assumption | exact idP rfl | exact idP (bL rfl)) only [go_sem, reduceIte, Nat.reduceEqDiff, u0, u1, u5, u6, u7, hv.iaddr, hrow.iaddr, hat, w1, hw.at hym, mkL_get, hmy, hm2]
              refine hK2 _ _ ⟨j + 1, by omega, by simp (maxSteps := 2000000) (disch := first | omega | assumption | exact idP rfl | exact idP (bL rfl)) only [go_sem, reduceIte, Nat.reduceEqDiff, u0], by simp (maxSteps := 2000000) (disch := first | omega | assumption | exact idP rfl | exact idP (bL rfl)) only [go_sem, reduceIte, Nat.reduceEqDiff, u1], by simp (maxSteps := 2000000) (disch := first | omega | assumption | exact idP rfl | exact idP (bL rfl)) only [go_sem, reduceIte, Nat.reduceEqDiff, u5], by simp (maxSteps := 2000000) (disch := first | omega | assumption | exact idP rfl | exact idP (bL rfl)) only [go_sem, reduceIte, Nat.reduceEqDiff, u6], by simp (maxSteps := 2000000) (disch := first | omega | assumption | exact idP rfl | exact idP (bL rfl)) only [go_sem, reduceIte, Nat.reduceEqDiff, u7]; rfl, hsub2.set hb5, ?_⟩ (by simp (maxSteps := 2000000) (disch := first | omega | assumption | exact idP rfl | exact idP (bL rfl)) only [go_sem, reduceIte, Nat.reduceEqDiff, ctrV_int, u7]; omega)
              simp (maxSteps := 2000000) (disch := first | omega | assumption | exact idP rfl | exact idP (bL rfl)) only [go_sem, reduceIte, Nat.reduceEqDiff]
              rw [set_vb', mkL_setB]
              intro q hq
              by_cases e : q = i
              · subst e
                rw [if_pos rfl, if_pos rfl, take_snoc hj', List.any_append, hy]
                simp [hmy]
              · rw [if_neg e, if_neg e, if_neg e]
            | false =>
              simp (maxSteps := 2000000) (disch := first | omega | assumption | exact idP rfl | exact idP (bL rfl)) only [go_sem, reduceIte, Nat.reduceEqDiff, u0, u1, u5, u6, u7, hv.iaddr, hrow.iaddr, hat, w1, hw.at hym, mkL_get, hmy, hm2]
              refine hK2 _ _ ⟨j + 1, by omega, by simp (maxSteps := 2000000) (disch := first | omega | assumption | exact idP rfl | exact idP (bL rfl)) only [go_sem, reduceIte, Nat.reduceEqDiff, u0], by simp (maxSteps := 2000000) (disch := first | omega | assumption | exact idP rfl | exact idP (bL rfl)) only [go_sem, reduceIte, Nat.reduceEqDiff, u1], by simp (maxSteps := 2000000) (disch := first | omega | assumption | exact idP rfl | exact idP (bL rfl)) only [go_sem, reduceIte, Nat.reduceEqDiff, u5], by simp (maxSteps := 2000000) (disch := first | omega | assumption | exact idP rfl | exact idP (bL rfl)) only [go_sem, reduceIte, Nat.reduceEqDiff, u6], by simp (maxSteps := 2000000) (disch := first | omega | assumption | exact idP rfl | exact idP (bL rfl)) only [go_sem, reduceIte, Nat.reduceEqDiff, u7]; rfl, hsub2, ?_⟩ (by simp (maxSteps := 2000000) (disch := first | omega | assumption | exact idP rfl | exact idP (bL rfl)) only [go_sem, reduceIte, Nat.reduceEqDiff, ctrV_int, u7]; omega)
              rw [hm2, mkL_ext]
              intro q hq
              by_cases e : q = i
              · subst e
                rw [if_pos rfl, if_pos rfl, take_snoc hj', List.any_append, hy]
                simp [hmy]
              · rw [if_neg e, if_neg e]
          · obtain rfl : j = tab[i].length := by omega
            rw [List.take_length] at hm2
            simp (maxSteps := 2000000) (disch := first | omega | assumption | exact idP rfl | exact idP (bL rfl)) only [go_sem, reduceIte, Nat.reduceEqDiff, u0, u1, u5, u6]
            refine hK _ _ ⟨i + 1, by omega, by simp (maxSteps := 2000000) (disch := first | omega | assumption | exact idP rfl | exact idP (bL rfl)) only [go_sem, reduceIte, Nat.reduceEqDiff, u0], by simp (maxSteps := 2000000) (disch := first | omega | assumption | exact idP rfl | exact idP (bL rfl)) only [go_sem, reduceIte, Nat.reduceEqDiff, u1], by simp (maxSteps := 2000000) (disch := first | omega | assumption | exact idP rfl | exact idP (bL rfl)) only [go_sem, reduceIte, Nat.reduceEqDiff, u5], by simp (maxSteps := 2000000) (disch := first | omega | assumption | exact idP rfl | exact idP (bL rfl)) only [go_sem, reduceIte, Nat.reduceEqDiff]; rfl, hsub2, ?_⟩ (by simp (maxSteps := 2000000) (disch := first | omega | assumption | exact idP rfl | exact idP (bL rfl)) only [go_sem, reduceIte, Nat.reduceEqDiff, ctrV_int, e6]; omega)
            rw [hm2, mkL_ext]
            intro q hq
            by_cases e : q = i
            · subst e; rw [if_pos rfl]; unfold aheadB; rw [hgd]; simp
            · rw [if_neg e]
              have : decide (q < i + 1) = decide (q < i) := decide_eq_decide.2 (by omega)
              rw [this]
      · obtain rfl : i = N := by omega
        simp (maxSteps := 2000000) (disch := first | omega | assumption | exact idP rfl | exact idP (bL rfl)) only [go_sem, reduceIte, Nat.reduceEqDiff, e5]
        rw [mkL_ext (q := aheadB tab m) (fun j hj => by simp [hj])] at hm
        refine hR _ _ ⟨hsub, fun b' h' => by simp [blkV] at h'; subst h'; exact hb5, .inr ⟨b5, _, true, rfl, hm, by rw [len_vb', mkL_len]; omega⟩⟩
  exact (VCall.fr1 key).mono fun r M' ⟨h1, h2⟩ => ⟨h1, h2.lb⟩
noncomputable def pastN (s : SysS) (xs : List Int) : List Int := if setV s xs = true then selL (tabF s).length (aheadB (tabF s) (inL xs)) else []
theorem pastN_len {s : SysS} {xs : List Int} : (pastN s xs).length ≤ 400 := by
  unfold pastN
  split
  · rename_i h
    have hs := (setV_iff.1 h).1
    have h1 := hs.sz
    have h2 := tabF_len s
    exact Nat.le_trans selL_len (by omega)
  · simp
theorem t_PastNumbers {v w : V} {s : SysS} {xs : List Int} (hv : isSys s v) (hw : LI w xs) (hl : xs.length ≤ 1048576) : VCall Tryz.prog n_spec_PastNumbers [v, w] M (fun r M' => M = M' ∧ LI r (pastN s xs)) := by
  refine VCall.froz fun R hP hG => v_spec_PastNumbers rfl ?_
  have hv0 := hv
  obtain ⟨a, b, rfl, ha, hb⟩ := hv
  (repeat' (first | ((first | with_reducible refine cond_dec (fun h => ?_) (fun h => ?_) | with_reducible refine guardK_dec (fun h => ?_) (fun h => ?_) | with_reducible refine guardD3_dec (fun h => ?_) (fun h => ?_)) <;> first | (exfalso; omega) | (simp (maxSteps := 2000000) (disch := first | omega | assumption | exact idP rfl | exact idP (bL rfl)) only [go_sem, reduceIte, Nat.reduceEqDiff, h]) | skip) | ((first | with_reducible refine cond_split (fun h => ?_) (fun h => ?_) | with_reducible refine guardK_split (fun h => ?_) (fun h => ?_) | with_reducible refine guardD3_split (fun h => ?_) (fun h => ?_)) <;> ((try simp only [Bool.not_eq_true', Bool.not_eq_false'] at h); first | (simp (maxSteps := 2000000) (disch := first | omega | assumption | exact idP rfl | exact idP (bL rfl)) only [go_sem, reduceIte, Nat.reduceEqDiff, h]) | skip)) | ((with_reducible refine (t_specSetValid hv0 hw hl).mono ?_); rintro _ _ ⟨rfl, rfl⟩) | (with_reducible intro bk hbk; try have hnk := (fresh_set hbk).1) | (simp (maxSteps := 2000000) (disch := first | omega | assumption | exact idP rfl | exact idP (bL rfl)) only [go_sem, reduceIte, Nat.reduceEqDiff])))
  · exact hP _ _ (by (repeat (first | exact Sub.refl _ | assumption | (refine Sub.set' ?_ (by assumption))))) (by unfold pastN; rw [if_neg (by rw [h]; simp)]; exact .nil)
  · obtain ⟨hs, hset⟩ := setV_iff.1 h
    have hsz := hs.sz
    have htl := tabF_len s
    have hle : ((tabF s).length : Int) = sizeF s.vars := by omega
    have hsub : Sub M (M.set bk [a, b]) := by (repeat (first | exact Sub.refl _ | assumption | (refine Sub.set' ?_ (by assumption))))
    refine (f_l4Steps hv0 hs).mono ?_
    rintro t _ ⟨rfl, ht⟩
    (repeat' (first | ((first | with_reducible refine cond_dec (fun h => ?_) (fun h => ?_) | with_reducible refine guardK_dec (fun h => ?_) (fun h => ?_) | with_reducible refine guardD3_dec (fun h => ?_) (fun h => ?_)) <;> first | (exfalso; omega) | (simp (maxSteps := 2000000) (disch := first | omega | assumption | exact idP rfl | exact idP (bL rfl)) only [go_sem, reduceIte, Nat.reduceEqDiff, h]) | skip) | ((first | with_reducible refine cond_split (fun h => ?_) (fun h => ?_) | with_reducible refine guardK_split (fun h => ?_) (fun h => ?_) | with_reducible refine guardD3_split (fun h => ?_) (fun h => ?_)) <;> ((try simp only [Bool.not_eq_true', Bool.not_eq_false'] at h); first | (simp (maxSteps := 2000000) (disch := first | omega | assumption | exact idP rfl | exact idP (bL rfl)) only [go_sem, reduceIte, Nat.reduceEqDiff, h]) | skip)) | ((with_reducible refine (t_SizeOf hv0 hs).mono ?_); rintro _ _ ⟨rfl, rfl⟩) | (with_reducible intro bk hbk; try have hnk := (fresh_set hbk).1) | (simp (maxSteps := 2000000) (disch := first | omega | assumption | exact idP rfl | exact idP (bL rfl)) only [go_sem, reduceIte, Nat.reduceEqDiff])))
    rw [← hle]
    refine (f_l4Marks hw (by omega) hl (by rw [hle]; exact hset.in)).mono ?_
    rintro m _ ⟨rfl, hm⟩
    simp (maxSteps := 2000000) (disch := first | omega | assumption | exact idP rfl | exact idP (bL rfl)) only [go_sem, reduceIte, Nat.reduceEqDiff]
    refine (t_l4Ahead ht hm (by omega) (tabF_in hs)).mono ?_
    rintro q _ ⟨rfl, hq⟩
    simp (maxSteps := 2000000) (disch := first | omega | assumption | exact idP rfl | exact idP (bL rfl)) only [go_sem, reduceIte, Nat.reduceEqDiff]
    refine (t_l4List hq (by omega)).mono ?_
    rintro r M2 hg
    simp (maxSteps := 2000000) (disch := first | omega | assumption | exact idP rfl | exact idP (bL rfl)) only [go_sem, reduceIte, Nat.reduceEqDiff]
    refine hG _ _ _ _ (hg.base hsub) fun u hu => ?_
    unfold pastN
    rw [if_pos h]
    exact hu.li
end Go.M2

namespace Go.M2
open Go.Proofs
variable {M : MH}
theorem Mem.snoc1 {M0 M : MH} {b : Nat} {l : List V} {fp : List (Nat × List V)} (h : Mem M0 M fp) (hb : M0 b = none) (hm : M b = some l) (hn : ∀ p ∈ fp, p.1 ≠ b) : Mem M0 M (fp ++ [(b, l)]) := by
  refine ⟨h.sub, fun p hp => ?_, ?_, fun p hp => ?_⟩
  · rcases List.mem_append.1 hp with h1 | h1
    · exact h.new p h1
    · rw [List.mem_singleton] at h1; subst h1; exact hb
  · unfold Nd2
    rw [List.map_append, List.nodup_append]
    refine ⟨h.nd, by simp, fun a ha c hc e => ?_⟩
    obtain ⟨p, hp, rfl⟩ := List.mem_map.1 ha
    simp at hc
    exact hn p hp (by rw [e, hc])
  · rcases List.mem_append.1 hp with h1 | h1
    · exact h.at_ p h1
    · rw [List.mem_singleton] at h1; subst h1; exact hm
structure PT (M M' : MH) (b3 N : Nat) (us : List V) (mm : Nat → Int → Prop) (bd : Nat) : Prop where
  at3 : M' b3 = some us
  len : us.length = N
  sub : Sub M M'
  new : M b3 = none
  rows : ∀ (k : Nat) (u : V), us[k]? = some u → blkV u ≠ some b3 ∧ ∃ ys : List Int, Gr 1 M M' u (ys.map vi) ∧ ys.length ≤ bd ∧ ∀ x, x ∈ ys ↔ mm k x
  dis : ∀ (k k' : Nat) (u u' : V), us[k]? = some u → us[k']? = some u' → k ≠ k' → ∀ b, blkV u = some b → blkV u' ≠ some b
theorem PT.push {M1 M2 : MH} {b3 N k0 : Nat} {us : List V} {mm mm' : Nat → Int → Prop} {bd : Nat} {u s' : V} {ys : List Int} {x : Int} (h : PT M M1 b3 N us mm bd) (hu : us[k0]? = some u) (hys : ys.length ≤ bd) (hym : ∀ z, z ∈ ys ↔ mm k0 z)
    (hg : Gr 1 M M2 s' ((ys ++ [x]).map vi)) (ho : Oth M1 M2 u s') (h0 : ∀ z, mm' k0 z ↔ (mm k0 z ∨ z = x)) (h1 : ∀ k z, k ≠ k0 → (mm' k z ↔ mm k z)) :
    PT M (M2.set b3 (us.set k0 s')) b3 N (us.set k0 s') mm' (bd + 1) := by
  obtain ⟨o1, o2⟩ := ho b3 us h.at3 (h.rows k0 u hu).1
  have hk0 : k0 < us.length := (List.getElem?_eq_some_iff.1 hu).1
  refine ⟨set_same, by rw [List.length_set]; exact h.len, hg.sub.set h.new, h.new, fun k w hw => ?_, fun k k' w w' hw hw' hk => ?_⟩
  · by_cases e : k = k0
    · subst e
      rw [List.getElem?_set_self hk0] at hw
      cases hw
      refine ⟨o2, ys ++ [x], hg.setN h.new o2, by simp; omega, fun z => ?_⟩
      rw [List.mem_append, List.mem_singleton, hym, h0]
    · rw [List.getElem?_set_ne (fun e' => e e'.symm)] at hw
      obtain ⟨q1, zs, q2, q3, q4⟩ := h.rows k w hw
      obtain ⟨r1, r2⟩ := q2.oth (sz' := 1) ho (h.dis k k0 w u hw hu e) hg.sub
      exact ⟨q1, zs, r1.setN h.new q1, by omega, fun z => by rw [q4, h1 k z e]⟩
  · have key : ∀ (j : Nat) (v : V), us[j]? = some v → j ≠ k0 → (∀ b, blkV v = some b → blkV s' ≠ some b) := fun j v hv hj => by
      obtain ⟨q1, zs, q2, q3, q4⟩ := h.rows j v hv
      exact (q2.oth (sz' := 1) ho (h.dis j k0 v u hv hu hj) hg.sub).2
    by_cases e : k = k0
    · subst e
      rw [List.getElem?_set_self hk0] at hw
      cases hw
      rw [List.getElem?_set_ne (fun e' => hk e')] at hw'
      intro b hb hb'
      exact key k' w' hw' (fun e' => hk e'.symm) b hb' hb
    · rw [List.getElem?_set_ne (fun e' => e e'.symm)] at hw
      by_cases e2 : k' = k0
      · subst e2
        rw [List.getElem?_set_self hk0] at hw'
        cases hw'
        exact key k w hw e
      · rw [List.getElem?_set_ne (fun e' => e2 e'.symm)] at hw'
        exact h.dis k k' w w' hw hw' hk
theorem PT.tree {M1 : MH} {b3 N : Nat} {us : List V} {mm : Nat → Int → Prop} {bd : Nat} (h : PT M M1 b3 N us mm bd) : ∀ i, i ≤ N → ∃ us' fp tab', Tr (us.take i) us' fp ∧ Mem M M1 fp ∧ flatL (us.take i) ∧ (∀ q ∈ fp, flatL q.2) ∧ (∀ p ∈ fp, ∃ k u, k < i ∧ us[k]? = some u ∧ blkV u = some p.1) ∧ tab'.length = i ∧ Cs isL us' tab' ∧ ∀ k (hk : k < tab'.length), tab'[k].length ≤ bd ∧ ∀ x, x ∈ tab'[k] ↔ mm k x
  | 0, _ => ⟨[], [], [], .nil, .nil h.sub, by simp [flatL], fun q hq => (by cases hq), fun q hq => (by cases hq), rfl, .nil, fun k hk => (by simp at hk)⟩
  | i + 1, hi => by
    obtain ⟨us', fp, tab', t1, t2, t3, t4, t5, t6, t7, t8⟩ := PT.tree h i (by omega)
    have hiu : i < us.length := by rw [h.len]; omega
    obtain ⟨q1, ys, q2, q3, q4⟩ := h.rows i us[i] (List.getElem?_eq_getElem hiu)
    have hfl : flatL (us.take (i + 1)) := by
      rw [take_one hiu]
      exact flatL_all.2 fun w hw => by
        rcases List.mem_append.1 hw with h1 | h1
        · exact flatL_all.1 t3 w h1
        · rw [List.mem_singleton] at h1; subst h1; exact q2.own.flat
    have props : ∀ k (hk : k < (tab' ++ [ys]).length), (tab' ++ [ys])[k].length ≤ bd ∧ ∀ x, x ∈ (tab' ++ [ys])[k] ↔ mm k x := fun k hk => by
      by_cases e : k < tab'.length
      · rw [List.getElem_append_left e]; exact t8 k e
      · have hk2 : k = i := by simp at hk; omega
        subst hk2
        have hkt : tab'.length = k := t6
        simp only [List.getElem_append_right (show tab'.length ≤ k by omega), hkt, Nat.sub_self, List.getElem_cons_zero]
        exact ⟨q3, q4⟩
    have old : ∀ p ∈ fp, ∃ k u, k < i + 1 ∧ us[k]? = some u ∧ blkV u = some p.1 := fun p hp => by
      obtain ⟨k, u, h1, h2, h3⟩ := t5 p hp
      exact ⟨k, u, by omega, h2, h3⟩
    rcases q2.own with ⟨hy, kk, hu⟩ | ⟨b, n, ex, hu, hm, hl⟩
    · have hy0 : ys = [] := by simpa using hy
      refine ⟨us' ++ [us[i]], fp ++ [], tab' ++ [ys], ?_, by rw [List.append_nil]; exact t2, hfl, by rw [List.append_nil]; exact t4, by rw [List.append_nil]; exact old, by simp [t6], t7.snoc ?_, props⟩
      · rw [take_one hiu]; exact t1.append (.keep _ .nil)
      · rw [hu, hy0]; exact .inl ⟨rfl, kk, rfl⟩
    · have hne : ∀ p ∈ fp, p.1 ≠ b := fun p hp e => by
        obtain ⟨k, u, h1, h2, h3⟩ := t5 p hp
        exact h.dis k i u us[i] h2 (List.getElem?_eq_getElem hiu) (by omega) p.1 h3 (by rw [hu, e]; rfl)
      refine ⟨us' ++ [.fs (some (b, 0)) n n ex 1 ((ys.map vi).drop 0)], fp ++ ((b, ys.map vi) :: ([] ++ [])), tab' ++ [ys], ?_, by simpa using t2.snoc1 (q2.new b (by rw [hu]; rfl)) hm hne, hfl, fun q hq => ?_, fun p hp => ?_, by simp [t6], t7.snoc ?_, props⟩
      · rw [take_one hiu, hu]; exact t1.append (.sl (.refl _) .nil)
      · rcases List.mem_append.1 hq with h1 | h1
        · exact t4 q h1
        · simp at h1; subst h1; exact flatL_vi ys
      · rcases List.mem_append.1 hp with h1 | h1
        · exact old p h1
        · simp at h1; subst h1
          exact ⟨i, us[i], by omega, List.getElem?_eq_getElem hiu, by rw [hu]; rfl⟩
      · exact Fr.li (.inr ⟨_, _, _, _, _, by rw [List.drop_zero], by simpa using hl⟩)
end Go.M2

namespace Go.M2
open Go.Proofs
variable {M : MH}
theorem PT.conv {M1 : MH} {b3 N : Nat} {us : List V} {mm mm' : Nat → Int → Prop} {bd bd' : Nat} (h : PT M M1 b3 N us mm bd) (hb : bd ≤ bd') (hm : ∀ k z, mm' k z ↔ mm k z) : PT M M1 b3 N us mm' bd' :=
  ⟨h.at3, h.len, h.sub, h.new, fun k u hu => by
    obtain ⟨q1, ys, q2, q3, q4⟩ := h.rows k u hu
    exact ⟨q1, ys, q2, by omega, fun x => by rw [q4, hm]⟩, h.dis⟩
def mmP (tab : List (List Int)) (n j k : Nat) (x : Int) : Prop := (∃ q : Nat, q < n ∧ x = (q : Int) ∧ (k : Int) ∈ tab.getD q []) ∨ (x = (n : Int) ∧ (k : Int) ∈ (tab.getD n []).take j)
def isPast (tab tab' : List (List Int)) : Prop := tab'.length = tab.length ∧ ∀ k (hk : k < tab'.length), tab'[k].length ≤ tab.length * 8 ∧ ∀ x, x ∈ tab'[k] ↔ mmP tab tab.length 0 k x
theorem o_pasts {v : V} {tab : List (List Int)} (hv : LII v tab) (hN : tab.length ≤ 400) (htl : ∀ r ∈ tab, r.length ≤ 8 ∧ ∀ x ∈ r, 0 ≤ x ∧ x < (tab.length : Int)) :
    VCall Tryz.prog n_impl_pasts [v] M (fun r M' => ∃ us' fp tab', Tr [r] [us'] fp ∧ Mem M M' fp ∧ flat r ∧ (∀ q ∈ fp, flatL q.2) ∧ LII us' tab' ∧ isPast tab tab') := by
  refine VCall.plain fun R hR => v_impl_pasts rfl ?_
  obtain ⟨N, hNe⟩ : ∃ N, tab.length = N := ⟨_, rfl⟩
  have hvl := hv.len
  rw [hNe] at hvl hN htl
  simp (maxSteps := 2000000) (disch := first | omega | assumption | exact idP rfl | exact idP (bL rfl)) only [go_sem, reduceIte, Nat.reduceEqDiff, hvl]
  refine mks3 (by omega) (by simp [mostCells]; omega) (by simp [mostCells]; omega) ?_
  intro b3 hb3
  simp (maxSteps := 2000000) (disch := first | omega | assumption | exact idP rfl | exact idP (bL rfl)) only [go_sem, reduceIte, Nat.reduceEqDiff, zeros_nil, hvl]
  refine loop_k (fun e M' => ∃ (n : Nat) (us : List V), n ≤ N ∧ e 3 = .sc (.sl (some (b3, 0)) N N true 1) ∧ e 11 = v ∧ e 12 = .sc (.int .i64 N) ∧ e 13 = .sc (.int .i64 n) ∧ PT M M' b3 N us (mmP tab n 0) (n * 8)) (fun e _ => ctrV N (e 13)) ?_ ?_
  · refine ⟨0, List.replicate N nil1, by omega, by simp (maxSteps := 2000000) (disch := first | omega | assumption | exact idP rfl | exact idP (bL rfl)) only [go_sem, reduceIte, Nat.reduceEqDiff], by simp (maxSteps := 2000000) (disch := first | omega | assumption | exact idP rfl | exact idP (bL rfl)) only [go_sem, reduceIte, Nat.reduceEqDiff], by simp (maxSteps := 2000000) (disch := first | omega | assumption | exact idP rfl | exact idP (bL rfl)) only [go_sem, reduceIte, Nat.reduceEqDiff], by simp (maxSteps := 2000000) (disch := first | omega | assumption | exact idP rfl | exact idP (bL rfl)) only [go_sem, reduceIte, Nat.reduceEqDiff]; rfl, ⟨set_same, by simp, (Sub.refl M).set hb3, hb3, fun k u hu => ?_, fun k k' u u' hu hu' hk b hb => ?_⟩⟩
    · obtain ⟨h1, h2⟩ := List.getElem?_eq_some_iff.1 hu
      rw [List.getElem_replicate] at h2
      subst h2
      refine ⟨by simp [nil1, blkV], [], .nil ((Sub.refl M).set hb3), by simp, fun x => ⟨fun h => (by cases h), ?_⟩⟩
      rintro (⟨q, hq, _⟩ | ⟨_, h⟩)
      · omega
      · simp at h
    · obtain ⟨h1, h2⟩ := List.getElem?_eq_some_iff.1 hu
      rw [List.getElem_replicate] at h2
      subst h2
      simp [nil1, blkV] at hb
  · rintro e M1 ⟨n, us, hn, e3, e11, e12, e13, hpt⟩ K hK
    simp (maxSteps := 2000000) (disch := first | omega | assumption | exact idP rfl | exact idP (bL rfl)) only [go_sem, reduceIte, Nat.reduceEqDiff, e3, e11, e12, e13]
    refine cond_dec (fun h => ?_) (fun h => ?_)
    · have hnt : n < tab.length := by omega
      have hrow := hv.elt hnt
      have hri := htl _ (List.getElem_mem hnt)
      have hgd : tab.getD n [] = tab[n] := by simp [List.getD, hnt]
      simp (maxSteps := 2000000) (disch := first | omega | assumption | exact idP rfl | exact idP (bL rfl)) only [go_sem, reduceIte, Nat.reduceEqDiff, e3, e11, e12, e13, hv.iaddr, hrow.len]
      refine loop_k (fun e2 M' => ∃ (j : Nat) (us : List V), j ≤ tab[n].length ∧ e2 3 = .sc (.sl (some (b3, 0)) N N true 1) ∧ e2 4 = .sc (.int .i64 n) ∧ e2 11 = v ∧ e2 12 = .sc (.int .i64 N) ∧ e2 13 = .sc (.int .i64 n) ∧ e2 18 = at1 v n ∧ e2 19 = .sc (.int .i64 tab[n].length) ∧ e2 20 = .sc (.int .i64 j) ∧ PT M M' b3 N us (mmP tab n j) (n * 8 + j)) (fun e2 _ => ctrV tab[n].length (e2 20)) ?_ ?_
      · exact ⟨0, us, by omega, by simp (maxSteps := 2000000) (disch := first | omega | assumption | exact idP rfl | exact idP (bL rfl)) only [go_sem, reduceIte, Nat.reduceEqDiff, e3], by simp (maxSteps := 2000000) (disch := first | omega | assumption | exact idP rfl | exact idP (bL rfl)) only [go_sem, reduceIte, Nat.reduceEqDiff], by simp (maxSteps := 2000000) (disch := first | omega | assumption | exact idP rfl | exact idP (bL rfl)) only [go_sem, reduceIte, Nat.reduceEqDiff, e11], by simp (maxSteps := 2000000) (disch := first | omega | assumption | exact idP rfl | exact idP (bL rfl)) only [go_sem, reduceIte, Nat.reduceEqDiff, e12], by simp (maxSteps := 2000000) (disch := first | omega | assumption | exact idP rfl | exact idP (bL rfl)) only [go_sem, reduceIte, Nat.reduceEqDiff, e13], by simp (maxSteps := 2000000) (disch := first | omega | assumption | exact idP rfl | exact idP (bL rfl)) only [go_sem, reduceIte, Nat.reduceEqDiff], by simp (maxSteps := 2000000) (disch := first | omega | assumption | exact idP rfl | exact idP (bL rfl)) only [go_sem, reduceIte, Nat.reduceEqDiff], by simp (maxSteps := 2000000) (disch := first | omega | assumption | exact idP rfl | exact idP (bL rfl)) only [go_sem, reduceIte, Nat.reduceEqDiff]; rfl, hpt⟩
      · rintro e2 M2 ⟨j, us, hj, u3, u4, u11, u12, u13, u18, u19, u20, hp2⟩ K2 hK2
        simp (maxSteps := 2000000) (disch := first | omega | assumption | exact idP rfl | exact idP (bL rfl)) only [go_sem, reduceIte, Nat.reduceEqDiff, u3, u4, u11, u12, u13, u18, u19, u20]
        refine cond_dec (fun h2 => ?_) (fun h2 => ?_)
        · have hj' : j < tab[n].length := by omega
          have hyj := hri.2 _ (List.getElem_mem hj')
          obtain ⟨y, hy⟩ : ∃ y, tab[n][j] = y := ⟨_, rfl⟩
          rw [hy] at hyj
          have hyN : y.toNat < us.length := by rw [hp2.len]; omega
          have hu : us[y.toNat]? = some us[y.toNat] := List.getElem?_eq_getElem hyN
          obtain ⟨q1, ys, q2, q3, q4⟩ := hp2.rows _ _ hu
          have hat := hrow.at hj'
          rw [hy] at hat
          have hm := hp2.at3
          have ho1 := q2.one.1
          have ho2 := q2.one.2
          simp (maxSteps := 2000000) (disch := first | omega | assumption | exact idP rfl | exact idP (bL rfl)) only [go_sem, reduceIte, Nat.reduceEqDiff, u3, u4, u11, u12, u13, u18, u19, u20, hrow.iaddr, hat, hm, hu]
          intro bt hbt
          refine app_int q2 hbt (by omega) (by omega) ?_
          intro s' M' hg' hoth
          obtain ⟨g3', hne'⟩ := hoth b3 _ hm q1
          have ho3 := hg'.one.1
          have ho4 := hg'.one.2
          simp (maxSteps := 2000000) (disch := first | omega | assumption | exact idP rfl | exact idP (bL rfl)) only [go_sem, reduceIte, Nat.reduceEqDiff, u3, u4, u11, u12, u13, u18, u19, u20, g3', ho4]
          have hp3 := hp2.push (mm' := mmP tab n (j + 1)) hu q3 q4 hg' hoth (fun z => ?_) (fun k z hk => ?_)
          · refine hK2 _ _ ⟨j + 1, us.set y.toNat s', by omega, by simp (maxSteps := 2000000) (disch := first | omega | assumption | exact idP rfl | exact idP (bL rfl)) only [go_sem, reduceIte, Nat.reduceEqDiff, u3], by simp (maxSteps := 2000000) (disch := first | omega | assumption | exact idP rfl | exact idP (bL rfl)) only [go_sem, reduceIte, Nat.reduceEqDiff, u4], by simp (maxSteps := 2000000) (disch := first | omega | assumption | exact idP rfl | exact idP (bL rfl)) only [go_sem, reduceIte, Nat.reduceEqDiff, u11], by simp (maxSteps := 2000000) (disch := first | omega | assumption | exact idP rfl | exact idP (bL rfl)) only [go_sem, reduceIte, Nat.reduceEqDiff, u12], by simp (maxSteps := 2000000) (disch := first | omega | assumption | exact idP rfl | exact idP (bL rfl)) only [go_sem, reduceIte, Nat.reduceEqDiff, u13], by simp (maxSteps := 2000000) (disch := first | omega | assumption | exact idP rfl | exact idP (bL rfl)) only [go_sem, reduceIte, Nat.reduceEqDiff, u18], by simp (maxSteps := 2000000) (disch := first | omega | assumption | exact idP rfl | exact idP (bL rfl)) only [go_sem, reduceIte, Nat.reduceEqDiff, u19], by simp (maxSteps := 2000000) (disch := first | omega | assumption | exact idP rfl | exact idP (bL rfl)) only [go_sem, reduceIte, Nat.reduceEqDiff, u20]; rfl, by simpa [Nat.add_assoc] using hp3⟩ (by simp (maxSteps := 2000000) (disch := first | omega | assumption | exact idP rfl | exact idP (bL rfl)) only [go_sem, reduceIte, Nat.reduceEqDiff, ctrV_int, u20]; omega)
          · unfold mmP
            rw [hgd, take_snoc hj', List.mem_append, List.mem_singleton, hy, Int.toNat_of_nonneg hyj.1]
            constructor
            · rintro (h3 | ⟨h3, h4 | h4⟩)
              · exact .inl (.inl h3)
              · exact .inl (.inr ⟨h3, h4⟩)
              · exact .inr h3
            · rintro ((h3 | h3) | h3)
              · exact .inl h3
              · exact .inr ⟨h3.1, .inl h3.2⟩
              · exact .inr ⟨h3, .inr rfl⟩
          · unfold mmP
            rw [hgd, take_snoc hj', List.mem_append, List.mem_singleton, hy]
            have : ¬ (k : Int) = y := fun e => hk (by omega)
            constructor
            · rintro (h3 | ⟨h3, h4 | h4⟩)
              · exact .inl h3
              · exact .inr ⟨h3, h4⟩
              · exact absurd h4 this
            · rintro (h3 | h3)
              · exact .inl h3
              · exact .inr ⟨h3.1, .inl h3.2⟩
        · obtain rfl : j = tab[n].length := by omega
          simp (maxSteps := 2000000) (disch := first | omega | assumption | exact idP rfl | exact idP (bL rfl)) only [go_sem, reduceIte, Nat.reduceEqDiff, u3, u4, u11, u12, u13]
          refine hK _ _ ⟨n + 1, us, by omega, by simp (maxSteps := 2000000) (disch := first | omega | assumption | exact idP rfl | exact idP (bL rfl)) only [go_sem, reduceIte, Nat.reduceEqDiff, u3], by simp (maxSteps := 2000000) (disch := first | omega | assumption | exact idP rfl | exact idP (bL rfl)) only [go_sem, reduceIte, Nat.reduceEqDiff, u11], by simp (maxSteps := 2000000) (disch := first | omega | assumption | exact idP rfl | exact idP (bL rfl)) only [go_sem, reduceIte, Nat.reduceEqDiff, u12], by simp (maxSteps := 2000000) (disch := first | omega | assumption | exact idP rfl | exact idP (bL rfl)) only [go_sem, reduceIte, Nat.reduceEqDiff, u13]; rfl, hp2.conv (by omega) fun k z => ?_⟩ (by simp (maxSteps := 2000000) (disch := first | omega | assumption | exact idP rfl | exact idP (bL rfl)) only [go_sem, reduceIte, Nat.reduceEqDiff, ctrV_int, e13, u13]; omega)
          unfold mmP
          rw [hgd, List.take_length]
          constructor
          · rintro (⟨q, h3, h4, h5⟩ | ⟨_, h3⟩)
            · by_cases e : q = n
              · subst e; rw [hgd] at h5; exact .inr ⟨h4, h5⟩
              · exact .inl ⟨q, by omega, h4, h5⟩
            · simp at h3
          · rintro (⟨q, h3, h4, h5⟩ | ⟨h3, h4⟩)
            · exact .inl ⟨q, by omega, h4, h5⟩
            · exact .inl ⟨n, by omega, h3, by rw [hgd]; exact h4⟩
    · obtain rfl : n = N := by omega
      simp (maxSteps := 2000000) (disch := first | omega | assumption | exact idP rfl | exact idP (bL rfl)) only [go_sem, reduceIte, Nat.reduceEqDiff, e3]
      obtain ⟨us', fp, tab', t1, t2, t3, t4, t5, t6, t7, t8⟩ := hpt.tree n (Nat.le_refl _)
      rw [List.take_of_length_le (by rw [hpt.len]; exact Nat.le_refl _)] at t1 t3
      have hne : ∀ p ∈ fp, p.1 ≠ b3 := fun p hp e => by
        obtain ⟨k, u, _, h2, h3⟩ := t5 p hp
        exact (hpt.rows k u h2).1 (by rw [h3, e])
      have hul := t1.len
      refine hR _ _ ⟨.fs (some (b3, 0)) n n true 1 (us'.drop 0), (b3, us) :: (fp ++ []), tab', .sl t1 .nil, ?_, by simp [flat], fun q hq => ?_, ?_, by rw [hNe]; exact t6, fun k hk => ?_⟩
      · rw [List.append_nil]
        exact (t2.snoc1 hpt.new hpt.at3 hne).perm (List.perm_append_comm)
      · rw [List.append_nil] at hq
        rcases List.mem_cons.1 hq with rfl | h1
        · exact t3
        · exact t4 q h1
      · exact Fr.lsC (us := us') (.inr ⟨_, _, _, _, _, by rw [List.drop_zero], by rw [hul, hpt.len, Nat.mul_one]⟩) t7
      · rw [hNe]; exact t8 k hk
theorem tabF_8 {s : SysS} (hs : SysOk s) : ∀ r ∈ tabF s, r.length ≤ 8 ∧ ∀ x ∈ r, 0 ≤ x ∧ x < ((tabF s).length : Int) := by
  intro r hr
  refine ⟨?_, (tabF_in hs r hr).2⟩
  obtain ⟨n, hn, rfl⟩ := List.mem_map.1 hr
  simp only [rowF, List.length_map]
  exact nextF_len hs _
theorem past_beh {tab tab' : List (List Int)} {xs : List Int} (hp : isPast tab tab') (hin : ∀ x ∈ xs, 0 ≤ x ∧ x < (tab.length : Int)) (htl : ∀ r ∈ tab, ∀ x ∈ r, 0 ≤ x ∧ x < (tab.length : Int)) {i : Nat} (hi : i < tab.length) : behB tab' xs i = aheadB tab (inL xs) i := by
  obtain ⟨h1, h2⟩ := hp
  have hgi : tab.getD i [] = tab[i] := by simp [List.getD, hi]
  unfold behB aheadB
  rw [Bool.eq_iff_iff, List.any_eq_true, List.any_eq_true]
  constructor
  · rintro ⟨x, hx, hd⟩
    have hxi := hin x hx
    have hxt : x.toNat < tab'.length := by omega
    have hgd : tab'.getD x.toNat [] = tab'[x.toNat] := by simp [List.getD, hxt]
    rw [decide_eq_true_eq, hgd, (h2 _ hxt).2] at hd
    rcases hd with ⟨q, h3, h4, h5⟩ | ⟨_, h3⟩
    · have : q = i := by omega
      subst this
      refine ⟨_, h5, ?_⟩
      simpa [inL, Int.toNat_of_nonneg hxi.1] using hx
    · simp at h3
  · rintro ⟨y, hy, hd⟩
    have hyi : 0 ≤ y ∧ y < (tab.length : Int) := htl _ (List.getElem_mem hi) y (by rw [← hgi]; exact hy)
    have hyx : y ∈ xs := by simpa [inL, Int.toNat_of_nonneg hyi.1] using hd
    have hyt : y.toNat < tab'.length := by omega
    have hgd : tab'.getD y.toNat [] = tab'[y.toNat] := by simp [List.getD, hyt]
    refine ⟨y, hyx, ?_⟩
    rw [decide_eq_true_eq, hgd, (h2 _ hyt).2]
    exact .inl ⟨i, hi, rfl, by rw [Int.toNat_of_nonneg hyi.1]; exact hy⟩
theorem o_impPastNumbers {v w : V} {s : SysS} {xs : List Int} (hv : isSys s v) (hz : SysSz s) (hw : LI w xs) (hl : xs.length ≤ 1048576) : VCall Tryz.prog n_impl_PastNumbers [v, w] M (fun r M' => Dn M M' r (fun u => LI u (pastN s xs))) := by
  refine VCall.plain fun R hR => v_impl_PastNumbers rfl ?_
  have hv0 := hv
  obtain ⟨a, b, rfl, ha, hb⟩ := hv
  (repeat' (first | ((first | with_reducible refine cond_dec (fun h => ?_) (fun h => ?_) | with_reducible refine guardK_dec (fun h => ?_) (fun h => ?_) | with_reducible refine guardD3_dec (fun h => ?_) (fun h => ?_)) <;> first | (exfalso; omega) | (simp (maxSteps := 2000000) (disch := first | omega | assumption | exact idP rfl | exact idP (bL rfl)) only [go_sem, reduceIte, Nat.reduceEqDiff, h]) | skip) | ((first | with_reducible refine cond_split (fun h => ?_) (fun h => ?_) | with_reducible refine guardK_split (fun h => ?_) (fun h => ?_) | with_reducible refine guardD3_split (fun h => ?_) (fun h => ?_)) <;> ((try simp only [Bool.not_eq_true', Bool.not_eq_false'] at h); first | (simp (maxSteps := 2000000) (disch := first | omega | assumption | exact idP rfl | exact idP (bL rfl)) only [go_sem, reduceIte, Nat.reduceEqDiff, h]) | skip)) | ((with_reducible refine (t_impSetValid hv0 hz hw hl).mono ?_); rintro _ _ ⟨rfl, rfl⟩) | (with_reducible intro bk hbk; try have hnk := (fresh_set hbk).1) | (simp (maxSteps := 2000000) (disch := first | omega | assumption | exact idP rfl | exact idP (bL rfl)) only [go_sem, reduceIte, Nat.reduceEqDiff])))
  · refine hR _ _ ?_
    unfold pastN
    rw [if_neg (by rw [h]; simp)]
    exact .nilS (by (repeat (first | exact Sub.refl _ | assumption | (refine Sub.set' ?_ (by assumption)))))
  · obtain ⟨hs, hset⟩ := setV_iff.1 h
    have hsz := hs.sz
    have htl := tabF_len s
    have hin2 : ∀ x ∈ xs, 0 ≤ x ∧ x < ((tabF s).length : Int) := by rw [show ((tabF s).length : Int) = sizeF s.vars by omega]; exact hset.in
    refine (f_nexts hv0 hs).mono ?_
    rintro t _ ⟨rfl, ht⟩
    simp (maxSteps := 2000000) (disch := first | omega | assumption | exact idP rfl | exact idP (bL rfl)) only [go_sem, reduceIte, Nat.reduceEqDiff]
    have hpf : VCall Tryz.prog n_impl_pasts [t] (M.set bk [a, b]) (fun r M' => (M.set bk [a, b]) = M' ∧ ∃ tab', LII r tab' ∧ isPast (tabF s) tab') := VCall.frT ((o_pasts ht (by omega) (tabF_8 hs)).mono fun r M' ⟨us', fp, tab', q1, q2, q3, q4, q5, q6⟩ => ⟨us', fp, q1, q2, q3, q4, tab', q5, q6⟩)
    refine hpf.mono ?_
    rintro p _ ⟨rfl, tab', hp, hpp⟩
    have hpl := hpp.1
    simp (maxSteps := 2000000) (disch := first | omega | assumption | exact idP rfl | exact idP (bL rfl)) only [go_sem, reduceIte, Nat.reduceEqDiff]
    refine (o_over hp hw (by omega) hl (by rw [hpl]; exact hin2) (fun r hr => ?_)).mono ?_
    · obtain ⟨k, hk, rfl⟩ := List.getElem_of_mem hr
      obtain ⟨h1, h2⟩ := hpp.2 k hk
      refine ⟨by omega, fun x hx => ?_⟩
      rcases (h2 x).1 hx with ⟨q, h3, h4, _⟩ | ⟨_, h3⟩
      · omega
      · simp at h3
    · rintro r M2 hg
      simp (maxSteps := 2000000) (disch := first | omega | assumption | exact idP rfl | exact idP (bL rfl)) only [go_sem, reduceIte, Nat.reduceEqDiff]
      refine hR _ _ ?_
      unfold pastN
      rw [if_pos h]
      rw [hpl, selL_ext (q := aheadB (tabF s) (inL xs)) (fun i hi => past_beh hpp hin2 (fun r hr => (tabF_in hs r hr).2) hi)] at hg
      exact (hg.base ((Sub.refl M).set' hbk)).dnI
end Go.M2

namespace Go.M2
open Go.Proofs
variable {M : MH}
theorem law_PastNumbers {v w : V} {s : SysS} {xs : List Int} (hv : isSysX s v) (hl : SysLen s) (hw : XI w xs) (hx : LenOk xs) :
    VCall Tryz.prog n_laws_FnExactPastNumbers [v, w] M (fun r M' => M = M' ∧ r = .sc (.bool true)) := by
  refine VCall.pure fun R hR => v_laws_FnExactPastNumbers rfl ?_
  have hv0 := hv
  obtain ⟨a, b, rfl, ha, hb⟩ := hv
  unfold LenOk at hx
  have hlen := hw.len fun _ _ h => h.len
  (repeat' (first | ((first | with_reducible refine cond_dec (fun h => ?_) (fun h => ?_) | with_reducible refine guardK_dec (fun h => ?_) (fun h => ?_) | with_reducible refine guardD3_dec (fun h => ?_) (fun h => ?_)) <;> first | (exfalso; omega) | (simp (maxSteps := 2000000) (disch := first | omega | assumption | exact idP rfl | exact idP (bL rfl)) only [go_sem, reduceIte, Nat.reduceEqDiff, h, hlen]) | skip) | ((first | with_reducible refine cond_split (fun h => ?_) (fun h => ?_) | with_reducible refine guardK_split (fun h => ?_) (fun h => ?_) | with_reducible refine guardD3_split (fun h => ?_) (fun h => ?_)) <;> ((try simp only [Bool.not_eq_true', Bool.not_eq_false'] at h); first | (simp (maxSteps := 2000000) (disch := first | omega | assumption | exact idP rfl | exact idP (bL rfl)) only [go_sem, reduceIte, Nat.reduceEqDiff, h, hlen]) | skip)) | (with_reducible intro bk hbk; try have hnk := (fresh_set hbk).1) | (simp (maxSteps := 2000000) (disch := first | omega | assumption | exact idP rfl | exact idP (bL rfl)) only [go_sem, reduceIte, Nat.reduceEqDiff, hlen])))
  · exact hR _ _ (by (repeat (first | exact Sub.refl _ | assumption | (refine Sub.set' ?_ (by assumption))))) rfl
  · refine (x_szSystem hv0 hl (by omega) (by omega)).mono ?_
    rintro _ _ ⟨rfl, k, rfl, hk1, hk⟩
    (repeat' (first | ((first | with_reducible refine cond_dec (fun h => ?_) (fun h => ?_) | with_reducible refine guardK_dec (fun h => ?_) (fun h => ?_) | with_reducible refine guardD3_dec (fun h => ?_) (fun h => ?_)) <;> first | (exfalso; omega) | (simp (maxSteps := 2000000) (disch := first | omega | assumption | exact idP rfl | exact idP (bL rfl)) only [go_sem, reduceIte, Nat.reduceEqDiff, h]) | skip) | ((first | with_reducible refine cond_split (fun h => ?_) (fun h => ?_) | with_reducible refine guardK_split (fun h => ?_) (fun h => ?_) | with_reducible refine guardD3_split (fun h => ?_) (fun h => ?_)) <;> ((try simp only [Bool.not_eq_true', Bool.not_eq_false'] at h); first | (simp (maxSteps := 2000000) (disch := first | omega | assumption | exact idP rfl | exact idP (bL rfl)) only [go_sem, reduceIte, Nat.reduceEqDiff, h]) | skip)) | (with_reducible intro bk hbk; try have hnk := (fresh_set hbk).1) | (simp (maxSteps := 2000000) (disch := first | omega | assumption | exact idP rfl | exact idP (bL rfl)) only [go_sem, reduceIte, Nat.reduceEqDiff])))
    · exact hR _ _ (by (repeat (first | exact Sub.refl _ | assumption | (refine Sub.set' ?_ (by assumption))))) rfl
    · have hf := hk (by omega)
      have hxl : xs.length ≤ 1048576 := by omega
      have hzl : (pastN s xs).length ≤ 1048576 := Nat.le_trans (pastN_len) (by omega)
      generalize hz : pastN s xs = zs at *
      refine (f_toSystem hv0 hf).mono ?_
      rintro s1 _ ⟨rfl, hs1⟩
      simp (maxSteps := 2000000) (disch := first | omega | assumption | exact idP rfl | exact idP (bL rfl)) only [go_sem, reduceIte, Nat.reduceEqDiff]
      refine (f_toIntS hw hxl).mono ?_
      rintro x1 _ ⟨rfl, hx1⟩
      simp (maxSteps := 2000000) (disch := first | omega | assumption | exact idP rfl | exact idP (bL rfl)) only [go_sem, reduceIte, Nat.reduceEqDiff]
      refine (t_PastNumbers hs1 hx1 hxl).mono ?_
      rintro w0 _ ⟨rfl, hw0⟩
      rw [hz] at hw0
      simp (maxSteps := 2000000) (disch := first | omega | assumption | exact idP rfl | exact idP (bL rfl)) only [go_sem, reduceIte, Nat.reduceEqDiff]
      have hsub0 : Sub M (M.set bk [a, b]) := (Sub.refl M).set' hbk
      refine (o_toSystem hv0 hf).mono ?_
      rintro _ M1 ⟨x, y, x', y', fp, rfl, ⟨ox1, ox2⟩, ⟨oy1, oy2⟩, hos⟩
      simp (maxSteps := 2000000) (disch := first | omega | assumption | exact idP rfl | exact idP (bL rfl)) only [go_sem, reduceIte, Nat.reduceEqDiff, ox1, ox2, oy1, oy2]
      intro b7 hb7
      have hs7 : Sub M1 (M1.set b7 [x, y]) := (Sub.refl M1).set' hb7
      have hbk1 : M1 bk = some [a, b] := hos.mem.sub bk _ set_same
      have nbk : bk ≠ b7 := fun e => by subst e; rw [hb7] at hbk1; cases hbk1
      refine (x_toIntS hw hxl).mono ?_
      rintro q1 M3 hg1
      have hos3 := hos.more (hs7.trans hg1.sub)
      have hm7 : M3 b7 = some [x, y] := hg1.sub b7 _ set_same
      have hmk : M3 bk = some [a, b] := hg1.sub bk _ (hs7 bk _ hbk1)
      obtain ⟨q1', fq, tq, mq, flq, ffq, hq1⟩ := hg1.dnI
      have mq1 : Mem M1 M3 fq := mq.base hs7
      have hall := hos.mem.add mq1
      have htr : Tr [.agg [x, y], q1] [.agg [x', y'], q1'] (fp ++ fq) := hos.arg.append tq
      simp (maxSteps := 2000000) (disch := first | omega | assumption | exact idP rfl | exact idP (bL rfl)) only [go_sem, reduceIte, Nat.reduceEqDiff, hm7]
      refine (VCall.lendD htr hall.at_ hall.nd fun M' => o_impPastNumbers hos.sys hf.sz hq1 hxl).mono ?_
      rintro g0 M4 ⟨g0', fg, tg, mg, flg, ffg, hg0⟩
      rw [hz] at hg0
      have hos4 := hos3.more mg.sub
      have hmk4 : M4 bk = some [a, b] := mg.sub bk _ hmk
      have hm74 : M4 b7 = some [x, y] := mg.sub b7 _ hm7
      have hq4 : ∀ p ∈ fq, M4 p.1 = some p.2 := fun p hp => mg.sub _ _ (mq.at_ p hp)
      simp (maxSteps := 2000000) (disch := first | omega | assumption | exact idP rfl | exact idP (bL rfl)) only [go_sem, reduceIte, Nat.reduceEqDiff]
      refine (l_eqIntS tg hg0 mg.at_ mg.nd hw0 hzl).mono ?_
      rintro _ _ ⟨rfl, rfl⟩
      simp (maxSteps := 2000000) (disch := first | omega | assumption | exact idP rfl | exact idP (bL rfl)) only [go_sem, reduceIte, Nat.reduceEqDiff, hmk4, hm74]
      refine (f_toSystem hv0 hf).mono ?_
      rintro s3 _ ⟨rfl, hs3⟩
      simp (maxSteps := 2000000) (disch := first | omega | assumption | exact idP rfl | exact idP (bL rfl)) only [go_sem, reduceIte, Nat.reduceEqDiff, hm74]
      refine (l_eqSystem hos4 hs3 hf).mono ?_
      rintro _ _ ⟨rfl, rfl⟩
      simp (maxSteps := 2000000) (disch := first | omega | assumption | exact idP rfl | exact idP (bL rfl)) only [go_sem, reduceIte, Nat.reduceEqDiff]
      refine (f_toIntS hw hxl).mono ?_
      rintro x3 _ ⟨rfl, hx3⟩
      simp (maxSteps := 2000000) (disch := first | omega | assumption | exact idP rfl | exact idP (bL rfl)) only [go_sem, reduceIte, Nat.reduceEqDiff]
      refine (l_eqIntS tq hq1 hq4 mq.nd hx3 hxl).mono ?_
      rintro _ _ ⟨rfl, rfl⟩
      simp (maxSteps := 2000000) (disch := first | omega | assumption | exact idP rfl | exact idP (bL rfl)) only [go_sem, reduceIte, Nat.reduceEqDiff, hm74]
      refine (t_markSystem hos4 hf (by omega) (by omega)).mono ?_
      rintro _ M5 ⟨k5, rfl, k51, k52, sub5, keep5⟩
      have nq : ∀ p ∈ fq, inF fp p.1 = false := fun p hp => nd_sep hall.nd hp
      have ng : ∀ p ∈ fg, inF fp p.1 = false := fun p hp => by
        cases hc : inF fp p.1 with
        | false => rfl
        | true =>
          obtain ⟨l, hl⟩ := inF_iff.1 hc
          have e1 := hos3.mem.at_ _ hl
          have e2 := mg.new p hp
          simp only at e1
          rw [e1] at e2; cases e2
      have ngq : ∀ p ∈ fg, inF fq p.1 = false := fun p hp => by
        cases hc : inF fq p.1 with
        | false => rfl
        | true =>
          obtain ⟨l, hl⟩ := inF_iff.1 hc
          have e1 := mq.at_ _ hl
          have e2 := mg.new p hp
          simp only at e1
          rw [e1] at e2; cases e2
      have hq5 : ∀ p ∈ fq, M5 p.1 = some p.2 := fun p hp => keep5 _ _ (hq4 p hp) (nq p hp)
      have hg5 : ∀ p ∈ fg, M5 p.1 = some p.2 := fun p hp => keep5 _ _ (mg.at_ p hp) (ng p hp)
      have hmk5 : M5 bk = some [a, b] := sub5 bk _ set_same
      simp (maxSteps := 2000000) (disch := first | omega | assumption | exact idP rfl | exact idP (bL rfl)) only [go_sem, reduceIte, Nat.reduceEqDiff]
      refine (t_markIntS (leaf_of tq flq (ls_lc hq1) (by omega) hxl hq5) (by omega) (by omega)).mono ?_
      rintro _ M6 ⟨k6, rfl, k61, k62, keep6⟩
      have keep6' : ∀ q, inF fq q = false → M6 q = M5 q := fun q hq2 => keep6 q (fun hc => by have hc : inF fq q = true := hc; rw [hq2] at hc; cases hc)
      have hg6 : ∀ p ∈ fg, M6 p.1 = some p.2 := fun p hp => by rw [keep6' _ (ngq p hp)]; exact hg5 p hp
      have old : ∀ q l, (M.set bk [a, b]) q = some l → inF fq q = false ∧ inF fg q = false := fun q l hq => by
        refine ⟨?_, ?_⟩
        · cases hc : inF fq q with
          | false => rfl
          | true =>
            obtain ⟨l2, hl⟩ := inF_iff.1 hc
            have e2 := mq1.new _ hl
            have e1 := hos.mem.sub q _ hq
            simp only at e2
            rw [e1] at e2; cases e2
        · cases hc : inF fg q with
          | false => rfl
          | true =>
            obtain ⟨l2, hl⟩ := inF_iff.1 hc
            have e2 := mg.new _ hl
            have e1 := hos3.mem.sub q _ hq
            simp only at e2
            rw [e1] at e2; cases e2
      have hk6 : ¬ k6 < 0 := by omega
      simp (maxSteps := 2000000) (disch := first | omega | assumption | exact idP rfl | exact idP (bL rfl)) only [go_sem, reduceIte, Nat.reduceEqDiff, hk6]
      refine (l_eqIntS tg hg0 hg6 mg.nd hw0 hzl).mono ?_
      rintro _ _ ⟨rfl, rfl⟩
      simp (maxSteps := 2000000) (disch := first | omega | assumption | exact idP rfl | exact idP (bL rfl)) only [go_sem, reduceIte, Nat.reduceEqDiff]
      refine (t_markR tg flg hg0 hg6 hzl).mono ?_
      rintro _ M7 ⟨rfl, hd7, keep7⟩
      have sub7 : Sub (M.set bk [a, b]) M7 := fun q l hq => by
        obtain ⟨o1, o2⟩ := old q l hq
        rw [keep7 q o2, keep6' q o1]; exact sub5 q l hq
      have hmk7 : M7 bk = some [a, b] := sub7 bk _ set_same
      simp (maxSteps := 2000000) (disch := first | omega | assumption | exact idP rfl | exact idP (bL rfl)) only [go_sem, reduceIte, Nat.reduceEqDiff]
      refine (t_heldIntS hd7 hzl (by omega) (by omega)).mono ?_
      rintro _ _ ⟨rfl, rfl⟩
      have hneg : ¬ (1 : Int) + (zs.length : Int) < 0 := by omega
      simp (maxSteps := 2000000) (disch := first | omega | assumption | exact idP rfl | exact idP (bL rfl)) only [go_sem, reduceIte, Nat.reduceEqDiff, hneg, hmk7]
      refine (f_toSystem hv0 hf).mono ?_
      rintro s4 _ ⟨rfl, hs4⟩
      simp (maxSteps := 2000000) (disch := first | omega | assumption | exact idP rfl | exact idP (bL rfl)) only [go_sem, reduceIte, Nat.reduceEqDiff]
      refine (f_toIntS hw hxl).mono ?_
      rintro x4 _ ⟨rfl, hx4⟩
      simp (maxSteps := 2000000) (disch := first | omega | assumption | exact idP rfl | exact idP (bL rfl)) only [go_sem, reduceIte, Nat.reduceEqDiff]
      refine (VCall.frT (o_impPastNumbers hs4 hf.sz hx4 hxl)).mono ?_
      rintro h0 _ ⟨rfl, hh0⟩
      rw [hz] at hh0
      simp (maxSteps := 2000000) (disch := first | omega | assumption | exact idP rfl | exact idP (bL rfl)) only [go_sem, reduceIte, Nat.reduceEqDiff]
      refine (x_eqIntS hh0 hw0 hzl).mono ?_
      rintro _ _ ⟨rfl, rfl⟩
      have ei : decide (zs = zs) = true := by simp
      simp (maxSteps := 2000000) (disch := first | omega | assumption | exact idP rfl | exact idP (bL rfl)) only [go_sem, reduceIte, Nat.reduceEqDiff, ei]
      refine (t_heldIntS hd7 hzl (by omega) (by omega)).mono ?_
      rintro _ _ ⟨rfl, rfl⟩
      simp (maxSteps := 2000000) (disch := first | omega | assumption | exact idP rfl | exact idP (bL rfl)) only [go_sem, reduceIte, Nat.reduceEqDiff, hneg]
      exact hR _ _ (hsub0.trans sub7) rfl
end Go.M2
