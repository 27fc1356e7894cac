/- Contract: the program's FoldedGraph. -/
import Derived.Test.YtopnlohhfllcpaaDoorFO5
import Derived.Test.YtopnlohhfllcpaaDoorRows
import Derived.WalkKit
import Derived.ProofKit
import Derived.LaidMore
import Derived.OpenShut
import Derived.Stop.Joined
import Derived.Lib.LaidTab
import Derived.Lib.ItoaNum
set_option linter.unusedVariables false
set_option linter.unusedSimpArgs false
set_option maxRecDepth 10000
set_option maxHeartbeats 4000000
namespace Go.M2
open Go.Proofs
variable {M : MH}
theorem Mem.unbase {M0 M1 M : MH} {f : List (Nat × List V)} (h : Mem M1 M f) (hs : Sub M0 M1) : Mem M0 M f := ⟨hs.trans h.sub, fun p hp => hs.none (h.new p hp), h.nd, h.at_⟩
theorem Fot.more {M0 M M' : MH} {b6 : Nat} {vL vN : V} {us us' ws ws' : List V} {fL fN : List (Nat × List V)} {f : Int} (h : Fot M0 M b6 vL us us' fL vN ws ws' fN f) (hs : Sub M M') : Fot M0 M' b6 vL us us' fL vN ws ws' fN f :=
  ⟨h.mem.more hs, h.ol, h.on, h.tl, h.tn, h.dl, h.dn, h.el, h.en, h.al, h.an⟩
theorem Fot.rebase {M0 M M' : MH} {b6 b : Nat} {c : List V} {vL vN : V} {us us' ws ws' : List V} {fL fN : List (Nat × List V)} {f : Int} (h : Fot M0 M b6 vL us us' fL vN ws ws' fN f) (hs : Sub M M') (hb : M b = none) (hl : M' b = .some c) : Fot (M0.set b c) M' b6 vL us us' fL vN ws ws' fN f := by
  refine ⟨⟨fun i x hi => ?_, fun p hp => ?_, h.mem.nd, fun p hp => hs _ _ (h.mem.at_ p hp)⟩, h.ol, h.on, h.tl, h.tn, h.dl, h.dn, h.el, h.en, h.al, h.an⟩
  · by_cases e : i = b
    · subst e; rw [set_same] at hi; cases hi; exact hl
    · rw [set_ne e] at hi; exact hs _ _ (h.mem.sub i x hi)
  · rw [set_ne fun e => ?_]
    · exact h.mem.new p hp
    · have := h.mem.at_ p hp
      rw [e, hb] at this; cases this
theorem Fot.drop {M0 M : MH} {b6 b : Nat} {c : List V} {vL vN : V} {us us' ws ws' : List V} {fL fN : List (Nat × List V)} {f : Int} (h : Fot (M0.set b c) M b6 vL us us' fL vN ws ws' fN f) (hb : M0 b = none) : Fot M0 (M.del b) b6 vL us us' fL vN ws ws' fN f := by
  have hne : ∀ p ∈ ((b6, [vL, V.sc (.int .i64 f), vN]) :: (fpG vL us ++ (fpG vN ws ++ (fL ++ fN)))), p.1 ≠ b := fun p hp e => by
    have := h.mem.new p hp
    rw [e, set_same] at this; cases this
  refine ⟨⟨fun i x hi => ?_, fun p hp => ?_, h.mem.nd, fun p hp => ?_⟩, h.ol, h.on, h.tl, h.tn, h.dl, h.dn, h.el, h.en, h.al, h.an⟩
  · have e : i ≠ b := fun e => by subst e; rw [hb] at hi; cases hi
    rw [del_ne e]
    exact h.mem.sub i x (by rw [set_ne e]; exact hi)
  · have := h.mem.new p hp
    rwa [set_ne (hne p hp)] at this
  · rw [del_ne (hne p hp)]; exact h.mem.at_ p hp
theorem t_Compact3 {M0 : MH} {v : V} {zs : List Int} (hg : Gr 1 M0 M v (zs.map vi)) (hl : zs.length ≤ 1048576) :
    VCall Tryd.prog n_slices_Compact_Sint_int [v] M (fun r M' => (∀ q, blkV v ≠ some q → M' q = M q) ∧ ∃ M2 u, (∀ {f : FuncId} {R : V → MH → Prop}, VCall Tryd.prog f [u] M2 R → VCall Tryd.prog f [r] M' R) ∧ Sub M0 M2 ∧ LI u (compF zs)) := by
  rcases hg.own with ⟨h1, k, rfl⟩ | ⟨b, n, ex, rfl, h2, h3⟩
  · have hz : zs = [] := by simpa using h1
    subst hz
    refine VCall.plain fun R hR => v_slices_Compact_Sint_int rfl ?_
    refine sS0 ?_
    exact hR _ _ ⟨fun _ _ => rfl, M, _, fun h => h, hg.sub, .nil⟩
  · have hn : zs.length = n := by simpa using h3
    refine (t_Compact h2 hn (by omega)).mono ?_
    rintro r M' ⟨rest, rfl, rfl⟩
    have hb := hg.new b rfl
    refine ⟨fun q hq => set_ne fun e => hq (by rw [e]; rfl), _, _, fun h => VCall.give (.sl set_same (.refl _ _) (.refl _ _)) h, ?_, Ls.mk rfl (by simp) fun i hi => ⟨.sc (.int .i64 (compF zs)[i]), ?_, rfl⟩⟩
    · intro i l hi
      have hne : i ≠ b := fun e => by subst e; rw [hb] at hi; cases hi
      rw [del_ne hne, set_ne hne]; exact hg.sub i l hi
    · rw [List.drop_zero, List.getElem?_append_left (by simpa using hi)]
      exact nth_vi hi
theorem t_cloneOw {M0 : MH} {v : V} {us : List V} (hg : Gr 1 M0 M v us) (hos : us.all oneV = true) (hl : us.length ≤ 1048576) : VCall Tryd.prog n_impl_clone_Sint [v] M (fun r M' => Gr 1 M M' r us) := by
  refine VCall.plain fun R hR => v_impl_clone_Sint rfl ?_
  have hlen := hg.len1
  refine sS1 @hlen ?_
  refine cond_dec (fun h => ?_) (fun h => ?_)
  · refine sS0 ?_
    have : us = [] := List.eq_nil_of_length_eq_zero (by omega)
    subst this
    exact hR _ _ (.nil (Sub.refl _))
  · refine sS1 @hlen ?_
    refine mks3 (by omega) (by simp [mostCells]; omega) (by simp [mostCells]; omega) ?_
    intro b3 hb3
    rcases hg.own with ⟨rfl, q, rfl⟩ | ⟨b, n, ex, rfl, hb, hn⟩
    · exact absurd rfl h
    have hne : b ≠ b3 := fun e => by subst e; rw [hb3] at hb; cases hb
    have hz : ((zeros [AV.sl none 0 0 true 0] us.length).map V.sc).length = us.length := by simp [zeros_length]
    refine sS0 ?_
    generalize hZ : (zeros [AV.sl none 0 0 true 0] us.length).map V.sc = Z at hz ⊢
    refine copy_own (t := us.length) (ls := us) (ld := Z) (by rw [set_ne hne]; exact hb) set_same (by omega) (by omega) (by omega) (by omega) (by simpa using hos) ?_
    simp only [List.drop_zero, List.take_length]
    rw [setAtG_all _ _ _ (by omega)]
    refine sS0 ?_
    exact hR _ _ (Gr.new' (Sub.refl _) hb3 (by simp))
theorem Mem.setx {M0 M : MH} {f : List (Nat × List V)} {b : Nat} {l : List V} (h : Mem M0 M f) (hb : M0 b = none) (hne : ∀ p ∈ f, p.1 ≠ b) : Mem M0 (M.set b l) f :=
  ⟨h.sub.set hb, h.new, h.nd, fun p hp => by rw [set_ne (hne p hp)]; exact h.at_ p hp⟩
theorem OwS.flat {v : V} {l : List V} (h : OwS 1 v l) : flat v := by
  rcases h with ⟨rfl, k, rfl⟩ | ⟨b, n, ex, rfl, h2⟩ <;> simp [M2.flat]
theorem t_impFoldedGraph {v : V} {g : GrS} {f : Int} (hv : isGr g v) (hz : GrSz g) : VCall Tryd.prog n_impl_FoldedGraph [v, .sc (.int .i64 f)] M (fun r M' => ∃ x y x' y' fp, r = .agg [x, .sc (.int .i64 (fgF g f).first), y] ∧ One x ∧ One y ∧ OwnG M M' (fgF g f) x y x' y' fp) := by
  refine VCall.plain fun R hR => v_impl_FoldedGraph rfl ?_
  have hv0 := hv
  obtain ⟨a, b, rfl, ha, hb⟩ := hv
  (repeat' (first | ((with_reducible first | refine cond_dec (fun h => ?_) (fun h => ?_) | refine guardK_dec (fun h => ?_) (fun h => ?_) | refine guardD3_dec (fun h => ?_) (fun h => ?_)) <;> first | (exfalso; omega) | (simp (maxSteps := 2000000) (disch := first | omega | assumption | exact idP rfl | exact idP (bL rfl)) only [go_sem, reduceIte, Nat.reduceEqDiff, wpV_kd, wpV_tH, h]) | skip) | ((with_reducible first | refine cond_split (fun h => ?_) (fun h => ?_) | refine guardK_split (fun h => ?_) (fun h => ?_) | refine guardD3_split (fun h => ?_) (fun h => ?_)) <;> ((try simp only [Bool.not_eq_true', Bool.not_eq_false'] at h); first | (simp (maxSteps := 2000000) (disch := first | omega | assumption | exact idP rfl | exact idP (bL rfl)) only [go_sem, reduceIte, Nat.reduceEqDiff, wpV_kd, wpV_tH, h]) | skip)) | ((with_reducible refine (t_impGraphValid hv0 hz).mono ?_); rintro _ _ ⟨rfl, rfl⟩) | (with_reducible intro bk hbk; try have hnk := (fresh_set hbk).1) | (simp (maxSteps := 2000000) (disch := first | omega | assumption | exact idP rfl | exact idP (bL rfl)) only [go_sem, reduceIte, Nat.reduceEqDiff, wpV_kd, wpV_tH])))
  · have hfg : fgF g f = ⟨[], 0, []⟩ := by simp only [fgF, h]; rfl
    rw [hfg] at hR
    exact hR _ _ ⟨_, _, _, _, [], rfl, ⟨rfl, rfl⟩, ⟨rfl, rfl⟩, ⟨.refl _, .nil (sB), by simp [flatL, flat], fun q hq => (by cases hq), .nil, .nil⟩⟩
  · have hG := grB_iff.1 h
    have hA := hG.al
    have hfg : fgF g f = foldF g (clsF g) := by simp only [fgF, h, if_true]
    rename_i b2 hb2
    have m2 : ((M.set b2 [a, V.sc (AV.int IntKind.i64 g.first), b]).set bk [V.sc (AV.sl none 0 0 true 0), V.sc (AV.int IntKind.i64 0), V.sc (AV.sl none 0 0 true 0)]) b2 = .some [a, V.sc (AV.int IntKind.i64 g.first), b] := by rw [set_ne (Ne.symm hnk), set_same]
    have m4 : ((M.set b2 [a, V.sc (AV.int IntKind.i64 g.first), b]).set bk [V.sc (AV.sl none 0 0 true 0), V.sc (AV.int IntKind.i64 0), V.sc (AV.sl none 0 0 true 0)]) bk = .some [V.sc (AV.sl none 0 0 true 0), V.sc (AV.int IntKind.i64 0), V.sc (AV.sl none 0 0 true 0)] := set_same
    have hs0 : Sub M ((M.set b2 [a, V.sc (AV.int IntKind.i64 g.first), b]).set bk [V.sc (AV.sl none 0 0 true 0), V.sc (AV.int IntKind.i64 0), V.sc (AV.sl none 0 0 true 0)]) := sB
    have hbk0 : M bk = none := (fresh_set hbk).2
    generalize ((M.set b2 [a, V.sc (AV.int IntKind.i64 g.first), b]).set bk [V.sc (AV.sl none 0 0 true 0), V.sc (AV.int IntKind.i64 0), V.sc (AV.sl none 0 0 true 0)]) = M0 at *
    refine (t_alike hv0 hA).mono ?_
    rintro pv M1 ⟨z, hz1, hgp⟩
    have hze := clsF_eq hz1
    subst hze
    have hcl := clsF_cls hA
    have hpl := hcl.len
    have hn0 := hA.n0
    generalize clsF g = r at *
    have hpv := hgp.len1
    rw [List.length_map] at hpv
    refine sS0 ?_
    intro b6 hb6
    have sP : Sub M1 (M1.put b6 []) := (Sub.refl _).put hb6
    have mP : (M1.put b6 []) b6 = .some (.map (imE (rkL r 0))) := put_same
    have hgp6 := hgp.more sP
    generalize M1.put b6 [] = MP at *
    refine sS1 @hpv ?_
    refine loop_k (fun e M' => ∃ i : Nat, i ≤ r.length ∧ e 2 = .sc (.ptr (some (b2, 0))) ∧ e 4 = .sc (.ptr (some (bk, 0))) ∧ e 5 = pv ∧ e 6 = .sc (.map (some b6)) ∧ e 23 = pv ∧ e 24 = .sc (.int .i64 r.length) ∧ e 25 = .sc (.int .i64 i) ∧ Sub M1 M' ∧ M' b6 = .some (.map (imE (rkL r i)))) (fun e _ => ctrV r.length (e 25)) ?_ ?_
    · exact ⟨0, by omega, sT0, sT0, sT0, sT0, sT0, sT0, by refine sS0 ?_; rfl, sP, mP⟩
    · rintro e M2 ⟨i, hi, e2, e4, e5, e6, e23, e24, e25, hsub, hm6⟩ K hK
      have hgp2 := hgp.more hsub
      refine sS7 @e2 @e4 @e5 @e6 @e23 @e24 @e25 ?_
      refine cond_dec (fun hc => ?_) (fun hc => ?_)
      · have hi' : i < r.length := by omega
        have gi : r.getD i 0 = r[i] := by simp [List.getD, hi']
        have pa := hgp2.at (by simp; omega)
        have pi : iaddrV 1 pv (.int .i64 (i : Int)) = _ := hgp2.own.iaddr (by omega) (by simp; omega)
        have pn := nth_vi hi'
        by_cases hrep : r[i] = (i : Int)
        · have hR1 : isRep r i = true := by simp only [isRep, gi, hrep, decide_true]
          have hset := set_imE (v := (rank r i : Int)) (rkL_none (r := r) (i := i))
          have hnx : rkL r (i + 1) = rkL r i ++ [((i : Int), (rank r i : Int))] := by rw [rkL_succ, if_pos hR1]
          rw [← hnx] at hset
          have hml : (imE (rkL r i)).length = rank r i := by rw [imE, List.length_map, rkL_len]
          simp (maxSteps := 2000000) (disch := first | omega | assumption | exact idP rfl | exact idP (bL rfl)) only [go_sem, reduceIte, Nat.reduceEqDiff, wpV_kd, wpV_tH, e2, e4, e5, e6, e23, e24, e25, pi, pa, pn, hrep, hm6, hml, hset]
          exact hK _ _ ⟨i + 1, by omega, sT0, sT0, sT0, sT0, sT0, sT0, by refine sS0 ?_; rfl, hsub.put hb6, put_same⟩ (by refine sS2 @ctrV_int @e25 ?_; omega)
        · have hR1 : isRep r i = false := by simp only [isRep, gi, hrep, decide_false]
          have hnx : rkL r (i + 1) = rkL r i := by rw [rkL_succ, if_neg (by rw [hR1]; simp)]
          have hrep' : ¬ (i : Int) = r[i] := fun hh => hrep hh.symm
          simp (maxSteps := 2000000) (disch := first | omega | assumption | exact idP rfl | exact idP (bL rfl)) only [go_sem, reduceIte, Nat.reduceEqDiff, wpV_kd, wpV_tH, e2, e4, e5, e6, e23, e24, e25, pi, pa, pn, hrep']
          exact hK _ _ ⟨i + 1, by omega, sT0, sT0, sT0, sT0, sT0, sT0, by refine sS0 ?_; rfl, hsub, by rw [hnx]; exact hm6⟩ (by refine sS2 @ctrV_int @e25 ?_; omega)
      · obtain rfl : i = r.length := by omega
        have hfs := hG.fs
        have m22 := (hgp.sub.trans hsub) _ _ m2
        have hft : g.first.toNat < r.length := by omega
        have pa := hgp2.at (by simp; omega)
        have pi : iaddrV 1 pv (.int .i64 g.first) = _ := hgp2.own.iaddr hfs.1 (by simp; omega)
        have pn := nth_vi hft
        have gf : r.getD g.first.toNat 0 = r[g.first.toNat] := by simp [List.getD, hft]
        have hlk := rkL_at hcl hft
        rw [gf] at hlk
        simp (maxSteps := 2000000) (disch := first | omega | assumption | exact idP rfl | exact idP (bL rfl)) only [go_sem, reduceIte, Nat.reduceEqDiff, wpV_kd, wpV_tH, e2, e4, e5, e6, m22, pi, pa, pn, hm6, hlk]
        intro b9 hb9
        have hx2 := hgp2.sub
        have s9 : Sub M2 (M2.set b9 [V.sc (AV.sl none 0 0 true 0), V.sc (AV.int IntKind.i64 (atF r g.first.toNat : Int)), V.sc (AV.sl none 0 0 true 0)]) := (Sub.refl _).set hb9
        have hfot0 : Fot M2 (M2.set b9 [V.sc (AV.sl none 0 0 true 0), V.sc (AV.int IntKind.i64 (atF r g.first.toNat : Int)), V.sc (AV.sl none 0 0 true 0)]) b9 (.sc (.sl none 0 0 true 0)) [] [] [] (.sc (.sl none 0 0 true 0)) [] [] [] (atF r g.first.toNat : Int) :=
          ⟨(Mem.nil (Sub.refl _)).new1 hb9, .inl ⟨rfl, _, rfl⟩, .inl ⟨rfl, _, rfl⟩, .nil, .nil, by simp [flatL], by simp [flatL], fun q hq => (by cases hq), fun q hq => (by cases hq), rfl, rfl⟩
        generalize M2.set b9 [V.sc (AV.sl none 0 0 true 0), V.sc (AV.int IntKind.i64 (atF r g.first.toNat : Int)), V.sc (AV.sl none 0 0 true 0)] = M9 at *
        refine sS1 @hpv ?_
        refine loop_k (fun e' M' => ∃ (i : Nat) (vL vN : V) (us us' ws ws' : List V) (fL fN : List (Nat × List V)), i ≤ r.length ∧ e' 2 = .sc (.ptr (some (b2, 0))) ∧ e' 4 = .sc (.ptr (some (bk, 0))) ∧ e' 5 = pv ∧ e' 6 = .sc (.map (some b6)) ∧ e' 9 = .sc (.ptr (some (b9, 0))) ∧ e' 46 = pv ∧ e' 47 = .sc (.int .i64 r.length) ∧ e' 48 = .sc (.int .i64 i) ∧ Fot M2 M' b9 vL us us' fL vN ws ws' fN (atF r g.first.toNat : Int) ∧ Cs (fun ys u => LI u ys) us' ((RL r i).map fun n => g.letters.getD n []) ∧ Cs (fun ys u => LI u ys) ws' ((RL r i).map (fRow g r))) (fun e' _ => ctrV r.length (e' 48)) ?_ ?_
        · exact ⟨0, _, _, [], [], [], [], [], [], by omega, sT0, sT0, sT0, sT0, sT0, sT0, sT0, by refine sS0 ?_; rfl, hfot0, .nil, .nil⟩
        · rintro e' M3 ⟨i, vL, vN, us, us', ws, ws', fL, fN, hi, f2, f4, f5, f6, f9, f46, f47, f48, hfo, hcu, hcw⟩ K2 hK2
          have hul : us.length ≤ i := by have h1 := hcu.1; rw [List.length_map] at h1; have h2 := hfo.tl.len; have := RL_le (r := r) (i := i); omega
          have hwl : ws.length ≤ i := by have h1 := hcw.1; rw [List.length_map] at h1; have h2 := hfo.tn.len; have := RL_le (r := r) (i := i); omega
          have hgp3 := hgp2.more hfo.mem.sub
          have m32 := hfo.mem.sub _ _ m22
          have m36 := hfo.mem.sub _ _ hm6
          refine sS8 @f2 @f4 @f5 @f6 @f9 @f46 @f47 @f48 ?_
          refine cond_dec (fun hc => ?_) (fun hc => ?_)
          · have hi' : i < r.length := by omega
            have gi : r.getD i 0 = r[i] := by simp [List.getD, hi']
            have pa := hgp3.at (by simp; omega)
            have pi : iaddrV 1 pv (.int .i64 (i : Int)) = _ := hgp3.own.iaddr (by omega) (by simp; omega)
            have pn := nth_vi hi'
            by_cases hrep : r[i] = (i : Int)
            · have hR1 : isRep r i = true := by simp only [isRep, gi, hrep, decide_true]
              have hil : i < g.letters.length := by omega
              have hl := ha.elt hil
              have hll := hA.lt _ (List.getElem_mem hil)
              have hin : i < g.next.length := by have : g.next.length = g.letters.length := hA.nx.len; omega
              have hrow := hb.elt hin
              have hro := hrow.one.1
              have hrl := hA.ln _ (List.getElem_mem hin)
              have hrne := hA.nx.some_ _ (List.getElem_mem hin)
              have hrin : ∀ x ∈ g.next[i], 0 ≤ x ∧ x < (g.letters.length : Int) := hA.nx.in_ _ (List.getElem_mem hin)
              simp (maxSteps := 2000000) (disch := first | omega | assumption | exact idP rfl | exact idP (bL rfl)) only [go_sem, reduceIte, Nat.reduceEqDiff, wpV_kd, wpV_tH, f2, f4, f5, f6, f9, f46, f47, f48, pi, pa, pn, hrep, m32, hb.iaddr, hrow.len]
              refine loop_k (fun e2 M' => ∃ k : Nat, k ≤ g.next[i].length ∧ e2 2 = .sc (.ptr (some (b2, 0))) ∧ e2 4 = .sc (.ptr (some (bk, 0))) ∧ e2 5 = pv ∧ e2 6 = .sc (.map (some b6)) ∧ e2 9 = .sc (.ptr (some (b9, 0))) ∧ e2 10 = .sc (.int .i64 i) ∧ e2 46 = pv ∧ e2 47 = .sc (.int .i64 r.length) ∧ e2 48 = .sc (.int .i64 i) ∧ e2 60 = at1 b i ∧ e2 61 = .sc (.int .i64 g.next[i].length) ∧ e2 62 = .sc (.int .i64 k) ∧ Gr 1 M3 M' (e2 12) (((g.next[i].take k).map fun x => (atF r x.toNat : Int)).map vi)) (fun e2 _ => ctrV g.next[i].length (e2 62)) ?_ ?_
              · refine ⟨0, by omega, sT0, sT0, sT0, sT0, sT0, sT0, sT0, sT0, sT0, sT0, sT0, by refine sS0 ?_; rfl, ?_⟩
                refine sS0 ?_
                exact .nil (Sub.refl _)
              · rintro e2 M4 ⟨k, hk, k2, k4, k5, k6, k9, k10, k46, k47, k48, k60, k61, k62, hgr⟩ K3 hK3
                simp (maxSteps := 2000000) (disch := first | omega | assumption | exact idP rfl | exact idP (bL rfl)) only [go_sem, reduceIte, Nat.reduceEqDiff, wpV_kd, wpV_tH, k2, k4, k5, k6, k9, k10, k46, k47, k48, k60, k61, k62]
                refine cond_dec (fun hd => ?_) (fun hd => ?_)
                · have hk1 : k < g.next[i].length := by omega
                  have hx := hrin _ (List.getElem_mem hk1)
                  have hxt : g.next[i][k].toNat < r.length := by omega
                  have hgp4 := hgp3.more hgr.sub
                  have m46 := hgr.sub _ _ m36
                  have pax := hgp4.at (by simp; omega)
                  have pix : iaddrV 1 pv (.int .i64 g.next[i][k]) = _ := hgp4.own.iaddr hx.1 (by simp; omega)
                  have pnx := nth_vi hxt
                  have gfx : r.getD g.next[i][k].toNat 0 = r[g.next[i][k].toNat] := by simp [List.getD, hxt]
                  have hlkx := rkL_at hcl hxt
                  rw [gfx] at hlkx
                  simp (maxSteps := 2000000) (disch := first | omega | assumption | exact idP rfl | exact idP (bL rfl)) only [go_sem, reduceIte, Nat.reduceEqDiff, wpV_kd, wpV_tH, k2, k4, k5, k6, k9, k10, k46, k47, k48, k60, k61, k62, hrow.iaddr, hrow.at hk1, pix, pax, pnx, m46, hlkx]
                  intro bt hbt
                  refine app_int hgr hbt (by simp; omega) (by omega) ?_
                  intro s' M5 hg5 _
                  refine sS1 @k62 ?_
                  refine hK3 _ _ ⟨k + 1, by omega, sT0, sT0, sT0, sT0, sT0, sT0, sT0, sT0, sT0, sT0, sT0, by refine sS0 ?_; rfl, ?_⟩ (by refine sS2 @ctrV_int @k62 ?_; omega)
                  refine sS0 ?_
                  rw [take_snoc hk1, List.map_append, List.map_singleton]
                  exact hg5
                · obtain rfl : k = g.next[i].length := by omega
                  rw [List.take_length] at hgr
                  refine sS9 @k2 @k4 @k5 @k6 @k9 @k10 @k46 @k47 @k48 ?_
                  refine (t_SortInts hgr (by simp; omega)).mono ?_
                  rintro _ M5 ⟨rfl, hgs, -⟩
                  generalize e2 12 = v12 at *
                  have hsl : (sortI (g.next[i].map fun x => (atF r x.toNat : Int))).length = g.next[i].length := by rw [sortI_len, List.length_map]
                  rcases hgs.own with ⟨q1, _⟩ | ⟨b12, n12, ex12, q1, q2, q3⟩
                  · have h0 : g.next[i].length = 0 := by
                      have := congrArg List.length q1
                      rw [List.length_map, hsl] at this; simpa using this
                    exact absurd (List.eq_nil_of_length_eq_zero h0) hrne
                  have hb12 : M3 b12 = none := hgs.new _ (by rw [q1]; rfl)
                  have hfo5 := hfo.rebase hgs.sub hb12 q2
                  have hbx5 := hfo5.mem.hd
                  have m52 := hgs.sub _ _ m32
                  refine sS3 @hbx5 @m52 @ha.iaddr ?_
                  refine (t_cloneInt hl (by omega)).mono ?_
                  intro w M6 hgw
                  obtain ⟨w', gw, tw, mw, fw, gwf, hw⟩ := hgw.dn (p := fun u => LI u g.letters[i]) (flatL_vi _) fun u hu => hu.li
                  have w1 := hgw.one.1
                  have w2 := hgw.one.2
                  have hbx6 := mw.sub _ _ hbx5
                  refine sS3 @hbx6 @w1 @w2 ?_
                  intro bt hbt
                  refine hfo5.pushL w1 tw mw fw gwf hbt (by omega) (by omega) ?_
                  intro s' M7 p1 one1 hfo7
                  have hM2b : M2 b12 = none := hfo.mem.sub.none hb12
                  have hfo8 := hfo7.drop hM2b
                  have hbx8 := hfo7.mem.hd
                  have hc8 := hfo7.mem.sub _ _ (set_same (M := M2) (b := b12))
                  refine sS3 @p1 one1.1 one1.2 ?_
                  generalize M7.set b9 [s', .sc (.int .i64 (atF r g.first.toNat : Int)), vN] = M8 at *
                  have hgs8 : Gr 1 (M8.del b12) M8 v12 _ := ⟨fun j x hx => by
                    by_cases hh : j = b12
                    · subst hh; rw [del_same] at hx; cases hx
                    · rw [del_ne hh] at hx; exact hx, fun q hq => by rw [q1] at hq; cases hq; exact del_same, .inr ⟨b12, n12, ex12, q1, hc8, q3⟩⟩
                  have hb9d := hfo8.mem.hd
                  have n912 : b9 ≠ b12 := fun hh => by rw [hh, del_same] at hb9d; cases hb9d
                  refine (t_Compact3 hgs8 (by omega)).mono ?_
                  rintro r5 M10 ⟨keep, Mz, u, hgive, hsz, hu⟩
                  have hbx10 : M10 b9 = .some [s', .sc (.int .i64 (atF r g.first.toNat : Int)), vN] := by
                    rw [keep b9 (fun hh => by rw [q1] at hh; cases hh; exact n912 rfl)]; exact hbx8
                  have hcl5 := compF_len (l := sortI (g.next[i].map fun x => (atF r x.toNat : Int)))
                  refine sS1 @hbx10 ?_
                  refine hgive ((t_cloneInt hu (by omega)).mono ?_)
                  intro w2v M11 hgw2
                  have hfoz := hfo8.more hsz
                  have hbxz := hfoz.mem.hd
                  obtain ⟨y', gy, ty, my, fy, gyf, hy⟩ := hgw2.dn (p := fun u => LI u (compF (sortI (g.next[i].map fun x => (atF r x.toNat : Int))))) (flatL_vi _) fun u hu => hu.li
                  have y1 := hgw2.one.1
                  have y2 := hgw2.one.2
                  have hbx11 := my.sub _ _ hbxz
                  refine sS3 @hbx11 @y1 @y2 ?_
                  intro bt2 hbt2
                  refine hfoz.pushN y1 ty my fy gyf hbt2 (by omega) (by omega) ?_
                  intro s2 M12 p2 one2 hfo12
                  refine sS4 @p2 one2.1 one2.2 @f48 ?_
                  refine hK2 _ _ ⟨i + 1, _, _, _, _, _, _, _, _, by omega, sT0, sT0, sT0, sT0, sT0, sT0, sT0, by refine sS0 ?_; rfl, hfo12, ?_, ?_⟩ (by refine sS2 @ctrV_int @f48 ?_; omega)
                  · rw [RL_succ, if_pos hR1, List.map_append, List.map_singleton]
                    refine hcu.snoc ?_
                    rw [show g.letters.getD i [] = g.letters[i] by simp [List.getD, hil]]
                    exact hw
                  · rw [RL_succ, if_pos hR1, List.map_append, List.map_singleton]
                    refine hcw.snoc ?_
                    rw [show fRow g r i = compF (sortI (g.next[i].map fun x => (atF r x.toNat : Int))) by
                      rw [comp_ascL (m := (repsL r).length) fun x hx => ?_, fRow, show g.next.getD i [] = g.next[i] by simp [List.getD, hin]]
                      obtain ⟨y, hy2, rfl⟩ := List.mem_map.1 hx
                      have h1 := hrin y hy2
                      have h2 := atF_lt hcl (i := y.toNat) (by omega)
                      omega]
                    exact hy
            · have hR1 : isRep r i = false := by simp only [isRep, gi, hrep, decide_false]
              have hrep' : ¬ (i : Int) = r[i] := fun hh => hrep hh.symm
              simp (maxSteps := 2000000) (disch := first | omega | assumption | exact idP rfl | exact idP (bL rfl)) only [go_sem, reduceIte, Nat.reduceEqDiff, wpV_kd, wpV_tH, f2, f4, f5, f6, f9, f46, f47, f48, pi, pa, pn, hrep']
              refine hK2 _ _ ⟨i + 1, _, _, _, _, _, _, _, _, by omega, sT0, sT0, sT0, sT0, sT0, sT0, sT0, by refine sS0 ?_; rfl, hfo, ?_, ?_⟩ (by refine sS2 @ctrV_int @f48 ?_; omega)
              · rw [RL_succ, if_neg (by rw [hR1]; simp)]; exact hcu
              · rw [RL_succ, if_neg (by rw [hR1]; simp)]; exact hcw
          · obtain rfl : i = r.length := by omega
            have hbx := hfo.mem.hd
            have hm1 : Mem M2 M3 (fpG vL us ++ (fpG vN ws ++ (fL ++ fN))) := hfo.mem.tail
            have hgL : Gr 1 M2 M3 vL us := hm1.gr hfo.ol
            have hgN : Gr 1 M2 M3 vN ws := (hm1.perm (List.perm_append_comm_assoc _ _ _)).gr hfo.on
            refine sS5 @f2 @f4 @f6 @f9 @hbx ?_
            refine (t_cloneOw hgL hfo.al (by omega)).mono ?_
            intro cL M13 hcL
            have hbx13 := hcL.sub _ _ hbx
            refine sS1 @hbx13 ?_
            refine (t_cloneOw (hgN.more hcL.sub) hfo.an (by omega)).mono ?_
            intro cN M14 hcN
            have hbx14 := hcN.sub _ _ hbx13
            have l1 := hcL.one.1
            have l2 := hcL.one.2
            have l3 := hcN.one.1
            have l4 := hcN.one.2
            have m4z := (((hfo.mem.sub.trans hcL.sub).trans hcN.sub) _ _ ((hgp.sub.trans hsub) _ _ m4))
            refine sS6 @hbx14 @l1 @l2 @l3 @l4 @m4z ?_
            have hsM2 : Sub M M2 := hs0.trans (hgp.sub.trans hsub)
            have m4y : M2 bk = .some [V.sc (AV.sl none 0 0 true 0), V.sc (AV.int IntKind.i64 0), V.sc (AV.sl none 0 0 true 0)] := (hgp.sub.trans hsub) _ _ m4
            have a1 : Mem M2 M14 ((fpG cL us ++ fL) ++ (fpG cN ws ++ fN)) := by
              have b1 := (((hm1.right).right.add hcL.mem).add hcN.mem)
              refine b1.perm ?_
              rw [List.append_assoc, List.append_assoc]
              refine List.Perm.trans (List.Perm.append_left _ (List.perm_append_comm_assoc _ _ _)) ?_
              refine List.Perm.trans (List.perm_append_comm_assoc _ _ _) ?_
              rw [List.append_assoc]
              refine List.Perm.append_left _ (List.Perm.append_left _ ?_)
              exact List.perm_append_comm
            have a2 := (a1.unbase hsM2).setx (l := [cL, V.sc (AV.int IntKind.i64 (atF r g.first.toNat : Int)), cN]) hbk0 fun p hp e => by
              have := a1.new p hp
              rw [e, m4y] at this; cases this
            obtain ⟨cL', t1, g1⟩ := hcL.own.sh.1.tr hfo.tl
            obtain ⟨cN', t2, g2⟩ := hcN.own.sh.1.tr hfo.tn
            have fpf : ∀ {v : V} {l : List V}, flatL l → ∀ q ∈ fpG v l, flatL q.2 := fun hl q hq => by
              unfold fpG at hq
              split at hq
              · rw [List.mem_singleton] at hq; subst hq; exact hl
              · cases hq
            rw [hfg] at hR
            refine hR _ _ ⟨cL, cN, cL', cN', (fpG cL us ++ fL) ++ (fpG cN ws ++ fN), rfl, ⟨l1, l2⟩, ⟨l3, l4⟩, t1.append t2, a2, ?_, fun q hq => ?_, g1.lsC hcu, g2.lsC hcw⟩
            · simp only [flatL]; exact ⟨hcL.own.sh.1.flat, hcN.own.sh.1.flat, trivial⟩
            · rcases List.mem_append.1 hq with h1 | h1
              · rcases List.mem_append.1 h1 with h2 | h2
                · exact fpf hfo.dl q h2
                · exact hfo.el q h2
              · rcases List.mem_append.1 h1 with h2 | h2
                · exact fpf hfo.dn q h2
                · exact hfo.en q h2
end Go.M2

namespace Go.M2
open Go.Proofs
variable {M : MH}
theorem o_impAlikeIn {u : V} {g : GrS} {f : Int} (hu : isGr g u) (hz : GrSz g) : VCall Tryd.prog n_impl_AlikeIn [u, .sc (.int .i64 f)] M (fun r M' => Dn M M' r (fun w => LI w (alF g f))) :=
  (t_impAlikeIn hu hz).mono fun r M' h => h.dn (flatL_vi _) fun u hu => hu.li
end Go.M2

namespace Go.M2
open Go.Proofs
variable {M : MH}
theorem Hd.more {M' : MH} {v : V} {n : Nat} {k : Int} (h : Hd M v n k) (hs : Sub M M') : Hd M' v n k := by
  rcases h with h2 | ⟨b', o', c', ex', kk', l', rfl, hm', hl'⟩
  · exact .inl h2
  · exact .inr ⟨b', o', c', ex', kk', l', rfl, hs _ _ hm', hl'⟩
theorem HdS.more {M' : MH} {v : V} {rows : List (List Int)} {k : Int} (h : HdS M v rows k) (hs : Sub M M') : HdS M' v rows k := by
  rcases h with h2 | ⟨b, o, c, ex, kk, cs, rfl, hm, hl⟩
  · exact .inl h2
  · exact .inr ⟨b, o, c, ex, kk, cs, rfl, hs _ _ hm, fun i hi => by
      obtain ⟨u, h1, h2⟩ := hl i hi
      exact ⟨u, h1, h2.more hs⟩⟩
theorem fgF_sz {g : GrS} {f : Int} : GrSz (fgF g f) := by
  unfold fgF
  split
  · rename_i h
    have hA := (grB_iff.1 h).al
    have hcl := clsF_cls hA
    have hpl := hcl.len
    have hn := hA.n0
    have hrl : (repsL (clsF g)).length ≤ g.letters.length := by rw [← hpl]; exact RL_le
    refine ⟨by rw [foldF_len]; omega, fun r hr => ?_, by simp only [foldF, List.length_map]; omega, fun r hr => ?_⟩
    · obtain ⟨n, hn2, rfl⟩ := List.mem_map.1 hr
      have hlt : n < g.letters.length := by rw [← hpl]; exact List.mem_range.1 (List.mem_filter.1 hn2).1
      rw [show g.letters.getD n [] = g.letters[n] by simp [List.getD, hlt]]
      have := (hA.lt _ (List.getElem_mem hlt)).1; omega
    · obtain ⟨n, hn2, rfl⟩ := List.mem_map.1 hr
      rw [← selL_ascL]
      exact Nat.le_trans selL_len (by omega)
  · exact ⟨by simp, fun r hr => (by cases hr), by simp, fun r hr => (by cases hr)⟩
end Go.M2

namespace Go.M2
open Go.Proofs
variable {M : MH}
theorem Gr.out {M0 Mb M Mr : MH} {v : V} {us : List V} {fp g : List (Nat × List V)} (h : Gr 1 Mb M v us) (hm : Mem M0 Mb fp) (k : Mem M Mr g) : ∃ Mb', Gr 1 Mb' Mr v us ∧ Mem M0 Mb' (fp ++ g) := by
  have key : Sub Mb (fun i => if blkV v = .some i then none else Mr i) := fun i l hi => by
    have hne : blkV v ≠ some i := fun e => by rw [h.new i e] at hi; cases hi
    simp only [hne, if_false]; exact k.sub _ _ (h.sub _ _ hi)
  refine ⟨fun i => if blkV v = .some i then none else Mr i, ⟨fun i l hi => ?_, fun b hb => by simp [hb], h.own.sub k.sub⟩, hm.add ⟨key, fun p hp => h.sub.none (k.new p hp), k.nd, fun p hp => ?_⟩⟩
  · have hi : (if blkV v = .some i then none else Mr i) = .some l := hi
    split at hi
    · cases hi
    · exact hi
  · have hne : blkV v ≠ some p.1 := fun e => by
      have h1 := k.new p hp
      rcases h.own with ⟨rfl, q, rfl⟩ | ⟨b', n, ex, rfl, h2, _⟩
      · simp [blkV] at e
      · simp [blkV] at e; subst e; rw [h1] at h2; cases h2
    simp only [hne, if_false]; exact k.at_ p hp
def RT (M0 M : MH) (v : V) (rows : List (List Int)) : Prop :=
  ∃ us us' fp Mb, Gr 1 Mb M v us ∧ Mem M0 Mb fp ∧ Tr us us' fp ∧ flatL us ∧ (∀ q ∈ fp, flatL q.2) ∧ us.all oneV = true ∧ Cs isL us' rows
section
variable {M0 M1 M2 : MH} {v u : V} {rows : List (List Int)} {ys : List Int}
theorem RT.sub (h : RT M0 M1 v rows) : Sub M0 M1 := by
  obtain ⟨us, us', fp, Mb, hg, hm, _⟩ := h
  exact hm.sub.trans hg.sub
theorem RT.nil {k : Nat} (h : Sub M0 M1) : RT M0 M1 (.sc (.sl none 0 0 true k)) [] := ⟨[], [], [], M1, .nil (Sub.refl _), .nil h, .nil, by simp [flatL], fun q hq => (by cases hq), rfl, .nil⟩
theorem RT.len (h : RT M0 M1 v rows) : lenF (er v) = .some (.int .i64 (rows.length : Int)) := by
  obtain ⟨us, us', fp, Mb, hg, hm, ht, _, _, _, hc⟩ := h
  rw [hg.len1, ← hc.1, ht.len]
theorem RT.one (h : RT M0 M1 v rows) : One v := by
  obtain ⟨us, us', fp, Mb, hg, _⟩ := h
  exact hg.one
theorem RT.more (h : RT M0 M1 v rows) (hs : Sub M1 M2) : RT M0 M2 v rows := by
  obtain ⟨us, us', fp, Mb, hg, hm, h⟩ := h
  obtain ⟨Mb', g1, m1⟩ := hg.out hm (Mem.nil hs)
  rw [List.append_nil] at m1
  exact ⟨us, us', fp, Mb', g1, m1, h⟩
theorem RT.base {Mz : MH} (h : RT M0 M1 v rows) (hs : Sub Mz M0) : RT Mz M1 v rows := by
  obtain ⟨us, us', fp, Mb, hg, hm, h⟩ := h
  exact ⟨us, us', fp, Mb, hg, hm.base hs, h⟩
theorem RT.tree (h : RT M0 M1 v rows) : ∃ v' fp, Tr [v] [v'] fp ∧ Mem M0 M1 fp ∧ flat v ∧ (∀ q ∈ fp, flatL q.2) ∧ LII v' rows := by
  obtain ⟨us, us', fp, Mb, hg, hm, ht, hf, hff, _, hc⟩ := h
  rcases hg.own with ⟨rfl, k, rfl⟩ | ⟨b, n, ex, rfl, hb, hl⟩
  · cases ht
    have : rows = [] := List.eq_nil_of_length_eq_zero hc.1.symm
    subst this
    exact ⟨_, [], .refl _, .nil (hm.sub.trans hg.sub), by simp [flat], fun q hq => (by cases hq), .nil⟩
  · have hnew : Mb b = none := hg.new b rfl
    refine ⟨.fs (some (b, 0)) n n ex 1 (us'.drop 0), (b, us) :: (fp ++ []), .sl ht .nil, ?_, by simp [flat], fun q hq => ?_, ?_⟩
    · have k : Mem Mb M1 [(b, us)] := ⟨hg.sub, fun p hp => by simp at hp; subst hp; exact hnew, by simp [Nd2], fun p hp => by simp at hp; subst hp; exact hb⟩
      rw [List.append_nil]
      exact (hm.add k).perm List.perm_append_comm
    · simp only [List.append_nil, List.mem_cons] at hq
      rcases hq with rfl | h1
      · exact hf
      · exact hff q h1
    · have := ht.len
      exact Fr.lsC (us := us') (.inr ⟨_, _, _, _, _, by rw [List.drop_zero], by omega⟩) hc
theorem RT.dn (h : RT M0 M1 v rows) : Dn M0 M1 v (fun u => LII u rows) := h.tree
theorem RT.row (h : RT M0 M1 v rows) {i : Nat} (hi : i < rows.length) : ∃ (us : List V) (u u' : V) (g : List (Nat × List V)), (∀ {k : IntKind} {a : Int}, 0 ≤ a → a < (rows.length : Int) → iaddrV 1 v (.int k a) = .some (.sc (.ptr (some (oB v, a.toNat))))) ∧ M1 (oB v) = .some us ∧ us[i]? = .some u ∧ One u ∧ Tr [u] [u'] g ∧ Nd2 g ∧ (∀ p ∈ g, M1 p.1 = .some p.2) ∧ (∀ p ∈ g, M0 p.1 = none) ∧ LI u' rows[i] := by
  obtain ⟨us, us', fp, Mb, hg, hm, ht, hf, hff, ho, hc⟩ := h
  have hul : us.length = rows.length := by rw [← ht.len]; exact hc.1
  have hiu : i < us.length := by omega
  have hsp : us = us.take i ++ (us[i] :: us.drop (i + 1)) := by rw [← List.drop_eq_getElem_cons hiu, List.take_append_drop]
  rw [hsp] at ht
  obtain ⟨a', b', f1, f2, rfl, rfl, t1, t2⟩ := Tr.split (a := us.take i) (b := us[i] :: us.drop (i + 1)) (b' := []) ht
  obtain ⟨x', r', g1, g2, rfl, rfl, t3, t4⟩ := t2.uncons
  have hal : a'.length = i := by rw [t1.len, List.length_take]; omega
  have hmg : Mem M0 Mb g1 := hm.right.left
  have h4 := hc.2 i hi
  rw [List.getElem?_append_right (by omega), hal, Nat.sub_self] at h4
  obtain ⟨w, h5, h6⟩ := h4
  simp only [List.getElem?_cons_zero, Option.some.injEq] at h5
  subst h5
  have o1 := List.all_eq_true.1 ho _ (List.getElem_mem hiu)
  have fl := flatL_all.1 hf _ (List.getElem_mem hiu)
  refine ⟨us, us[i], x', g1, fun h0 h1 => hg.own.iaddr h0 (by rw [hul]; exact h1), hg.at (by omega), List.getElem?_eq_getElem hiu, ⟨o1, ?_⟩, t3, hmg.nd, fun p hp => hg.sub _ _ (hmg.at_ p hp), hmg.new, h6⟩
  rcases t3.inv1 with ⟨h1, h2⟩ | ⟨b, o, n, c, ex, k, cs, cs', g, h0, _⟩ | ⟨a, a', _, h0⟩ | ⟨a, a', _, h0⟩
  · simp only [List.cons.injEq, and_true] at h1
    rw [← h1]; exact h6.one.2
  · rw [h0]; rfl
  · rw [h0] at o1; exact absurd o1 (by simp [oneV, er, oneA])
  · rw [h0] at o1; exact absurd o1 (by simp [oneV, er, oneA])
theorem RT.snoc {s' : V} {M' : MH} {us us' : List V} {fp g : List (Nat × List V)} {u' : V} {Mb' : MH} (h1 : Gr 1 Mb' M' s' (us ++ [u])) (m1 : Mem M0 Mb' (fp ++ g)) (ht : Tr us us' fp) (htu : Tr [u] [u'] g) (hf : flatL us) (hfu : flat u) (hff : ∀ q ∈ fp, flatL q.2) (hfg : ∀ q ∈ g, flatL q.2)
    (ho : us.all oneV = true) (hou : oneV u = true) (hc : Cs isL us' rows) (hu : LI u' ys) : RT M0 M' s' (rows ++ [ys]) := by
  refine ⟨us ++ [u], us' ++ [u'], fp ++ g, Mb', h1, m1, ht.append htu, ?_, ?_, by simp [ho, hou], hc.snoc (x := ys) hu⟩
  · exact flatL_all.2 fun w hw => by
      rcases List.mem_append.1 hw with h2 | h2
      · exact flatL_all.1 hf w h2
      · rw [List.mem_singleton] at h2; subst h2; exact hfu
  · intro w hw
    rcases List.mem_append.1 hw with h2 | h2
    · exact hff w h2
    · exact hfg w h2
end
end Go.M2

namespace Go.M2
open Go.Proofs
variable {M : MH}
end Go.M2

namespace Go.M2
open Go.Proofs
variable {M : MH}
end Go.M2

namespace Go.M2
open Go.Proofs
variable {M : MH}
theorem Tr.one1 {u u' : V} {g : List (Nat × List V)} (h : Tr [u] [u'] g) (h' : One u') : One u := by
  obtain ⟨h1, h2⟩ := h'
  rcases h.inv1 with ⟨h3, _⟩ | ⟨b, o, n, c, ex, k, cs, cs', g, rfl, _⟩ | ⟨a, a', h3, _⟩ | ⟨a, a', h3, _⟩
  · simp only [List.cons.injEq, and_true] at h3
    rw [← h3]; exact ⟨h1, h2⟩
  · exact ⟨rfl, rfl⟩
  · simp only [List.cons.injEq, and_true] at h3
    rw [h3] at h1; exact absurd h1 (by simp [oneV, er, oneA])
  · simp only [List.cons.injEq, and_true] at h3
    rw [h3] at h1; exact absurd h1 (by simp [oneV, er, oneA])
def RdI (M : MH) (v : V) (xs : List Int) : Prop := ∃ v' g, Tr [v] [v'] g ∧ Nd2 g ∧ (∀ p ∈ g, M p.1 = .some p.2) ∧ LI v' xs
theorem RdI.of {v : V} {xs : List Int} (h : LI v xs) : RdI M v xs := ⟨v, [], .refl _, List.nodup_nil, fun p hp => (by cases hp), h⟩
theorem RdI.more {M' : MH} {v : V} {xs : List Int} (h : RdI M v xs) (hs : Sub M M') : RdI M' v xs := by
  obtain ⟨v', g, h1, h2, h3, h4⟩ := h
  exact ⟨v', g, h1, h2, fun p hp => hs _ _ (h3 p hp), h4⟩
theorem RdI.one {v : V} {xs : List Int} (h : RdI M v xs) : One v := by
  obtain ⟨v', g, h1, h2, h3, h4⟩ := h
  exact h1.one1 h4.one
theorem Dn.rdI {M0 : MH} {v : V} {xs : List Int} (h : Dn M0 M v (fun u => LI u xs)) : RdI M v xs := by
  obtain ⟨v', g, h1, h2, h3, h4, h5⟩ := h
  exact ⟨v', g, h1, h2.nd, h2.at_, h5⟩
theorem RdI.len {v : V} {xs : List Int} (h : RdI M v xs) : lenF (er v) = .some (.int .i64 (xs.length : Int)) := by
  obtain ⟨v', g, h1, h2, h3, h4⟩ := h
  have hl := h4.len
  rcases h1.inv1 with ⟨h5, _⟩ | ⟨b, o, n, c, ex, k, cs, cs', g, rfl, h5, _⟩ | ⟨a, a', h5, rfl⟩ | ⟨a, a', h5, rfl⟩
  · simp only [List.cons.injEq, and_true] at h5
    rw [← h5]; exact hl
  · simp only [List.cons.injEq, and_true] at h5
    rw [h5] at hl; exact hl
  · simp only [List.cons.injEq, and_true] at h5
    rw [h5] at hl; simp [er, lenF] at hl
  · simp only [List.cons.injEq, and_true] at h5
    rw [h5] at hl; simp [er, lenF] at hl
theorem RT.rdI {M0 M1 : MH} {v u : V} {us : List V} {rows : List (List Int)} (h : RT M0 M1 v rows) {i : Nat} (hi : i < rows.length) (hm : M1 (oB v) = .some us) (hu : us[i]? = .some u) : RdI M1 u rows[i] := by
  obtain ⟨us2, u2, u', g, _, h1, h2, _, h3, h4, h5, _, h6⟩ := h.row hi
  rw [hm] at h1; cases h1
  rw [hu] at h2; cases h2
  exact ⟨u', g, h3, h4, h5, h6⟩
theorem RT.cell {M0 M1 : MH} {v : V} {rows : List (List Int)} (h : RT M0 M1 v rows) (hl : 0 < rows.length) : ∃ us : List V, M1 (oB v) = .some us ∧ us.length = rows.length ∧ ∀ i (h : i < rows.length), ∃ u, us[i]? = .some u ∧ RdI M1 u rows[i] := by
  have h0 := h
  obtain ⟨us, us', fp, Mb, hg, hm, ht, hf, hff, ho, hc⟩ := h0
  have hul : us.length = rows.length := by rw [← ht.len]; exact hc.1
  have hat : M1 (oB v) = .some us := hg.at (by omega)
  exact ⟨us, hat, hul, fun i hi => ⟨us[i]'(by omega), List.getElem?_eq_getElem (by omega), h.rdI hi hat (List.getElem?_eq_getElem (by omega))⟩⟩
theorem RT.iaddr {M0 M1 : MH} {v : V} {rows : List (List Int)} (h : RT M0 M1 v rows) {k : IntKind} {a : Int} (h0 : 0 ≤ a) (h1 : a < (rows.length : Int)) : iaddrV 1 v (.int k a) = .some (.sc (.ptr (some (oB v, a.toNat)))) := by
  obtain ⟨us, us', fp, Mb, hg, hm, ht, hf, hff, ho, hc⟩ := h
  have hul : us.length = rows.length := by rw [← ht.len]; exact hc.1
  exact hg.own.iaddr h0 (by rw [hul]; exact h1)
end Go.M2

namespace Go.M2
open Go.Proofs
variable {M : MH}
theorem o_impFolded {u : V} {g : GrS} {f : Int} (hu : isGr g u) (hz : GrSz g) : VCall Tryd.prog n_impl_FoldedGraph [u, .sc (.int .i64 f)] M (fun r M' => Dn M M' r (fun w => isGr (fgF g f) w)) :=
  (t_impFoldedGraph hu hz).mono fun r M' ⟨x, y, x', y', fp, e, _, _, h⟩ => ⟨_, fp, by subst e; exact h.arg, h.mem, by subst e; have := h.fl; simp only [flatL] at this; simp only [flat, flatL]; exact ⟨this.1, trivial, this.2⟩, h.ff, h.gr⟩
theorem Tr.gr {v v' : V} {fp : List (Nat × List V)} {g : GrS} (ht : Tr [v] [v'] fp) (hf : flat v) (hv : isGr g v') : ∃ x y x' y', v = .agg [x, .sc (.int .i64 g.first), y] ∧ One x ∧ One y ∧ Tr [x, y] [x', y'] fp ∧ flatL [x, y] ∧ LII x' g.letters ∧ LII y' g.next := by
  obtain ⟨x', y', rfl, hx, hy⟩ := hv
  cases ht with
  | keep v h1 =>
    cases h1
    simp only [flat, flatL] at hf
    exact ⟨x', y', x', y', rfl, hx.one, hy.one, .refl _, by simp only [flatL]; exact ⟨hf.1, hf.2.2.1, trivial⟩, hx, hy⟩
  | agg h1 h2 =>
    cases h2
    rename_i a fp1
    match a, h1 with
    | [x, n, y], h1 =>
      obtain ⟨x2, t', f1, f2, e1, rfl, h3, h4⟩ := h1.uncons
      obtain ⟨n2, t2, f3, f4, e2, rfl, h5, h6⟩ := h4.uncons
      rw [List.cons.injEq] at e1
      obtain ⟨rfl, rfl⟩ := e1
      rw [List.cons.injEq] at e2
      obtain ⟨rfl, rfl⟩ := e2
      simp only [flat, flatL] at hf
      cases h5 with
      | keep _ h7 =>
        cases h7
        have ht := h3.append h6
        exact ⟨x, y, _, _, rfl, h3.one1 hx.one, h6.one1 hy.one, by simpa using ht, by simp only [flatL]; exact ⟨hf.1, hf.2.2.1, trivial⟩, hx, hy⟩
    | [], h1 => exact absurd h1.len (by simp)
    | [x], h1 => exact absurd h1.len (by simp)
    | [x, y], h1 => exact absurd h1.len (by simp)
    | x :: y :: z :: w :: t, h1 => exact absurd h1.len (by simp)
end Go.M2

namespace Go.M2
open Go.Proofs
variable {M : MH}
def VarC (v : VarS) : Prop := -100 ≤ v.low ∧ v.low ≤ 100 ∧ -100 ≤ v.high ∧ v.high ≤ 100
structure SyO (B M : MH) (xv xr : V) (vs : List VarS) (cells : List V) (fp : List (Nat × List V)) (rl : List RuleS) (f : List (Nat × List V)) : Prop where
  mem : Mem B M (fpG xv (catV encVar vs) ++ (fpG xr cells ++ (fp ++ f)))
  ov : OwS 3 xv (catV encVar vs)
  or : OwS 3 xr cells
  ru : RulesO cells fp rl
  vb : ∀ x ∈ vs, VarC x
  v4 : vs.length ≤ 4
  r8 : rl.length ≤ 8
  rb : ∀ r ∈ rl, RuleB r
theorem Mem.rs {M0 M : MH} {rb : Nat} {w : V} {p : Int} {f : List (Nat × List V)} (h : Mem (M0.set rb (rdC w p)) M f) : RS M0 rb w M p := ⟨h.sub _ _ set_same, h.sub⟩
theorem OwS.lenV {v : V} {vs : List VarS} (h : OwS 3 v (catV encVar vs)) : lenF (er v) = .some (.int .i64 (vs.length : Int)) := by
  have := catV_len (sz := 3) (enc := encVar) (fun _ => rfl) vs
  rcases h with ⟨h0, k, rfl⟩ | ⟨b, n, ex, rfl, h2⟩
  · rw [h0] at this
    have h9 : vs.length = 0 := by rw [List.length_nil] at this; omega
    rw [h9]; rfl
  · rw [show vs.length = n by omega]; rfl
end Go.M2

namespace Go.M2
open Go.Proofs
variable {M : MH}
def RuleN (N : Nat) (r : RuleS) : Prop := r.when_.length ≤ 81 ∧ r.sets.length ≤ N ∧ r.terms.length ≤ N ∧ ∀ ts ∈ r.terms, ts.length ≤ 81
theorem RuleN.mono {N N' : Nat} {r : RuleS} (h : RuleN N r) (hn : N ≤ N') : RuleN N' r := ⟨h.1, Nat.le_trans h.2.1 hn, Nat.le_trans h.2.2.1 hn, h.2.2.2⟩
structure Sy5 (N : Nat) (B M : MH) (b4 b5 : Nat) (xv xr : V) (vs : List VarS) (cells : List V) (fp : List (Nat × List V)) (rl : List RuleS) : Prop where
  mem : Mem B M ((b4, [nil1, nil1]) :: (b5, [xv, xr]) :: (fpG xv (catV encVar vs) ++ (fpG xr cells ++ fp)))
  ov : OwS 3 xv (catV encVar vs)
  or : OwS 3 xr cells
  ru : RulesO cells fp rl
  vb : ∀ x ∈ vs, VarB x
  v4 : vs.length ≤ 4
  r8 : rl.length ≤ 8
  rb : ∀ r ∈ rl, RuleN N r
structure SyN (B M : MH) (xv xr : V) (vs : List VarS) (cells : List V) (fp : List (Nat × List V)) (rl : List RuleS) : Prop where
  mem : Mem B M (fpG xv (catV encVar vs) ++ (fpG xr cells ++ fp))
  ov : OwS 3 xv (catV encVar vs)
  or : OwS 3 xr cells
  ru : RulesO cells fp rl
  vb : ∀ x ∈ vs, VarB x
  v4 : vs.length ≤ 4
  r8 : rl.length ≤ 8
  rb : ∀ r ∈ rl, RuleN 7 r
section
variable {N : Nat} {B M M' : MH} {b4 b5 rb : Nat} {xv xr w : V} {vs : List VarS} {cells : List V} {fp : List (Nat × List V)} {rl : List RuleS} {q : Int} {X : List V}
theorem Sy5.rd' (h : Sy5 N (B.set rb X) M b4 b5 xv xr vs cells fp rl) (e : M' = M.set rb (rdC w q)) : Sy5 N (B.set rb (rdC w q)) M' b4 b5 xv xr vs cells fp rl := ⟨h.mem.rd' e, h.ov, h.or, h.ru, h.vb, h.v4, h.r8, h.rb⟩
theorem Sy5.rs (h : Sy5 N (B.set rb (rdC w q)) M b4 b5 xv xr vs cells fp rl) : RS B rb w M q := h.mem.rs
theorem Sy5.vars (h : Sy5 N B M b4 b5 xv xr vs cells fp rl) (hl : 1 ≤ vs.length) : ∃ v0 tl bv n ex, vs = v0 :: tl ∧ xv = .sc (.sl (some (bv, 0)) n n ex 3) ∧ 1 ≤ n ∧ M bv = .some (.sc (.int .i64 v0.low) :: .sc (.int .i64 v0.high) :: .sc (.int .i64 v0.first) :: catV encVar tl) ∧
    ∀ v1 : VarS, VarB v1 → Sy5 N B (M.set bv (.sc (.int .i64 v1.low) :: .sc (.int .i64 v1.high) :: .sc (.int .i64 v1.first) :: catV encVar tl)) b4 b5 xv xr (v1 :: tl) cells fp rl := by
  obtain ⟨v0, tl, rfl⟩ : ∃ v0 tl, vs = v0 :: tl := by
    cases vs with
    | nil => simp at hl
    | cons a b => exact ⟨a, b, rfl⟩
  obtain ⟨mem, ov, or, ru, vb, v4, r8, rb⟩ := h
  rcases ov with ⟨h0, _⟩ | ⟨bv, n, ex, rfl, h2⟩
  · simp [catV, encVar] at h0
  · have hcl := catV_len (sz := 3) (enc := encVar) (fun _ => rfl) (v0 :: tl)
    have hn : n = tl.length + 1 := by rw [h2] at hcl; simp at hcl; omega
    have m1 : Mem B M ((bv, catV encVar (v0 :: tl)) :: ((b4, [nil1, nil1]) :: (b5, [.sc (.sl (some (bv, 0)) n n ex 3), xr]) :: (fpG xr cells ++ fp))) := by
      refine mem.perm ?_
      rw [fpG_one (s := .sc (.sl (some (bv, 0)) n n ex 3)) rfl]
      exact (List.Perm.cons _ (List.Perm.swap ..)).trans (List.Perm.swap ..)
    refine ⟨v0, tl, bv, n, ex, rfl, rfl, by omega, m1.hd, fun v1 hv1 => ⟨?_, .inr ⟨bv, n, ex, rfl, ?_⟩, or, ru, fun x hx => ?_, by simpa using v4, r8, rb⟩⟩
    · have m2 := m1.upd (l' := catV encVar (v1 :: tl))
      refine m2.perm ?_
      rw [fpG_one (s := .sc (.sl (some (bv, 0)) n n ex 3)) rfl]
      exact ((List.Perm.cons _ (List.Perm.swap ..)).trans (List.Perm.swap ..)).symm
    · rw [catV_len (sz := 3) (enc := encVar) (fun _ => rfl) (v1 :: tl)]; simp; omega
    · rcases List.mem_cons.1 hx with rfl | hx
      · exact hv1
      · exact vb x (List.mem_cons_of_mem _ hx)
theorem Sy5.none (h : Sy5 N B M b4 b5 xv xr vs cells fp rl) : Sy5 N B (M.set b5 [nil1, xr]) b4 b5 nil1 xr [] cells fp rl := by
  have m1 := (h.mem.perm (List.Perm.swap ..)).upd (l' := [nil1, xr])
  refine ⟨?_, .inl ⟨rfl, 0, rfl⟩, h.or, h.ru, fun x hx => (by cases hx), by simp, h.r8, h.rb⟩
  have m2 := m1.perm (List.Perm.swap ..)
  have m3 : Mem B (M.set b5 [nil1, xr]) (fpG xv (catV encVar vs) ++ ((b4, [nil1, nil1]) :: (b5, [nil1, xr]) :: (fpG xr cells ++ fp))) := by
    refine m2.perm ?_
    exact (List.Perm.cons _ List.perm_middle.symm).trans List.perm_middle.symm
  simpa [fpG, blkV, nil1] using m3.right
structure Rl0 (N : Nat) (B M : MH) (b4 b5 : Nat) (xv : V) (vs : List VarS) (br n : Nat) (ex : Bool) (a a' b c : V) (cs : List V) (ints : List Int) (rows : List V) (ga fq : List (Nat × List V)) (ws : List TermS) (terms : List (List TermS)) (rt : List RuleS) : Prop where
  n1 : 1 ≤ n
  hn : (a :: b :: c :: cs).length = n * 3
  mem : Mem B M ((br, a :: b :: c :: cs) :: (b4, [nil1, nil1]) :: (b5, [xv, .sc (.sl (some (br, 0)) n n ex 3)]) :: (fpG xv (catV encVar vs) ++ (ga ++ (fpG b (ints.map vi) ++ (fpG c rows ++ fq)))))
  oa : One a
  ta : Tr [a] [a'] ga
  la : LT a' ws
  ob : OwS 1 b (ints.map vi)
  oc : OwS 1 c rows
  cc : Cs (fun ts u => LT u ts) rows terms
  ru : RulesO cs fq rt
  ov : OwS 3 xv (catV encVar vs)
  vb : ∀ x ∈ vs, VarB x
  v4 : vs.length ≤ 4
  r8 : rt.length + 1 ≤ 8
  rb0 : RuleN N ⟨ws, ints, terms⟩
  rb : ∀ r ∈ rt, RuleN N r
theorem Sy5.rules (h : Sy5 N B M b4 b5 xv xr vs cells fp rl) (hl : 0 < rl.length) : ∃ br n ex a a' b c cs ints rows ga fq ws terms rt, xr = .sc (.sl (some (br, 0)) n n ex 3) ∧ Rl0 N B M b4 b5 xv vs br n ex a a' b c cs ints rows ga fq ws terms rt := by
  obtain ⟨mem, ov, or, ru, vb, v4, r8, rb⟩ := h
  cases ru with
  | nil => simp at hl
  | @cons a a' b c ints rows cs ga fq ws terms rt h1 h0 h2 h3 h4 h5 h6 =>
    rcases or with ⟨hz, _⟩ | ⟨br, n, ex, rfl, hn⟩
    · simp at hz
    · refine ⟨br, n, ex, a, a', b, c, cs, ints, rows, ga, fq, ws, terms, rt, rfl, by simp at hn; omega, hn, ?_, h1, h0, h2, h3, h4, h5, h6, ov, vb, v4, by simpa using r8, rb _ (List.mem_cons_self ..), fun r hr => rb r (List.mem_cons_of_mem _ hr)⟩
      refine mem.perm ?_
      rw [fpG_one (s := .sc (.sl (some (br, 0)) n n ex 3)) rfl]
      exact (List.Perm.cons _ (List.Perm.cons _ List.perm_middle)).trans (List.perm_middle (l₁ := [_, _]))
variable {br n : Nat} {ex : Bool} {a a' b c : V} {cs : List V} {ints : List Int} {rows : List V} {ga fq : List (Nat × List V)} {ws : List TermS} {terms : List (List TermS)} {rt : List RuleS}
theorem Rl0.back (h : Rl0 N B M b4 b5 xv vs br n ex a a' b c cs ints rows ga fq ws terms rt) : Sy5 N B M b4 b5 xv (.sc (.sl (some (br, 0)) n n ex 3)) vs (a :: b :: c :: cs) (ga ++ (fpG b (ints.map vi) ++ (fpG c rows ++ fq))) (⟨ws, ints, terms⟩ :: rt) := by
  refine ⟨?_, h.ov, .inr ⟨br, n, ex, rfl, h.hn⟩, .cons h.oa h.ta h.la h.ob h.oc h.cc h.ru, h.vb, h.v4, by simpa using h.r8, fun r hr => ?_⟩
  · refine h.mem.perm ?_
    rw [fpG_one (s := .sc (.sl (some (br, 0)) n n ex 3)) rfl]
    exact ((List.Perm.cons _ (List.Perm.cons _ List.perm_middle)).trans (List.perm_middle (l₁ := [_, _]))).symm
  · rcases List.mem_cons.1 hr with rfl | hr
    · exact h.rb0
    · exact h.rb r hr
theorem Rl0.rd' {q : Int} {X : List V} (h : Rl0 N (B.set rb X) M b4 b5 xv vs br n ex a a' b c cs ints rows ga fq ws terms rt) (e : M' = M.set rb (rdC w q)) : Rl0 N (B.set rb (rdC w q)) M' b4 b5 xv vs br n ex a a' b c cs ints rows ga fq ws terms rt :=
  ⟨h.n1, h.hn, h.mem.rd' e, h.oa, h.ta, h.la, h.ob, h.oc, h.cc, h.ru, h.ov, h.vb, h.v4, h.r8, h.rb0, h.rb⟩
theorem Sy5.mono {N' : Nat} (h : Sy5 N B M b4 b5 xv xr vs cells fp rl) (hn : N ≤ N') : Sy5 N' B M b4 b5 xv xr vs cells fp rl := ⟨h.mem, h.ov, h.or, h.ru, h.vb, h.v4, h.r8, fun r hr => (h.rb r hr).mono hn⟩
variable {K : V → MH → Prop}
end
end Go.M2

namespace Go.M2
open Go.Proofs
variable {M : MH}
structure SysDr (s : SysS) : Prop where
  v4 : s.vars.length ≤ 4
  vb : ∀ x ∈ s.vars, VarB x
  r8 : s.rules.length ≤ 8
  rb : ∀ r ∈ s.rules, RuleN 7 r
theorem SysDr.sz {s : SysS} (h : SysDr s) : SysSz s := ⟨by have := h.v4; omega, by have := h.r8; omega, fun r hr => by have := (h.rb r hr).2.1; omega⟩
def NN (v : V) (xs : List Int) : Prop := 0 < xs.length → isNilF .sl (er v) = .some false
theorem Fr.nn {v : V} {xs : List Int} (h : Fr 1 v (xs.map vi)) : NN v xs := fun hl => h.some (by simpa using hl)
end Go.M2

namespace Go.M2
open Go.Proofs
variable {M : MH}
def CapOk : V → Prop
  | .fs _ n c _ _ _ => n ≤ c
  | _ => True
theorem lu_take {v : V} {xs : List Int} (h : LU v xs) (hc : CapOk v) (hl : 2000 < xs.length) : ∃ u, slcV 1 none (some (.int .i64 2000)) none v = .some u ∧ LU u (xs.take 2000) := by
  rcases h with ⟨rfl, k, rfl⟩ | ⟨A, c, ex, k, cs, rfl, h1, h2⟩
  · simp at hl
  · have hc : xs.length ≤ c := hc
    have e1 : (2000 : Int) ≤ (c : Int) := by omega
    have e2 : ¬ c = 0 := by omega
    have e3 : ¬ ((c = 0 ∧ ((none : Option AV).isNone = true ∧ ex = false)) ∨ (k ≠ 1 ∧ 0 ≠ 0)) := by omega
    refine ⟨.fs (some (A.b, A.o + 0 * 1)) (2000 - 0) (c - 0) (ex || false) k ((cs.drop (0 * 1)).take ((2000 - 0) * 1)), ?_, ?_⟩
    · simp only [slcV, slcF, bnds, natIn, Option.isSome_none, Bool.false_eq_true, if_false, e1, and_true, if_true]
      rw [if_pos (by omega)]
      simp only [Int.reduceToNat]
      rw [if_neg e3, if_neg e2]
      simp only
      rw [if_pos (by omega)]
    · refine .inr ⟨_, _, _, _, _, by rw [List.length_take]; congr 1; omega, by simp; omega, fun i hi => ?_⟩
      have hi2 : i < 2000 := by simp at hi; omega
      have hi3 : i < xs.length := by omega
      have h3 := h2 i hi3
      rw [List.getElem_take]
      have e4 : at1 (.fs (some (A.b, A.o + 0 * 1)) (2000 - 0) (c - 0) (ex || false) k ((cs.drop (0 * 1)).take ((2000 - 0) * 1))) i = at1 (.fs A xs.length c ex k cs) i := by
        simp [at1, List.getElem?_take, hi2]
      rw [e4]; exact h3
theorem t_l40Open {v : V} {xs : List Int} (hv : XU v xs) (hc : CapOk v) (hl : xs.length ≤ 1048576) :
    VCall Tryd.prog n_spec_l40Open [v] M (fun r M' => ∃ rb w code, r = .sc (.ptr (some (rb, 0))) ∧ M rb = none ∧ M' = M.set rb (rdC w 0) ∧ Rdr w code) := by
  refine VCall.plain fun R hR => v_spec_l40Open rfl ?_
  have hlen := hv.len fun _ _ h => h.len
  refine sS1 @hlen ?_
  refine cond_dec (fun h => ?_) (fun h => ?_)
  · obtain ⟨u, h1, h2⟩ := lu_take (hv.get (by omega)) hc (by omega)
    have hu := h2.one.2
    refine sS2 @h1 @hu ?_
    intro b hb
    exact hR _ _ ⟨b, u, _, rfl, hb, rfl, .inl h2, by simp; omega⟩
  · have hone : cellsV v = .some [v] := by
      rcases hv with hv | ⟨rfl, _⟩
      · exact hv.one.2
      · rfl
    refine sS1 @hone ?_
    intro b hb
    exact hR _ _ ⟨b, v, _, rfl, hb, rfl, hv, by omega⟩
end Go.M2

namespace Go.M2
abbrev Mat := List (List Bool)
def mget (c : Mat) (x y : Nat) : Bool := (c.getD x []).getD y false
def mclr (c : Mat) (x y : Nat) : Mat := c.set x ((c.getD x []).set y false)
theorem mget_clr {c : Mat} {x y a b : Nat} : mget (mclr c x y) a b = if a = x ∧ b = y then false else mget c a b := by
  unfold mget mclr
  by_cases ha : a = x
  · subst ha
    rcases Nat.lt_or_ge a c.length with h | h
    · simp only [List.getD, List.getElem?_set_self h, Option.getD_some]
      by_cases hb : b = y
      · subst hb
        rw [List.getElem?_set]
        simp only [and_self, if_true]
        split <;> rfl
      · rw [List.getElem?_set_ne (fun e => hb e.symm)]
        simp [hb]
    · rw [List.set_eq_of_length_le h]
      have : c.getD a [] = [] := by simp [List.getD, h]
      rw [this]; simp
  · simp only [List.getD, List.getElem?_set_ne (fun e => ha e.symm), ha, false_and, if_false]
def doesF (g : Gr2) (c : Mat) (a b : Nat) : Bool := (g.next.getD a []).all fun x => (g.next.getD b []).any fun y => mget c x.toNat y.toNat
def stepS (g : Gr2) (x y : Nat) (s : Mat × Bool) : Mat × Bool := if mget s.1 x y && !doesF g s.1 x y then (mclr s.1 x y, true) else s
def sw1 (g : Gr2) (x : Nat) (s : Mat × Bool) (y : Nat) : Mat × Bool := (List.range y).foldl (fun s y => stepS g x y s) s
def sw (g : Gr2) (n : Nat) (s : Mat × Bool) (x : Nat) : Mat × Bool := (List.range x).foldl (fun s x => sw1 g x s n) s
theorem sw1_succ {g : Gr2} {x y : Nat} {s : Mat × Bool} : sw1 g x s (y + 1) = stepS g x y (sw1 g x s y) := by simp [sw1, List.range_succ]
theorem sw_succ {g : Gr2} {n x : Nat} {s : Mat × Bool} : sw g n s (x + 1) = sw1 g x (sw g n s x) n := by simp [sw, List.range_succ]
def cnt (c : Mat) : Nat := (c.map fun r => (r.filter id).length).sum
theorem sum_set_lt : ∀ {l : List Nat} {i k : Nat} (h : i < l.length), k < l[i] → (l.set i k).sum < l.sum
  | [], i, k, h, _ => by simp at h
  | a :: t, 0, k, h, hk => by simp at hk ⊢; exact hk
  | a :: t, i + 1, k, h, hk => by
    have := sum_set_lt (l := t) (i := i) (by simpa using h) (by simpa using hk)
    simp; exact this
theorem filter_set_lt : ∀ {r : List Bool} {y : Nat}, r.getD y false = true → ((r.set y false).filter id).length < (r.filter id).length
  | [], y, h => by simp [List.getD] at h
  | a :: t, 0, h => by
    have : a = true := by simpa [List.getD] using h
    subst this; simp
  | a :: t, y + 1, h => by
    have := filter_set_lt (r := t) (y := y) (by simpa [List.getD] using h)
    simp only [List.set_cons_succ, List.filter_cons]
    split
    · simp; exact this
    · exact this
theorem cnt_clr {c : Mat} {x y : Nat} (h : mget c x y = true) : cnt (mclr c x y) < cnt c := by
  have hx : x < c.length := by
    rcases Nat.lt_or_ge x c.length with h1 | h1
    · exact h1
    · have : c.getD x [] = [] := by simp [List.getD, h1]
      unfold mget at h; rw [this] at h; simp at h
  unfold cnt mclr
  rw [List.map_set]
  refine sum_set_lt (by simpa using hx) ?_
  have e : c.getD x [] = c[x] := by simp [List.getD, hx]
  unfold mget at h
  rw [e] at h ⊢
  simpa using filter_set_lt h
theorem stepS_cnt {g : Gr2} {x y : Nat} {s : Mat × Bool} : (stepS g x y s = s) ∨ ((stepS g x y s).2 = true ∧ cnt (stepS g x y s).1 < cnt s.1) := by
  unfold stepS
  split
  · rename_i h
    simp only [Bool.and_eq_true] at h
    exact .inr ⟨rfl, cnt_clr h.1⟩
  · exact .inl rfl
structure Swept (s t : Mat × Bool) : Prop where
  cnt : cnt t.1 ≤ cnt s.1
  again : s.2 = true → t.2 = true
  less : s.2 = false → t.2 = true → M2.cnt t.1 < M2.cnt s.1
  same : t.2 = false → t = s
theorem Swept.refl (s : Mat × Bool) : Swept s s := ⟨Nat.le_refl _, id, fun h1 h2 => (by rw [h1] at h2; cases h2), fun _ => rfl⟩
theorem Swept.trans {a b c : Mat × Bool} (h : Swept a b) (k : Swept b c) : Swept a c where
  cnt := Nat.le_trans k.cnt h.cnt
  again h1 := k.again (h.again h1)
  less h1 h2 := by
    cases hb : b.2 with
    | true => exact Nat.lt_of_le_of_lt k.cnt (h.less h1 hb)
    | false => exact Nat.lt_of_lt_of_le (k.less hb h2) h.cnt
  same h1 := by
    have := k.same h1
    subst this
    exact h.same h1
theorem stepS_swept {g : Gr2} {x y : Nat} {s : Mat × Bool} : Swept s (stepS g x y s) := by
  rcases stepS_cnt (g := g) (x := x) (y := y) (s := s) with h | ⟨h1, h2⟩
  · rw [h]; exact Swept.refl s
  · exact ⟨by omega, fun _ => h1, fun _ _ => h2, fun h3 => by rw [h1] at h3; cases h3⟩
theorem sw1_swept {g : Gr2} {x : Nat} {s : Mat × Bool} : ∀ y, Swept s (sw1 g x s y)
  | 0 => Swept.refl s
  | y + 1 => by rw [sw1_succ]; exact (sw1_swept y).trans stepS_swept
theorem sw_swept {g : Gr2} {n : Nat} {s : Mat × Bool} : ∀ x, Swept s (sw g n s x)
  | 0 => Swept.refl s
  | x + 1 => by rw [sw_succ]; exact (sw_swept x).trans (sw1_swept n)
theorem stepS_done {g : Gr2} {x y : Nat} {s : Mat × Bool} (h : (stepS g x y s).2 = false) : mget s.1 x y = true → doesF g s.1 x y = true := by
  unfold stepS at h
  split at h
  · cases h
  · rename_i hc
    intro h1
    cases hd : doesF g s.1 x y with
    | true => rfl
    | false => rw [h1, hd] at hc; exact absurd rfl hc
theorem sw1_done {g : Gr2} {x : Nat} {s : Mat × Bool} : ∀ {y}, (sw1 g x s y).2 = false → ∀ b, b < y → mget s.1 x b = true → doesF g s.1 x b = true
  | 0, _, b, h, _ => by omega
  | y + 1, h, b, hb, hg => by
    rw [sw1_succ] at h
    have h1 := stepS_swept.same h
    rw [h1] at h
    have h2 := (sw1_swept (g := g) (x := x) (s := s) y).same h
    rcases Nat.lt_or_ge b y with h3 | h3
    · exact sw1_done h b h3 hg
    · have : b = y := by omega
      subst this
      have h4 := stepS_done (g := g) (x := x) (y := b) (s := sw1 g x s b) (by rw [h1]; exact h)
      rw [h2] at h4
      exact h4 hg
theorem sw_done {g : Gr2} {n : Nat} {s : Mat × Bool} : ∀ {x}, (sw g n s x).2 = false → ∀ a b, a < x → b < n → mget s.1 a b = true → doesF g s.1 a b = true
  | 0, _, a, b, h, _, _ => by omega
  | x + 1, h, a, b, ha, hb, hg => by
    rw [sw_succ] at h
    have h1 := (sw1_swept (g := g) (x := x) (s := sw g n s x) n).same h
    have h0 : (sw g n s x).2 = false := by rw [← h1]; exact h
    have h2 := (sw_swept (g := g) (n := n) (s := s) x).same h0
    rcases Nat.lt_or_ge a x with h3 | h3
    · exact sw_done h0 a b h3 hb hg
    · have : a = x := by omega
      subst this
      have := sw1_done h b hb
      rw [h2] at this
      exact this hg
inductive Swp (g : Gr2) (n : Nat) : Mat → Mat → Prop
  | stop {c : Mat} : (sw g n (c, false) n).2 = false → Swp g n c (sw g n (c, false) n).1
  | go {c r : Mat} : (sw g n (c, false) n).2 = true → Swp g n (sw g n (c, false) n).1 r → Swp g n c r
theorem Swp.det {g : Gr2} {n : Nat} {c r r' : Mat} (h : Swp g n c r) (h' : Swp g n c r') : r = r' := by
  induction h with
  | stop h => cases h' with
    | stop _ => rfl
    | go h2 _ => rw [h] at h2; cases h2
  | go h _ ih => cases h' with
    | stop h2 => rw [h] at h2; cases h2
    | go _ h2 => exact ih h2
theorem Swp.ex {g : Gr2} {n : Nat} : ∀ (k : Nat) (c : Mat), cnt c ≤ k → ∃ r, Swp g n c r
  | k, c, hk => by
    cases h : (sw g n (c, false) n).2 with
    | false => exact ⟨_, .stop h⟩
    | true =>
      have h1 := (sw_swept (g := g) (n := n) (s := (c, false)) n).less rfl h
      match k with
      | 0 => simp only at h1; omega
      | k + 1 =>
        obtain ⟨r, hr⟩ := Swp.ex k (sw g n (c, false) n).1 (by simp only at h1; omega)
        exact ⟨r, .go h hr⟩
structure Sim (g : Gr2) (R : Nat → Nat → Prop) : Prop where
  lett : ∀ a b, R a b → g.letters.getD a [] = g.letters.getD b []
  ahead : ∀ a b, R a b → ∀ x ∈ g.next.getD a [], ∃ y ∈ g.next.getD b [], R x.toNat y.toNat
theorem stepS_keeps {g : Gr2} {R : Nat → Nat → Prop} (hR : Sim g R) {s : Mat × Bool} (h : ∀ a b, R a b → mget s.1 a b = true) {x y : Nat} : ∀ a b, R a b → mget (stepS g x y s).1 a b = true := by
  intro a b hab
  unfold stepS
  split
  · rename_i hc
    simp only [Bool.and_eq_true, Bool.not_eq_true'] at hc
    simp only [mget_clr]
    split
    · rename_i he
      obtain ⟨rfl, rfl⟩ := he
      have : doesF g s.1 a b = true := by
        unfold doesF
        rw [List.all_eq_true]
        intro x hx
        rw [List.any_eq_true]
        obtain ⟨y, h1, h2⟩ := hR.ahead a b hab x hx
        exact ⟨y, h1, h _ _ h2⟩
      rw [this] at hc; cases hc.2
    · exact h a b hab
  · exact h a b hab
theorem sw1_keeps {g : Gr2} {R : Nat → Nat → Prop} (hR : Sim g R) {s : Mat × Bool} (h : ∀ a b, R a b → mget s.1 a b = true) {x : Nat} : ∀ y a b, R a b → mget (sw1 g x s y).1 a b = true
  | 0 => h
  | y + 1 => by rw [sw1_succ]; exact stepS_keeps hR (sw1_keeps hR h y)
theorem sw_keeps {g : Gr2} {n : Nat} {R : Nat → Nat → Prop} (hR : Sim g R) {s : Mat × Bool} (h : ∀ a b, R a b → mget s.1 a b = true) : ∀ x a b, R a b → mget (sw g n s x).1 a b = true
  | 0 => h
  | x + 1 => by rw [sw_succ]; exact sw1_keeps hR (sw_keeps hR h x) n
theorem Swp.keeps {g : Gr2} {n : Nat} {c r : Mat} (hs : Swp g n c r) {R : Nat → Nat → Prop} (hR : Sim g R) : (∀ a b, R a b → mget c a b = true) → ∀ a b, R a b → mget r a b = true := by
  induction hs with
  | stop _ => intro h; exact sw_keeps hR (s := (_, false)) h n
  | go _ _ ih => intro h; exact ih (sw_keeps hR (s := (_, false)) h n)
theorem stepS_sub {g : Gr2} {x y : Nat} {s : Mat × Bool} {a b : Nat} (h : mget (stepS g x y s).1 a b = true) : mget s.1 a b = true := by
  unfold stepS at h
  split at h
  · simp only [mget_clr] at h
    split at h
    · cases h
    · exact h
  · exact h
theorem sw1_sub {g : Gr2} {x : Nat} {s : Mat × Bool} {a b : Nat} : ∀ {y}, mget (sw1 g x s y).1 a b = true → mget s.1 a b = true
  | 0, h => h
  | y + 1, h => by rw [sw1_succ] at h; exact sw1_sub (stepS_sub h)
theorem sw_sub {g : Gr2} {n : Nat} {s : Mat × Bool} {a b : Nat} : ∀ {x}, mget (sw g n s x).1 a b = true → mget s.1 a b = true
  | 0, h => h
  | x + 1, h => by rw [sw_succ] at h; exact sw_sub (sw1_sub h)
theorem Swp.sub {g : Gr2} {n : Nat} {c r : Mat} (hs : Swp g n c r) {a b : Nat} : mget r a b = true → mget c a b = true := by
  induction hs with
  | stop _ => exact sw_sub (s := (_, false))
  | go _ _ ih => intro h; exact sw_sub (s := (_, false)) (ih h)
theorem Swp.done {g : Gr2} {n : Nat} {c r : Mat} (hs : Swp g n c r) : ∀ a b, a < n → b < n → mget r a b = true → doesF g r a b = true := by
  induction hs with
  | @stop c h =>
    intro a b ha hb hg
    have h1 := (sw_swept (g := g) (n := n) (s := (c, false)) n).same h
    rw [h1] at hg ⊢
    exact sw_done h a b ha hb hg
  | go _ _ ih => exact ih
def can0 (g : Gr2) : Mat := (List.range g.letters.length).map fun x => (List.range g.letters.length).map fun y => decide (g.letters.getD x [] = g.letters.getD y [])
theorem can0_get {g : Gr2} {a b : Nat} : mget (can0 g) a b = true ↔ a < g.letters.length ∧ b < g.letters.length ∧ g.letters.getD a [] = g.letters.getD b [] := by
  unfold mget can0
  rcases Nat.lt_or_ge a g.letters.length with h | h
  · rcases Nat.lt_or_ge b g.letters.length with h2 | h2
    · simp [List.getD, h, h2]
    · simp [List.getD, h, show ¬ b < g.letters.length by omega]
  · simp [List.getD, show ¬ a < g.letters.length by omega]
theorem Swp.sim {g : Gr2} {r : Mat} (hg : NextOk g) (hs : Swp g g.letters.length (can0 g) r) : Sim g fun a b => mget r a b = true where
  lett a b h := (can0_get.1 (hs.sub h)).2.2
  ahead a b h x hx := by
    obtain ⟨h1, h2, _⟩ := can0_get.1 (hs.sub h)
    have := hs.done a b h1 h2 h
    unfold doesF at this
    rw [List.all_eq_true] at this
    have := this x hx
    rw [List.any_eq_true] at this
    obtain ⟨y, h3, h4⟩ := this
    exact ⟨y, h3, h4⟩
theorem Swp.great {g : Gr2} {r : Mat} (hs : Swp g g.letters.length (can0 g) r) {R : Nat → Nat → Prop} (hR : Sim g R) (hin : ∀ a b, R a b → a < g.letters.length ∧ b < g.letters.length) {a b : Nat} (h : R a b) : mget r a b = true :=
  hs.keeps hR (fun a b h => can0_get.2 ⟨(hin a b h).1, (hin a b h).2, hR.lett a b h⟩) a b h
theorem Swp.trans {g : Gr2} {r : Mat} (hg : NextOk g) (hs : Swp g g.letters.length (can0 g) r) {a b c : Nat} (h1 : mget r a b = true) (h2 : mget r b c = true) : mget r a c = true := by
  have hsim := hs.sim hg
  refine hs.great (R := fun a c => ∃ b, mget r a b = true ∧ mget r b c = true) ⟨?_, ?_⟩ ?_ ⟨b, h1, h2⟩
  · rintro a c ⟨b, h1, h2⟩; exact (hsim.lett _ _ h1).trans (hsim.lett _ _ h2)
  · rintro a c ⟨b, h1, h2⟩ x hx
    obtain ⟨y, h3, h4⟩ := hsim.ahead a b h1 x hx
    obtain ⟨z, h5, h6⟩ := hsim.ahead b c h2 y h3
    exact ⟨z, h5, _, h4, h6⟩
  · rintro a c ⟨b, h1, h2⟩
    exact ⟨(can0_get.1 (hs.sub h1)).1, (can0_get.1 (hs.sub h2)).2.1⟩
theorem Swp.alike {g : Gr2} {r : Mat} {p : List Int} (hg : NextOk g) (hs : Swp g g.letters.length (can0 g) r) (hp : rndF g p = p) {a b : Nat} (ha : a < g.letters.length) (hb : b < g.letters.length) (h : p.getD a 0 = p.getD b 0) : mget r a b = true := by
  have hbis := stay_bisim hp
  refine hs.great (R := fun a b => a < g.letters.length ∧ b < g.letters.length ∧ p.getD a 0 = p.getD b 0) ⟨?_, ?_⟩ (fun a b h => ⟨h.1, h.2.1⟩) ⟨ha, hb, h⟩
  · rintro a b ⟨h1, h2, h3⟩; exact hbis.lett a b h1 h2 h3
  · rintro a b ⟨h1, h2, h3⟩ x hx
    obtain ⟨y, h4, h5⟩ := hbis.ahead a b h1 h2 h3 x hx
    exact ⟨y, h4, (hg.at hx).1, (hg.at h4).1, h5⟩
end Go.M2

namespace Go.M2
open Go.Proofs
variable {M : MH}
def rowP (n : Nat) (p : Nat × Bool) : V := .sc (.sl (some (p.1, 0)) n n p.2 1)
def mput (c : Mat) (x y : Nat) (v : Bool) : Mat := c.set x ((c.getD x []).set y v)
theorem mput_wid {c : Mat} {x y n : Nat} {v : Bool} (h : ∀ r ∈ c, r.length = n) : ∀ r ∈ mput c x y v, r.length = n := by
  intro r hr
  unfold mput at hr
  rcases Nat.lt_or_ge x c.length with hx | hx
  · rcases List.mem_or_eq_of_mem_set hr with h1 | rfl
    · exact h r h1
    · have e : c.getD x [] = c[x] := by simp [List.getD, hx]
      rw [List.length_set, e]; exact h _ (List.getElem_mem hx)
  · rw [List.set_eq_of_length_le hx] at hr; exact h r hr
theorem sl_iaddr {b n c k : Nat} {ex : Bool} {K : IntKind} {a : Int} (h0 : 0 ≤ a) (h1 : a < (n : Int)) : iaddrV 1 (.sc (.sl (some (b, 0)) n c ex k)) (.int K a) = .some (.sc (.ptr (some (b, a.toNat)))) := by
  simp only [iaddrV]
  rw [if_pos ⟨h0, h1⟩]
  simp
structure RowsO (M0 M : MH) (bs : List (Nat × Bool)) (mat : Mat) (n : Nat) : Prop where
  sub : Sub M0 M
  len : mat.length = bs.length
  wid : ∀ r ∈ mat, r.length = n
  at_ : ∀ x (h : x < bs.length), M (bs[x]).1 = .some ((mat.getD x []).map vb)
  new : ∀ x (h : x < bs.length), M0 (bs[x]).1 = none
  nd : ∀ x y (h : x < bs.length) (k : y < bs.length), (bs[x]).1 = (bs[y]).1 → x = y
theorem RowsO.nil {M0 M : MH} {n : Nat} (h : Sub M0 M) : RowsO M0 M [] [] n :=
  ⟨h, rfl, fun r hr => (by cases hr), fun x hx => absurd hx (by simp), fun x hx => absurd hx (by simp), fun x y hx => absurd hx (by simp)⟩
theorem RowsO.more {M0 M M' : MH} {bs : List (Nat × Bool)} {mat : Mat} {n : Nat} (h : RowsO M0 M bs mat n) (hs : Sub M M') : RowsO M0 M' bs mat n :=
  ⟨h.sub.trans hs, h.len, h.wid, fun x hx => hs _ _ (h.at_ x hx), h.new, h.nd⟩
theorem RowsO.row {M0 M : MH} {bs : List (Nat × Bool)} {mat : Mat} {n x : Nat} (h : RowsO M0 M bs mat n) (hx : x < bs.length) : (mat.getD x []).length = n := by
  have hx2 : x < mat.length := by rw [h.len]; exact hx
  have e : mat.getD x [] = mat[x] := by simp [List.getD, hx2]
  rw [e]; exact h.wid _ (List.getElem_mem hx2)
theorem RowsO.cell {M0 M : MH} {bs : List (Nat × Bool)} {mat : Mat} {n x y : Nat} (h : RowsO M0 M bs mat n) (hx : x < bs.length) (hy : y < n) : ((mat.getD x []).map vb)[y]? = .some (.sc (.bool (mget mat x y))) := by
  have hr := h.row hx
  have hy2 : y < (mat.getD x []).length := by omega
  rw [nth_vb hy2]
  have : mget mat x y = (mat.getD x [])[y] := by
    unfold mget
    generalize mat.getD x [] = r at *
    simp [List.getD, hy2]
  rw [this]
theorem RowsO.put {M0 M : MH} {bs : List (Nat × Bool)} {mat : Mat} {n x y : Nat} {v : Bool} (h : RowsO M0 M bs mat n) (hx : x < bs.length) : RowsO M0 (M.set (bs[x]).1 (((mat.getD x []).map vb).set y (.sc (.bool v)))) bs (mput mat x y v) n := by
  refine ⟨h.sub.set (h.new x hx), by simp [mput, h.len], mput_wid h.wid, fun z hz => ?_, h.new, h.nd⟩
  by_cases e : z = x
  · subst e
    rw [set_same, set_vb]
    have hx2 : z < mat.length := by rw [h.len]; exact hx
    have : (mput mat z y v).getD z [] = (mat.getD z []).set y v := by
      unfold mput
      simp only [List.getD, List.getElem?_set_self hx2, Option.getD_some]
    rw [this]
  · rw [set_ne fun k => e (h.nd _ _ hz hx k), h.at_ z hz]
    have : (mput mat x y v).getD z [] = mat.getD z [] := by
      unfold mput
      simp only [List.getD, List.getElem?_set_ne (fun k => e k.symm)]
    rw [this]
theorem RowsO.snocB {M0 M1 M : MH} {bs : List (Nat × Bool)} {mat : Mat} {n c : Nat} {ex : Bool} {r : List Bool} (h : RowsO M0 M1 bs mat n) (hc : M1 c = none) (hs : Sub M1 M) (hm : M c = .some (r.map vb)) (hr : r.length = n) : RowsO M0 M (bs ++ [(c, ex)]) (mat ++ [r]) n := by
  have hne : ∀ x (hx : x < bs.length), (bs[x]).1 ≠ c := fun x hx e => by
    have := h.at_ x hx
    rw [e, hc] at this; cases this
  have get : ∀ x (hx : x < (bs ++ [(c, ex)]).length), (∃ hx2 : x < bs.length, (bs ++ [(c, ex)])[x] = bs[x]) ∨ (x = bs.length ∧ (bs ++ [(c, ex)])[x] = (c, ex)) := fun x hx => by
    by_cases hx2 : x < bs.length
    · exact .inl ⟨hx2, List.getElem_append_left hx2⟩
    · have : x = bs.length := by simp at hx; omega
      subst this
      exact .inr ⟨rfl, by simp⟩
  refine ⟨h.sub.trans hs, by simp [h.len], fun q hq => ?_, fun x hx => ?_, fun x hx => ?_, fun x y hx hy e => ?_⟩
  · rcases List.mem_append.1 hq with h1 | h1
    · exact h.wid q h1
    · rw [List.mem_singleton] at h1; subst h1; exact hr
  · rcases get x hx with ⟨hx2, e⟩ | ⟨e1, e⟩
    · rw [e]
      have : (mat ++ [r]).getD x [] = mat.getD x [] := by
        have : x < mat.length := by rw [h.len]; exact hx2
        simp [List.getD, List.getElem?_append_left this]
      rw [this]; exact hs _ _ (h.at_ x hx2)
    · rw [e]
      have : (mat ++ [r]).getD x [] = r := by
        rw [e1, ← h.len]; simp [List.getD]
      rw [this]; exact hm
  · rcases get x hx with ⟨hx2, e⟩ | ⟨e1, e⟩
    · rw [e]; exact h.new x hx2
    · rw [e]; exact h.sub.none hc
  · rcases get x hx with ⟨hx2, e1⟩ | ⟨e0, e1⟩ <;> rcases get y hy with ⟨hy2, e2⟩ | ⟨e3, e2⟩
    · rw [e1, e2] at e; exact h.nd _ _ hx2 hy2 e
    · rw [e1, e2] at e; exact absurd e (hne x hx2)
    · rw [e1, e2] at e; exact absurd e.symm (hne y hy2)
    · omega
theorem RowsO.snoc {M0 M1 M : MH} {bs : List (Nat × Bool)} {mat : Mat} {n : Nat} {row : V} {r : List Bool} (h : RowsO M0 M1 bs mat n) (hg : Gr 1 M1 M row (r.map vb)) (hr : r.length = n) (h0 : 0 < n) : ∃ c ex, row = rowP n (c, ex) ∧ M1 c = none ∧ RowsO M0 M (bs ++ [(c, ex)]) (mat ++ [r]) n := by
  rcases hg.own with ⟨e, k, rfl⟩ | ⟨b, m, ex, rfl, h2, h3⟩
  · rw [List.map_eq_nil_iff] at e
    subst e; simp at hr; omega
  · have hm : m = n := by simp at h3; omega
    subst hm
    exact ⟨b, ex, rfl, hg.new b rfl, h.snocB (hg.new b rfl) hg.sub h2 hr⟩
structure MatO (M0 M : MH) (b : Nat) (bs : List (Nat × Bool)) (mat : Mat) (n : Nat) (post : List V) : Prop where
  rows : RowsO M0 M bs mat n
  top : M b = .some (bs.map (rowP n) ++ post)
  ntop : M0 b = none
  off : ∀ x (h : x < bs.length), (bs[x]).1 ≠ b
theorem MatO.more {M0 M M' : MH} {b : Nat} {bs : List (Nat × Bool)} {mat : Mat} {n : Nat} {post : List V} (h : MatO M0 M b bs mat n post) (hs : Sub M M') : MatO M0 M' b bs mat n post :=
  ⟨h.rows.more hs, hs _ _ h.top, h.ntop, h.off⟩
theorem MatO.put {M0 M : MH} {b : Nat} {bs : List (Nat × Bool)} {mat : Mat} {n x y : Nat} {v : Bool} {post : List V} (h : MatO M0 M b bs mat n post) (hx : x < bs.length) : MatO M0 (M.set (bs[x]).1 (((mat.getD x []).map vb).set y (.sc (.bool v)))) b bs (mput mat x y v) n post :=
  ⟨h.rows.put hx, by rw [set_ne (Ne.symm (h.off x hx))]; exact h.top, h.ntop, h.off⟩
end Go.M2

namespace Go.M2
open Go.Proofs
variable {M : MH}
structure Tw (B M : MH) (v9 : V) (l9 : List V) (v7 : V) (l7 : List V) : Prop where
  g9 : Gr 1 B M v9 l9
  g7 : Gr 1 B M v7 l7
  sep : ∀ b, blkV v9 = .some b → blkV v7 ≠ some b
theorem Tw.rd {B M : MH} {rb : Nat} {X Y l9 l7 : List V} {v9 v7 : V} (h : Tw (B.set rb X) M v9 l9 v7 l7) : Tw (B.set rb Y) (M.set rb Y) v9 l9 v7 l7 := ⟨h.g9.rd, h.g7.rd, h.sep⟩
theorem Tw.start {B M : MH} {b : Nat} {v7 : V} {l7 : List V} (h : Gr 1 B M v7 l7) (hb : M b = none) : Tw B (M.set b []) (.sc (.sl (some (b, 0)) 0 0 true 1)) [] v7 l7 :=
  ⟨Gr.new' h.sub hb rfl, h.more ((Sub.refl M).set' hb), h.ne (Gr.new' (l := []) (n := 0) (ex := true) (Sub.refl M) hb rfl)⟩
theorem Gr.keepO {B M M' : MH} {s s' v : V} {l : List V} (h : Gr 1 B M v l) (hs : Sub B M') (ho : Oth M M' s s') (hne : ∀ b, blkV s = .some b → blkV v ≠ some b) : Gr 1 B M' v l ∧ ∀ b, blkV s' = .some b → blkV v ≠ some b := by
  have hn : ∀ b, blkV v = .some b → blkV s ≠ some b := fun b h1 h2 => hne b h2 h1
  refine ⟨h.keepB hs fun b l hb hl => (ho b l hl (hn b hb)).1, fun b h1 h2 => ?_⟩
  rcases h.own with ⟨_, k, rfl⟩ | ⟨b', n, ex, rfl, h3, _⟩
  · simp [blkV] at h2
  · have e : b' = b := by simpa [blkV] using h2
    subst e
    exact (ho b' _ h3 (hn b' h2)).2 h1
theorem Tw.push {B M : MH} {v9 v7 : V} {l7 : List V} {xs : List Int} {n : Int} {K : V → MH → Prop} {by_ bt c k : Nat} {ex : Bool} (h : Tw B M v9 (xs.map vi) v7 l7) (hbt : M bt = none) (hb : xs.length + 1 ≤ 68719476736) (hby : by_ ≤ 16)
    (hk : ∀ s' M', Tw B M' s' ((xs ++ [n]).map vi) v7 l7 → K s' M') : appV 1 by_ v9 (.sc (.sl (some (bt, 0)) 1 c ex k)) (M.set bt [.sc (.int .i64 n)]) K := by
  refine app_int h.g9 hbt hb hby fun s' M' hg ho => hk s' M' ?_
  have := h.g7.keepO hg.sub ho h.sep
  exact ⟨hg, this.1, this.2⟩
theorem t_l20Word {rb : Nat} {w : V} {code : List Int} {p facts many : Int} (hr : Rdr w code) (hm : M rb = .some (rdC w p)) (h0 : 0 ≤ p) (h1 : p ≤ 900000) (hf0 : 0 ≤ facts) (hf : facts ≤ 4) (hn0 : 0 ≤ many) (hn : many ≤ 400) :
    VCall Tryd.prog n_spec_l20Word [.sc (.ptr (some (rb, 0))), .sc (.int .i64 facts), .sc (.int .i64 many)] M (fun r M' => ∃ (p' : Int) (us : List V) (ls : List (List Int)), p ≤ p' ∧ p' ≤ p + 1600 ∧ Gr 1 (M.set rb (rdC w p')) M' r us ∧ Cs (fun ys u => LI u ys) us ls ∧ (ls.length : Int) = many ∧ ∀ r ∈ ls, (r.length : Int) = facts) := by
  refine VCall.plain fun R hR => v_spec_l20Word rfl ?_
  have rs0 := RS.start hm
  refine sS0 ?_
  intro b7 hb7
  refine loop_k (fun e M' => ∃ (i : Nat) (p' : Int) (us : List V) (ls : List (List Int)), (i : Int) ≤ many ∧ p ≤ p' ∧ p' ≤ p + 4 * i ∧ e 0 = .sc (.ptr (some (rb, 0))) ∧ e 1 = .sc (.int .i64 facts) ∧ e 2 = .sc (.int .i64 many) ∧ e 8 = .sc (.int .i64 i) ∧ Gr 1 (M.set rb (rdC w p')) M' (e 7) us ∧ Cs (fun ys u => LI u ys) us ls ∧ ls.length = i ∧ ∀ r ∈ ls, (r.length : Int) = facts) (fun e _ => ctrV many.toNat (e 8)) ?_ ?_
  · exact ⟨0, p, [], [], by omega, by omega, by omega, sT0, sT0, sT0, by refine sS0 ?_; rfl, by refine sS0 ?_; exact Gr.new' rs0.sub hb7 rfl, .nil, rfl, fun r hr => (by cases hr)⟩
  · rintro e M1 ⟨i, p', us, ls, hi, q1, q2, e0, e1, e2, e8, hg, hcs, hll, hlr⟩ K hK
    have hul : us.length = i := by have := hcs.1; omega
    refine sS4 @e0 @e1 @e2 @e8 ?_
    refine cond_dec (fun h => ?_) (fun h => ?_)
    · refine sS4 @e0 @e1 @e2 @e8 ?_
      intro b9 hb9
      refine loop_k (fun e2 M' => ∃ (k : Nat) (p2 : Int) (xs : List Int), (k : Int) ≤ facts ∧ p' ≤ p2 ∧ p2 ≤ p' + k ∧ e2 0 = .sc (.ptr (some (rb, 0))) ∧ e2 1 = .sc (.int .i64 facts) ∧ e2 2 = .sc (.int .i64 many) ∧ e2 7 = e 7 ∧ e2 8 = .sc (.int .i64 i) ∧ e2 10 = .sc (.int .i64 k) ∧ Tw (M.set rb (rdC w p2)) M' (e2 9) (xs.map vi) (e 7) us ∧ xs.length = k) (fun e2 _ => ctrV facts.toNat (e2 10)) ?_ ?_
      · exact ⟨0, p', [], by omega, by omega, by omega, sT0, sT0, sT0, sT0, sT0, by refine sS0 ?_; rfl, by refine sS0 ?_; exact Tw.start hg hb9, rfl⟩
      · rintro e2 M2 ⟨k, p2, xs, hk, r1, r2, f0, f1, f2, f7, f8, f10, htw, hxl⟩ K2 hK2
        refine sS6 @f0 @f1 @f2 @f7 @f8 @f10 ?_
        refine cond_dec (fun h2 => ?_) (fun h2 => ?_)
        · refine sS6 @f0 @f1 @f2 @f7 @f8 @f10 ?_
          refine (t_pick hr (htw.g7.sub _ _ set_same) (by omega) (by omega)).mono ?_
          rintro _ _ ⟨rfl, x, rfl, -⟩
          have htw2 := htw.rd (Y := rdC w (p2 + 1))
          refine sS0 ?_
          intro bt hbt
          refine htw2.push hbt (by omega) (by omega) ?_
          intro s' M' htw3
          refine sS1 @f10 ?_
          refine hK2 _ _ ⟨k + 1, p2 + 1, xs ++ [x], by omega, by omega, by omega, sT0, sT0, sT0, sT1 @f7, sT0, by refine sS0 ?_; rfl, by refine sS0 ?_; exact htw3, by simp [hxl]⟩ (by refine sS2 @ctrV_int @f10 ?_; omega)
        · obtain rfl : (k : Int) = facts := by omega
          have ho := htw.g9.one
          refine sS7 @f0 @f1 @f2 @f7 @f8 ho.1 ho.2 ?_
          intro bt hbt
          refine gr_appF htw.g7 htw.g9 htw.sep hbt (by simp [mostCells]; omega) (by simp [mostCells]; omega) ?_
          intro s' M' u hg' hfr _
          refine sS0 ?_
          refine hK _ _ ⟨i + 1, p2, us ++ [u], ls ++ [xs], by omega, by omega, by omega, sT0, sT0, sT0, by refine sS0 ?_; rfl, by refine sS0 ?_; exact hg', hcs.snoc hfr.li, by simp [hll], fun r hr => ?_⟩ (by refine sS2 @ctrV_int @e8 ?_; omega)
          rcases List.mem_append.1 hr with h3 | h3
          · exact hlr r h3
          · rw [List.mem_singleton] at h3; subst h3; omega
    · refine sS0 ?_
      exact hR _ _ ⟨p', us, ls, q1, by omega, hg, hcs, by omega, hlr⟩
theorem Fo.rd {B M : MH} {rb b6 : Nat} {X Y : List V} {vL vN : V} {us ws : List V} {f : Int} (h : Fo (B.set rb X) M b6 vL us vN ws f) : Fo (B.set rb Y) (M.set rb Y) b6 vL us vN ws f := by
  have hne : b6 ≠ rb := fun e => by have := h.fr; rw [e, set_same] at this; cases this
  have hf := h.fr
  rw [set_ne hne] at hf
  exact ⟨by rw [set_ne hne]; exact h.bx, by rw [set_ne hne]; exact hf, h.gl.rd, h.gn.rd, h.nl, h.nn, h.ne⟩
structure DrG (B M : MH) (vL vN : V) (us ws : List V) (g : GrS) : Prop where
  gl : Gr 1 B M vL us
  gn : Gr 1 B M vN ws
  ne : ∀ b, blkV vL = .some b → blkV vN ≠ some b
  cl : Cs (fun ys u => LI u ys) us g.letters
  cn : Cs (fun ys u => LI u ys) ws g.next
  le : g.letters.length = g.next.length
structure GrD (g : GrS) (n : Nat) : Prop where
  l1 : g.letters.length ≤ n
  l2 : ∀ r ∈ g.letters, r.length ≤ 4
  n1 : g.next.length ≤ n
  n0 : 1 ≤ g.next.length
  n2 : ∀ r ∈ g.next, r.length ≤ 400
theorem GrD.sz {g : GrS} {n : Nat} (h : GrD g n) (hn : n ≤ 400) : GrSz g := ⟨by have := h.l1; omega, fun r hr => by have := h.l2 r hr; omega, by have := h.n1; omega, fun r hr => by have := h.n2 r hr; omega⟩
theorem t_l25Draw {rb : Nat} {w : V} {code : List Int} {p facts most : Int} (hr : Rdr w code) (hm : M rb = .some (rdC w p)) (h0 : 0 ≤ p) (h1 : p ≤ 800000) (hf0 : 0 ≤ facts) (hf : facts ≤ 4) (hn0 : 1 ≤ most) (hn : most ≤ 400) :
    VCall Tryd.prog n_spec_l25Draw [.sc (.ptr (some (rb, 0))), .sc (.int .i64 facts), .sc (.int .i64 most)] M (fun r M' => ∃ (p' : Int) (vL vN : V) (us ws : List V) (g : GrS), r = .agg [vL, .sc (.int .i64 g.first), vN] ∧ p ≤ p' ∧ p' ≤ p + 3000 ∧ DrG (M.set rb (rdC w p')) M' vL vN us ws g ∧ GrD g most.toNat) := by
  refine VCall.plain fun R hR => v_spec_l25Draw rfl ?_
  refine sS0 ?_
  intro b6 hb6
  have n6 : b6 ≠ rb := fun e => by subst e; rw [hb6] at hm; cases hm
  have hm6 : (M.set b6 [V.sc (AV.sl none 0 0 true 0), V.sc (AV.int IntKind.i64 0), V.sc (AV.sl none 0 0 true 0)]) rb = .some (rdC w p) := by rw [set_ne (Ne.symm n6)]; exact hm
  have s6 : Sub M (M.set b6 [V.sc (AV.sl none 0 0 true 0), V.sc (AV.int IntKind.i64 0), V.sc (AV.sl none 0 0 true 0)]) := (Sub.refl _).set' hb6
  have a6 : (M.set b6 [V.sc (AV.sl none 0 0 true 0), V.sc (AV.int IntKind.i64 0), V.sc (AV.sl none 0 0 true 0)]) b6 = .some [V.sc (AV.sl none 0 0 true 0), V.sc (AV.int IntKind.i64 0), V.sc (AV.sl none 0 0 true 0)] := set_same
  generalize M.set b6 [V.sc (AV.sl none 0 0 true 0), V.sc (AV.int IntKind.i64 0), V.sc (AV.sl none 0 0 true 0)] = M6 at *
  refine (t_pick hr hm6 (by omega) (by omega)).mono ?_
  rintro _ _ ⟨rfl, k, rfl, k0, k1, -⟩
  have hk := k1 hn0
  refine sS0 ?_
  have rs1 : RS M6 rb w (M6.set rb (rdC w (p + 1))) (p + 1) := (RS.start hm6).set _
  refine (t_pick hr rs1.at_ (by omega) (by omega)).mono ?_
  rintro _ _ ⟨rfl, fs, rfl, -⟩
  have rs2 := rs1.set (p + 1 + 1)
  refine sS0 ?_
  obtain ⟨n, hn1⟩ : ∃ n : Nat, (n : Int) = 1 + k := ⟨(1 + k).toNat, by omega⟩
  have hn2 : 1 ≤ n := by omega
  have hn3 : (n : Int) ≤ most := by omega
  rw [← hn1]
  rw [set_set] at rs2
  generalize hM2 : M6.set rb (rdC w (p + 1 + 1)) = M2 at *
  refine (t_l20Word hr rs2.at_ (by omega) (by omega) hf0 hf (by omega) (by omega)).mono ?_
  rintro vL M3 ⟨p3, us, ls, q1, q2, hgL, hcL, hlL, hlf⟩
  have l1 := hgL.one.1
  have l2 := hgL.one.2
  refine sS2 @l1 @l2 ?_
  intro b8 hb8
  have hsub6 : Sub (M6.set rb (rdC w p3)) M3 := by
    have := hgL.sub
    rw [← hM2, set_set] at this; exact this
  rw [← hM2, set_set] at hgL
  have hfo0 : Fo (M6.set rb (rdC w p3)) (M3.set b8 [vL, V.sc (AV.int IntKind.i64 fs), V.sc (AV.sl none 0 0 true 0)]) b8 vL us (.sc (.sl none 0 0 true 0)) [] fs := by
    refine ⟨set_same, hgL.sub.none hb8, hgL.more ((Sub.refl _).set' hb8), .nil (hgL.sub.trans ((Sub.refl _).set' hb8)), fun e => ?_, by simp [blkV], fun b _ hb => by simp [blkV] at hb⟩
    rcases hgL.own with ⟨_, j, rfl⟩ | ⟨b', m, ex, rfl, h2, h3⟩
    · simp [blkV] at e
    · simp [blkV] at e; subst e; rw [hb8] at h2; cases h2
  generalize M3.set b8 [vL, V.sc (AV.int IntKind.i64 fs), V.sc (AV.sl none 0 0 true 0)] = M4 at *
  refine loop_k (fun e M' => ∃ (i : Nat) (p' : Int) (vN : V) (ws : List V) (rows : List (List Int)), i ≤ n ∧ p ≤ p' ∧ p' ≤ p3 + 3 * i ∧ e 0 = .sc (.ptr (some (rb, 0))) ∧ e 6 = .sc (.ptr (some (b6, 0))) ∧ e 7 = .sc (.int .i64 n) ∧ e 8 = .sc (.ptr (some (b8, 0))) ∧ e 9 = .sc (.int .i64 i) ∧ Fo (M6.set rb (rdC w p')) M' b8 vL us vN ws fs ∧ Cs (fun ys u => LI u ys) ws rows ∧ rows.length = i ∧ ∀ r ∈ rows, r.length ≤ 400) (fun e _ => ctrV n (e 9)) ?_ ?_
  · exact ⟨0, p3, _, [], [], by omega, by omega, by omega, sT0, sT0, sT0, sT0, by refine sS0 ?_; rfl, hfo0, .nil, rfl, fun r hr => (by cases hr)⟩
  · rintro e M5 ⟨i, p', vN, ws, rows, hi, r1, r2, e0, e6, e7, e8, e9, hfo, hcN, hlN, hrN⟩ K hK
    have hwl : ws.length = i := by have := hcN.1; omega
    refine sS5 @e0 @e6 @e7 @e8 @e9 ?_
    refine cond_dec (fun hc => ?_) (fun hc => ?_)
    · have hi' : i < n := by omega
      refine sS5 @e0 @e6 @e7 @e8 @e9 ?_
      refine mks3 (by omega) (by simp [mostCells]; omega) (by simp [mostCells]; omega) ?_
      intro bm hbm
      simp (maxSteps := 2000000) (disch := first | omega | assumption | exact idP rfl | exact idP (bL rfl)) only [go_sem, reduceIte, Nat.reduceEqDiff, wpV_kd, wpV_tH, zeros_vb, mkL_none]
      have hrb5 : M5 rb = .some (rdC w p') := hfo.gl.sub _ _ set_same
      have nm : bm ≠ rb := fun e => by subst e; rw [hrb5] at hbm; cases hbm
      have hrbm : (M5.set bm ((mkL n fun _ => false).map vb)) rb = .some (rdC w p') := by rw [set_ne (Ne.symm nm)]; exact hrb5
      refine (t_pick hr hrbm (by omega) (by omega)).mono ?_
      rintro _ _ ⟨rfl, kk0, rfl, kk1, kk2, -⟩
      have kk3 := kk2 (by omega)
      rw [set_comm nm]
      refine sS0 ?_
      refine loop_k (fun e2 M' => ∃ (kk : Nat) (p2 : Int) (q : Nat → Bool), kk ≤ 2 ∧ p' ≤ p2 ∧ p2 + kk ≤ p' + 3 ∧ e2 0 = .sc (.ptr (some (rb, 0))) ∧ e2 6 = .sc (.ptr (some (b6, 0))) ∧ e2 7 = .sc (.int .i64 n) ∧ e2 8 = .sc (.ptr (some (b8, 0))) ∧ e2 9 = .sc (.int .i64 i) ∧ e2 10 = .sc (.sl (some (bm, 0)) n n true 1) ∧ e2 11 = .sc (.int .i64 kk) ∧ M' = (M5.set rb (rdC w p2)).set bm ((mkL n q).map vb)) (fun e2 _ => match e2 11 with | .sc (.int _ i) => i.toNat | _ => 0) ?_ ?_
      · refine ⟨(1 + kk0).toNat, p' + 1, fun _ => false, by omega, by omega, by omega, sT0, sT0, sT0, sT0, sT0, sT0, by refine sS0 ?_; congr 2; omega, rfl⟩
      · rintro e2 _ ⟨kk, p2, q, w1, w2, w3, f0, f6, f7, f8, f9, f10, f11, rfl⟩ K2 hK2
        refine sS7 @f0 @f6 @f7 @f8 @f9 @f10 @f11 ?_
        refine cond_dec (fun hd => ?_) (fun hd => ?_)
        · have hrb2 : ((M5.set rb (rdC w p2)).set bm ((mkL n q).map vb)) rb = .some (rdC w p2) := by rw [set_ne (Ne.symm nm), set_same]
          refine sS7 @f0 @f6 @f7 @f8 @f9 @f10 @f11 ?_
          refine (t_pick hr hrb2 (by omega) (by omega)).mono ?_
          rintro _ _ ⟨rfl, x, rfl, x1, x2, -⟩
          have x3 := x2 (by omega)
          rw [set_comm nm, set_set]
          have pa : iaddrV 1 (.sc (.sl (some (bm, 0)) n n true 1)) (.int .i64 x) = _ := sl_iaddr x1 x3
          have hso : x.toNat < ((mkL n q).map vb).length := by rw [mkL_lenv]; omega
          refine sS9 @f0 @f6 @f7 @f8 @f9 @f10 @f11 @pa @hso ?_
          obtain ⟨kq, rfl⟩ : ∃ kq, kk = kq + 1 := ⟨kk - 1, by omega⟩
          refine hK2 _ _ ⟨kq, p2 + 1, fun j => q j || decide (j = x.toNat), by omega, by omega, by omega, sT0, sT0, sT0, sT0, sT0, sT0, by refine sS0 ?_; congr 2; omega, ?_⟩ (by refine sS1 @f11 ?_; omega)
          rw [mkL_setv (fun j _ => rfl)]
        · obtain rfl : kk = 0 := by omega
          have hfo2 := hfo.rd (Y := rdC w p2)
          have hbm2 : (M5.set rb (rdC w p2)) bm = none := by rw [set_ne nm]; exact hbm
          generalize M5.set rb (rdC w p2) = MD at *
          have hgm : Gr 1 MD (MD.set bm ((mkL n q).map vb)) (.sc (.sl (some (bm, 0)) n n true 1)) ((mkL n q).map vb) := Gr.new' (Sub.refl _) hbm2 (by rw [mkL_lenv]; omega)
          have hbx := hgm.sub _ _ hfo2.bx
          generalize MD.set bm ((mkL n q).map vb) = MX at *
          refine sS7 @f0 @f6 @f7 @f8 @f9 @f10 @hbx ?_
          refine (VCall.give0 hgm fun u M2 hu hs2 => (t_l4List hu.lb (by omega)).mono fun r M' hr => hr.base hs2).mono ?_
          intro row M7 hrow
          have hfo3 := hfo2.more hrow.sub
          have hbx3 := hfo3.bx
          have hne : ∀ b, blkV row = .some b → MD b = none := hrow.new
          have r6 : blkV row ≠ some b8 := fun e => by have := hne _ e; rw [hfo2.bx] at this; cases this
          have rL := hfo2.gl.ne hrow
          have rN := hfo2.gn.ne hrow
          have hrow0 := hrow.base hfo2.gl.sub
          have hrone := hrow0.one
          have hsl : (selL n q).length ≤ n := selL_len
          refine sS3 @hbx3 hrone.1 hrone.2 ?_
          intro bt hbt
          refine hfo3.appNF hrow0 r6 rL rN hbt (by omega) (by omega) ?_
          intro s2 M8 u q3 hfo5 hfr
          have c2 := hfo5.gn.one.2
          have c3 := hfo5.gn.one.1
          refine sS4 @q3 @c2 @c3 @hbx3 ?_
          refine hK _ _ ⟨i + 1, p2, s2, ws ++ [u], rows ++ [selL n q], by omega, by omega, by omega, sT0, sT0, sT0, sT0, by refine sS0 ?_; rfl, hfo5, hcN.snoc hfr.li, by simp [hlN], fun r hr => ?_⟩ (by refine sS2 @ctrV_int @e9 ?_; omega)
          rcases List.mem_append.1 hr with h3 | h3
          · exact hrN r h3
          · rw [List.mem_singleton] at h3; subst h3; omega
    · obtain rfl : i = n := by omega
      have hbx := hfo.bx
      have n86 : b8 ≠ b6 := fun e => by
        have := hfo.fr
        rw [e, set_ne n6, a6] at this; cases this
      have ha6 : M5 b6 = .some [V.sc (AV.sl none 0 0 true 0), V.sc (AV.int IntKind.i64 0), V.sc (AV.sl none 0 0 true 0)] := hfo.gl.sub _ _ (by rw [set_ne n6]; exact a6)
      have o1 := hfo.gl.one.1
      have o2 := hfo.gl.one.2
      have o3 := hfo.gn.one.1
      have o4 := hfo.gn.one.2
      have hs66 : Sub (M.set rb (rdC w p')) (M6.set rb (rdC w p')) := by
        have : Sub (M.set rb (rdC w p)) M6 := by rw [set_id hm]; exact s6
        exact this.rd
      have hb60 : (M.set rb (rdC w p')) b6 = none := by rw [set_ne n6]; exact hb6
      have ne6 : ∀ {v : V} {l : List V}, Gr 1 (M6.set rb (rdC w p')) M5 v l → blkV v ≠ some b6 := fun hg e => by
        have := hg.new _ e
        rw [set_ne n6, a6] at this; cases this
      simp (maxSteps := 2000000) (disch := first | omega | assumption | exact idP rfl | exact idP (bL rfl)) only [go_sem, reduceIte, Nat.reduceEqDiff, wpV_kd, wpV_tH, e0, e6, e7, e8, hbx, ha6, o1, o2, o3, o4]
      refine hR _ _ ⟨p', vL, vN, us, ws, ⟨ls, fs, rows⟩, rfl, by omega, by omega, ⟨(hfo.gl.base hs66).setN hb60 (ne6 hfo.gl), (hfo.gn.base hs66).setN hb60 (ne6 hfo.gn), hfo.ne, hcL, hcN, by simp only; omega⟩, ⟨by simp only; omega, fun r hr => ?_, by simp only; omega, by simp only; omega, hrN⟩⟩
      have := hlf r hr; omega
end Go.M2

namespace Go.M2
open Go.Proofs
variable {M : MH}
theorem mem2 {B M : MH} {v w : V} {l r : List V} (h : Gr 1 B M v l) (k : Gr 1 B M w r) (hne : ∀ b, blkV v = .some b → blkV w ≠ some b) : Mem B M (fpG v l ++ fpG w r) := by
  refine ⟨h.sub, fun p hp => ?_, ?_, fun p hp => ?_⟩
  · rcases List.mem_append.1 hp with h1 | h1
    · exact h.mem.new p h1
    · exact k.mem.new p h1
  · cases h1 : blkV v with
    | none => simpa [fpG, h1] using k.mem.nd
    | some b =>
      cases h2 : blkV w with
      | none => simp [fpG, h1, h2, Nd2]
      | some c =>
        have : b ≠ c := fun e => hne b h1 (by rw [h2, e])
        simp [fpG, h1, h2, Nd2, this]
  · rcases List.mem_append.1 hp with h1 | h1
    · exact h.mem.at_ p h1
    · exact k.mem.at_ p h1
def AnyR (B M : MH) (vL vN : V) (g : GrS) (n : Nat) : Prop := ∃ vL' vN' fp, Tr [vL, vN] [vL', vN'] fp ∧ Mem B M fp ∧ LII vL' g.letters ∧ LII vN' g.next ∧ isNilF .sl (er vN') = .some false ∧ GrD g n ∧ One vL ∧ One vN
theorem Fr.nn1 {v : V} {us : List V} (h : Fr 1 v us) (h0 : 1 ≤ us.length) : isNilF .sl (er v) = .some false := by
  rcases h with ⟨rfl, _, _⟩ | ⟨p, n, c, ex, k, rfl, _⟩
  · simp at h0
  · rfl
theorem Fo.any {B M : MH} {b7 n : Nat} {vL vN : V} {us ws : List V} {f f' : Int} {ls rows : List (List Int)} (h : Fo B M b7 vL us vN ws f) (cl : Cs (fun ys u => LI u ys) us ls) (cn : Cs (fun ys u => LI u ys) ws rows) (hd : GrD ⟨ls, f', rows⟩ n) : AnyR B M vL vN ⟨ls, f', rows⟩ n := by
  obtain ⟨u1, t1, f1⟩ := h.gl.own.sh.1.tr (Tr.refl us)
  obtain ⟨u2, t2, f2⟩ := h.gn.own.sh.1.tr (Tr.refl ws)
  rw [List.append_nil] at t1 t2
  have hw := cn.1
  have h0 := hd.n0
  exact ⟨u1, u2, _, t1.append t2, mem2 h.gl h.gn h.ne, f1.lsC cl, f2.lsC cn, f2.nn1 (by simp only at h0; omega), hd, h.gl.own.sh.1.one, h.gn.own.sh.1.one⟩
theorem slcd_own {b n : Nat} {ex : Bool} {K : V → MH → Prop} (h1 : 1 ≤ n) (hk : ∀ o ex', (o = 1 ∨ n = 1) → K (.sc (.sl (some (b, o)) (n - 1) (n - 1) ex' 1)) M) : slcdV 1 (.sc (.sl (some (b, 0)) n n ex 1)) M K := by
  simp only [slcdV]
  refine ⟨trivial, h1, Nat.le_refl _, ?_⟩
  split
  · rename_i hc
    obtain ⟨rfl, _⟩ := hc
    exact ⟨by simpa using hk 0 true (.inr rfl), by simpa using hk 1 false (.inl rfl)⟩
  · by_cases hc : n = 1
    · rw [if_pos hc]; exact hk 0 ex (.inr hc)
    · rw [if_neg hc]; simpa using hk 1 ex (.inl rfl)
theorem Cs.drop1 {us : List V} {ls : List (List Int)} {b o n : Nat} {ex : Bool} (h : Cs (fun ys u => LI u ys) us ls) (hn : ls.length = n) (h1 : 1 ≤ n) (ho : o = 1 ∨ n = 1) : LII (.fs (some (b, o)) (n - 1) (n - 1) ex 1 (us.drop o)) (ls.drop 1) := by
  have hu := h.1
  refine Ls.mk (by simp; omega) ?_ fun i hi => ?_
  · simp; omega
  · have hi2 : i + 1 < ls.length := by simp at hi; omega
    have : o = 1 := by omega
    subst this
    obtain ⟨u, h2, h3⟩ := h.2 (i + 1) hi2
    refine ⟨u, by rw [List.getElem?_drop, Nat.add_comm]; exact h2, ?_⟩
    rw [List.getElem_drop]
    have e : ls[1 + i]'(by omega) = ls[i + 1] := by congr 1; omega
    rw [e]; exact h3
theorem Mem.setB {M0 M : MH} {f : List (Nat × List V)} {b : Nat} {l : List V} (h : Mem M0 M f) (hb : M0 b = none) (hne : ∀ p ∈ f, p.1 ≠ b) : Mem M0 (M.set b l) f :=
  ⟨h.sub.set hb, h.new, h.nd, fun p hp => by rw [set_ne (hne p hp)]; exact h.at_ p hp⟩
theorem Gr.nf {B M : MH} {v : V} {l : List V} {b : Nat} (h : Gr 1 B M v l) (hb : M b = none) : blkV v ≠ some b := fun e => by
  rcases h.own with ⟨_, j, rfl⟩ | ⟨b', m, ex, rfl, h2, h3⟩
  · simp [blkV] at e
  · simp [blkV] at e; subst e; rw [hb] at h2; cases h2
theorem fpG_sl {b n c k : Nat} {ex : Bool} {l : List V} : fpG (.sc (.sl (some (b, 0)) n c ex k)) l = [(b, l)] := by simp [fpG, blkV]
theorem Fo.anyX {B M MZ : MH} {b7 bN n N : Nat} {ex : Bool} {vL w0 z z' : V} {us wt : List V} {f f' : Int} {ls rows : List (List Int)} {fz : List (Nat × List V)} {r : List Int} (h : Fo B M b7 vL us (.sc (.sl (some (bN, 0)) n n ex 1)) (w0 :: wt) f) (hz : Tr [z] [z'] fz) (hm : Mem M MZ fz) (hr : LI z' r) (hrl : r.length ≤ 400)
    (hn : n = (w0 :: wt).length) (cl : Cs (fun ys u => LI u ys) us ls) (cn : Cs (fun ys u => LI u ys) (w0 :: wt) rows) (hd : GrD ⟨ls, f', rows⟩ N) : AnyR B (MZ.set bN (z :: wt)) vL (.sc (.sl (some (bN, 0)) n n ex 1)) ⟨ls, f', r :: rows.drop 1⟩ N := by
  obtain ⟨u1, t1, f1⟩ := h.gl.own.sh.1.tr (Tr.refl us)
  rw [List.append_nil] at t1
  have t2 : Tr [.sc (.sl (some (bN, 0)) n n ex 1)] [.fs (some (bN, 0)) n n ex 1 ((z' :: wt).drop 0)] ((bN, z :: wt) :: ((fz ++ []) ++ [])) := Tr.sl (hz.append (Tr.refl wt)) Tr.nil
  rw [List.append_nil, List.append_nil] at t2
  have m0 := (mem2 h.gl h.gn h.ne).add hm
  rw [fpG_sl] at m0
  have m1 : Mem B MZ ((bN, w0 :: wt) :: (fpG vL us ++ fz)) := by
    refine m0.perm ?_
    rw [List.append_assoc]
    exact List.perm_middle
  have m2 : Mem B (MZ.set bN (z :: wt)) (fpG vL us ++ ((bN, z :: wt) :: fz)) := (m1.upd (l' := z :: wt)).perm List.perm_middle.symm
  have hw := cn.1
  have h0 := hd.n0
  simp only at h0
  cases rows with
  | nil => simp at h0
  | cons r0 rt =>
    refine ⟨u1, _, _, t1.append t2, m2, f1.lsC cl, ?_, rfl, ⟨hd.l1, hd.l2, by have := hd.n1; simpa using this, by simp, fun q hq => ?_⟩, h.gl.own.sh.1.one, ⟨rfl, rfl⟩⟩
    · refine Ls.mk (by simp at hw hn ⊢; omega) (by simp at hw ⊢; omega) fun i hi => ?_
      cases i with
      | zero => exact ⟨z', by simp, hr⟩
      | succ i =>
        have hi2 : i + 1 < (r0 :: rt).length := by simpa using hi
        obtain ⟨u, q1, q2⟩ := cn.2 (i + 1) hi2
        exact ⟨u, by simpa using q1, by simpa using q2⟩
    · rcases List.mem_cons.1 hq with rfl | hq
      · exact hrl
      · exact hd.n2 q (List.mem_cons_of_mem _ hq)
theorem Fo.any3 {B M : MH} {b7 bJ n N o : Nat} {ex ex' : Bool} {vN : V} {us ws X : List V} {f f' : Int} {ls rows : List (List Int)} (h : Fo B M b7 (.sc (.sl (some (bJ, 0)) n n ex 1)) us vN ws f)
    (hn : n = us.length) (h1 : 1 ≤ n) (ho : o = 1 ∨ n = 1) (cl : Cs (fun ys u => LI u ys) us ls) (cn : Cs (fun ys u => LI u ys) ws rows) (hd : GrD ⟨ls, f', rows⟩ N) : AnyR B (M.set b7 X) (.sc (.sl (some (bJ, o)) (n - 1) (n - 1) ex' 1)) vN ⟨ls.drop 1, f', rows⟩ N := by
  obtain ⟨u2, t2, f2⟩ := h.gn.own.sh.1.tr (Tr.refl ws)
  rw [List.append_nil] at t2
  have t1 : Tr [.sc (.sl (some (bJ, o)) (n - 1) (n - 1) ex' 1)] [.fs (some (bJ, o)) (n - 1) (n - 1) ex' 1 (us.drop o)] ((bJ, us) :: ([] ++ [])) := Tr.sl (Tr.refl us) Tr.nil
  rw [List.append_nil] at t1
  have m0 := mem2 h.gl h.gn h.ne
  rw [fpG_sl] at m0
  have hw := cn.1
  have hu := cl.1
  have h0 := hd.n0
  simp only at h0
  have m1 := m0.setB (l := X) h.fr fun p hp e => by
    rcases List.mem_append.1 hp with hp | hp
    · rw [List.mem_singleton] at hp; subst hp
      exact h.nl (by simp only [blkV]; rw [← e])
    · unfold fpG at hp
      split at hp
      · rename_i b hb
        rw [List.mem_singleton] at hp; subst hp
        exact h.nn (by rw [hb, ← e])
      · cases hp
  refine ⟨_, u2, _, t1.append t2, m1, cl.drop1 (by omega) h1 ho, f2.lsC cn, f2.nn1 (by omega), ⟨?_, fun q hq => hd.l2 q (List.mem_of_mem_drop hq), hd.n1, hd.n0, hd.n2⟩, ⟨rfl, rfl⟩, h.gn.own.sh.1.one⟩
  have := hd.l1
  simp only [List.length_drop] at this ⊢; omega
theorem t_l25Any {rb : Nat} {w : V} {code : List Int} {p most : Int} (hr : Rdr w code) (hm : M rb = .some (rdC w p)) (h0 : 0 ≤ p) (h1 : p ≤ 700000) (hn0 : 1 ≤ most) (hn : most ≤ 400) :
    VCall Tryd.prog n_spec_l25Any [.sc (.ptr (some (rb, 0))), .sc (.int .i64 most)] M (fun r M' => ∃ (p' : Int) (vL vN : V) (g : GrS) (f : Int), r = .tup [.agg [vL, .sc (.int .i64 g.first), vN], .sc (.int .i64 f)] ∧ p ≤ p' ∧ p' ≤ p + 3010 ∧ AnyR (M.set rb (rdC w p')) M' vL vN g most.toNat) := by
  refine VCall.plain fun R hR => v_spec_l25Any rfl ?_
  refine sS0 ?_
  intro b4 hb4
  have n4 : b4 ≠ rb := fun e => by subst e; rw [hb4] at hm; cases hm
  have hm4 : (M.set b4 [V.sc (AV.sl none 0 0 true 0), V.sc (AV.int IntKind.i64 0), V.sc (AV.sl none 0 0 true 0)]) rb = .some (rdC w p) := by rw [set_ne (Ne.symm n4)]; exact hm
  have s4 : Sub M (M.set b4 [V.sc (AV.sl none 0 0 true 0), V.sc (AV.int IntKind.i64 0), V.sc (AV.sl none 0 0 true 0)]) := (Sub.refl _).set' hb4
  have a4 : (M.set b4 [V.sc (AV.sl none 0 0 true 0), V.sc (AV.int IntKind.i64 0), V.sc (AV.sl none 0 0 true 0)]) b4 = .some [V.sc (AV.sl none 0 0 true 0), V.sc (AV.int IntKind.i64 0), V.sc (AV.sl none 0 0 true 0)] := set_same
  generalize M.set b4 [V.sc (AV.sl none 0 0 true 0), V.sc (AV.int IntKind.i64 0), V.sc (AV.sl none 0 0 true 0)] = M4 at *
  have hs44 : ∀ q, Sub (M.set rb (rdC w q)) (M4.set rb (rdC w q)) := fun q => by
    have : Sub (M.set rb (rdC w p)) M4 := by rw [set_id hm]; exact s4
    exact this.rd
  have hb40 : ∀ q, (M.set rb (rdC w q)) b4 = none := fun q => by rw [set_ne n4]; exact hb4
  -- what comes behind, once for all
  have fin : ∀ (q : Int) (M' : MH) (vL vN : V) (g : GrS) (f : Int), p ≤ q → q ≤ p + 3010 → AnyR (M4.set rb (rdC w q)) M' vL vN g most.toNat → R (.tup [.agg [vL, .sc (.int .i64 g.first), vN], .sc (.int .i64 f)]) (M'.set b4 [vL, .sc (.int .i64 g.first), vN]) := fun q M' vL vN g f q1 q2 ⟨vL', vN', fp, e1, e2, e3⟩ => by
    refine hR _ _ ⟨q, vL, vN, g, f, rfl, q1, q2, vL', vN', fp, e1, (e2.base (hs44 q)).setB (hb40 q) fun pp hp e => ?_, e3⟩
    have := e2.new pp hp
    rw [e, set_ne n4, a4] at this; cases this
  intro bn hbn
  refine (t_numL [1, 1, 2, 0] hr hbn hm4 (by omega) (by omega) rfl rfl (by simp) (by simp)).mono ?_
  rintro _ _ ⟨rfl, facts, hfm, rfl⟩
  have hf : 0 ≤ facts ∧ facts ≤ 4 := by simp at hfm; omega
  refine sS0 ?_
  refine (t_l25Draw hr (set_same) (by omega) (by omega) hf.1 hf.2 hn0 hn).mono ?_
  rintro _ M5 ⟨p3, vL, vN, us, ws, g, rfl, r1, r2, hd, hgd⟩
  rw [set_set] at hd
  have o1 := hd.gl.one.1
  have o2 := hd.gl.one.2
  have o3 := hd.gn.one.1
  have o4 := hd.gn.one.2
  refine sS4 @o1 @o2 @o3 @o4 ?_
  intro b7 hb7
  have hfo : Fo (M4.set rb (rdC w p3)) (M5.set b7 [vL, V.sc (AV.int IntKind.i64 g.first), vN]) b7 vL us vN ws g.first :=
    ⟨set_same, hd.gl.sub.none hb7, hd.gl.more ((Sub.refl _).set' hb7), hd.gn.more ((Sub.refl _).set' hb7), hd.gl.nf hb7, hd.gn.nf hb7, hd.ne⟩
  generalize M5.set b7 [vL, V.sc (AV.int IntKind.i64 g.first), vN] = M6 at *
  have n74 : b7 ≠ b4 := fun e => by
    have := hfo.fr
    rw [e, set_ne n4, a4] at this; cases this
  have at4 : ∀ {q : Int} {M' : MH}, Sub (M4.set rb (rdC w q)) M' → M' b4 = .some [V.sc (AV.sl none 0 0 true 0), V.sc (AV.int IntKind.i64 0), V.sc (AV.sl none 0 0 true 0)] := fun h => h _ _ (by rw [set_ne n4]; exact a4)
  have hcl := hd.cl
  have hcn := hd.cn
  have hul := hcl.1
  have hwl := hcn.1
  have hle := hd.le
  have hg0 := hgd.n0
  have hg1 := hgd.n1
  refine (t_pick hr (hfo.gl.sub _ _ set_same) (by omega) (by omega)).mono ?_
  rintro _ _ ⟨rfl, k, rfl, k0, k1, -⟩
  have hfo1 := hfo.rd (Y := rdC w (p3 + 1))
  generalize M6.set rb (rdC w (p3 + 1)) = M7 at *
  refine sS0 ?_
  refine cond_dec (fun hk => ?_) (fun hk => ?_)
  · refine sS0 ?_
    refine (t_pick hr (hfo1.gl.sub _ _ set_same) (by omega) (by omega)).mono ?_
    rintro _ _ ⟨rfl, j, rfl, j0, j1, -⟩
    have hfo2 := hfo1.rd (Y := rdC w (p3 + 1 + 1))
    generalize M7.set rb (rdC w (p3 + 1 + 1)) = M8 at *
    have hbx := hfo2.bx
    have h84 := at4 hfo2.gl.sub
    refine sS0 ?_
    refine cond_dec (fun hj => ?_) (fun hj => ?_)
    · have hlen := hfo2.gn.len1
      refine sS2 @hbx @hlen ?_
      intro bn hbn
      refine (t_numL [(ws.length : Int), -1] hr hbn (hfo2.gl.sub _ _ set_same) (by omega) (by omega) rfl rfl (by simp) (by simp)).mono ?_
      rintro _ _ ⟨rfl, x, hx, rfl⟩
      have hfo3 := hfo2.rd (Y := rdC w (p3 + 1 + 1 + 1))
      generalize M8.set rb (rdC w (p3 + 1 + 1 + 1)) = M9 at *
      have hbx3 := hfo3.bx
      have h94 := at4 hfo3.gl.sub
      have h945 : (M9.set b7 [vL, V.sc (AV.int IntKind.i64 x), vN]) b4 = .some [V.sc (AV.sl none 0 0 true 0), V.sc (AV.int IntKind.i64 0), V.sc (AV.sl none 0 0 true 0)] := by rw [set_ne (Ne.symm n74)]; exact h94
      have hfo4 : Fo (M4.set rb (rdC w (p3 + 1 + 1 + 1))) (M9.set b7 [vL, V.sc (AV.int IntKind.i64 x), vN]) b7 vL us vN ws x :=
        ⟨set_same, hfo3.fr, hfo3.gl.setN hfo3.fr hfo3.nl, hfo3.gn.setN hfo3.fr hfo3.nn, hfo3.nl, hfo3.nn, hfo3.ne⟩
      refine sS6 @hbx3 @h945 @o1 @o2 @o3 @o4 ?_
      exact fin _ _ vL vN ⟨g.letters, x, g.next⟩ facts (by omega) (by omega) (hfo4.any hcl hcn ⟨hgd.l1, hgd.l2, hgd.n1, hgd.n0, hgd.n2⟩)
    · refine sS0 ?_
      refine cond_dec (fun hj1 => ?_) (fun hj1 => ?_)
      · rcases hfo2.gn.own with ⟨e, _⟩ | ⟨bN, n, ex, rfl, hbN, hnl⟩
        · rw [e] at hwl; simp at hwl; omega
        cases ws with
        | nil => simp at hwl; omega
        | cons w0 wt =>
          have hnn : 1 ≤ n := by simp at hnl; omega
          have hnn2 : n = (w0 :: wt).length := by simp at hnl ⊢; omega
          have p0 : iaddrV 1 (.sc (.sl (some (bN, 0)) n n ex 1)) (.int .i64 0) = .some (.sc (.ptr (some (bN, 0)))) := sl_iaddr (by omega) (by omega)
          refine sS1 @hbx ?_
          intro bz hbz
          have sz := (Sub.refl M8).set' (l := [V.sc (AV.int IntKind.i64 (n : Int))]) hbz
          have mz : Mem M8 (M8.set bz [V.sc (AV.int IntKind.i64 (n : Int))]) [(bz, [V.sc (AV.int IntKind.i64 (n : Int))])] := (Mem.nil (Sub.refl _)).new1 hbz
          have tz : Tr [V.sc (AV.sl (some (bz, 0)) 1 1 true 1)] [V.fs (some (bz, 0)) 1 1 true 1 (([(n : Int)].map vi).drop 0)] [(bz, [V.sc (AV.int IntKind.i64 (n : Int))])] := Tr.sl (Tr.refl _) Tr.nil
          have hany := hfo2.anyX (f' := g.first) tz mz (li_own rfl) (by simp) hnn2 hcl hcn hgd
          have hbN' := sz _ _ hbN
          have hbx' := sz _ _ hbx
          have h84' := sz _ _ h84
          have n7N : b7 ≠ bN := fun e => hfo2.nn (by rw [e]; rfl)
          have n4N : b4 ≠ bN := fun e => by
            have := hfo2.gn.new bN rfl
            rw [← e, set_ne n4, a4] at this; cases this
          generalize M8.set bz [V.sc (AV.int IntKind.i64 (n : Int))] = MZ at *
          have g7 : ∀ L, (MZ.set bN L) b7 = .some [vL, V.sc (AV.int IntKind.i64 g.first), V.sc (AV.sl (some (bN, 0)) n n ex 1)] := fun L => by rw [set_ne n7N]; exact hbx'
          have g4 : ∀ L, (MZ.set bN L) b4 = .some [V.sc (AV.sl none 0 0 true 0), V.sc (AV.int IntKind.i64 0), V.sc (AV.sl none 0 0 true 0)] := fun L => by rw [set_ne n4N]; exact h84'
          refine sS6 @p0 @hbN' @g7 @g4 @o1 @o2 ?_
          exact fin _ _ vL _ ⟨g.letters, g.first, [(n : Int)] :: g.next.drop 1⟩ facts (by omega) (by omega) hany
      · refine sS0 ?_
        refine cond_dec (fun hj2 => ?_) (fun hj2 => ?_)
        · rcases hfo2.gn.own with ⟨e, _⟩ | ⟨bN, n, ex, rfl, hbN, hnl⟩
          · rw [e] at hwl; simp at hwl; omega
          cases ws with
          | nil => simp at hwl; omega
          | cons w0 wt =>
            have hnn : 1 ≤ n := by simp at hnl; omega
            have hnn2 : n = (w0 :: wt).length := by simp at hnl ⊢; omega
            have p0 : iaddrV 1 (.sc (.sl (some (bN, 0)) n n ex 1)) (.int .i64 0) = .some (.sc (.ptr (some (bN, 0)))) := sl_iaddr (by omega) (by omega)
            have hany := hfo2.anyX (f' := g.first) (Tr.refl [nil1]) (Mem.nil (Sub.refl M8)) (r := []) (.inl ⟨rfl, 0, rfl⟩) (by simp) hnn2 hcl hcn hgd
            have n7N : b7 ≠ bN := fun e => hfo2.nn (by rw [e]; rfl)
            have n4N : b4 ≠ bN := fun e => by
              have := hfo2.gn.new bN rfl
              rw [← e, set_ne n4, a4] at this; cases this
            have g7 : ∀ L, (M8.set bN L) b7 = .some [vL, V.sc (AV.int IntKind.i64 g.first), V.sc (AV.sl (some (bN, 0)) n n ex 1)] := fun L => by rw [set_ne n7N]; exact hbx
            have g4 : ∀ L, (M8.set bN L) b4 = .some [V.sc (AV.sl none 0 0 true 0), V.sc (AV.int IntKind.i64 0), V.sc (AV.sl none 0 0 true 0)] := fun L => by rw [set_ne n4N]; exact h84
            refine sS7 @hbx @p0 @hbN @g7 @g4 @o1 @o2 ?_
            exact fin _ _ vL _ ⟨g.letters, g.first, [] :: g.next.drop 1⟩ facts (by omega) (by omega) hany
        · rcases hfo2.gl.own with ⟨e, _⟩ | ⟨bJ, n, ex, rfl, hbL, hnl⟩
          · rw [e] at hul; simp at hul; omega
          have hnn : n = us.length := by omega
          have hn1 : 1 ≤ n := by omega
          refine sS1 @hbx ?_
          refine slcd_own hn1 fun o ex' ho => ?_
          have g4 : ∀ L, (M8.set b7 L) b4 = .some [V.sc (AV.sl none 0 0 true 0), V.sc (AV.int IntKind.i64 0), V.sc (AV.sl none 0 0 true 0)] := fun L => by rw [set_ne (Ne.symm n74)]; exact h84
          refine sS4 @hbx @g4 @o3 @o4 ?_
          exact fin _ _ _ vN ⟨g.letters.drop 1, g.first, g.next⟩ facts (by omega) (by omega) (hfo2.any3 (f' := g.first) hnn hn1 ho hcl hcn hgd)
  · have hbx := hfo1.bx
    have h74 := at4 hfo1.gl.sub
    refine sS6 @hbx @h74 @o1 @o2 @o3 @o4 ?_
    exact fin _ _ vL vN g facts (by omega) (by omega) (hfo1.any hcl hcn hgd)
end Go.M2

namespace Go.M2
open Go.Proofs
variable {M : MH}
theorem f_l25Any {rb : Nat} {w : V} {code : List Int} {p most : Int} (hr : Rdr w code) (hm : M rb = .some (rdC w p)) (h0 : 0 ≤ p) (h1 : p ≤ 700000) (hn0 : 1 ≤ most) (hn : most ≤ 400) :
    VCall Tryd.prog n_spec_l25Any [.sc (.ptr (some (rb, 0))), .sc (.int .i64 most)] M (fun r M' => ∃ (p' : Int) (v : V) (g : GrS) (f : Int), M' = M.set rb (rdC w p') ∧ r = .tup [v, .sc (.int .i64 f)] ∧ p ≤ p' ∧ p' ≤ p + 3010 ∧ isGr g v ∧ nnG v ∧ GrD g most.toNat) := by
  refine VCall.frB (q := fun B r' => ∃ (p' : Int) (v : V) (g : GrS) (f : Int), B = M.set rb (rdC w p') ∧ r' = .tup [v, .sc (.int .i64 f)] ∧ p ≤ p' ∧ p' ≤ p + 3010 ∧ isGr g v ∧ nnG v ∧ GrD g most.toNat) ((t_l25Any hr hm h0 h1 hn0 hn).mono ?_)
  rintro _ M' ⟨p', vL, vN, g, f, rfl, q1, q2, vL', vN', fp, ht, hmem, hL, hN, hnn, hd, -, -⟩
  obtain ⟨u1, r1, gx, gr, e1, rfl, tx, t2⟩ := ht.uncons
  obtain ⟨u2, r2, gy, gr2, e2, rfl, ty, t3⟩ := t2.uncons
  rw [List.cons.injEq] at e1
  obtain ⟨rfl, rfl⟩ := e1
  rw [List.cons.injEq] at e2
  obtain ⟨rfl, rfl⟩ := e2
  cases t3
  refine ⟨_, .tup [.agg [vL', .sc (.int .i64 g.first), vN'], .sc (.int .i64 f)], _, ?_, hmem, p', _, g, f, rfl, rfl, q1, q2, ⟨vL', vN', rfl, hL, hN⟩, ⟨_, _, _, rfl, hnn⟩, hd⟩
  have h3 := tx.append (.keep (.sc (.int .i64 g.first)) ty)
  have h4 := Tr.tup (Tr.agg h3 (.keep (.sc (.int .i64 f)) .nil)) .nil
  simpa using h4
theorem t_DrawFoldedGraph {v : V} {xs : List Int} (hv : XU v xs) (hc : CapOk v) (hl : xs.length ≤ 1048576) :
    VCall Tryd.prog n_spec_DrawFoldedGraph [v] M (fun r M' => M = M' ∧ ∃ (gv : V) (g : GrS) (f : Int), r = .tup [gv, .sc (.int .i64 f)] ∧ isGr g gv ∧ nnG gv ∧ GrD g 8) := by
  refine VCall.pure fun R hR => v_spec_DrawFoldedGraph rfl ?_
  refine sS0 ?_
  intro b2 hb2
  refine (t_l40Open hv hc hl).mono ?_
  rintro _ M1 ⟨rb, w, code, rfl, hrb, rfl, hr⟩
  have hs0 : Sub M (M.set b2 [V.sc (AV.sl none 0 0 true 0), V.sc (AV.int IntKind.i64 0), V.sc (AV.sl none 0 0 true 0)]) := (Sub.refl M).set' hb2
  have hzr : M rb = none := (fresh_set hrb).2
  have n2 : rb ≠ b2 := (fresh_set hrb).1
  have a2 : (M.set b2 [V.sc (AV.sl none 0 0 true 0), V.sc (AV.int IntKind.i64 0), V.sc (AV.sl none 0 0 true 0)]) b2 = .some [V.sc (AV.sl none 0 0 true 0), V.sc (AV.int IntKind.i64 0), V.sc (AV.sl none 0 0 true 0)] := set_same
  have hb20 := hb2
  change contK _ _ _ _ _ _ _ ((M.set b2 [V.sc (AV.sl none 0 0 true 0), V.sc (AV.int IntKind.i64 0), V.sc (AV.sl none 0 0 true 0)]).set rb (rdC w 0))
  generalize M.set b2 [V.sc (AV.sl none 0 0 true 0), V.sc (AV.int IntKind.i64 0), V.sc (AV.sl none 0 0 true 0)] = M2 at *
  refine sS0 ?_
  refine (f_l25Any hr set_same (by omega) (by omega) (by omega) (by omega)).mono ?_
  rintro _ _ ⟨p', gv, g, f, rfl, rfl, q1, q2, hg, hnn, hd⟩
  rw [set_set]
  have hg0 := hg
  obtain ⟨x, y, rfl, hx, hy⟩ := hg
  have o1 := hx.one.1
  have o2 := hx.one.2
  have o3 := hy.one.1
  have o4 := hy.one.2
  have r2 : ∀ q, (M2.set rb (rdC w q)) b2 = .some [V.sc (AV.sl none 0 0 true 0), V.sc (AV.int IntKind.i64 0), V.sc (AV.sl none 0 0 true 0)] := fun q => by rw [set_ne (Ne.symm n2)]; exact a2
  refine sS5 @r2 @o1 @o2 @o3 @o4 ?_
  exact hR _ _ ((hs0.set hzr).set hb20) ⟨_, g, f, rfl, hg0, hnn, hd⟩
end Go.M2

namespace Go.M2
open Go.Proofs
variable {M : MH}
theorem t_GrowSS {n : Nat} (h0 : 0 < n) (h1 : n ≤ 1048576) : VCall Tryd.prog n_slices_Grow_SSint_Sint [.sc (.sl none 0 0 true 0), .sc (.int .i64 n)] M (fun r M' => ∃ b, M b = none ∧ r = .sc (.sl (some (b, 0)) 0 n false 1) ∧ M' = M.set b (List.replicate n nil1)) := by
  refine VCall.plain fun R hR => v_slices_Grow_SSint_Sint rfl ?_
  have hn : ¬ (n : Int) < 0 := by omega
  have hn2 : (0 : Int) < n := by omega
  have hs1 : slcV 1 none (some (.int .i64 0)) none (.sc (.sl none 0 0 true 0)) = .some (.sc (.sl none 0 0 true 0)) := rfl
  have hc : capF (.sl none 0 0 true 0) = .some (.int .i64 0) := rfl
  have e1 : ((n : Int) - (0 - ((0 : Nat) : Int))) = n := by omega
  refine sS5 @hn @hc @hn2 @hs1 @e1 ?_
  refine ⟨by omega, by omega, by simp [mostCells]; omega, by simp [mostCells]; omega, ?_⟩
  have hcs : cellsS (0 * [AV.sl none 0 0 true 0].length) (.sc (.sl none 0 0 true 0)) M = .some [] := by simp [cellsS]
  rw [hcs]
  intro b hb
  have e2 : 0 + ((n : Int)).toNat = n := by omega
  have e3 : [AV.sl none 0 0 true 0].length = 1 := rfl
  have hs2 : slcV 1 none (some (.int .i64 ((0 : Nat) : Int))) none (.sc (.sl (some (b, 0)) n n false 1)) = .some (.sc (.sl (some (b, 0)) 0 n false 1)) := by
    rw [slc_hi (by omega) (by omega) (by omega)]; simp
  rw [e2, e3, List.nil_append, zeros_nil]
  refine sS1 @hs2 ?_
  exact hR _ _ ⟨b, hb, rfl, rfl⟩
theorem app_roomS {K : V → MH → Prop} {by_ b n c m : Nat} {L new : List V} {x : V} (hl : M b = .some L) (hx : lenS x = .some m) (hc : cellsS (m * 1) x M = .some new) (hm : 0 < m) (hn : n + m ≤ c) (ho : new.all oneV = true) (hL : n + m ≤ L.length)
    (hk : K (.sc (.sl (some (b, 0)) (n + m) c false 1)) (M.set b (setAtG L n new))) : appV 1 by_ (.sc (.sl (some (b, 0)) n c false 1)) x M K := by
  simp only [appV, hx, hc]
  refine ⟨M, new, .refl _ _, ?_⟩
  simp only [appW, hl, cells?_some]
  rw [if_neg (by omega), if_pos hn]
  exact ⟨trivial, ho, by omega, by simpa using hk⟩
theorem setAtG_app {l c : List V} {o : Nat} (h : o + c.length ≤ l.length) : setAtG l o c = l.take o ++ c ++ l.drop (o + c.length) := setAtG_mid c l o h
theorem t_Concat2 {va vb : V} {xs ys : List (List Int)} {b0 : Nat} (hm : M b0 = .some [va, vb]) (hx : LII va xs) (hy : LII vb ys) (h0 : 0 < xs.length) (h00 : 0 < ys.length) (h1 : xs.length + ys.length ≤ 1048576) :
    VCall Tryd.prog n_slices_Concat_SSint_Sint [.sc (.sl (some (b0, 0)) 2 2 true 1)] M (fun r M' => ∃ us, Gr 1 M M' r us ∧ Cs (fun ys u => LI u ys) us (xs ++ ys)) := by
  refine VCall.plain fun R hR => v_slices_Concat_SSint_Sint rfl ?_
  have hx1 := hx.one.1
  have hy1 := hy.one.1
  refine sS0 ?_
  refine loop_k (fun e M' => M' = M ∧ ∃ i : Nat, i ≤ 2 ∧ e 0 = .sc (.sl (some (b0, 0)) 2 2 true 1) ∧ e 3 = .sc (.int .i64 (if i = 0 then 0 else if i = 1 then xs.length else xs.length + ys.length : Nat)) ∧ e 9 = .sc (.sl (some (b0, 0)) 2 2 true 1) ∧ e 10 = .sc (.int .i64 2) ∧ e 11 = .sc (.int .i64 i)) (fun e _ => ctrV 2 (e 11)) ?_ ?_
  · exact ⟨rfl, 0, by omega, sT0, by refine sS0 ?_; rfl, sT0, by refine sS0 ?_; rfl, by refine sS0 ?_; rfl⟩
  · rintro e M1 ⟨rfl, i, hi, e0, e3, e9, e10, e11⟩ K hK
    refine sS5 @e0 @e3 @e9 @e10 @e11 ?_
    refine cond_dec (fun h => ?_) (fun h => ?_)
    · obtain rfl | rfl : i = 0 ∨ i = 1 := by omega
      · have hng : ¬ ((xs.length : Nat) : Int) < 0 := by omega
        have e1 : (((0 : Nat) : Int) + (xs.length : Int)) = xs.length := by omega
        refine sS9 @e0 @e3 @e9 @e10 @e11 @hm @hx.len @hng @e1 ?_
        exact hK _ _ ⟨rfl, 1, by omega, sT0, sT0, sT0, sT0, by refine sS0 ?_; rfl⟩ (by refine sS2 @ctrV_int @e11 ?_; omega)
      · have hng : ¬ ((xs.length : Int) + (ys.length : Int)) < 0 := by omega
        refine sS8 @e0 @e3 @e9 @e10 @e11 @hm @hy.len @hng ?_
        exact hK _ _ ⟨rfl, 2, by omega, sT0, by refine sS0 ?_; simp, sT0, sT0, by refine sS0 ?_; rfl⟩ (by refine sS2 @ctrV_int @e11 ?_; omega)
    · obtain rfl : i = 2 := by omega
      refine sS2 @e0 @e3 ?_
      refine (t_GrowSS (by omega) (by omega)).mono ?_
      rintro _ _ ⟨b, hb, rfl, rfl⟩
      have hcx : ∀ M : MH, cellsS (xs.length * 1) va M = .some (cellsL va xs.length) := fun M => (hx.cells (M := M)).1
      have hcy : ∀ M : MH, cellsS (ys.length * 1) vb M = .some (cellsL vb ys.length) := fun M => (hy.cells (M := M)).1
      obtain ⟨-, lx, px⟩ := hx.cells (M := M1)
      obtain ⟨-, ly, py⟩ := hy.cells (M := M1)
      have all1 : ∀ {v : V} {rows : List (List Int)} {l : List V}, l.length = rows.length → (∀ i (hi : i < rows.length), ∃ u, l[i]? = .some u ∧ LI u rows[i]) → l.all oneV = true := fun h1 h2 => List.all_eq_true.2 fun x hx => by
        obtain ⟨i, hi, rfl⟩ := List.getElem_of_mem hx
        obtain ⟨u, q1, q2⟩ := h2 i (by omega)
        rw [List.getElem?_eq_getElem hi] at q1
        cases q1
        exact q2.one.1
      have ax := all1 (v := va) lx px
      have ay := all1 (v := vb) ly py
      generalize cellsL va xs.length = X at *
      generalize cellsL vb ys.length = Y at *
      have nb : b ≠ b0 := fun e => by subst e; rw [hb] at hm; cases hm
      refine sS1 @e0 ?_
      refine loop_k (fun e' M' => ∃ (i : Nat) (L : List V), i ≤ 2 ∧ e' 6 = .sc (.sl (some (b, 0)) (if i = 0 then 0 else if i = 1 then xs.length else xs.length + ys.length) (xs.length + ys.length) false 1) ∧ e' 25 = .sc (.sl (some (b0, 0)) 2 2 true 1) ∧ e' 26 = .sc (.int .i64 2) ∧ e' 27 = .sc (.int .i64 i) ∧ M' = M1.set b L ∧ L = (if i = 0 then List.replicate (xs.length + ys.length) nil1 else if i = 1 then X ++ List.replicate ys.length nil1 else X ++ Y)) (fun e' _ => ctrV 2 (e' 27)) ?_ ?_
      · exact ⟨0, List.replicate (xs.length + ys.length) nil1, by omega, sT0, sT0, by refine sS0 ?_; rfl, by refine sS0 ?_; rfl, rfl, by simp⟩
      · rintro e' _ ⟨i, L, hi, f6, f25, f26, f27, rfl, hL⟩ K2 hK2
        have hm' : (M1.set b L) b0 = .some [va, vb] := by rw [set_ne (Ne.symm nb)]; exact hm
        refine sS4 @f6 @f25 @f26 @f27 ?_
        refine cond_dec (fun h => ?_) (fun h => ?_)
        · obtain rfl | rfl : i = 0 ∨ i = 1 := by omega
          · simp only [if_true] at hL f6
            refine sS6 @f6 @f25 @f26 @f27 @hm' @hx1 ?_
            refine app_roomS set_same hx.lenS (hcx _) h0 (by omega) ax (by rw [hL]; simp) ?_
            refine sS3 @f25 @f26 @f27 ?_
            refine hK2 _ _ ⟨1, X ++ List.replicate ys.length nil1, by omega, sT0, sT0, sT0, by refine sS0 ?_; rfl, ?_, by simp⟩ (by refine sS2 @ctrV_int @f27 ?_; omega)
            rw [hL, setAtG_app (by simp [lx])]
            simp [lx]
          · simp only [if_true, if_neg (show ¬ (1 : Nat) = 0 by omega)] at hL f6
            refine sS6 @f6 @f25 @f26 @f27 @hm' @hy1 ?_
            refine app_roomS set_same hy.lenS (hcy _) h00 (by omega) ay (by rw [hL]; simp [lx]) ?_
            refine sS3 @f25 @f26 @f27 ?_
            refine hK2 _ _ ⟨2, X ++ Y, by omega, by refine sS0 ?_; simp, sT0, sT0, by refine sS0 ?_; rfl, ?_, by simp⟩ (by refine sS2 @ctrV_int @f27 ?_; omega)
            rw [hL, setAtG_app (by simp [lx, ly]), List.drop_of_length_le (l := X ++ List.replicate ys.length nil1) (by simp [lx, ly]), List.append_nil, List.take_left' lx]
        · obtain rfl : i = 2 := by omega
          simp only [if_neg (show ¬ (2 : Nat) = 0 by omega), if_neg (show ¬ (2 : Nat) = 1 by omega)] at hL f6
          refine sS1 @f6 ?_
          subst hL
          refine hR _ _ ⟨X ++ Y, ⟨(Sub.refl _).set hb, fun q hq => by cases hq; exact hb, .inr ⟨b, _, false, rfl, set_same, by simp [lx, ly]⟩⟩, by simp [lx, ly], fun i hi => ?_⟩
          by_cases hlt : i < xs.length
          · obtain ⟨u, q1, q2⟩ := px i hlt
            exact ⟨u, by rw [List.getElem?_append_left (by omega)]; exact q1, by rw [List.getElem_append_left hlt]; exact q2⟩
          · obtain ⟨u, q1, q2⟩ := py (i - xs.length) (by simp at hi; omega)
            exact ⟨u, by rw [List.getElem?_append_right (by omega), lx]; exact q1, by rw [List.getElem_append_right (by omega)]; exact q2⟩
theorem t_CloneSS {v : V} {xs : List (List Int)} (hv : LII v xs) (hn : isNilF .sl (er v) = .some false) (hl : xs.length ≤ 1048576) : VCall Tryd.prog n_slices_Clone_SSint_Sint [v] M (fun r M' => ∃ us, Gr 1 M M' r us ∧ Cs (fun ys u => LI u ys) us xs) := by
  refine VCall.plain fun R hR => v_slices_Clone_SSint_Sint rfl ?_
  refine sS1 @hn ?_
  intro b0 hb0
  obtain ⟨h1, h2, h3⟩ := hv.cells (M := M.set b0 [])
  have ho : (cellsL v xs.length).all oneV = true := List.all_eq_true.2 fun x hx => by
    obtain ⟨i, hi, rfl⟩ := List.getElem_of_mem hx
    obtain ⟨u, q1, q2⟩ := h3 i (by omega)
    rw [List.getElem?_eq_getElem hi] at q1
    cases q1
    exact q2.one.1
  refine gr_appS (Gr.new' (Sub.refl _) hb0 rfl) (by omega) hv.lenS h1 (by omega) ho (by simp [mostCells]; omega) (by simp [mostCells]; omega) ?_
  intro s' M' hg _
  refine sS0 ?_
  exact hR _ _ ⟨_, hg, by simpa using h2, fun i hi => by simpa using h3 i hi⟩
end Go.M2

namespace Go.M2
open Go.Proofs
variable {M : MH}
theorem t_impSameGraphs {v w : V} {g g2 : GrS} {f : Int} (hv : isGr g v) (hw : isGr g2 w) (hz : GrSz g) (hz' : GrSz g2) (hnn : nnG v) :
    VCall Tryd.prog n_impl_SameGraphs [v, w, .sc (.int .i64 f)] M (fun r M' => M = M' ∧ r = .sc (.bool (smB g g2 f))) := by
  refine VCall.pure fun R hR => v_impl_SameGraphs rfl ?_
  have hv0 := hv
  have hw0 := hw
  obtain ⟨a, b, rfl, ha, hb⟩ := hv
  have hnb : isNilF .sl (er b) = .some false := by
    obtain ⟨_, _, _, e, h⟩ := hnn
    cases e; exact h
  obtain ⟨a', b', rfl, ha', hb'⟩ := hw
  have no : ¬ GtOk g g2 f → smB g g2 f = false := smB_false
  (repeat' (first | ((with_reducible first | refine cond_dec (fun h => ?_) (fun h => ?_) | refine guardK_dec (fun h => ?_) (fun h => ?_) | refine guardD3_dec (fun h => ?_) (fun h => ?_)) <;> first | (exfalso; omega) | (simp (maxSteps := 2000000) (disch := first | omega | assumption | exact idP rfl | exact idP (bL rfl)) only [go_sem, reduceIte, Nat.reduceEqDiff, wpV_kd, wpV_tH, h, ha.len, ha'.len]) | skip) | ((with_reducible first | refine cond_split (fun h => ?_) (fun h => ?_) | refine guardK_split (fun h => ?_) (fun h => ?_) | refine guardD3_split (fun h => ?_) (fun h => ?_)) <;> ((try simp only [Bool.not_eq_true', Bool.not_eq_false'] at h); first | (simp (maxSteps := 2000000) (disch := first | omega | assumption | exact idP rfl | exact idP (bL rfl)) only [go_sem, reduceIte, Nat.reduceEqDiff, wpV_kd, wpV_tH, h, ha.len, ha'.len]) | skip)) | ((with_reducible refine (t_impGraphValid hv0 hz).mono ?_); rintro _ _ ⟨rfl, rfl⟩) | ((with_reducible refine (t_impGraphValid hw0 hz').mono ?_); rintro _ _ ⟨rfl, rfl⟩) | (with_reducible intro bk hbk; try have hnk := (fresh_set hbk).1) | (simp (maxSteps := 2000000) (disch := first | omega | assumption | exact idP rfl | exact idP (bL rfl)) only [go_sem, reduceIte, Nat.reduceEqDiff, wpV_kd, wpV_tH, ha.len, ha'.len])))
  · exact hR _ _ (sB) (by rw [no fun k => by rw [grB_iff.2 k.1] at h; cases h])
  · exact hR _ _ (sB) (by rw [no fun k => by rw [grB_iff.2 k.2.1] at h; cases h])
  · exact hR _ _ (sB) (by rw [no fun k => by rw [wrap_in (by have := hz.l1; omega) (by have := hz.l1; have := hz'.l1; omega)] at h; have := k.2.2; omega])
  rename_i b3 hb3 hg1 hg2
  rw [wrap_in (by have := hz.l1; omega) (by have := hz.l1; have := hz'.l1; omega)] at h
  have ok : GtOk g g2 f := ⟨grB_iff.1 hg1, grB_iff.1 hg2, by omega⟩
  have hA := ok.al
  have hA1 := ok.1.al
  have hA2 := ok.2.1.al
  have hx1 : g.next.length = g.letters.length := hA1.nx.len
  have hx2 : g2.next.length = g2.letters.length := hA2.nx.len
  have n4' := hA2.n0
  have n4'' := hA1.n0
  have m3 : ((M.set b3 [a, V.sc (AV.int IntKind.i64 g.first), b]).set bk [a', V.sc (AV.int IntKind.i64 g2.first), b']) b3 = .some [a, V.sc (AV.int IntKind.i64 g.first), b] := by rw [set_ne (Ne.symm hnk), set_same]
  have m4 : ((M.set b3 [a, V.sc (AV.int IntKind.i64 g.first), b]).set bk [a', V.sc (AV.int IntKind.i64 g2.first), b']) bk = .some [a', V.sc (AV.int IntKind.i64 g2.first), b'] := set_same
  have hs0 : Sub M ((M.set b3 [a, V.sc (AV.int IntKind.i64 g.first), b]).set bk [a', V.sc (AV.int IntKind.i64 g2.first), b']) := sB
  generalize ((M.set b3 [a, V.sc (AV.int IntKind.i64 g.first), b]).set bk [a', V.sc (AV.int IntKind.i64 g2.first), b']) = M0 at *
  have a1 := ha.one.1
  have a2 := ha.one.2
  have a3 := ha'.one.1
  have a4 := ha'.one.2
  refine sS4 @a1 @a2 @a3 @a4 ?_
  intro b42 hb42
  have hs42 : Sub M0 (M0.set b42 (((List.map V.sc (zeros [AV.sl none 0 0 true 0] 2)).set 0 a).set 1 a')) := (Sub.refl M0).set hb42
  refine (t_Concat2 (va := a) (vb := a') (set_same) ha ha' (by omega) (by omega) (by omega)).mono ?_
  rintro vL M1 ⟨us, hgL, hcu⟩
  have m13 := hgL.sub _ _ (hs42 _ _ m3)
  refine sS1 @m13 ?_
  refine (t_CloneSS hb hnb (by omega)).mono ?_
  rintro vN M2 ⟨ws, hgN, hcw⟩
  have l1 := hgL.one.1
  have l2 := hgL.one.2
  have l3 := hgN.one.1
  have l4 := hgN.one.2
  refine sS4 @l1 @l2 @l3 @l4 ?_
  intro b8 hb8
  have hgL2 : Gr 1 M0 M2 vL us := (hgL.more hgN.sub).base hs42
  have hgN2 : Gr 1 M0 M2 vN ws := hgN.base (hs42.trans hgL.sub)
  have nes := hgL.ne hgN
  have q8 : ∀ {v : V} {l : List V}, Gr 1 M0 M2 v l → blkV v ≠ some b8 := fun hg e => by
    rcases hg.own with ⟨_, k, rfl⟩ | ⟨b', n, ex, rfl, h2, h3⟩
    · simp [blkV] at e
    · simp [blkV] at e; subst e; rw [hb8] at h2; cases h2
  have hb80 : M0 b8 = none := hgL2.sub.none hb8
  have hfo0 : Fo M0 (M2.set b8 [vL, .sc (.int .i64 0), vN]) b8 vL us vN ws 0 := ⟨set_same, hb80, hgL2.more ((Sub.refl _).set hb8), hgN2.more ((Sub.refl _).set hb8), q8 hgL2, q8 hgN2, fun b hb1 hb2 => nes b hb2 hb1⟩
  have m23 := hfo0.gl.sub _ _ m3
  have m24 := hfo0.gl.sub _ _ m4
  refine sS2 @m24 @hb'.len ?_
  have hus := hcu.1
  refine loop_k (fun e M' => ∃ (j : Nat) (vN : V) (ws : List V), j ≤ g2.next.length ∧ e 3 = .sc (.ptr (some (b3, 0))) ∧ e 4 = .sc (.ptr (some (bk, 0))) ∧ e 7 = .sc (.int .i64 g.letters.length) ∧ e 8 = .sc (.ptr (some (b8, 0))) ∧ e 49 = b' ∧ e 50 = .sc (.int .i64 g2.next.length) ∧ e 51 = .sc (.int .i64 j) ∧ Fo M0 M' b8 vL us vN ws 0 ∧ Cs (fun ys u => LI u ys) ws (g.next ++ (g2.next.take j).map fun row => row.map (· + (g.letters.length : Int)))) (fun e _ => ctrV g2.next.length (e 51)) ?_ ?_
  · exact ⟨0, vN, ws, by omega, sT0, sT0, sT0, sT0, sT0, sT0, by refine sS0 ?_; rfl, hfo0, by simpa using hcw⟩
  · rintro e M3 ⟨j, vN, ws, hj, f3, f4, f7, f8, f49, f50, f51, hfo, hcw⟩ K hK
    have m33 := hfo.gl.sub _ _ m3
    have m34 := hfo.gl.sub _ _ m4
    have hwl : ws.length = g.next.length + j := by have := hcw.1; simp at this; omega
    refine sS7 @f3 @f4 @f7 @f8 @f49 @f50 @f51 ?_
    refine cond_dec (fun hc => ?_) (fun hc => ?_)
    · have hj2 : j < g2.next.length := by omega
      have hn := hb'.elt hj2
      have hnl := hA2.ln _ (List.getElem_mem hj2)
      have hnb2 : ∀ x ∈ g2.next[j], 0 ≤ x ∧ x < (g2.letters.length : Int) := hA2.nx.in_ _ (List.getElem_mem hj2)
      refine sS9 @f3 @f4 @f7 @f8 @f49 @f50 @f51 @hb'.iaddr @hn.len ?_
      refine loop_k (fun e2 M' => ∃ k : Nat, k ≤ g2.next[j].length ∧ e2 3 = .sc (.ptr (some (b3, 0))) ∧ e2 4 = .sc (.ptr (some (bk, 0))) ∧ e2 7 = .sc (.int .i64 g.letters.length) ∧ e2 8 = .sc (.ptr (some (b8, 0))) ∧ e2 49 = b' ∧ e2 50 = .sc (.int .i64 g2.next.length) ∧ e2 51 = .sc (.int .i64 j) ∧ e2 55 = at1 b' j ∧ e2 56 = .sc (.int .i64 g2.next[j].length) ∧ e2 57 = .sc (.int .i64 k) ∧ Gr 1 M3 M' (e2 11) (((g2.next[j].take k).map (· + (g.letters.length : Int))).map vi)) (fun e2 _ => ctrV g2.next[j].length (e2 57)) ?_ ?_
      · refine ⟨0, by omega, sT0, sT0, sT0, sT0, sT0, sT0, sT0, sT0, sT0, by refine sS0 ?_; rfl, ?_⟩
        refine sS0 ?_
        exact .nil (Sub.refl _)
      · rintro e2 M4 ⟨k, hk, k3, k4, k7, k8, k49, k50, k51, k55, k56, k57, hgr⟩ K3 hK3
        simp (maxSteps := 2000000) (disch := first | omega | assumption | exact idP rfl | exact idP (bL rfl)) only [go_sem, reduceIte, Nat.reduceEqDiff, wpV_kd, wpV_tH, k3, k4, k7, k8, k49, k50, k51, k55, k56, k57]
        refine cond_dec (fun hd => ?_) (fun hd => ?_)
        · have hk1 : k < g2.next[j].length := by omega
          have hxk := hnb2 _ (List.getElem_mem hk1)
          simp (maxSteps := 2000000) (disch := first | omega | assumption | exact idP rfl | exact idP (bL rfl)) only [go_sem, reduceIte, Nat.reduceEqDiff, wpV_kd, wpV_tH, k3, k4, k7, k8, k49, k50, k51, k55, k56, k57, hn.iaddr, hn.at hk1]
          intro bt hbt
          refine app_int hgr hbt (by simp; omega) (by omega) ?_
          intro s' M5 hg4 _
          refine sS1 @k57 ?_
          refine hK3 _ _ ⟨k + 1, by omega, sT0, sT0, sT0, sT0, sT0, sT0, sT0, sT0, sT0, by refine sS0 ?_; rfl, ?_⟩ (by refine sS2 @ctrV_int @k57 ?_; omega)
          refine sS0 ?_
          rw [take_snoc hk1, List.map_append, List.map_singleton]
          exact hg4
        · obtain rfl : k = g2.next[j].length := by omega
          rw [List.take_length] at hgr
          have hfo3 := hfo.more hgr.sub
          have hbx := hfo3.bx
          have hne : ∀ b, blkV (e2 11) = .some b → M3 b = none := hgr.new
          have r6 : blkV (e2 11) ≠ some b8 := fun e => by have := hne _ e; rw [hfo.bx] at this; cases this
          have keyB : ∀ {v : V} {l : List V}, Gr 1 M0 M3 v l → ∀ b, blkV (e2 11) = .some b → blkV v ≠ some b := fun hgv b hb1 hb2 => by
            have q := hne b hb1
            rcases hgv.own with ⟨_, k, rfl⟩ | ⟨b', n, ex, rfl, h2, h3⟩
            · simp [blkV] at hb2
            · simp [blkV] at hb2; subst hb2; rw [q] at h2; cases h2
          have rL := keyB hfo.gl
          have rN := keyB hfo.gn
          have hgr0 : Gr 1 M0 _ (e2 11) _ := hgr.base hfo.gl.sub
          have hrone := hgr0.one
          simp (maxSteps := 2000000) (disch := first | omega | assumption | exact idP rfl | exact idP (bL rfl)) only [go_sem, reduceIte, Nat.reduceEqDiff, wpV_kd, wpV_tH, k3, k4, k7, k8, k49, k50, k51, hbx, hrone.1, hrone.2]
          intro bt2 hbt2
          refine hfo3.appNF hgr0 r6 rL rN hbt2 (by omega) (by omega) ?_
          intro s2 M5 u q2 hfo5 hfr
          have c2 := hfo5.gn.one.2
          have c3 := hfo5.gn.one.1
          refine sS4 @q2 @c2 @c3 @f51 ?_
          refine hK _ _ ⟨j + 1, _, _, by omega, sT0, sT0, sT0, sT0, sT0, sT0, by refine sS0 ?_; rfl, hfo5, ?_⟩ (by refine sS2 @ctrV_int @f51 ?_; omega)
          rw [take_snoc hj2, List.map_append, List.map_singleton, ← List.append_assoc]; exact hcw.snoc hfr.li
    · obtain rfl : j = g2.next.length := by omega
      rw [List.take_length] at hcw
      have hbx := hfo.bx
      refine sS5 @f3 @f4 @f7 @f8 @hbx ?_
      obtain ⟨vL', vN', Mf, fL, fN, sf, give⟩ := hfo.tr
      have hgb : isGr ⟨g.letters ++ g2.letters, 0, g.next ++ g2.next.map fun row => row.map (· + (g.letters.length : Int))⟩ (.agg [vL', .sc (.int .i64 0), vN']) := ⟨vL', vN', rfl, fL.lsC hcu, fN.lsC hcw⟩
      have hA0 : AlOk ⟨g.letters ++ g2.letters, 0, g.next ++ g2.next.map fun row => row.map (· + (g.letters.length : Int))⟩ := ⟨hA.n0, hA.lt, ⟨hA.nx.len, hA.nx.some_, hA.nx.in_⟩, hA.ln⟩
      refine give ((t_alike hgb hA0).mono ?_)
      rintro r M6 ⟨z, hz1, hgz⟩
      have hze : z = clsF (bothG g g2) := clsF_eq (g := bothG g g2) hz1
      have hcl := (clsF_cls hA).len
      have hbn : (bothG g g2).letters.length = g.letters.length + g2.letters.length := by simp [bothG]
      subst hze
      have m53 := hgz.sub _ _ (sf _ _ m3)
      have m54 := hgz.sub _ _ (sf _ _ m4)
      have p4' := ok.1.fs
      have p4'' := ok.2.1.fs
      have hA' : g.first.toNat < (clsF (bothG g g2)).length := by omega
      have hB' : g2.first.toNat + g.letters.length < (clsF (bothG g g2)).length := by omega
      have pa := hgz.at (by simp; omega)
      have p1 : iaddrV 1 r (.int .i64 g.first) = _ := hgz.own.iaddr (by omega) (by simp; omega)
      have p2 : iaddrV 1 r (.int .i64 (g2.first + (g.letters.length : Int))) = _ := hgz.own.iaddr (by omega) (by simp; omega)
      have e2 : (g2.first + (g.letters.length : Int)).toNat = g2.first.toNat + g.letters.length := by omega
      rw [e2] at p2
      have v1 := nth_vi hA'
      have v2 := nth_vi hB'
      refine sS7 @m53 @m54 @p1 @p2 @pa @v1 @v2 ?_
      refine hR _ _ (hs0.trans (sf.trans hgz.sub)) ?_
      rw [smB_eq ok]
      refine eqB ?_
      simp [List.getD, hA', hB']
end Go.M2

namespace Go.M2
open Go.Proofs
variable {M : MH}
theorem isSys.two {s : SysS} {v : V} (h : isSys s v) : ∃ a b, v = .agg [a, b] ∧ oneV a = true ∧ oneV b = true := by
  obtain ⟨a, b, rfl, ha, hb⟩ := h
  exact ⟨a, b, rfl, ha.one.1, hb.one.1⟩
end Go.M2

namespace Go.M2
open Go.Proofs
variable {M : MH}
end Go.M2

namespace Go.M2
open Go.Proofs
variable {M : MH}
structure SO (tab : List (List Int)) (N : Nat) (st : Nat → Prop) (f : Nat → Int) (row : List Int) : Prop where
  a : ∀ i, 0 ≤ f i → i < N ∧ f i = dst tab st i
  m : ∀ i, f i < 0 → f i = -1
  b : ∀ i, st i → 0 ≤ f i
  c : ∀ x ∈ row, 0 ≤ x ∧ 0 ≤ f x.toNat
  d : ∀ i : Nat, 0 ≤ f i → ¬ (i : Int) ∈ row → ∀ y ∈ tab.getD i [], 0 ≤ f y.toNat
  srt : row.Pairwise fun x y => f x.toNat ≤ f y.toNat
  up : ∀ x t, row = x :: t → ∀ z ∈ t, f z.toNat ≤ f x.toNat + 1
structure SI (tab : List (List Int)) (N : Nat) (st : Nat → Prop) (f : Nat → Int) (row : List Int) (n j : Nat) : Prop where
  a : ∀ i, 0 ≤ f i → i < N ∧ f i = dst tab st i
  m : ∀ i, f i < 0 → f i = -1
  b : ∀ i, st i → 0 ≤ f i
  c : ∀ x ∈ row, 0 ≤ x ∧ 0 ≤ f x.toNat
  d : ∀ i : Nat, 0 ≤ f i → ¬ (i : Int) ∈ row → i ≠ n → ∀ y ∈ tab.getD i [], 0 ≤ f y.toNat
  e : ∀ y ∈ (tab.getD n []).take j, 0 ≤ f y.toNat
  n_ : 0 ≤ f n
  srt : row.Pairwise fun x y => f x.toNat ≤ f y.toNat
  lo : ∀ z ∈ row, f n ≤ f z.toNat
  up : ∀ z ∈ row, f z.toNat ≤ f n + 1
section
variable {tab : List (List Int)} {N : Nat} {st : Nat → Prop} {f : Nat → Int} {row : List Int} {n j : Nat} {x : Int}
theorem SO.pop (h : SO tab N st f (x :: row)) : SI tab N st f row x.toNat 0 := by
  obtain ⟨hx0, hx1⟩ := h.c x (List.mem_cons_self ..)
  obtain ⟨s1, s2⟩ := List.pairwise_cons.1 h.srt
  refine ⟨h.a, h.m, h.b, fun y hy => h.c y (List.mem_cons_of_mem _ hy), fun i hi hr hn => h.d i hi fun hm => ?_, fun y hy => by simp at hy, hx1, s2, s1, h.up x row rfl⟩
  rcases List.mem_cons.1 hm with h1 | h1
  · omega
  · exact hr h1
theorem SI.done (h : SI tab N st f row n j) (hj : (tab.getD n []).length ≤ j) : SO tab N st f row := by
  refine ⟨h.a, h.m, h.b, h.c, fun i hi hr => ?_, h.srt, fun y t ht z hz => ?_⟩
  · by_cases e : i = n
    · subst e
      have := h.e
      rwa [List.take_of_length_le hj] at this
    · exact h.d i hi hr e
  · have h1 := h.up z (by rw [ht]; exact List.mem_cons_of_mem _ hz)
    have h2 := h.lo y (by rw [ht]; exact List.mem_cons_self ..)
    omega
theorem SI.skip (h : SI tab N st f row n j) (hj : j < (tab.getD n []).length) (hm : 0 ≤ f (tab.getD n [])[j].toNat) : SI tab N st f row n (j + 1) := by
  refine ⟨h.a, h.m, h.b, h.c, h.d, fun y hy => ?_, h.n_, h.srt, h.lo, h.up⟩
  rw [take_snoc hj, List.mem_append, List.mem_singleton] at hy
  rcases hy with h1 | rfl
  · exact h.e y h1
  · exact hm
theorem SI.near (h : SI tab N st f row n j) : ∀ (k : Nat) (i : Nat), dst tab st i = (k : Int) → (k : Int) ≤ f n → 0 ≤ f i := by
  intro k
  induction k with
  | zero => exact fun i hi _ => h.b i (dst_zero.1 hi)
  | succ k ih =>
    intro i hi hk
    obtain ⟨p, y, hp, hy, rfl⟩ := dst_pred hi
    have h1 := ih p hp (by omega)
    have h2 := (h.a p h1).2
    exact h.d p h1 (fun hr => by have := h.lo _ hr; simp only [Int.toNat_natCast] at this; omega) (fun e => by subst e; omega) y hy
theorem SI.push (h : SI tab N st f row n j) (hj : j < (tab.getD n []).length) (h0 : 0 ≤ (tab.getD n [])[j]) (hN : (tab.getD n [])[j].toNat < N) (hneg : f (tab.getD n [])[j].toNat < 0) :
    SI tab N st (fun i => if i = (tab.getD n [])[j].toNat then f n + 1 else f i) (row ++ [(tab.getD n [])[j]]) n (j + 1) := by
  generalize hy : (tab.getD n [])[j] = y at *
  have hmem : y ∈ tab.getD n [] := by rw [← hy]; exact List.getElem_mem hj
  obtain ⟨hn1, hn2⟩ := h.a n h.n_
  obtain ⟨d, hd⟩ : ∃ d : Nat, f n = (d : Int) := ⟨(f n).toNat, by have := h.n_; omega⟩
  have hdn : dst tab st n = (d : Int) := by omega
  have hnx := dst_next hdn hmem
  have hdy : dst tab st y.toNat = f n + 1 := by
    by_cases hle : dst tab st y.toNat ≤ f n
    · have := h.near (dst tab st y.toNat).toNat y.toNat (by omega) (by omega)
      omega
    · omega
  have hny : n ≠ y.toNat := fun e => by have := h.n_; rw [e] at this; omega
  have hry : ∀ z ∈ row, z.toNat ≠ y.toNat := fun z hz e => by have := (h.c z hz).2; rw [e] at this; omega
  have hnn := h.n_
  have up : ∀ i, 0 ≤ f i → 0 ≤ (if i = y.toNat then f n + 1 else f i) := fun i hi => by split <;> omega
  have en : (if n = y.toNat then f n + 1 else f n) = f n := if_neg hny
  refine ⟨fun i hi => ?_, fun i hi => ?_, fun i hi => up i (h.b i hi), fun z hz => ?_, fun i hi hr hn z hz => ?_, fun z hz => ?_, up n h.n_, ?_, fun z hz => ?_, fun z hz => ?_⟩
  · by_cases e : i = y.toNat
    · subst e; rw [if_pos rfl]; exact ⟨hN, hdy.symm⟩
    · rw [if_neg e] at hi ⊢; exact h.a i hi
  · by_cases e : i = y.toNat
    · simp only [if_pos e] at hi; omega
    · simp only [if_neg e] at hi ⊢; exact h.m i hi
  · rcases List.mem_append.1 hz with h1 | h1
    · exact ⟨(h.c z h1).1, up _ (h.c z h1).2⟩
    · rw [List.mem_singleton] at h1
      subst h1
      exact ⟨h0, by simp only [if_true]; omega⟩
  · by_cases e : i = y.toNat
    · exact absurd (List.mem_append_right _ (List.mem_singleton.2 (by omega))) hr
    · simp only [if_neg e] at hi
      exact up _ (h.d i hi (fun hm => hr (List.mem_append_left _ hm)) hn z hz)
  · rw [take_snoc hj, List.mem_append, List.mem_singleton, hy] at hz
    rcases hz with h1 | rfl
    · exact up _ (h.e z h1)
    · simp only [if_true]; omega
  · rw [List.pairwise_append]
    refine ⟨h.srt.imp_of_mem fun {p q} hp hq hpq => ?_, List.pairwise_singleton .., fun p hp q hq => ?_⟩
    · simp only [if_neg (hry p hp), if_neg (hry q hq)]; exact hpq
    · rw [List.mem_singleton] at hq
      subst hq
      simp only [if_neg (hry p hp), if_true]
      exact h.up p hp
  · simp only [en]
    rcases List.mem_append.1 hz with h1 | h1
    · simp only [if_neg (hry z h1)]; exact h.lo z h1
    · rw [List.mem_singleton] at h1; subst h1; simp only [if_true]; omega
  · simp only [en]
    rcases List.mem_append.1 hz with h1 | h1
    · simp only [if_neg (hry z h1)]; exact h.up z h1
    · rw [List.mem_singleton] at h1; subst h1; simp only [if_true]; omega
theorem SO.final (h : SO tab N st f []) (i : Nat) : f i = dst tab st i := by
  have all : ∀ i, Rch tab st i → 0 ≤ f i := fun i hi => by
    induction hi with
    | base h1 => exact h.b _ h1
    | step _ hx ih => exact h.d _ ih (by simp) _ hx
  by_cases hi : 0 ≤ f i
  · exact (h.a i hi).2
  · have h1 := h.m i (by omega)
    have h2 := dst_ge tab st i
    have h3 : ¬ 0 ≤ dst tab st i := fun h4 => hi (all i (dst_rch.1 h4))
    omega
end
end Go.M2

namespace Go.M2
open Go.Proofs
variable {M : MH}
end Go.M2

namespace Go.M2
open Go.Proofs
variable {M : MH}
theorem Mem.snoc1 {M0 M : MH} {b : Nat} {l : List V} {fp : List (Nat × List V)} (h : Mem M0 M fp) (hb : M0 b = none) (hm : M b = .some l) (hn : ∀ p ∈ fp, p.1 ≠ b) : Mem M0 M (fp ++ [(b, l)]) := by
  refine ⟨h.sub, fun p hp => ?_, ?_, fun p hp => ?_⟩
  · rcases List.mem_append.1 hp with h1 | h1
    · exact h.new p h1
    · rw [List.mem_singleton] at h1; subst h1; exact hb
  · unfold Nd2
    rw [List.map_append, List.nodup_append]
    refine ⟨h.nd, by simp, fun a ha c hc e => ?_⟩
    obtain ⟨p, hp, rfl⟩ := List.mem_map.1 ha
    simp at hc
    exact hn p hp (by rw [e, hc])
  · rcases List.mem_append.1 hp with h1 | h1
    · exact h.at_ p h1
    · rw [List.mem_singleton] at h1; subst h1; exact hm
structure PT (M M' : MH) (b3 N : Nat) (us : List V) (mm : Nat → Int → Prop) (bd : Nat) : Prop where
  at3 : M' b3 = .some us
  len : us.length = N
  sub : Sub M M'
  new : M b3 = none
  rows : ∀ (k : Nat) (u : V), us[k]? = .some u → blkV u ≠ some b3 ∧ ∃ ys : List Int, Gr 1 M M' u (ys.map vi) ∧ ys.length ≤ bd ∧ ∀ x, x ∈ ys ↔ mm k x
  dis : ∀ (k k' : Nat) (u u' : V), us[k]? = .some u → us[k']? = .some u' → k ≠ k' → ∀ b, blkV u = .some b → blkV u' ≠ some b
theorem PT.push {M1 M2 : MH} {b3 N k0 : Nat} {us : List V} {mm mm' : Nat → Int → Prop} {bd : Nat} {u s' : V} {ys : List Int} {x : Int} (h : PT M M1 b3 N us mm bd) (hu : us[k0]? = .some u) (hys : ys.length ≤ bd) (hym : ∀ z, z ∈ ys ↔ mm k0 z)
    (hg : Gr 1 M M2 s' ((ys ++ [x]).map vi)) (ho : Oth M1 M2 u s') (h0 : ∀ z, mm' k0 z ↔ (mm k0 z ∨ z = x)) (h1 : ∀ k z, k ≠ k0 → (mm' k z ↔ mm k z)) :
    PT M (M2.set b3 (us.set k0 s')) b3 N (us.set k0 s') mm' (bd + 1) := by
  obtain ⟨o1, o2⟩ := ho b3 us h.at3 (h.rows k0 u hu).1
  have hk0 : k0 < us.length := (List.getElem?_eq_some_iff.1 hu).1
  refine ⟨set_same, by rw [List.length_set]; exact h.len, hg.sub.set h.new, h.new, fun k w hw => ?_, fun k k' w w' hw hw' hk => ?_⟩
  · by_cases e : k = k0
    · subst e
      rw [List.getElem?_set_self hk0] at hw
      cases hw
      refine ⟨o2, ys ++ [x], hg.setN h.new o2, by simp; omega, fun z => ?_⟩
      rw [List.mem_append, List.mem_singleton, hym, h0]
    · rw [List.getElem?_set_ne (fun e' => e e'.symm)] at hw
      obtain ⟨q1, zs, q2, q3, q4⟩ := h.rows k w hw
      obtain ⟨r1, r2⟩ := q2.oth (sz' := 1) ho (h.dis k k0 w u hw hu e) hg.sub
      exact ⟨q1, zs, r1.setN h.new q1, by omega, fun z => by rw [q4, h1 k z e]⟩
  · have key : ∀ (j : Nat) (v : V), us[j]? = .some v → j ≠ k0 → (∀ b, blkV v = .some b → blkV s' ≠ some b) := fun j v hv hj => by
      obtain ⟨q1, zs, q2, q3, q4⟩ := h.rows j v hv
      exact (q2.oth (sz' := 1) ho (h.dis j k0 v u hv hu hj) hg.sub).2
    by_cases e : k = k0
    · subst e
      rw [List.getElem?_set_self hk0] at hw
      cases hw
      rw [List.getElem?_set_ne (fun e' => hk e')] at hw'
      intro b hb hb'
      exact key k' w' hw' (fun e' => hk e'.symm) b hb' hb
    · rw [List.getElem?_set_ne (fun e' => e e'.symm)] at hw
      by_cases e2 : k' = k0
      · subst e2
        rw [List.getElem?_set_self hk0] at hw'
        cases hw'
        exact key k w hw e
      · rw [List.getElem?_set_ne (fun e' => e2 e'.symm)] at hw'
        exact h.dis k k' w w' hw hw' hk
theorem PT.tree {M1 : MH} {b3 N : Nat} {us : List V} {mm : Nat → Int → Prop} {bd : Nat} (h : PT M M1 b3 N us mm bd) : ∀ i, i ≤ N → ∃ us' fp tab', Tr (us.take i) us' fp ∧ Mem M M1 fp ∧ flatL (us.take i) ∧ (∀ q ∈ fp, flatL q.2) ∧ (∀ p ∈ fp, ∃ k u, k < i ∧ us[k]? = .some u ∧ blkV u = .some p.1) ∧ tab'.length = i ∧ Cs isL us' tab' ∧ ∀ k (hk : k < tab'.length), tab'[k].length ≤ bd ∧ ∀ x, x ∈ tab'[k] ↔ mm k x
  | 0, _ => ⟨[], [], [], .nil, .nil h.sub, by simp [flatL], fun q hq => (by cases hq), fun q hq => (by cases hq), rfl, .nil, fun k hk => (by simp at hk)⟩
  | i + 1, hi => by
    obtain ⟨us', fp, tab', t1, t2, t3, t4, t5, t6, t7, t8⟩ := PT.tree h i (by omega)
    have hiu : i < us.length := by rw [h.len]; omega
    obtain ⟨q1, ys, q2, q3, q4⟩ := h.rows i us[i] (List.getElem?_eq_getElem hiu)
    have hfl : flatL (us.take (i + 1)) := by
      rw [take_one hiu]
      exact flatL_all.2 fun w hw => by
        rcases List.mem_append.1 hw with h1 | h1
        · exact flatL_all.1 t3 w h1
        · rw [List.mem_singleton] at h1; subst h1; exact q2.own.flat
    have props : ∀ k (hk : k < (tab' ++ [ys]).length), (tab' ++ [ys])[k].length ≤ bd ∧ ∀ x, x ∈ (tab' ++ [ys])[k] ↔ mm k x := fun k hk => by
      by_cases e : k < tab'.length
      · rw [List.getElem_append_left e]; exact t8 k e
      · have hk2 : k = i := by simp at hk; omega
        subst hk2
        have hkt : tab'.length = k := t6
        simp only [List.getElem_append_right (show tab'.length ≤ k by omega), hkt, Nat.sub_self, List.getElem_cons_zero]
        exact ⟨q3, q4⟩
    have old : ∀ p ∈ fp, ∃ k u, k < i + 1 ∧ us[k]? = .some u ∧ blkV u = .some p.1 := fun p hp => by
      obtain ⟨k, u, h1, h2, h3⟩ := t5 p hp
      exact ⟨k, u, by omega, h2, h3⟩
    rcases q2.own with ⟨hy, kk, hu⟩ | ⟨b, n, ex, hu, hm, hl⟩
    · have hy0 : ys = [] := by simpa using hy
      refine ⟨us' ++ [us[i]], fp ++ [], tab' ++ [ys], ?_, by rw [List.append_nil]; exact t2, hfl, by rw [List.append_nil]; exact t4, by rw [List.append_nil]; exact old, by simp [t6], t7.snoc ?_, props⟩
      · rw [take_one hiu]; exact t1.append (.keep _ .nil)
      · rw [hu, hy0]; exact .inl ⟨rfl, kk, rfl⟩
    · have hne : ∀ p ∈ fp, p.1 ≠ b := fun p hp e => by
        obtain ⟨k, u, h1, h2, h3⟩ := t5 p hp
        exact h.dis k i u us[i] h2 (List.getElem?_eq_getElem hiu) (by omega) p.1 h3 (by rw [hu, e]; rfl)
      refine ⟨us' ++ [.fs (some (b, 0)) n n ex 1 ((ys.map vi).drop 0)], fp ++ ((b, ys.map vi) :: ([] ++ [])), tab' ++ [ys], ?_, by simpa using t2.snoc1 (q2.new b (by rw [hu]; rfl)) hm hne, hfl, fun q hq => ?_, fun p hp => ?_, by simp [t6], t7.snoc ?_, props⟩
      · rw [take_one hiu, hu]; exact t1.append (.sl (.refl _) .nil)
      · rcases List.mem_append.1 hq with h1 | h1
        · exact t4 q h1
        · simp at h1; subst h1; exact flatL_vi ys
      · rcases List.mem_append.1 hp with h1 | h1
        · exact old p h1
        · simp at h1; subst h1
          exact ⟨i, us[i], by omega, List.getElem?_eq_getElem hiu, by rw [hu]; rfl⟩
      · exact Fr.li (.inr ⟨_, _, _, _, _, by rw [List.drop_zero], by simpa using hl⟩)
end Go.M2

namespace Go.M2
open Go.Proofs
variable {M : MH}
theorem PT.conv {M1 : MH} {b3 N : Nat} {us : List V} {mm mm' : Nat → Int → Prop} {bd bd' : Nat} (h : PT M M1 b3 N us mm bd) (hb : bd ≤ bd') (hm : ∀ k z, mm' k z ↔ mm k z) : PT M M1 b3 N us mm' bd' :=
  ⟨h.at3, h.len, h.sub, h.new, fun k u hu => by
    obtain ⟨q1, ys, q2, q3, q4⟩ := h.rows k u hu
    exact ⟨q1, ys, q2, by omega, fun x => by rw [q4, hm]⟩, h.dis⟩
end Go.M2

namespace Go.M2
open Go.Proofs
variable {M : MH}
end Go.M2

namespace Go.M2
open Go.Proofs
variable {M : MH}
end Go.M2

namespace Go.M2
open Go.Proofs
variable {M : MH}
theorem t_wcInts {v w : V} {xs ys : List Int} (hv : LI v xs) (hw : LI w ys) (hl : xs.length ≤ 1048576) : VCall Tryd.prog n_laws_wcInts [v, w] M (fun r M' => M = M' ∧ r = .sc (.bool (decide (xs = ys)))) := by
  refine VCall.pure fun R hR => v_laws_wcInts rfl ?_
  refine sS2 @hv.len @hw.len ?_
  refine cond_dec (fun h => ?_) (fun h => ?_)
  · refine sS0 ?_
    refine hR _ _ (Sub.refl _) (by rw [decide_eq_false]; intro e; rw [e] at h; exact h rfl)
  · have hlen : xs.length = ys.length := by omega
    refine sS1 @hv.len ?_
    refine loop_k (fun e M' => M' = M ∧ ∃ i : Nat, i ≤ xs.length ∧ e 1 = w ∧ e 12 = v ∧ e 13 = .sc (.int .i64 xs.length) ∧ e 14 = .sc (.int .i64 (i : Int)) ∧ ∀ j (h1 : j < xs.length) (h2 : j < ys.length), j < i → xs[j] = ys[j]) (fun e _ => ctrV xs.length (e 14)) ?_ ?_
    · exact ⟨rfl, 0, by omega, sE0, sE0, sE0, sE0, fun j _ _ h => by omega⟩
    · rintro e _ ⟨rfl, i, hi, q1, q12, q13, q14, hj⟩ K hK
      refine sS4 @q1 @q12 @q13 @q14 ?_
      refine cond_dec (fun h2 => ?_) (fun h2 => ?_)
      · have hi' : i < xs.length := by omega
        have hi2 : i < ys.length := by omega
        simp (maxSteps := 2000000) (disch := first | omega | assumption | exact idP rfl | exact idP (bL rfl)) only [go_sem, reduceIte, Nat.reduceEqDiff, wpV_kd, wpV_tH, q1, q12, q13, q14, hv.iaddr, hv.at hi', hw.iaddr, hw.at hi2]
        refine cond_dec (fun h3 => ?_) (fun h3 => ?_)
        · refine sS0 ?_
          refine hR _ _ (Sub.refl _) (by rw [decide_eq_false]; intro e; subst e; exact h3 rfl)
        · refine sS4 @q1 @q12 @q13 @q14 ?_
          refine hK _ _ ⟨rfl, i + 1, by omega, sE0, sE0, sE0, sE0, fun j h4 h5 h6 => ?_⟩ (by refine sS2 @ctrV_int @q14 ?_; omega)
          by_cases e : j = i
          · subst e; omega
          · exact hj j h4 h5 (by omega)
      · refine sS0 ?_
        refine hR _ _ (Sub.refl _) (by rw [decide_eq_true]; exact List.ext_getElem hlen fun j h4 h5 => hj j h4 h5 (by omega))
end Go.M2

namespace Go.M2
open Go.Proofs
variable {M : MH}
inductive Bk (tab : List (List Int)) (st : Nat → Prop) : Nat → Prop
  | base {i : Nat} : st i → Bk tab st i
  | step {i : Nat} {x : Int} : x ∈ tab.getD i [] → Bk tab st x.toNat → Bk tab st i
section
variable {tab tab' : List (List Int)} {st : Nat → Prop} {i : Nat}
theorem Rch.trans {a b c : Nat} (h1 : Rch tab (fun i => i = a) b) (h2 : Rch tab (fun i => i = b) c) : Rch tab (fun i => i = a) c := by
  induction h2 with
  | base h => rw [h]; exact h1
  | step _ hx ih => exact .step ih hx
end
end Go.M2

namespace Go.M2
open Go.Proofs
variable {M : MH}
theorem Rch.none {tab : List (List Int)} {st : Nat → Prop} (h : ∀ i, ¬ st i) {i : Nat} : ¬ Rch tab st i := fun hr => by
  induction hr with
  | base h1 => exact h _ h1
  | step _ _ ih => exact ih
end Go.M2

namespace Go.M2
open Go.Proofs
variable {M : MH}
theorem fgF_eq {g : GrS} {f : Int} (h : GrOk g f) : fgF g f = foldF g (clsF g) := by unfold fgF; rw [if_pos (grB_iff.2 h)]
theorem fgF_none {g : GrS} {f : Int} (h : ¬ GrOk g f) : fgF g f = ⟨[], 0, []⟩ := by unfold fgF; rw [grB_false h]; rfl
theorem foldF_grOk {g : GrS} {f : Int} (h : GrOk g f) : GrOk (foldF g (clsF g)) f ∧ 1 ≤ (foldF g (clsF g)).next.length ∧ (foldF g (clsF g)).letters.length ≤ g.letters.length := by
  have hA := h.al
  have hcl := clsF_cls hA
  have hpl := hcl.len
  have hn := hA.n0
  have hfs := h.fs
  have hrl : (repsL (clsF g)).length ≤ g.letters.length := by rw [← hpl]; exact RL_le
  have hat := atF_lt hcl (i := g.first.toNat) (by omega)
  have hok := foldF_ok (g := g) hA.nx hcl
  have hl := foldF_len (g := g) (r := clsF g)
  have hnl := hok.len
  have lt : ∀ r ∈ (foldF g (clsF g)).letters, LetOk f r := fun r hr => by
    obtain ⟨n, hn2, rfl⟩ := List.mem_map.1 hr
    have hlt : n < g.letters.length := by rw [← hpl]; exact List.mem_range.1 (List.mem_filter.1 hn2).1
    rw [show g.letters.getD n [] = g.letters[n] by simp [List.getD, hlt]]
    exact h.lt _ (List.getElem_mem hlt)
  have nx : ∀ r ∈ (foldF g (clsF g)).next, r ≠ [] ∧ SetOk (foldF g (clsF g)).letters.length r := fun r hr => by
    refine ⟨hok.some_ r hr, ?_⟩
    obtain ⟨n, hn2, rfl⟩ := List.mem_map.1 hr
    rw [hl, ← selL_ascL]
    exact selL_ok _
  refine ⟨⟨h.f0, by rw [hl]; omega, hnl, ?_, lt, nx⟩, by omega, by omega⟩
  rw [hl]
  show 0 ≤ (atF (clsF g) g.first.toNat : Int) ∧ (atF (clsF g) g.first.toNat : Int) ≤ _
  omega
theorem foldF_al {g : GrS} {f : Int} (h : GrOk g f) : alF (foldF g (clsF g)) f = (List.range (foldF g (clsF g)).letters.length).map fun (k : Nat) => (k : Int) := by
  have h2 := (foldF_grOk h).1
  have hA := h.al
  have hA2 := h2.al
  have hcl2 := (clsF_cls hA2).len
  have hd := foldF_discrete (g := g) hA.nx (clsF_spec hA) (clsF_spec hA2)
  unfold alF
  rw [if_pos (grB_iff.2 h2)]
  apply List.ext_getElem
  · rw [hcl2]; simp
  · intro i h3 h4
    have h5 := hd i (by rw [hcl2, foldF_len] at h3; exact h3)
    have : (clsF (foldF g (clsF g))).getD i 0 = (clsF (foldF g (clsF g)))[i] := by simp [List.getD, h3]
    rw [this] at h5
    rw [h5]; simp
theorem foldF_smB {g : GrS} {f : Int} (h : GrOk g f) (hl : g.letters.length ≤ 200) : smB g (foldF g (clsF g)) f = true := by
  obtain ⟨h2, h3, h4⟩ := foldF_grOk h
  have hg : GtOk g (foldF g (clsF g)) f := ⟨h, h2, by omega⟩
  have hfs := h.fs
  rw [smB_eq hg, decide_eq_true_iff]
  have := foldF_same (g := g) h.al.nx hfs.1 (by omega) (clsF_spec h.al) (clsF_spec hg.al)
  rw [this, Nat.add_comm]
theorem law_Folded {v : V} {xs : List Int} (hv : XU v xs) (hx : LenOk xs) (hc : CapOk v) :
    VCall Tryd.prog n_laws_FnFolded [v] M (fun r M' => M = M' ∧ r = .sc (.bool true)) := by
  refine VCall.pure fun R hR => v_laws_FnFolded rfl ?_
  unfold LenOk at hx
  have hlen := hv.len fun _ _ h => h.len
  (repeat' (first | ((with_reducible first | refine cond_dec (fun h => ?_) (fun h => ?_) | refine guardK_dec (fun h => ?_) (fun h => ?_) | refine guardD3_dec (fun h => ?_) (fun h => ?_)) <;> first | (exfalso; omega) | (simp (maxSteps := 2000000) (disch := first | omega | assumption | exact idP rfl | exact idP (bL rfl)) only [go_sem, reduceIte, Nat.reduceEqDiff, wpV_kd, wpV_tH, h, hlen]) | skip) | ((with_reducible first | refine cond_split (fun h => ?_) (fun h => ?_) | refine guardK_split (fun h => ?_) (fun h => ?_) | refine guardD3_split (fun h => ?_) (fun h => ?_)) <;> ((try simp only [Bool.not_eq_true', Bool.not_eq_false'] at h); first | (simp (maxSteps := 2000000) (disch := first | omega | assumption | exact idP rfl | exact idP (bL rfl)) only [go_sem, reduceIte, Nat.reduceEqDiff, wpV_kd, wpV_tH, h, hlen]) | skip)) | (with_reducible intro bk hbk; try have hnk := (fresh_set hbk).1) | (simp (maxSteps := 2000000) (disch := first | omega | assumption | exact idP rfl | exact idP (bL rfl)) only [go_sem, reduceIte, Nat.reduceEqDiff, wpV_kd, wpV_tH, hlen])))
  · exact hR _ _ (sB) rfl
  · refine (t_DrawFoldedGraph hv hc (by omega)).mono ?_
    rintro _ _ ⟨rfl, gv, g, f, rfl, hg, hnn, hd⟩
    have hz := hd.sz (by omega)
    have hg0 := hg
    obtain ⟨x, y, rfl, hgx, hgy⟩ := hg
    have o1 := hgx.one.1
    have o2 := hgx.one.2
    have o3 := hgy.one.1
    have o4 := hgy.one.2
    refine sS4 @o1 @o2 @o3 @o4 ?_
    intro b3 hb3
    have hs3 : Sub M (M.set b3 [x, V.sc (AV.int IntKind.i64 g.first), y]) := (Sub.refl _).set' hb3
    have m3 : (M.set b3 [x, V.sc (AV.int IntKind.i64 g.first), y]) b3 = .some [x, V.sc (AV.int IntKind.i64 g.first), y] := set_same
    generalize M.set b3 [x, V.sc (AV.int IntKind.i64 g.first), y] = M3 at *
    refine (VCall.frT (o_impFolded hg0 hz)).mono ?_
    rintro fv _ ⟨rfl, hf⟩
    have hf0 := hf
    have hzf := fgF_sz (g := g) (f := f)
    obtain ⟨fx, fy, rfl, hfx, hfy⟩ := hf
    have p1 := hfx.one.1
    have p2 := hfx.one.2
    have p3 := hfy.one.1
    have p4 := hfy.one.2
    refine sS4 @p1 @p2 @p3 @p4 ?_
    intro b5 hb5
    have s5 : Sub M3 (M3.set b5 [fx, V.sc (AV.int IntKind.i64 (fgF g f).first), fy]) := (Sub.refl _).set' hb5
    have m5 : (M3.set b5 [fx, V.sc (AV.int IntKind.i64 (fgF g f).first), fy]) b5 = .some [fx, V.sc (AV.int IntKind.i64 (fgF g f).first), fy] := set_same
    have m35 := s5 _ _ m3
    have hs5 := hs3.trans s5
    generalize M3.set b5 [fx, V.sc (AV.int IntKind.i64 (fgF g f).first), fy] = M5 at *
    refine sS1 @m35 ?_
    refine (t_specFoldedGraph hg0 hz).mono ?_
    rintro wv _ ⟨rfl, hw⟩
    obtain ⟨wx, wy, rfl, hwx, hwy⟩ := hw
    have q1 := hwx.one.1
    have q2 := hwx.one.2
    have q3 := hwy.one.1
    have q4 := hwy.one.2
    refine sS4 @q1 @q2 @q3 @q4 ?_
    intro b6 hb6
    have s6 : Sub M5 (M5.set b6 [wx, V.sc (AV.int IntKind.i64 (fgF g f).first), wy]) := (Sub.refl _).set' hb6
    have m6 : (M5.set b6 [wx, V.sc (AV.int IntKind.i64 (fgF g f).first), wy]) b6 = .some [wx, V.sc (AV.int IntKind.i64 (fgF g f).first), wy] := set_same
    have m36 := s6 _ _ m35
    have m56 := s6 _ _ m5
    have hs6 := hs5.trans s6
    generalize M5.set b6 [wx, V.sc (AV.int IntKind.i64 (fgF g f).first), wy] = M6 at *
    have hbb : ∀ q : Bool, (!(q == q)) = false := fun q => by simp
    have dn : decide (¬ ((fgF g f).next.length : Int) = ((fgF g f).next.length : Int)) = false := decide_eq_false (fun k => k rfl)
    refine sS6 @m36 @m56 @m6 @hfy.len @hwy.len @dn ?_
    refine (t_impGraphValid hg0 hz).mono ?_
    rintro _ _ ⟨rfl, rfl⟩
    refine sS3 @m36 @m56 @m6 ?_
    refine (t_specGraphValid hg0 hz).mono ?_
    rintro _ _ ⟨rfl, rfl⟩
    by_cases hG : GrOk g f
    · have hfe := fgF_eq hG
      obtain ⟨hF, hF1, hF2⟩ := foldF_grOk hG
      have hal := foldF_al hG
      have hga := hd.l1
      have hsm := foldF_smB hG (by omega)
      rw [← hfe] at hF hF1 hF2 hal hsm
      have d0 : decide (((fgF g f).next.length : Int) = 0) = false := decide_eq_false (by omega)
      have hFn : (fgF g f).next.length = (fgF g f).letters.length := hF.nn
      refine sS6 @hbb @m36 @m56 @m6 @hfy.len @d0 ?_
      refine (VCall.frT (o_impAlikeIn hf0 hzf)).mono ?_
      rintro cl _ ⟨rfl, hcl⟩
      rw [hal] at hcl
      have hcln := hcl.len
      rw [List.length_map, List.length_range] at hcln
      refine sS1 @hcln ?_
      refine loop_k (fun e M' => M6 = M' ∧ ∃ i : Nat, i ≤ (fgF g f).letters.length ∧ e 3 = .sc (.ptr (some (b3, 0))) ∧ e 4 = .sc (.int .i64 f) ∧ e 5 = .sc (.ptr (some (b5, 0))) ∧ e 6 = .sc (.ptr (some (b6, 0))) ∧ e 49 = cl ∧ e 50 = .sc (.int .i64 (fgF g f).letters.length) ∧ e 51 = .sc (.int .i64 i)) (fun e _ => ctrV (fgF g f).letters.length (e 51)) ?_ ?_
      · exact ⟨rfl, 0, by omega, sT0, sT0, sT0, sT0, sT0, sT0, by refine sS0 ?_; rfl⟩
      · rintro e _ ⟨rfl, i, hi, e3, e4, e5, e6, e49, e50, e51⟩ K hK
        refine sS2 @e50 @e51 ?_
        refine cond_dec (fun hc => ?_) (fun hc => ?_)
        · have hi2 : i < ((List.range (fgF g f).letters.length).map fun (k : Nat) => (k : Int)).length := by simp; omega
          have hi3 : i < (fgF g f).next.length := by omega
          have hci : at1 cl i = .sc (.int .i64 (i : Int)) := by have := hcl.at hi2; simpa using this
          have pa : iaddrV 1 cl (.int .i64 (i : Int)) = _ := hcl.iaddr (by omega) (by omega)
          have r1 := hfy.elt hi3
          have r2 := hwy.elt hi3
          have di : decide (¬ (i : Int) = (i : Int)) = false := decide_eq_false (fun k => k rfl)
          simp (maxSteps := 2000000) (disch := first | omega | assumption | exact idP rfl | exact idP (bL rfl)) only [go_sem, reduceIte, Nat.reduceEqDiff, wpV_kd, wpV_tH, e3, e4, e5, e6, e49, e50, e51, pa, hci, di, m56, m6, hfy.iaddr, hwy.iaddr]
          refine (t_wcInts r1 r2 (hzf.n2 _ (List.getElem_mem hi3))).mono ?_
          rintro _ _ ⟨rfl, rfl⟩
          have dd : decide ((fgF g f).next[i] = (fgF g f).next[i]) = true := decide_eq_true rfl
          refine sS1 @dd ?_
          exact hK _ _ ⟨rfl, i + 1, by omega, sT0, sT0, sT0, sT0, sT0, sT0, by refine sS0 ?_; rfl⟩ (by refine sS2 @ctrV_int @e51 ?_; omega)
        · refine sS5 @e3 @e4 @e5 @e6 @m56 ?_
          refine (t_impGraphValid hf0 hzf).mono ?_
          rintro _ _ ⟨rfl, rfl⟩
          rw [grB_iff.2 hF]
          refine sS2 @m36 @m56 ?_
          refine (t_impSameGraphs hg0 hf0 hz hzf hnn).mono ?_
          rintro _ _ ⟨rfl, rfl⟩
          rw [hsm]
          refine sS0 ?_
          exact hR _ _ hs6 rfl
    · have hfe := fgF_none hG
      have hgb := grB_false hG
      have hn0 : (fgF g f).next.length = 0 := by rw [hfe]; rfl
      have d0 : decide (((fgF g f).next.length : Int) = 0) = true := decide_eq_true (by omega)
      refine sS6 @hbb @m36 @m56 @m6 @hfy.len @d0 ?_
      refine (t_impGraphValid hg0 hz).mono ?_
      rintro _ _ ⟨rfl, rfl⟩
      rw [hgb]
      refine sS0 ?_
      exact hR _ _ hs6 rfl
end Go.M2

namespace Go.M2
open Go.Proofs
variable {H : Type} {enc : TypeId × Value → H} {W : World} {fuel : Nat} {x : DataW H × List MemPlace}
end Go.M2
namespace Go.Proofs.YtopnlohhfllcpaaDoor
open Go.ChangeShapes Go.WideShapes Go.ChangeAt Go.RowKit Go.M2
theorem own : ownKnob Tryd.prog.godebug = none := by kernel_rfl
theorem laidOut : laidOutB Tryd.prog = true := by kernel_rfl
def laidL : List (String × DataW Unit) := [("math/bits.deBruijn32tab", Rows.laid_math_bits_deBruijn32tab), ("math/bits.deBruijn64tab", Rows.laid_math_bits_deBruijn64tab), ("internal/strconv.uint64pow10", Rows.laid_internal_strconv_uint64pow10)]
set_option maxRecDepth 100000 in
theorem door_met (os : Os) (args : Array Value) : laidMetH Tryd.prog laidL ((World.doorLaid Tryd.prog 24 os).forCall (fun _ _ => 0) ⟨#[], args, []⟩).memory :=
  laidMetH_of_parts3 (fuel := 8) (laidMet_of_run' 8 (by kernel_rfl) (by kernel_rfl)) (by kernel_rfl) (by kernel_rfl)
theorem gTab : Tryd.prog.globalNamed "internal/strconv.uint64pow10" = .some 0 := by kernel_rfl
theorem gTabType : ∃ t, (Tryd.prog.globals[0]?).map (·.type) = .some t ∧ Tryd.prog.underlying t = .some (.array 20 99) ∧ Tryd.prog.cellsOf t = 20 := ⟨115, by kernel_rfl, by kernel_rfl, by kernel_rfl⟩
set_option maxRecDepth 100000 in
theorem tab_of_laid {W : World} (h : laidMetH Tryd.prog laidL W) : TabOk W := by
  rw [MakeChecks.laidMetH_plain _ _ _ (by kernel_rfl)] at h
  obtain ⟨ps, ⟨g0, t0, cs0, f0, p0, q0, hg0, ht0, hv0, hd0, ⟨g1, t1, cs1, f1, p1, q1, hg1, ht1, hv1, hd1, ⟨g2, t2, cs2, f2, p2, q2, hg2, ht2, hv2, hd2, _, _⟩, _⟩, _⟩, _, _⟩ := h
  obtain ⟨t, k1, k2, k3⟩ := gTabType
  obtain rfl := Option.some.inj (gTab.symm.trans hg2)
  obtain rfl := Option.some.inj (k1.symm.trans ht2)
  show Lib.TabIs Tryd.prog W "internal/strconv.uint64pow10" .u64 Lib.pow10Tab
  unfold Lib.TabIs
  rw [hv2, ← Lib.cells_of_tab (zs := Lib.pow10Tab) k2 Tryd.underlying99 (by kernel_rfl) k3 hd2]
end Go.Proofs.YtopnlohhfllcpaaDoor

namespace Go.M2
open Go.Proofs
open Go.ChangeShapes Go.WideShapes Go.ChangeAt Go.RowKit
variable {HH : Type} {enc : TypeId × Value → HH} {P : Program} {W : World} {t e : TypeId} {fuel : Nat} {cs : List Value} {x : DataW HH × List MemPlace}
theorem in_u8 (ht : P.underlying t = .some (.int .u8)) (h : DataW.trod enc P W 0 (fun _ => true) true fuel t cs = .some x) : ∃ n, LiftE W (E1 isU) n cs ∧ True := by
  obtain ⟨n, rfl, _, h3⟩ := DataW.trod_int ht h
  have h4 : IntKind.u8.min ≤ n ∧ n ≤ IntKind.u8.max := by simpa [Lit.wf] using h3
  have e1 : IntKind.u8.min = 0 := by decide
  have e2 : IntKind.u8.max = 255 := by decide
  exact ⟨n, ⟨[.sc (.int .u8 n)], rfl, by simp [okL, okV], _, rfl, rfl, by omega, by omega⟩, trivial⟩
theorem avC_cap {N : Nat} {u : V} {v : Value} (h : er u = avC N v) : CapOk u := by
  cases u <;> try trivial
  rename_i A n c ex k l
  simp only [er] at h
  unfold avC at h
  show n ≤ c
  split at h <;> try cases h
  · split at h
    · rename_i h1
      cases h
      exact h1.2.2
    · split at h <;> cases h
  · exact Nat.le_refl _
theorem up_bytes (ht : P.underlying t = .some (.slice e)) (he : P.underlying e = .some (.int .u8)) (hsz : P.cellsOf e = 1) {v : Value} (hv : ∀ a, v ≠ .agg a) (h : DataW.trod enc P W 0 (fun _ => true) true fuel t v.cells.toList = .some x) :
    ∃ ns : List Int, (∃ u, er u = avT W.heap.size v ∧ okV (heap0 W) u ∧ XU u ns ∧ CapOk u) ∧ ns.length ≤ 9223372036854775807 := by
  obtain ⟨ns, e, g, _⟩ := in_list1 (E := isU) (good := fun _ => True) ht hsz (fun n cs x h => in_u8 he h) h
  have hc : v.cells.toList = [v] := by
    cases v <;> first | rfl | exact absurd rfl (hv _)
  rw [hc] at e
  obtain ⟨u, p, q, r⟩ := e.one
  refine ⟨ns, ⟨u, ?_, q, r, avC_cap p⟩, g⟩
  rw [p]
  unfold avT
  split
  · rename_i a; exact absurd rfl (hv a)
  · rfl
end Go.M2
