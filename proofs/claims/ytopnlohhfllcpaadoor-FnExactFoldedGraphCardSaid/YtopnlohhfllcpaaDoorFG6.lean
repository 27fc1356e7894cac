/- Contract: the program's FoldedGraph. -/
import Derived.Test.YtopnlohhfllcpaaDoorFG5
import Derived.Test.YtopnlohhfllcpaaDoorRows
import Derived.WalkKit
import Derived.ProofKit
import Derived.LaidMore
import Derived.OpenShut
import Derived.Stop.Joined
import Derived.Lib.LaidTab
import Derived.Lib.ItoaNum
set_option linter.unusedVariables false
set_option linter.unusedSimpArgs false
set_option maxRecDepth 10000
set_option maxHeartbeats 4000000
namespace Go.M2
open Go.Proofs
variable {M : MH}
theorem Mem.unbase {M0 M1 M : MH} {f : List (Nat × List V)} (h : Mem M1 M f) (hs : Sub M0 M1) : Mem M0 M f := ⟨hs.trans h.sub, fun p hp => hs.none (h.new p hp), h.nd, h.at_⟩
theorem Fot.more {M0 M M' : MH} {b6 : Nat} {vL vN : V} {us us' ws ws' : List V} {fL fN : List (Nat × List V)} {f : Int} (h : Fot M0 M b6 vL us us' fL vN ws ws' fN f) (hs : Sub M M') : Fot M0 M' b6 vL us us' fL vN ws ws' fN f :=
  ⟨h.mem.more hs, h.ol, h.on, h.tl, h.tn, h.dl, h.dn, h.el, h.en, h.al, h.an⟩
theorem Fot.rebase {M0 M M' : MH} {b6 b : Nat} {c : List V} {vL vN : V} {us us' ws ws' : List V} {fL fN : List (Nat × List V)} {f : Int} (h : Fot M0 M b6 vL us us' fL vN ws ws' fN f) (hs : Sub M M') (hb : M b = none) (hl : M' b = .some c) : Fot (M0.set b c) M' b6 vL us us' fL vN ws ws' fN f := by
  refine ⟨⟨fun i x hi => ?_, fun p hp => ?_, h.mem.nd, fun p hp => hs _ _ (h.mem.at_ p hp)⟩, h.ol, h.on, h.tl, h.tn, h.dl, h.dn, h.el, h.en, h.al, h.an⟩
  · by_cases e : i = b
    · subst e; rw [set_same] at hi; cases hi; exact hl
    · rw [set_ne e] at hi; exact hs _ _ (h.mem.sub i x hi)
  · rw [set_ne fun e => ?_]
    · exact h.mem.new p hp
    · have := h.mem.at_ p hp
      rw [e, hb] at this; cases this
theorem Fot.drop {M0 M : MH} {b6 b : Nat} {c : List V} {vL vN : V} {us us' ws ws' : List V} {fL fN : List (Nat × List V)} {f : Int} (h : Fot (M0.set b c) M b6 vL us us' fL vN ws ws' fN f) (hb : M0 b = none) : Fot M0 (M.del b) b6 vL us us' fL vN ws ws' fN f := by
  have hne : ∀ p ∈ ((b6, [vL, V.sc (.int .i64 f), vN]) :: (fpG vL us ++ (fpG vN ws ++ (fL ++ fN)))), p.1 ≠ b := fun p hp e => by
    have := h.mem.new p hp
    rw [e, set_same] at this; cases this
  refine ⟨⟨fun i x hi => ?_, fun p hp => ?_, h.mem.nd, fun p hp => ?_⟩, h.ol, h.on, h.tl, h.tn, h.dl, h.dn, h.el, h.en, h.al, h.an⟩
  · have e : i ≠ b := fun e => by subst e; rw [hb] at hi; cases hi
    rw [del_ne e]
    exact h.mem.sub i x (by rw [set_ne e]; exact hi)
  · have := h.mem.new p hp
    rwa [set_ne (hne p hp)] at this
  · rw [del_ne (hne p hp)]; exact h.mem.at_ p hp
theorem t_Compact3 {M0 : MH} {v : V} {zs : List Int} (hg : Gr 1 M0 M v (zs.map vi)) (hl : zs.length ≤ 1048576) :
    VCall Tryd.prog n_slices_Compact_Sint_int [v] M (fun r M' => (∀ q, blkV v ≠ some q → M' q = M q) ∧ ∃ M2 u, (∀ {f : FuncId} {R : V → MH → Prop}, VCall Tryd.prog f [u] M2 R → VCall Tryd.prog f [r] M' R) ∧ Sub M0 M2 ∧ LI u (compF zs)) := by
  rcases hg.own with ⟨h1, k, rfl⟩ | ⟨b, n, ex, rfl, h2, h3⟩
  · have hz : zs = [] := by simpa using h1
    subst hz
    refine VCall.plain fun R hR => v_slices_Compact_Sint_int rfl ?_
    refine sS0 ?_
    exact hR _ _ ⟨fun _ _ => rfl, M, _, fun h => h, hg.sub, .nil⟩
  · have hn : zs.length = n := by simpa using h3
    refine (t_Compact h2 hn (by omega)).mono ?_
    rintro r M' ⟨rest, rfl, rfl⟩
    have hb := hg.new b rfl
    refine ⟨fun q hq => set_ne fun e => hq (by rw [e]; rfl), _, _, fun h => VCall.give (.sl set_same (.refl _ _) (.refl _ _)) h, ?_, Ls.mk rfl (by simp) fun i hi => ⟨.sc (.int .i64 (compF zs)[i]), ?_, rfl⟩⟩
    · intro i l hi
      have hne : i ≠ b := fun e => by subst e; rw [hb] at hi; cases hi
      rw [del_ne hne, set_ne hne]; exact hg.sub i l hi
    · rw [List.drop_zero, List.getElem?_append_left (by simpa using hi)]
      exact nth_vi hi
theorem t_cloneOw {M0 : MH} {v : V} {us : List V} (hg : Gr 1 M0 M v us) (hos : us.all oneV = true) (hl : us.length ≤ 1048576) : VCall Tryd.prog n_impl_clone_Sint [v] M (fun r M' => Gr 1 M M' r us) := by
  refine VCall.plain fun R hR => v_impl_clone_Sint rfl ?_
  have hlen := hg.len1
  refine sS1 @hlen ?_
  refine cond_dec (fun h => ?_) (fun h => ?_)
  · refine sS0 ?_
    have : us = [] := List.eq_nil_of_length_eq_zero (by omega)
    subst this
    exact hR _ _ (.nil (Sub.refl _))
  · refine sS1 @hlen ?_
    refine mks3 (by omega) (by simp [mostCells]; omega) (by simp [mostCells]; omega) ?_
    intro b3 hb3
    rcases hg.own with ⟨rfl, q, rfl⟩ | ⟨b, n, ex, rfl, hb, hn⟩
    · exact absurd rfl h
    have hne : b ≠ b3 := fun e => by subst e; rw [hb3] at hb; cases hb
    have hz : ((zeros [AV.sl none 0 0 true 0] us.length).map V.sc).length = us.length := by simp [zeros_length]
    refine sS0 ?_
    generalize hZ : (zeros [AV.sl none 0 0 true 0] us.length).map V.sc = Z at hz ⊢
    refine copy_own (t := us.length) (ls := us) (ld := Z) (by rw [set_ne hne]; exact hb) set_same (by omega) (by omega) (by omega) (by omega) (by simpa using hos) ?_
    simp only [List.drop_zero, List.take_length]
    rw [setAtG_all _ _ _ (by omega)]
    refine sS0 ?_
    exact hR _ _ (Gr.new' (Sub.refl _) hb3 (by simp))
theorem Mem.setx {M0 M : MH} {f : List (Nat × List V)} {b : Nat} {l : List V} (h : Mem M0 M f) (hb : M0 b = none) (hne : ∀ p ∈ f, p.1 ≠ b) : Mem M0 (M.set b l) f :=
  ⟨h.sub.set hb, h.new, h.nd, fun p hp => by rw [set_ne (hne p hp)]; exact h.at_ p hp⟩
theorem OwS.flat {v : V} {l : List V} (h : OwS 1 v l) : flat v := by
  rcases h with ⟨rfl, k, rfl⟩ | ⟨b, n, ex, rfl, h2⟩ <;> simp [M2.flat]
theorem t_impFoldedGraph {v : V} {g : GrS} {f : Int} (hv : isGr g v) (hz : GrSz g) : VCall Tryd.prog n_impl_FoldedGraph [v, .sc (.int .i64 f)] M (fun r M' => ∃ x y x' y' fp, r = .agg [x, .sc (.int .i64 (fgF g f).first), y] ∧ One x ∧ One y ∧ OwnG M M' (fgF g f) x y x' y' fp) := by
  refine VCall.plain fun R hR => v_impl_FoldedGraph rfl ?_
  have hv0 := hv
  obtain ⟨a, b, rfl, ha, hb⟩ := hv
  (repeat' (first | ((with_reducible first | refine cond_dec (fun h => ?_) (fun h => ?_) | refine guardK_dec (fun h => ?_) (fun h => ?_) | refine guardD3_dec (fun h => ?_) (fun h => ?_)) <;> first | (exfalso; omega) | (simp (maxSteps := 2000000) (disch := first | omega | assumption | exact idP rfl | exact idP (bL rfl)) only [go_sem, reduceIte, Nat.reduceEqDiff, wpV_kd, wpV_tH, h]) | skip) | ((with_reducible first | refine cond_split (fun h => ?_) (fun h => ?_) | refine guardK_split (fun h => ?_) (fun h => ?_) | refine guardD3_split (fun h => ?_) (fun h => ?_)) <;> ((try simp only [Bool.not_eq_true', Bool.not_eq_false'] at h); first | (simp (maxSteps := 2000000) (disch := first | omega | assumption | exact idP rfl | exact idP (bL rfl)) only [go_sem, reduceIte, Nat.reduceEqDiff, wpV_kd, wpV_tH, h]) | skip)) | ((with_reducible refine (t_impGraphValid hv0 hz).mono ?_); rintro _ _ ⟨rfl, rfl⟩) | (with_reducible intro bk hbk; try have hnk := (fresh_set hbk).1) | (simp (maxSteps := 2000000) (disch := first | omega | assumption | exact idP rfl | exact idP (bL rfl)) only [go_sem, reduceIte, Nat.reduceEqDiff, wpV_kd, wpV_tH])))
  · have hfg : fgF g f = ⟨[], 0, []⟩ := by simp only [fgF, h]; rfl
    rw [hfg] at hR
    exact hR _ _ ⟨_, _, _, _, [], rfl, ⟨rfl, rfl⟩, ⟨rfl, rfl⟩, ⟨.refl _, .nil (sB), by simp [flatL, flat], fun q hq => (by cases hq), .nil, .nil⟩⟩
  · have hG := grB_iff.1 h
    have hA := hG.al
    have hfg : fgF g f = foldF g (clsF g) := by simp only [fgF, h, if_true]
    rename_i b2 hb2
    have m2 : ((M.set b2 [a, V.sc (AV.int IntKind.i64 g.first), b]).set bk [V.sc (AV.sl none 0 0 true 0), V.sc (AV.int IntKind.i64 0), V.sc (AV.sl none 0 0 true 0)]) b2 = .some [a, V.sc (AV.int IntKind.i64 g.first), b] := by rw [set_ne (Ne.symm hnk), set_same]
    have m4 : ((M.set b2 [a, V.sc (AV.int IntKind.i64 g.first), b]).set bk [V.sc (AV.sl none 0 0 true 0), V.sc (AV.int IntKind.i64 0), V.sc (AV.sl none 0 0 true 0)]) bk = .some [V.sc (AV.sl none 0 0 true 0), V.sc (AV.int IntKind.i64 0), V.sc (AV.sl none 0 0 true 0)] := set_same
    have hs0 : Sub M ((M.set b2 [a, V.sc (AV.int IntKind.i64 g.first), b]).set bk [V.sc (AV.sl none 0 0 true 0), V.sc (AV.int IntKind.i64 0), V.sc (AV.sl none 0 0 true 0)]) := sB
    have hbk0 : M bk = none := (fresh_set hbk).2
    generalize ((M.set b2 [a, V.sc (AV.int IntKind.i64 g.first), b]).set bk [V.sc (AV.sl none 0 0 true 0), V.sc (AV.int IntKind.i64 0), V.sc (AV.sl none 0 0 true 0)]) = M0 at *
    refine (t_alike hv0 hA).mono ?_
    rintro pv M1 ⟨z, hz1, hgp⟩
    have hze := clsF_eq hz1
    subst hze
    have hcl := clsF_cls hA
    have hpl := hcl.len
    have hn0 := hA.n0
    generalize clsF g = r at *
    have hpv := hgp.len1
    rw [List.length_map] at hpv
    refine sS0 ?_
    intro b6 hb6
    have sP : Sub M1 (M1.put b6 []) := (Sub.refl _).put hb6
    have mP : (M1.put b6 []) b6 = .some (.map (imE (rkL r 0))) := put_same
    have hgp6 := hgp.more sP
    generalize M1.put b6 [] = MP at *
    refine sS1 @hpv ?_
    refine loop_k (fun e M' => ∃ i : Nat, i ≤ r.length ∧ e 2 = .sc (.ptr (some (b2, 0))) ∧ e 4 = .sc (.ptr (some (bk, 0))) ∧ e 5 = pv ∧ e 6 = .sc (.map (some b6)) ∧ e 23 = pv ∧ e 24 = .sc (.int .i64 r.length) ∧ e 25 = .sc (.int .i64 i) ∧ Sub M1 M' ∧ M' b6 = .some (.map (imE (rkL r i)))) (fun e _ => ctrV r.length (e 25)) ?_ ?_
    · exact ⟨0, by omega, sT0, sT0, sT0, sT0, sT0, sT0, by refine sS0 ?_; rfl, sP, mP⟩
    · rintro e M2 ⟨i, hi, e2, e4, e5, e6, e23, e24, e25, hsub, hm6⟩ K hK
      have hgp2 := hgp.more hsub
      refine sS7 @e2 @e4 @e5 @e6 @e23 @e24 @e25 ?_
      refine cond_dec (fun hc => ?_) (fun hc => ?_)
      · have hi' : i < r.length := by omega
        have gi : r.getD i 0 = r[i] := by simp [List.getD, hi']
        have pa := hgp2.at (by simp; omega)
        have pi : iaddrV 1 pv (.int .i64 (i : Int)) = _ := hgp2.own.iaddr (by omega) (by simp; omega)
        have pn := nth_vi hi'
        by_cases hrep : r[i] = (i : Int)
        · have hR1 : isRep r i = true := by simp only [isRep, gi, hrep, decide_true]
          have hset := set_imE (v := (rank r i : Int)) (rkL_none (r := r) (i := i))
          have hnx : rkL r (i + 1) = rkL r i ++ [((i : Int), (rank r i : Int))] := by rw [rkL_succ, if_pos hR1]
          rw [← hnx] at hset
          have hml : (imE (rkL r i)).length = rank r i := by rw [imE, List.length_map, rkL_len]
          simp (maxSteps := 2000000) (disch := first | omega | assumption | exact idP rfl | exact idP (bL rfl)) only [go_sem, reduceIte, Nat.reduceEqDiff, wpV_kd, wpV_tH, e2, e4, e5, e6, e23, e24, e25, pi, pa, pn, hrep, hm6, hml, hset]
          exact hK _ _ ⟨i + 1, by omega, sT0, sT0, sT0, sT0, sT0, sT0, by refine sS0 ?_; rfl, hsub.put hb6, put_same⟩ (by refine sS2 @ctrV_int @e25 ?_; omega)
        · have hR1 : isRep r i = false := by simp only [isRep, gi, hrep, decide_false]
          have hnx : rkL r (i + 1) = rkL r i := by rw [rkL_succ, if_neg (by rw [hR1]; simp)]
          have hrep' : ¬ (i : Int) = r[i] := fun hh => hrep hh.symm
          simp (maxSteps := 2000000) (disch := first | omega | assumption | exact idP rfl | exact idP (bL rfl)) only [go_sem, reduceIte, Nat.reduceEqDiff, wpV_kd, wpV_tH, e2, e4, e5, e6, e23, e24, e25, pi, pa, pn, hrep']
          exact hK _ _ ⟨i + 1, by omega, sT0, sT0, sT0, sT0, sT0, sT0, by refine sS0 ?_; rfl, hsub, by rw [hnx]; exact hm6⟩ (by refine sS2 @ctrV_int @e25 ?_; omega)
      · obtain rfl : i = r.length := by omega
        have hfs := hG.fs
        have m22 := (hgp.sub.trans hsub) _ _ m2
        have hft : g.first.toNat < r.length := by omega
        have pa := hgp2.at (by simp; omega)
        have pi : iaddrV 1 pv (.int .i64 g.first) = _ := hgp2.own.iaddr hfs.1 (by simp; omega)
        have pn := nth_vi hft
        have gf : r.getD g.first.toNat 0 = r[g.first.toNat] := by simp [List.getD, hft]
        have hlk := rkL_at hcl hft
        rw [gf] at hlk
        simp (maxSteps := 2000000) (disch := first | omega | assumption | exact idP rfl | exact idP (bL rfl)) only [go_sem, reduceIte, Nat.reduceEqDiff, wpV_kd, wpV_tH, e2, e4, e5, e6, m22, pi, pa, pn, hm6, hlk]
        intro b9 hb9
        have hx2 := hgp2.sub
        have s9 : Sub M2 (M2.set b9 [V.sc (AV.sl none 0 0 true 0), V.sc (AV.int IntKind.i64 (atF r g.first.toNat : Int)), V.sc (AV.sl none 0 0 true 0)]) := (Sub.refl _).set hb9
        have hfot0 : Fot M2 (M2.set b9 [V.sc (AV.sl none 0 0 true 0), V.sc (AV.int IntKind.i64 (atF r g.first.toNat : Int)), V.sc (AV.sl none 0 0 true 0)]) b9 (.sc (.sl none 0 0 true 0)) [] [] [] (.sc (.sl none 0 0 true 0)) [] [] [] (atF r g.first.toNat : Int) :=
          ⟨(Mem.nil (Sub.refl _)).new1 hb9, .inl ⟨rfl, _, rfl⟩, .inl ⟨rfl, _, rfl⟩, .nil, .nil, by simp [flatL], by simp [flatL], fun q hq => (by cases hq), fun q hq => (by cases hq), rfl, rfl⟩
        generalize M2.set b9 [V.sc (AV.sl none 0 0 true 0), V.sc (AV.int IntKind.i64 (atF r g.first.toNat : Int)), V.sc (AV.sl none 0 0 true 0)] = M9 at *
        refine sS1 @hpv ?_
        refine loop_k (fun e' M' => ∃ (i : Nat) (vL vN : V) (us us' ws ws' : List V) (fL fN : List (Nat × List V)), i ≤ r.length ∧ e' 2 = .sc (.ptr (some (b2, 0))) ∧ e' 4 = .sc (.ptr (some (bk, 0))) ∧ e' 5 = pv ∧ e' 6 = .sc (.map (some b6)) ∧ e' 9 = .sc (.ptr (some (b9, 0))) ∧ e' 46 = pv ∧ e' 47 = .sc (.int .i64 r.length) ∧ e' 48 = .sc (.int .i64 i) ∧ Fot M2 M' b9 vL us us' fL vN ws ws' fN (atF r g.first.toNat : Int) ∧ Cs (fun ys u => LI u ys) us' ((RL r i).map fun n => g.letters.getD n []) ∧ Cs (fun ys u => LI u ys) ws' ((RL r i).map (fRow g r))) (fun e' _ => ctrV r.length (e' 48)) ?_ ?_
        · exact ⟨0, _, _, [], [], [], [], [], [], by omega, sT0, sT0, sT0, sT0, sT0, sT0, sT0, by refine sS0 ?_; rfl, hfot0, .nil, .nil⟩
        · rintro e' M3 ⟨i, vL, vN, us, us', ws, ws', fL, fN, hi, f2, f4, f5, f6, f9, f46, f47, f48, hfo, hcu, hcw⟩ K2 hK2
          have hul : us.length ≤ i := by have h1 := hcu.1; rw [List.length_map] at h1; have h2 := hfo.tl.len; have := RL_le (r := r) (i := i); omega
          have hwl : ws.length ≤ i := by have h1 := hcw.1; rw [List.length_map] at h1; have h2 := hfo.tn.len; have := RL_le (r := r) (i := i); omega
          have hgp3 := hgp2.more hfo.mem.sub
          have m32 := hfo.mem.sub _ _ m22
          have m36 := hfo.mem.sub _ _ hm6
          refine sS8 @f2 @f4 @f5 @f6 @f9 @f46 @f47 @f48 ?_
          refine cond_dec (fun hc => ?_) (fun hc => ?_)
          · have hi' : i < r.length := by omega
            have gi : r.getD i 0 = r[i] := by simp [List.getD, hi']
            have pa := hgp3.at (by simp; omega)
            have pi : iaddrV 1 pv (.int .i64 (i : Int)) = _ := hgp3.own.iaddr (by omega) (by simp; omega)
            have pn := nth_vi hi'
            by_cases hrep : r[i] = (i : Int)
            · have hR1 : isRep r i = true := by simp only [isRep, gi, hrep, decide_true]
              have hil : i < g.letters.length := by omega
              have hl := ha.elt hil
              have hll := hA.lt _ (List.getElem_mem hil)
              have hin : i < g.next.length := by have : g.next.length = g.letters.length := hA.nx.len; omega
              have hrow := hb.elt hin
              have hro := hrow.one.1
              have hrl := hA.ln _ (List.getElem_mem hin)
              have hrne := hA.nx.some_ _ (List.getElem_mem hin)
              have hrin : ∀ x ∈ g.next[i], 0 ≤ x ∧ x < (g.letters.length : Int) := hA.nx.in_ _ (List.getElem_mem hin)
              simp (maxSteps := 2000000) (disch := first | omega | assumption | exact idP rfl | exact idP (bL rfl)) only [go_sem, reduceIte, Nat.reduceEqDiff, wpV_kd, wpV_tH, f2, f4, f5, f6, f9, f46, f47, f48, pi, pa, pn, hrep, m32, hb.iaddr, hrow.len]
              refine loop_k (fun e2 M' => ∃ k : Nat, k ≤ g.next[i].length ∧ e2 2 = .sc (.ptr (some (b2, 0))) ∧ e2 4 = .sc (.ptr (some (bk, 0))) ∧ e2 5 = pv ∧ e2 6 = .sc (.map (some b6)) ∧ e2 9 = .sc (.ptr (some (b9, 0))) ∧ e2 10 = .sc (.int .i64 i) ∧ e2 46 = pv ∧ e2 47 = .sc (.int .i64 r.length) ∧ e2 48 = .sc (.int .i64 i) ∧ e2 60 = at1 b i ∧ e2 61 = .sc (.int .i64 g.next[i].length) ∧ e2 62 = .sc (.int .i64 k) ∧ Gr 1 M3 M' (e2 12) (((g.next[i].take k).map fun x => (atF r x.toNat : Int)).map vi)) (fun e2 _ => ctrV g.next[i].length (e2 62)) ?_ ?_
              · refine ⟨0, by omega, sT0, sT0, sT0, sT0, sT0, sT0, sT0, sT0, sT0, sT0, sT0, by refine sS0 ?_; rfl, ?_⟩
                refine sS0 ?_
                exact .nil (Sub.refl _)
              · rintro e2 M4 ⟨k, hk, k2, k4, k5, k6, k9, k10, k46, k47, k48, k60, k61, k62, hgr⟩ K3 hK3
                simp (maxSteps := 2000000) (disch := first | omega | assumption | exact idP rfl | exact idP (bL rfl)) only [go_sem, reduceIte, Nat.reduceEqDiff, wpV_kd, wpV_tH, k2, k4, k5, k6, k9, k10, k46, k47, k48, k60, k61, k62]
                refine cond_dec (fun hd => ?_) (fun hd => ?_)
                · have hk1 : k < g.next[i].length := by omega
                  have hx := hrin _ (List.getElem_mem hk1)
                  have hxt : g.next[i][k].toNat < r.length := by omega
                  have hgp4 := hgp3.more hgr.sub
                  have m46 := hgr.sub _ _ m36
                  have pax := hgp4.at (by simp; omega)
                  have pix : iaddrV 1 pv (.int .i64 g.next[i][k]) = _ := hgp4.own.iaddr hx.1 (by simp; omega)
                  have pnx := nth_vi hxt
                  have gfx : r.getD g.next[i][k].toNat 0 = r[g.next[i][k].toNat] := by simp [List.getD, hxt]
                  have hlkx := rkL_at hcl hxt
                  rw [gfx] at hlkx
                  simp (maxSteps := 2000000) (disch := first | omega | assumption | exact idP rfl | exact idP (bL rfl)) only [go_sem, reduceIte, Nat.reduceEqDiff, wpV_kd, wpV_tH, k2, k4, k5, k6, k9, k10, k46, k47, k48, k60, k61, k62, hrow.iaddr, hrow.at hk1, pix, pax, pnx, m46, hlkx]
                  intro bt hbt
                  refine app_int hgr hbt (by simp; omega) (by omega) ?_
                  intro s' M5 hg5 _
                  refine sS1 @k62 ?_
                  refine hK3 _ _ ⟨k + 1, by omega, sT0, sT0, sT0, sT0, sT0, sT0, sT0, sT0, sT0, sT0, sT0, by refine sS0 ?_; rfl, ?_⟩ (by refine sS2 @ctrV_int @k62 ?_; omega)
                  refine sS0 ?_
                  rw [take_snoc hk1, List.map_append, List.map_singleton]
                  exact hg5
                · obtain rfl : k = g.next[i].length := by omega
                  rw [List.take_length] at hgr
                  refine sS9 @k2 @k4 @k5 @k6 @k9 @k10 @k46 @k47 @k48 ?_
                  refine (t_SortInts hgr (by simp; omega)).mono ?_
                  rintro _ M5 ⟨rfl, hgs, -⟩
                  generalize e2 12 = v12 at *
                  have hsl : (sortI (g.next[i].map fun x => (atF r x.toNat : Int))).length = g.next[i].length := by rw [sortI_len, List.length_map]
                  rcases hgs.own with ⟨q1, _⟩ | ⟨b12, n12, ex12, q1, q2, q3⟩
                  · have h0 : g.next[i].length = 0 := by
                      have := congrArg List.length q1
                      rw [List.length_map, hsl] at this; simpa using this
                    exact absurd (List.eq_nil_of_length_eq_zero h0) hrne
                  have hb12 : M3 b12 = none := hgs.new _ (by rw [q1]; rfl)
                  have hfo5 := hfo.rebase hgs.sub hb12 q2
                  have hbx5 := hfo5.mem.hd
                  have m52 := hgs.sub _ _ m32
                  refine sS3 @hbx5 @m52 @ha.iaddr ?_
                  refine (t_cloneInt hl (by omega)).mono ?_
                  intro w M6 hgw
                  obtain ⟨w', gw, tw, mw, fw, gwf, hw⟩ := hgw.dn (p := fun u => LI u g.letters[i]) (flatL_vi _) fun u hu => hu.li
                  have w1 := hgw.one.1
                  have w2 := hgw.one.2
                  have hbx6 := mw.sub _ _ hbx5
                  refine sS3 @hbx6 @w1 @w2 ?_
                  intro bt hbt
                  refine hfo5.pushL w1 tw mw fw gwf hbt (by omega) (by omega) ?_
                  intro s' M7 p1 one1 hfo7
                  have hM2b : M2 b12 = none := hfo.mem.sub.none hb12
                  have hfo8 := hfo7.drop hM2b
                  have hbx8 := hfo7.mem.hd
                  have hc8 := hfo7.mem.sub _ _ (set_same (M := M2) (b := b12))
                  refine sS3 @p1 one1.1 one1.2 ?_
                  generalize M7.set b9 [s', .sc (.int .i64 (atF r g.first.toNat : Int)), vN] = M8 at *
                  have hgs8 : Gr 1 (M8.del b12) M8 v12 _ := ⟨fun j x hx => by
                    by_cases hh : j = b12
                    · subst hh; rw [del_same] at hx; cases hx
                    · rw [del_ne hh] at hx; exact hx, fun q hq => by rw [q1] at hq; cases hq; exact del_same, .inr ⟨b12, n12, ex12, q1, hc8, q3⟩⟩
                  have hb9d := hfo8.mem.hd
                  have n912 : b9 ≠ b12 := fun hh => by rw [hh, del_same] at hb9d; cases hb9d
                  refine (t_Compact3 hgs8 (by omega)).mono ?_
                  rintro r5 M10 ⟨keep, Mz, u, hgive, hsz, hu⟩
                  have hbx10 : M10 b9 = .some [s', .sc (.int .i64 (atF r g.first.toNat : Int)), vN] := by
                    rw [keep b9 (fun hh => by rw [q1] at hh; cases hh; exact n912 rfl)]; exact hbx8
                  have hcl5 := compF_len (l := sortI (g.next[i].map fun x => (atF r x.toNat : Int)))
                  refine sS1 @hbx10 ?_
                  refine hgive ((t_cloneInt hu (by omega)).mono ?_)
                  intro w2v M11 hgw2
                  have hfoz := hfo8.more hsz
                  have hbxz := hfoz.mem.hd
                  obtain ⟨y', gy, ty, my, fy, gyf, hy⟩ := hgw2.dn (p := fun u => LI u (compF (sortI (g.next[i].map fun x => (atF r x.toNat : Int))))) (flatL_vi _) fun u hu => hu.li
                  have y1 := hgw2.one.1
                  have y2 := hgw2.one.2
                  have hbx11 := my.sub _ _ hbxz
                  refine sS3 @hbx11 @y1 @y2 ?_
                  intro bt2 hbt2
                  refine hfoz.pushN y1 ty my fy gyf hbt2 (by omega) (by omega) ?_
                  intro s2 M12 p2 one2 hfo12
                  refine sS4 @p2 one2.1 one2.2 @f48 ?_
                  refine hK2 _ _ ⟨i + 1, _, _, _, _, _, _, _, _, by omega, sT0, sT0, sT0, sT0, sT0, sT0, sT0, by refine sS0 ?_; rfl, hfo12, ?_, ?_⟩ (by refine sS2 @ctrV_int @f48 ?_; omega)
                  · rw [RL_succ, if_pos hR1, List.map_append, List.map_singleton]
                    refine hcu.snoc ?_
                    rw [show g.letters.getD i [] = g.letters[i] by simp [List.getD, hil]]
                    exact hw
                  · rw [RL_succ, if_pos hR1, List.map_append, List.map_singleton]
                    refine hcw.snoc ?_
                    rw [show fRow g r i = compF (sortI (g.next[i].map fun x => (atF r x.toNat : Int))) by
                      rw [comp_ascL (m := (repsL r).length) fun x hx => ?_, fRow, show g.next.getD i [] = g.next[i] by simp [List.getD, hin]]
                      obtain ⟨y, hy2, rfl⟩ := List.mem_map.1 hx
                      have h1 := hrin y hy2
                      have h2 := atF_lt hcl (i := y.toNat) (by omega)
                      omega]
                    exact hy
            · have hR1 : isRep r i = false := by simp only [isRep, gi, hrep, decide_false]
              have hrep' : ¬ (i : Int) = r[i] := fun hh => hrep hh.symm
              simp (maxSteps := 2000000) (disch := first | omega | assumption | exact idP rfl | exact idP (bL rfl)) only [go_sem, reduceIte, Nat.reduceEqDiff, wpV_kd, wpV_tH, f2, f4, f5, f6, f9, f46, f47, f48, pi, pa, pn, hrep']
              refine hK2 _ _ ⟨i + 1, _, _, _, _, _, _, _, _, by omega, sT0, sT0, sT0, sT0, sT0, sT0, sT0, by refine sS0 ?_; rfl, hfo, ?_, ?_⟩ (by refine sS2 @ctrV_int @f48 ?_; omega)
              · rw [RL_succ, if_neg (by rw [hR1]; simp)]; exact hcu
              · rw [RL_succ, if_neg (by rw [hR1]; simp)]; exact hcw
          · obtain rfl : i = r.length := by omega
            have hbx := hfo.mem.hd
            have hm1 : Mem M2 M3 (fpG vL us ++ (fpG vN ws ++ (fL ++ fN))) := hfo.mem.tail
            have hgL : Gr 1 M2 M3 vL us := hm1.gr hfo.ol
            have hgN : Gr 1 M2 M3 vN ws := (hm1.perm (List.perm_append_comm_assoc _ _ _)).gr hfo.on
            refine sS5 @f2 @f4 @f6 @f9 @hbx ?_
            refine (t_cloneOw hgL hfo.al (by omega)).mono ?_
            intro cL M13 hcL
            have hbx13 := hcL.sub _ _ hbx
            refine sS1 @hbx13 ?_
            refine (t_cloneOw (hgN.more hcL.sub) hfo.an (by omega)).mono ?_
            intro cN M14 hcN
            have hbx14 := hcN.sub _ _ hbx13
            have l1 := hcL.one.1
            have l2 := hcL.one.2
            have l3 := hcN.one.1
            have l4 := hcN.one.2
            have m4z := (((hfo.mem.sub.trans hcL.sub).trans hcN.sub) _ _ ((hgp.sub.trans hsub) _ _ m4))
            refine sS6 @hbx14 @l1 @l2 @l3 @l4 @m4z ?_
            have hsM2 : Sub M M2 := hs0.trans (hgp.sub.trans hsub)
            have m4y : M2 bk = .some [V.sc (AV.sl none 0 0 true 0), V.sc (AV.int IntKind.i64 0), V.sc (AV.sl none 0 0 true 0)] := (hgp.sub.trans hsub) _ _ m4
            have a1 : Mem M2 M14 ((fpG cL us ++ fL) ++ (fpG cN ws ++ fN)) := by
              have b1 := (((hm1.right).right.add hcL.mem).add hcN.mem)
              refine b1.perm ?_
              rw [List.append_assoc, List.append_assoc]
              refine List.Perm.trans (List.Perm.append_left _ (List.perm_append_comm_assoc _ _ _)) ?_
              refine List.Perm.trans (List.perm_append_comm_assoc _ _ _) ?_
              rw [List.append_assoc]
              refine List.Perm.append_left _ (List.Perm.append_left _ ?_)
              exact List.perm_append_comm
            have a2 := (a1.unbase hsM2).setx (l := [cL, V.sc (AV.int IntKind.i64 (atF r g.first.toNat : Int)), cN]) hbk0 fun p hp e => by
              have := a1.new p hp
              rw [e, m4y] at this; cases this
            obtain ⟨cL', t1, g1⟩ := hcL.own.sh.1.tr hfo.tl
            obtain ⟨cN', t2, g2⟩ := hcN.own.sh.1.tr hfo.tn
            have fpf : ∀ {v : V} {l : List V}, flatL l → ∀ q ∈ fpG v l, flatL q.2 := fun hl q hq => by
              unfold fpG at hq
              split at hq
              · rw [List.mem_singleton] at hq; subst hq; exact hl
              · cases hq
            rw [hfg] at hR
            refine hR _ _ ⟨cL, cN, cL', cN', (fpG cL us ++ fL) ++ (fpG cN ws ++ fN), rfl, ⟨l1, l2⟩, ⟨l3, l4⟩, t1.append t2, a2, ?_, fun q hq => ?_, g1.lsC hcu, g2.lsC hcw⟩
            · simp only [flatL]; exact ⟨hcL.own.sh.1.flat, hcN.own.sh.1.flat, trivial⟩
            · rcases List.mem_append.1 hq with h1 | h1
              · rcases List.mem_append.1 h1 with h2 | h2
                · exact fpf hfo.dl q h2
                · exact hfo.el q h2
              · rcases List.mem_append.1 h1 with h2 | h2
                · exact fpf hfo.dn q h2
                · exact hfo.en q h2
end Go.M2

namespace Go.M2
open Go.Proofs
variable {M : MH}
end Go.M2

namespace Go.M2
open Go.Proofs
variable {M : MH}
theorem Hd.more {M' : MH} {v : V} {n : Nat} {k : Int} (h : Hd M v n k) (hs : Sub M M') : Hd M' v n k := by
  rcases h with h2 | ⟨b', o', c', ex', kk', l', rfl, hm', hl'⟩
  · exact .inl h2
  · exact .inr ⟨b', o', c', ex', kk', l', rfl, hs _ _ hm', hl'⟩
theorem HdS.more {M' : MH} {v : V} {rows : List (List Int)} {k : Int} (h : HdS M v rows k) (hs : Sub M M') : HdS M' v rows k := by
  rcases h with h2 | ⟨b, o, c, ex, kk, cs, rfl, hm, hl⟩
  · exact .inl h2
  · exact .inr ⟨b, o, c, ex, kk, cs, rfl, hs _ _ hm, fun i hi => by
      obtain ⟨u, h1, h2⟩ := hl i hi
      exact ⟨u, h1, h2.more hs⟩⟩
theorem t_heldGraph {g : GrS} {x y n : V} {k : Int} (hx : HdS M x g.letters k) (hy : HdS M y g.next (k + offN g.letters g.letters.length)) (ox : One x) (oy : One y) (on : One n) (hz : GrSz g) (hk : 0 ≤ k) (hk2 : k ≤ 3000000000000000000) :
    VCall Tryd.prog n_laws_heldGraph [.agg [x, n, y], .sc (.int .i64 k)] M (fun r M' => M = M' ∧ r = .sc (.int .i64 (k + offN g.letters g.letters.length + offN g.next g.next.length))) := by
  refine VCall.pure fun R hR => v_laws_heldGraph rfl ?_
  have o1 := offN_le hz.l2 g.letters.length (Nat.le_refl _)
  have o2 := offN_le hz.n2 g.next.length (Nat.le_refl _)
  have z1 := hz.l1
  have z2 := hz.n1
  have o3 : 1048576 * g.letters.length ≤ 1048576 * 1048576 := Nat.mul_le_mul_left _ z1
  have o4 : 1048576 * g.next.length ≤ 1048576 * 1048576 := Nat.mul_le_mul_left _ z2
  refine sS0 ?_
  intro b2 hb2
  have hs : Sub M (M.set b2 [x, n, y]) := (Sub.refl _).set hb2
  refine (t_heldIntSS (hx.more hs) z1 hz.l2 hk (by omega)).mono ?_
  rintro _ _ ⟨rfl, rfl⟩
  have n1 : ¬ k + (offN g.letters g.letters.length : Int) < 0 := by omega
  refine sS1 @n1 ?_
  refine (t_heldIntSS (hy.more hs) z2 hz.n2 (by omega) (by omega)).mono ?_
  rintro _ _ ⟨rfl, rfl⟩
  have n2 : ¬ k + (offN g.letters g.letters.length : Int) + (offN g.next g.next.length : Int) < 0 := by omega
  refine sS1 @n2 ?_
  exact hR _ _ hs rfl
theorem fgF_sz {g : GrS} {f : Int} : GrSz (fgF g f) := by
  unfold fgF
  split
  · rename_i h
    have hA := (grB_iff.1 h).al
    have hcl := clsF_cls hA
    have hpl := hcl.len
    have hn := hA.n0
    have hrl : (repsL (clsF g)).length ≤ g.letters.length := by rw [← hpl]; exact RL_le
    refine ⟨by rw [foldF_len]; omega, fun r hr => ?_, by simp only [foldF, List.length_map]; omega, fun r hr => ?_⟩
    · obtain ⟨n, hn2, rfl⟩ := List.mem_map.1 hr
      have hlt : n < g.letters.length := by rw [← hpl]; exact List.mem_range.1 (List.mem_filter.1 hn2).1
      rw [show g.letters.getD n [] = g.letters[n] by simp [List.getD, hlt]]
      have := (hA.lt _ (List.getElem_mem hlt)).1; omega
    · obtain ⟨n, hn2, rfl⟩ := List.mem_map.1 hr
      rw [← selL_ascL]
      exact Nat.le_trans selL_len (by omega)
  · exact ⟨by simp, fun r hr => (by cases hr), by simp, fun r hr => (by cases hr)⟩
end Go.M2

namespace Go.M2
open Go.Proofs
variable {M : MH}
theorem Gr.out {M0 Mb M Mr : MH} {v : V} {us : List V} {fp g : List (Nat × List V)} (h : Gr 1 Mb M v us) (hm : Mem M0 Mb fp) (k : Mem M Mr g) : ∃ Mb', Gr 1 Mb' Mr v us ∧ Mem M0 Mb' (fp ++ g) := by
  have key : Sub Mb (fun i => if blkV v = .some i then none else Mr i) := fun i l hi => by
    have hne : blkV v ≠ some i := fun e => by rw [h.new i e] at hi; cases hi
    simp only [hne, if_false]; exact k.sub _ _ (h.sub _ _ hi)
  refine ⟨fun i => if blkV v = .some i then none else Mr i, ⟨fun i l hi => ?_, fun b hb => by simp [hb], h.own.sub k.sub⟩, hm.add ⟨key, fun p hp => h.sub.none (k.new p hp), k.nd, fun p hp => ?_⟩⟩
  · have hi : (if blkV v = .some i then none else Mr i) = .some l := hi
    split at hi
    · cases hi
    · exact hi
  · have hne : blkV v ≠ some p.1 := fun e => by
      have h1 := k.new p hp
      rcases h.own with ⟨rfl, q, rfl⟩ | ⟨b', n, ex, rfl, h2, _⟩
      · simp [blkV] at e
      · simp [blkV] at e; subst e; rw [h1] at h2; cases h2
    simp only [hne, if_false]; exact k.at_ p hp
def RT (M0 M : MH) (v : V) (rows : List (List Int)) : Prop :=
  ∃ us us' fp Mb, Gr 1 Mb M v us ∧ Mem M0 Mb fp ∧ Tr us us' fp ∧ flatL us ∧ (∀ q ∈ fp, flatL q.2) ∧ us.all oneV = true ∧ Cs isL us' rows
section
variable {M0 M1 M2 : MH} {v u : V} {rows : List (List Int)} {ys : List Int}
theorem RT.sub (h : RT M0 M1 v rows) : Sub M0 M1 := by
  obtain ⟨us, us', fp, Mb, hg, hm, _⟩ := h
  exact hm.sub.trans hg.sub
theorem RT.nil {k : Nat} (h : Sub M0 M1) : RT M0 M1 (.sc (.sl none 0 0 true k)) [] := ⟨[], [], [], M1, .nil (Sub.refl _), .nil h, .nil, by simp [flatL], fun q hq => (by cases hq), rfl, .nil⟩
theorem RT.len (h : RT M0 M1 v rows) : lenF (er v) = .some (.int .i64 (rows.length : Int)) := by
  obtain ⟨us, us', fp, Mb, hg, hm, ht, _, _, _, hc⟩ := h
  rw [hg.len1, ← hc.1, ht.len]
theorem RT.one (h : RT M0 M1 v rows) : One v := by
  obtain ⟨us, us', fp, Mb, hg, _⟩ := h
  exact hg.one
theorem RT.more (h : RT M0 M1 v rows) (hs : Sub M1 M2) : RT M0 M2 v rows := by
  obtain ⟨us, us', fp, Mb, hg, hm, h⟩ := h
  obtain ⟨Mb', g1, m1⟩ := hg.out hm (Mem.nil hs)
  rw [List.append_nil] at m1
  exact ⟨us, us', fp, Mb', g1, m1, h⟩
theorem RT.base {Mz : MH} (h : RT M0 M1 v rows) (hs : Sub Mz M0) : RT Mz M1 v rows := by
  obtain ⟨us, us', fp, Mb, hg, hm, h⟩ := h
  exact ⟨us, us', fp, Mb, hg, hm.base hs, h⟩
theorem RT.tree (h : RT M0 M1 v rows) : ∃ v' fp, Tr [v] [v'] fp ∧ Mem M0 M1 fp ∧ flat v ∧ (∀ q ∈ fp, flatL q.2) ∧ LII v' rows := by
  obtain ⟨us, us', fp, Mb, hg, hm, ht, hf, hff, _, hc⟩ := h
  rcases hg.own with ⟨rfl, k, rfl⟩ | ⟨b, n, ex, rfl, hb, hl⟩
  · cases ht
    have : rows = [] := List.eq_nil_of_length_eq_zero hc.1.symm
    subst this
    exact ⟨_, [], .refl _, .nil (hm.sub.trans hg.sub), by simp [flat], fun q hq => (by cases hq), .nil⟩
  · have hnew : Mb b = none := hg.new b rfl
    refine ⟨.fs (some (b, 0)) n n ex 1 (us'.drop 0), (b, us) :: (fp ++ []), .sl ht .nil, ?_, by simp [flat], fun q hq => ?_, ?_⟩
    · have k : Mem Mb M1 [(b, us)] := ⟨hg.sub, fun p hp => by simp at hp; subst hp; exact hnew, by simp [Nd2], fun p hp => by simp at hp; subst hp; exact hb⟩
      rw [List.append_nil]
      exact (hm.add k).perm List.perm_append_comm
    · simp only [List.append_nil, List.mem_cons] at hq
      rcases hq with rfl | h1
      · exact hf
      · exact hff q h1
    · have := ht.len
      exact Fr.lsC (us := us') (.inr ⟨_, _, _, _, _, by rw [List.drop_zero], by omega⟩) hc
theorem RT.dn (h : RT M0 M1 v rows) : Dn M0 M1 v (fun u => LII u rows) := h.tree
theorem RT.row (h : RT M0 M1 v rows) {i : Nat} (hi : i < rows.length) : ∃ (us : List V) (u u' : V) (g : List (Nat × List V)), (∀ {k : IntKind} {a : Int}, 0 ≤ a → a < (rows.length : Int) → iaddrV 1 v (.int k a) = .some (.sc (.ptr (some (oB v, a.toNat))))) ∧ M1 (oB v) = .some us ∧ us[i]? = .some u ∧ One u ∧ Tr [u] [u'] g ∧ Nd2 g ∧ (∀ p ∈ g, M1 p.1 = .some p.2) ∧ (∀ p ∈ g, M0 p.1 = none) ∧ LI u' rows[i] := by
  obtain ⟨us, us', fp, Mb, hg, hm, ht, hf, hff, ho, hc⟩ := h
  have hul : us.length = rows.length := by rw [← ht.len]; exact hc.1
  have hiu : i < us.length := by omega
  have hsp : us = us.take i ++ (us[i] :: us.drop (i + 1)) := by rw [← List.drop_eq_getElem_cons hiu, List.take_append_drop]
  rw [hsp] at ht
  obtain ⟨a', b', f1, f2, rfl, rfl, t1, t2⟩ := Tr.split (a := us.take i) (b := us[i] :: us.drop (i + 1)) (b' := []) ht
  obtain ⟨x', r', g1, g2, rfl, rfl, t3, t4⟩ := t2.uncons
  have hal : a'.length = i := by rw [t1.len, List.length_take]; omega
  have hmg : Mem M0 Mb g1 := hm.right.left
  have h4 := hc.2 i hi
  rw [List.getElem?_append_right (by omega), hal, Nat.sub_self] at h4
  obtain ⟨w, h5, h6⟩ := h4
  simp only [List.getElem?_cons_zero, Option.some.injEq] at h5
  subst h5
  have o1 := List.all_eq_true.1 ho _ (List.getElem_mem hiu)
  have fl := flatL_all.1 hf _ (List.getElem_mem hiu)
  refine ⟨us, us[i], x', g1, fun h0 h1 => hg.own.iaddr h0 (by rw [hul]; exact h1), hg.at (by omega), List.getElem?_eq_getElem hiu, ⟨o1, ?_⟩, t3, hmg.nd, fun p hp => hg.sub _ _ (hmg.at_ p hp), hmg.new, h6⟩
  rcases t3.inv1 with ⟨h1, h2⟩ | ⟨b, o, n, c, ex, k, cs, cs', g, h0, _⟩ | ⟨a, a', _, h0⟩ | ⟨a, a', _, h0⟩
  · simp only [List.cons.injEq, and_true] at h1
    rw [← h1]; exact h6.one.2
  · rw [h0]; rfl
  · rw [h0] at o1; exact absurd o1 (by simp [oneV, er, oneA])
  · rw [h0] at o1; exact absurd o1 (by simp [oneV, er, oneA])
theorem RT.snoc {s' : V} {M' : MH} {us us' : List V} {fp g : List (Nat × List V)} {u' : V} {Mb' : MH} (h1 : Gr 1 Mb' M' s' (us ++ [u])) (m1 : Mem M0 Mb' (fp ++ g)) (ht : Tr us us' fp) (htu : Tr [u] [u'] g) (hf : flatL us) (hfu : flat u) (hff : ∀ q ∈ fp, flatL q.2) (hfg : ∀ q ∈ g, flatL q.2)
    (ho : us.all oneV = true) (hou : oneV u = true) (hc : Cs isL us' rows) (hu : LI u' ys) : RT M0 M' s' (rows ++ [ys]) := by
  refine ⟨us ++ [u], us' ++ [u'], fp ++ g, Mb', h1, m1, ht.append htu, ?_, ?_, by simp [ho, hou], hc.snoc (x := ys) hu⟩
  · exact flatL_all.2 fun w hw => by
      rcases List.mem_append.1 hw with h2 | h2
      · exact flatL_all.1 hf w h2
      · rw [List.mem_singleton] at h2; subst h2; exact hfu
  · intro w hw
    rcases List.mem_append.1 hw with h2 | h2
    · exact hff w h2
    · exact hfg w h2
end
end Go.M2

namespace Go.M2
open Go.Proofs
variable {M : MH}
end Go.M2

namespace Go.M2
open Go.Proofs
variable {M : MH}
end Go.M2

namespace Go.M2
open Go.Proofs
variable {M : MH}
theorem Tr.one1 {u u' : V} {g : List (Nat × List V)} (h : Tr [u] [u'] g) (h' : One u') : One u := by
  obtain ⟨h1, h2⟩ := h'
  rcases h.inv1 with ⟨h3, _⟩ | ⟨b, o, n, c, ex, k, cs, cs', g, rfl, _⟩ | ⟨a, a', h3, _⟩ | ⟨a, a', h3, _⟩
  · simp only [List.cons.injEq, and_true] at h3
    rw [← h3]; exact ⟨h1, h2⟩
  · exact ⟨rfl, rfl⟩
  · simp only [List.cons.injEq, and_true] at h3
    rw [h3] at h1; exact absurd h1 (by simp [oneV, er, oneA])
  · simp only [List.cons.injEq, and_true] at h3
    rw [h3] at h1; exact absurd h1 (by simp [oneV, er, oneA])
def RdI (M : MH) (v : V) (xs : List Int) : Prop := ∃ v' g, Tr [v] [v'] g ∧ Nd2 g ∧ (∀ p ∈ g, M p.1 = .some p.2) ∧ LI v' xs
theorem RdI.of {v : V} {xs : List Int} (h : LI v xs) : RdI M v xs := ⟨v, [], .refl _, List.nodup_nil, fun p hp => (by cases hp), h⟩
theorem RdI.more {M' : MH} {v : V} {xs : List Int} (h : RdI M v xs) (hs : Sub M M') : RdI M' v xs := by
  obtain ⟨v', g, h1, h2, h3, h4⟩ := h
  exact ⟨v', g, h1, h2, fun p hp => hs _ _ (h3 p hp), h4⟩
theorem RdI.one {v : V} {xs : List Int} (h : RdI M v xs) : One v := by
  obtain ⟨v', g, h1, h2, h3, h4⟩ := h
  exact h1.one1 h4.one
theorem Dn.rdI {M0 : MH} {v : V} {xs : List Int} (h : Dn M0 M v (fun u => LI u xs)) : RdI M v xs := by
  obtain ⟨v', g, h1, h2, h3, h4, h5⟩ := h
  exact ⟨v', g, h1, h2.nd, h2.at_, h5⟩
theorem RdI.len {v : V} {xs : List Int} (h : RdI M v xs) : lenF (er v) = .some (.int .i64 (xs.length : Int)) := by
  obtain ⟨v', g, h1, h2, h3, h4⟩ := h
  have hl := h4.len
  rcases h1.inv1 with ⟨h5, _⟩ | ⟨b, o, n, c, ex, k, cs, cs', g, rfl, h5, _⟩ | ⟨a, a', h5, rfl⟩ | ⟨a, a', h5, rfl⟩
  · simp only [List.cons.injEq, and_true] at h5
    rw [← h5]; exact hl
  · simp only [List.cons.injEq, and_true] at h5
    rw [h5] at hl; exact hl
  · simp only [List.cons.injEq, and_true] at h5
    rw [h5] at hl; simp [er, lenF] at hl
  · simp only [List.cons.injEq, and_true] at h5
    rw [h5] at hl; simp [er, lenF] at hl
theorem RT.rdI {M0 M1 : MH} {v u : V} {us : List V} {rows : List (List Int)} (h : RT M0 M1 v rows) {i : Nat} (hi : i < rows.length) (hm : M1 (oB v) = .some us) (hu : us[i]? = .some u) : RdI M1 u rows[i] := by
  obtain ⟨us2, u2, u', g, _, h1, h2, _, h3, h4, h5, _, h6⟩ := h.row hi
  rw [hm] at h1; cases h1
  rw [hu] at h2; cases h2
  exact ⟨u', g, h3, h4, h5, h6⟩
theorem RT.cell {M0 M1 : MH} {v : V} {rows : List (List Int)} (h : RT M0 M1 v rows) (hl : 0 < rows.length) : ∃ us : List V, M1 (oB v) = .some us ∧ us.length = rows.length ∧ ∀ i (h : i < rows.length), ∃ u, us[i]? = .some u ∧ RdI M1 u rows[i] := by
  have h0 := h
  obtain ⟨us, us', fp, Mb, hg, hm, ht, hf, hff, ho, hc⟩ := h0
  have hul : us.length = rows.length := by rw [← ht.len]; exact hc.1
  have hat : M1 (oB v) = .some us := hg.at (by omega)
  exact ⟨us, hat, hul, fun i hi => ⟨us[i]'(by omega), List.getElem?_eq_getElem (by omega), h.rdI hi hat (List.getElem?_eq_getElem (by omega))⟩⟩
theorem RT.iaddr {M0 M1 : MH} {v : V} {rows : List (List Int)} (h : RT M0 M1 v rows) {k : IntKind} {a : Int} (h0 : 0 ≤ a) (h1 : a < (rows.length : Int)) : iaddrV 1 v (.int k a) = .some (.sc (.ptr (some (oB v, a.toNat)))) := by
  obtain ⟨us, us', fp, Mb, hg, hm, ht, hf, hff, ho, hc⟩ := h
  have hul : us.length = rows.length := by rw [← ht.len]; exact hc.1
  exact hg.own.iaddr h0 (by rw [hul]; exact h1)
end Go.M2

namespace Go.M2
open Go.Proofs
variable {M : MH}
theorem o_impFolded {u : V} {g : GrS} {f : Int} (hu : isGr g u) (hz : GrSz g) : VCall Tryd.prog n_impl_FoldedGraph [u, .sc (.int .i64 f)] M (fun r M' => Dn M M' r (fun w => isGr (fgF g f) w)) :=
  (t_impFoldedGraph hu hz).mono fun r M' ⟨x, y, x', y', fp, e, _, _, h⟩ => ⟨_, fp, by subst e; exact h.arg, h.mem, by subst e; have := h.fl; simp only [flatL] at this; simp only [flat, flatL]; exact ⟨this.1, trivial, this.2⟩, h.ff, h.gr⟩
theorem Tr.gr {v v' : V} {fp : List (Nat × List V)} {g : GrS} (ht : Tr [v] [v'] fp) (hf : flat v) (hv : isGr g v') : ∃ x y x' y', v = .agg [x, .sc (.int .i64 g.first), y] ∧ One x ∧ One y ∧ Tr [x, y] [x', y'] fp ∧ flatL [x, y] ∧ LII x' g.letters ∧ LII y' g.next := by
  obtain ⟨x', y', rfl, hx, hy⟩ := hv
  cases ht with
  | keep v h1 =>
    cases h1
    simp only [flat, flatL] at hf
    exact ⟨x', y', x', y', rfl, hx.one, hy.one, .refl _, by simp only [flatL]; exact ⟨hf.1, hf.2.2.1, trivial⟩, hx, hy⟩
  | agg h1 h2 =>
    cases h2
    rename_i a fp1
    match a, h1 with
    | [x, n, y], h1 =>
      obtain ⟨x2, t', f1, f2, e1, rfl, h3, h4⟩ := h1.uncons
      obtain ⟨n2, t2, f3, f4, e2, rfl, h5, h6⟩ := h4.uncons
      rw [List.cons.injEq] at e1
      obtain ⟨rfl, rfl⟩ := e1
      rw [List.cons.injEq] at e2
      obtain ⟨rfl, rfl⟩ := e2
      simp only [flat, flatL] at hf
      cases h5 with
      | keep _ h7 =>
        cases h7
        have ht := h3.append h6
        exact ⟨x, y, _, _, rfl, h3.one1 hx.one, h6.one1 hy.one, by simpa using ht, by simp only [flatL]; exact ⟨hf.1, hf.2.2.1, trivial⟩, hx, hy⟩
    | [], h1 => exact absurd h1.len (by simp)
    | [x], h1 => exact absurd h1.len (by simp)
    | [x, y], h1 => exact absurd h1.len (by simp)
    | x :: y :: z :: w :: t, h1 => exact absurd h1.len (by simp)
theorem law_FoldedGraph {v : V} {g : GrS} {f : Int} (hv : isGrX g v) (hl : GrLen g) :
    VCall Tryd.prog n_laws_FnExactFoldedGraph [v, .sc (.int .i64 f)] M (fun r M' => M = M' ∧ r = .sc (.bool true)) := by
  refine VCall.pure fun R hR => v_laws_FnExactFoldedGraph rfl ?_
  have hv0 := hv
  obtain ⟨a, b, rfl, ha, hb⟩ := hv
  (repeat' (first | ((with_reducible first | refine cond_dec (fun h => ?_) (fun h => ?_) | refine guardK_dec (fun h => ?_) (fun h => ?_) | refine guardD3_dec (fun h => ?_) (fun h => ?_)) <;> first | (exfalso; omega) | (simp (maxSteps := 2000000) (disch := first | omega | assumption | exact idP rfl | exact idP (bL rfl)) only [go_sem, reduceIte, Nat.reduceEqDiff, wpV_kd, wpV_tH, h]) | skip) | ((with_reducible first | refine cond_split (fun h => ?_) (fun h => ?_) | refine guardK_split (fun h => ?_) (fun h => ?_) | refine guardD3_split (fun h => ?_) (fun h => ?_)) <;> ((try simp only [Bool.not_eq_true', Bool.not_eq_false'] at h); first | (simp (maxSteps := 2000000) (disch := first | omega | assumption | exact idP rfl | exact idP (bL rfl)) only [go_sem, reduceIte, Nat.reduceEqDiff, wpV_kd, wpV_tH, h]) | skip)) | (with_reducible intro bk hbk; try have hnk := (fresh_set hbk).1) | (simp (maxSteps := 2000000) (disch := first | omega | assumption | exact idP rfl | exact idP (bL rfl)) only [go_sem, reduceIte, Nat.reduceEqDiff, wpV_kd, wpV_tH])))
  refine (x_szGraph hv0 hl (by omega) (by omega)).mono ?_
  rintro _ _ ⟨rfl, k, rfl, hk1, hk⟩
  (repeat' (first | ((with_reducible first | refine cond_dec (fun h => ?_) (fun h => ?_) | refine guardK_dec (fun h => ?_) (fun h => ?_) | refine guardD3_dec (fun h => ?_) (fun h => ?_)) <;> first | (exfalso; omega) | (simp (maxSteps := 2000000) (disch := first | omega | assumption | exact idP rfl | exact idP (bL rfl)) only [go_sem, reduceIte, Nat.reduceEqDiff, wpV_kd, wpV_tH, h]) | skip) | ((with_reducible first | refine cond_split (fun h => ?_) (fun h => ?_) | refine guardK_split (fun h => ?_) (fun h => ?_) | refine guardD3_split (fun h => ?_) (fun h => ?_)) <;> ((try simp only [Bool.not_eq_true', Bool.not_eq_false'] at h); first | (simp (maxSteps := 2000000) (disch := first | omega | assumption | exact idP rfl | exact idP (bL rfl)) only [go_sem, reduceIte, Nat.reduceEqDiff, wpV_kd, wpV_tH, h]) | skip)) | (with_reducible intro bk hbk; try have hnk := (fresh_set hbk).1) | (simp (maxSteps := 2000000) (disch := first | omega | assumption | exact idP rfl | exact idP (bL rfl)) only [go_sem, reduceIte, Nat.reduceEqDiff, wpV_kd, wpV_tH])))
  · exact hR _ _ (sB) rfl
  · have hf := hk (by omega)
    have hzf := fgF_sz (g := g) (f := f)
    have hm0 : (M.set bk [a, .sc (.int .i64 g.first), b]) bk = .some [a, .sc (.int .i64 g.first), b] := set_same
    have hsub0 : Sub M (M.set bk [a, .sc (.int .i64 g.first), b]) := (Sub.refl M).set' hbk
    generalize M.set bk [a, .sc (.int .i64 g.first), b] = MA at *
    refine (f_toGraph hv0 hf).mono ?_
    rintro s1 _ ⟨rfl, hs1⟩
    refine sS0 ?_
    refine (t_specFoldedGraph hs1 hf).mono ?_
    rintro w0 _ ⟨rfl, hw0⟩
    have hw00 := hw0
    obtain ⟨wx, wy, rfl, hwx, hwy⟩ := hw0
    have c1 := hwx.one.1
    have c2 := hwx.one.2
    have c3 := hwy.one.1
    have c4 := hwy.one.2
    refine sS4 @c1 @c2 @c3 @c4 ?_
    intro b6 hb6
    have s6 : Sub MA (MA.set b6 [wx, .sc (.int .i64 (fgF g f).first), wy]) := (Sub.refl _).set' hb6
    have hw6 : (MA.set b6 [wx, .sc (.int .i64 (fgF g f).first), wy]) b6 = .some [wx, .sc (.int .i64 (fgF g f).first), wy] := set_same
    have hmk0 := s6 _ _ hm0
    have hsubW := hsub0.trans s6
    generalize MA.set b6 [wx, .sc (.int .i64 (fgF g f).first), wy] = MW at *
    refine sS1 @hmk0 ?_
    refine (o_toGraph hv0 hf).mono ?_
    rintro _ M1 ⟨x, y, x', y', fp, rfl, ⟨ox1, ox2⟩, ⟨oy1, oy2⟩, hos, -⟩
    refine sS4 @ox1 @ox2 @oy1 @oy2 ?_
    intro b7 hb7
    have hs7 : Sub M1 (M1.set b7 [x, .sc (.int .i64 g.first), y]) := (Sub.refl M1).set' hb7
    have hos3 := hos.more hs7
    have hm7 : (M1.set b7 [x, .sc (.int .i64 g.first), y]) b7 = .some [x, .sc (.int .i64 g.first), y] := set_same
    have htr : Tr [.agg [x, .sc (.int .i64 g.first), y], .sc (.int .i64 f)] [.agg [x', .sc (.int .i64 g.first), y'], .sc (.int .i64 f)] fp := by have := hos.arg.append (Tr.keep (.sc (.int .i64 f)) Tr.nil); rwa [List.append_nil] at this
    generalize M1.set b7 [x, .sc (.int .i64 g.first), y] = M3 at *
    refine (VCall.lendD htr hos3.mem.at_ hos3.mem.nd fun M' => o_impFolded hos.gr hf).mono ?_
    rintro g0 M4 ⟨g0', f0, tg0, mg, flg, ffg, hg0⟩
    obtain ⟨gx, gy, gx', gy', rfl, ⟨og1, og2⟩, ⟨oh1, oh2⟩, tg, flxy, hgx, hgy⟩ := tg0.gr flg hg0
    have og1' : One gx := ⟨og1, og2⟩
    have oh1' : One gy := ⟨oh1, oh2⟩
    have hog : OwnG M3 M4 (fgF g f) gx gy gx' gy' f0 := ⟨tg, mg, flxy, ffg, hgx, hgy⟩
    refine sS4 @og1 @og2 @oh1 @oh2 ?_
    intro b8 hb8
    have hs8 : Sub M4 (M4.set b8 [gx, .sc (.int .i64 (fgF g f).first), gy]) := (Sub.refl M4).set' hb8
    have hm8 : (M4.set b8 [gx, .sc (.int .i64 (fgF g f).first), gy]) b8 = .some [gx, .sc (.int .i64 (fgF g f).first), gy] := set_same
    have hog5 := hog.more hs8
    have hos5 := (hos3.more mg.sub).more hs8
    have sub35 : Sub M3 (M4.set b8 [gx, .sc (.int .i64 (fgF g f).first), gy]) := mg.sub.trans hs8
    have sW5 := hos5.mem.sub
    have n8p : inF fp b8 = false := by
      cases hc : inF fp b8 with
      | false => rfl
      | true =>
        obtain ⟨l, hl⟩ := inF_iff.1 hc
        have e1 := mg.sub _ _ (hos3.mem.at_ _ hl)
        simp only at e1
        rw [hb8] at e1; cases e1
    have n80 : inF f0 b8 = false := by
      cases hc : inF f0 b8 with
      | false => rfl
      | true =>
        obtain ⟨l, hl⟩ := inF_iff.1 hc
        have e1 := mg.at_ _ hl
        simp only at e1
        rw [hb8] at e1; cases e1
    generalize M4.set b8 [gx, .sc (.int .i64 (fgF g f).first), gy] = M5 at *
    have w65 := sW5 _ _ hw6
    have mk5 := sW5 _ _ hmk0
    have m75 := sub35 _ _ hm7
    refine sS2 @hm8 @w65 ?_
    refine (l_eqGraph hog5 hw00 hzf).mono ?_
    rintro _ _ ⟨rfl, rfl⟩
    refine sS2 @m75 @mk5 ?_
    refine (f_toGraph hv0 hf).mono ?_
    rintro s3 _ ⟨rfl, hs3⟩
    refine sS1 @m75 ?_
    refine (l_eqGraph hos5 hs3 hf).mono ?_
    rintro _ _ ⟨rfl, rfl⟩
    refine sS1 @m75 ?_
    refine (t_markGraph hos5 hf (by omega) (by omega)).mono ?_
    rintro _ M6 ⟨rfl, -, -, keep6⟩
    have outW : ∀ {fq : List (Nat × List V)} {MX : MH}, Mem MW MX fq → ∀ q l, MW q = .some l → inF fq q = false := fun hm q l hq => by
      cases hc : inF _ q with
      | false => rfl
      | true =>
        obtain ⟨l2, hl⟩ := inF_iff.1 hc
        have := hm.new _ hl
        simp only at this
        rw [this] at hq; cases hq
    have ng : ∀ p ∈ f0, inF fp p.1 = false := fun p hp => by
      cases hc : inF fp p.1 with
      | false => rfl
      | true =>
        obtain ⟨l, hl⟩ := inF_iff.1 hc
        have e1 := hos3.mem.at_ _ hl
        have e2 := mg.new p hp
        simp only at e1
        rw [e1] at e2; cases e2
    have sub6 : Sub MW M6 := fun q l hq => keep6 q l (sW5 q l hq) (outW hos5.mem q l hq)
    have mem6 : Mem MW M6 f0 := ⟨sub6, fun p hp => hos3.mem.sub.none (mg.new p hp), mg.nd, fun p hp => keep6 _ _ (hog5.mem.at_ p hp) (ng p hp)⟩
    have hog6 : OwnG MW M6 (fgF g f) gx gy gx' gy' f0 := ⟨tg, mem6, flxy, ffg, hgx, hgy⟩
    have hm86 := keep6 _ _ hm8 n8p
    have w66 := sub6 _ _ hw6
    have hk6 : ¬ (1 : Int) + (offN g.letters g.letters.length : Int) + (offN g.next g.next.length : Int) < 0 := by omega
    refine sS3 @hk6 @hm86 @w66 ?_
    refine (l_eqGraph hog6 hw00 hzf).mono ?_
    rintro _ _ ⟨rfl, rfl⟩
    refine sS1 @hm86 ?_
    refine (t_markGraph hog6 hzf (by omega) (by omega)).mono ?_
    rintro _ M7 ⟨rfl, hd1, hd2, keep7⟩
    have sub7 : Sub MW M7 := fun q l hq => keep7 q l (sub6 q l hq) (outW mem6 q l hq)
    have hm87 := keep7 _ _ hm86 n80
    have w67 := sub7 _ _ hw6
    have mk7 := sub7 _ _ hmk0
    refine sS1 @hm87 ?_
    have one3 : One (.sc (.int .i64 (fgF g f).first)) := ⟨rfl, rfl⟩
    refine (t_heldGraph hd1 hd2 og1' oh1' one3 hzf (by omega) (by omega)).mono ?_
    rintro _ _ ⟨rfl, rfl⟩
    have hk7 : ¬ (1 : Int) + (offN (fgF g f).letters (fgF g f).letters.length : Int) + (offN (fgF g f).next (fgF g f).next.length : Int) < 0 := by omega
    refine sS2 @hk7 @mk7 ?_
    refine (f_toGraph hv0 hf).mono ?_
    rintro s4 _ ⟨rfl, hs4⟩
    refine sS0 ?_
    refine (VCall.frT (o_impFolded hs4 hf)).mono ?_
    rintro h0 _ ⟨rfl, hh0⟩
    have hh00 := hh0
    obtain ⟨hx0, hy0, rfl, hhx, hhy⟩ := hh0
    have e1 := hhx.one.1
    have e2 := hhx.one.2
    have e3 := hhy.one.1
    have e4 := hhy.one.2
    refine sS4 @e1 @e2 @e3 @e4 ?_
    intro b12 hb12
    have s12 : Sub M7 (M7.set b12 [hx0, .sc (.int .i64 (fgF g f).first), hy0]) := (Sub.refl M7).set' hb12
    have w68 := s12 _ _ w67
    have hm88 := s12 _ _ hm87
    have hd1' := hd1.more s12
    have hd2' := hd2.more s12
    have subE : Sub MW (M7.set b12 [hx0, .sc (.int .i64 (fgF g f).first), hy0]) := sub7.trans s12
    generalize M7.set b12 [hx0, .sc (.int .i64 (fgF g f).first), hy0] = M8 at *
    refine sS1 @w68 ?_
    refine (x_eqGraph hh00 hw00 hzf).mono ?_
    rintro _ _ ⟨rfl, rfl⟩
    refine sS1 @hm88 ?_
    refine (t_heldGraph hd1' hd2' og1' oh1' one3 hzf (by omega) (by omega)).mono ?_
    rintro _ _ ⟨rfl, rfl⟩
    refine sS1 @hk7 ?_
    exact hR _ _ (hsubW.trans subE) rfl
end Go.M2

namespace Go.M2
open Go.Proofs
variable {H : Type} {enc : TypeId × Value → H} {W : World} {fuel : Nat} {x : DataW H × List MemPlace}
theorem up_graph {v : Value} (hv : ∃ a, v = .agg a) (h : DataW.trod enc Tryd.prog W 0 (fun _ => true) true fuel 24 v.cells.toList = .some x) : ∃ g : GrS, UpV W (fun (g : GrS) u => isGrX g u) g v ∧ GrLen g := by
  obtain ⟨cs, rfl⟩ := hv
  have c1 : Tryd.prog.cellsOf 22 = 1 := by kernel_rfl
  have c2 : Tryd.prog.cellsOf 3 = 1 := by kernel_rfl
  obtain ⟨xs, n, _, _, hl, hxl, hf⟩ := DataW.trod_struct Tryd.underlying24 h
  have hxl : xs.length = 3 := hxl
  have hl : cs.toList.length = 3 := hl.trans (by kernel_rfl)
  obtain ⟨a, b, c, hab⟩ : ∃ a b c, cs.toList = [a, b, c] := by
    match hcs : cs.toList, hl with
    | [a, b, c], _ => exact ⟨a, b, c, rfl⟩
  have f0 := hf 0 ⟨ "Letters", 22, 0, false, "", "", 0⟩ rfl
  have f1 := hf 1 ⟨ "First", 3, 1, false, "", "", 24⟩ rfl
  have f2 := hf 2 ⟨ "Next", 22, 2, false, "", "", 32⟩ rfl
  rw [List.getElem?_eq_getElem (by omega)] at f0 f1 f2
  simp only [Value.cells, hab, c1, c2, List.drop_zero, List.drop_succ_cons, List.take_succ_cons, List.take_zero] at f0 f1 f2
  obtain ⟨n0, e0, g0⟩ := in_intss f0
  obtain ⟨n1, e1, g1⟩ := in_n Tryd.underlying3 f1
  obtain ⟨n2, e2, g2⟩ := in_intss f2
  obtain ⟨u0, p0, q0, r0⟩ := e0.one
  obtain ⟨u1, p1, q1, r1⟩ := e1.one
  obtain ⟨u2, p2, q2, r2⟩ := e2.one
  refine ⟨⟨n0, n1, n2⟩, ⟨.agg [u0, u1, u2], ?_, by simp only [okV, okL]; exact ⟨q0, q1, q2, trivial⟩, u0, u2, ?_, r0, r2⟩, g0.1, g0.2, g2.1, g2.2⟩
  · simp [er, erl, avT, hab, p0, p1, p2]
  · rw [show u1 = .sc (.int .i64 n1) from r1]
end Go.M2
namespace Go.Proofs.YtopnlohhfllcpaaDoor
open Go.ChangeShapes Go.WideShapes Go.ChangeAt Go.RowKit Go.M2
theorem own : ownKnob Tryd.prog.godebug = none := by kernel_rfl
theorem laidOut : laidOutB Tryd.prog = true := by kernel_rfl
def laidL : List (String × DataW Unit) := [("math/bits.deBruijn32tab", Rows.laid_math_bits_deBruijn32tab), ("math/bits.deBruijn64tab", Rows.laid_math_bits_deBruijn64tab), ("internal/strconv.uint64pow10", Rows.laid_internal_strconv_uint64pow10)]
set_option maxRecDepth 100000 in
theorem door_met (os : Os) (args : Array Value) : laidMetH Tryd.prog laidL ((World.doorLaid Tryd.prog 24 os).forCall (fun _ _ => 0) ⟨#[], args, []⟩).memory :=
  laidMetH_of_parts3 (fuel := 8) (laidMet_of_run' 8 (by kernel_rfl) (by kernel_rfl)) (by kernel_rfl) (by kernel_rfl)
theorem gTab : Tryd.prog.globalNamed "internal/strconv.uint64pow10" = .some 0 := by kernel_rfl
theorem gTabType : ∃ t, (Tryd.prog.globals[0]?).map (·.type) = .some t ∧ Tryd.prog.underlying t = .some (.array 20 99) ∧ Tryd.prog.cellsOf t = 20 := ⟨115, by kernel_rfl, by kernel_rfl, by kernel_rfl⟩
set_option maxRecDepth 100000 in
theorem tab_of_laid {W : World} (h : laidMetH Tryd.prog laidL W) : TabOk W := by
  rw [MakeChecks.laidMetH_plain _ _ _ (by kernel_rfl)] at h
  obtain ⟨ps, ⟨g0, t0, cs0, f0, p0, q0, hg0, ht0, hv0, hd0, ⟨g1, t1, cs1, f1, p1, q1, hg1, ht1, hv1, hd1, ⟨g2, t2, cs2, f2, p2, q2, hg2, ht2, hv2, hd2, _, _⟩, _⟩, _⟩, _, _⟩ := h
  obtain ⟨t, k1, k2, k3⟩ := gTabType
  obtain rfl := Option.some.inj (gTab.symm.trans hg2)
  obtain rfl := Option.some.inj (k1.symm.trans ht2)
  show Lib.TabIs Tryd.prog W "internal/strconv.uint64pow10" .u64 Lib.pow10Tab
  unfold Lib.TabIs
  rw [hv2, ← Lib.cells_of_tab (zs := Lib.pow10Tab) k2 Tryd.underlying99 (by kernel_rfl) k3 hd2]
end Go.Proofs.YtopnlohhfllcpaaDoor
