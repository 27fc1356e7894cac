/- Contracts: what a law asks of a list that comes back. -/
import Derived.Test.YtbghdkclhbenkaaWR5
import Derived.WalkKit
import Derived.ProofKit
import Derived.OpenShut
set_option linter.unusedVariables false
set_option linter.unusedSimpArgs false
set_option maxRecDepth 10000
set_option maxHeartbeats 4000000
namespace Go.M2
open Go.Proofs
variable {M : MH}
theorem Dn.nil1 {k : Nat} : Dn M M (.sc (.sl none 0 0 true k)) (fun u => LI u []) := ⟨_, [], .refl _, .nil (Sub.refl _), by simp [flat], fun q hq => (by cases hq), .nil⟩
theorem Gr.dnI {M' : MH} {v : V} {ys : List Int} (h : Gr 1 M M' v (ys.map vi)) : Dn M M' v (fun u => LI u ys) := h.dn (flatL_vi ys) fun u hu => hu.li
def Hd (M : MH) (v : V) (n : Nat) (k : Int) : Prop := (n = 0 ∧ ∃ q, v = .sc (.sl none 0 0 true q)) ∨ ∃ (b o c : Nat) (ex : Bool) (kk : Nat) (l : List V), v = .sc (.sl (some (b, o)) n c ex kk) ∧ M b = .some l ∧ ∀ i, i < n → l[o + i]? = .some (.sc (.int .i64 (k + i)))
theorem t_heldIntS {v : V} {n : Nat} {k : Int} (hv : Hd M v n k) (hn : n ≤ 1048576) (hk : 0 ≤ k) (hk2 : k ≤ 9000000000000000000) : VCall Try.prog n_laws_heldIntS [v, .sc (.int .i64 k)] M (fun r M' => M = M' ∧ r = .sc (.int .i64 (k + n))) := by
  refine VCall.pure fun R hR => v_laws_heldIntS rfl ?_
  rcases hv with ⟨rfl, q, rfl⟩ | ⟨b, o, c, ex, kk, l, rfl, hm, hl⟩
  · refine sS0 ?_
    refine loop_k (fun e M' => M' = M ∧ e 0 = .sc (.sl none 0 0 true q) ∧ e 1 = .sc (.int .i64 k) ∧ e 5 = .sc (.int .i64 0)) (fun e _ => 0) ⟨rfl, sT0, sT0, sT0⟩ ?_
    rintro e _ ⟨rfl, e0, e1, e5⟩ K hK
    refine sS3 @e0 @e1 @e5 ?_
    exact hR _ _ (sB) (by rw [Int.natCast_zero, Int.add_zero]; rfl)
  · refine sS0 ?_
    refine loop_k (fun e M' => M' = M ∧ ∃ i : Nat, i ≤ n ∧ e 0 = .sc (.sl (some (b, o)) n c ex kk) ∧ e 1 = .sc (.int .i64 (k + i)) ∧ e 5 = .sc (.int .i64 i)) (fun e _ => ctrV n (e 5)) ?_ ?_
    · exact ⟨rfl, 0, by omega, sT0, by refine sS0 ?_; simp, by refine sS0 ?_; rfl⟩
    · rintro e _ ⟨rfl, i, hi, e0, e1, e5⟩ K hK
      refine sS3 @e0 @e1 @e5 ?_
      refine cond_dec (fun h => ?_) (fun h => ?_)
      · have h1 := hl i (by omega)
        have h2 : l[o + i * 1]? = .some (.sc (.int .i64 (k + i))) := by rw [Nat.mul_one]; exact h1
        (repeat' (first | ((with_reducible first | refine cond_dec (fun h => ?_) (fun h => ?_) | refine guardK_dec (fun h => ?_) (fun h => ?_) | refine guardD3_dec (fun h => ?_) (fun h => ?_)) <;> first | (exfalso; omega) | (simp (maxSteps := 2000000) (disch := first | omega | assumption | exact idP rfl | exact idP (bL rfl)) only [go_sem, reduceIte, Nat.reduceEqDiff, wpV_kd, wpV_tH, h, e0, e1, e5, hm, h1, h2]) | skip) | ((with_reducible first | refine cond_split (fun h => ?_) (fun h => ?_) | refine guardK_split (fun h => ?_) (fun h => ?_) | refine guardD3_split (fun h => ?_) (fun h => ?_)) <;> ((try simp only [Bool.not_eq_true', Bool.not_eq_false'] at h); first | (simp (maxSteps := 2000000) (disch := first | omega | assumption | exact idP rfl | exact idP (bL rfl)) only [go_sem, reduceIte, Nat.reduceEqDiff, wpV_kd, wpV_tH, h, e0, e1, e5, hm, h1, h2]) | skip)) | (with_reducible intro bk hbk; try have hnk := (fresh_set hbk).1) | (simp (maxSteps := 2000000) (disch := first | omega | assumption | exact idP rfl | exact idP (bL rfl)) only [go_sem, reduceIte, Nat.reduceEqDiff, wpV_kd, wpV_tH, e0, e1, e5, hm, h1, h2])))
        exact hK _ _ ⟨rfl, i + 1, by omega, sT1 @e0, by refine sS1 @e1 ?_; rw [Int.natCast_add, Int.add_assoc]; rfl, by refine sS1 @e5 ?_; rfl⟩ (by refine sS2 @ctrV_int @e5 ?_; omega)
      · obtain rfl : i = n := by omega
        refine sS1 @e1 ?_
        exact hR _ _ (sB) rfl
end Go.M2

namespace Go.M2
open Go.Proofs
variable {M : MH}
theorem flat_bool {b : Bool} : ∀ r : V, r = .sc (.bool b) → flat r := fun r h => by subst h; simp [flat]
theorem OwnS.more {M0 M M' : MH} {s : SysS} {x y x' y' : V} {fp : List (Nat × List V)} (h : OwnS M0 M s x y x' y' fp) (hs : Sub M M') : OwnS M0 M' s x y x' y' fp := ⟨h.tr, h.mem.more hs, h.fl, h.ff, h.lx, h.ly⟩
theorem OwnS.arg {M0 M : MH} {s : SysS} {x y x' y' : V} {fp : List (Nat × List V)} (h : OwnS M0 M s x y x' y' fp) : Tr [.agg [x, y]] [.agg [x', y']] fp := by
  have := Tr.agg h.tr Tr.nil
  rwa [List.append_nil] at this
theorem l_eqSystem {M0 : MH} {s : SysS} {x y x' y' w : V} {fp : List (Nat × List V)} (h : OwnS M0 M s x y x' y' fp) (hw : isSys s w) (hf : SysFit s) : VCall Try.prog n_laws_eqSystem [.agg [x, y], w] M (fun r M' => M = M' ∧ r = .sc (.bool true)) := by
  have h2 : Tr [.agg [x, y], w] [.agg [x', y'], w] (fp ++ []) := h.arg.append (.keep w .nil)
  rw [List.append_nil] at h2
  exact VCall.lendP h2 h.mem.at_ h.mem.nd flat_bool fun M' => x_eqSystem h.sys hw hf
end Go.M2

namespace Go.M2
open Go.Proofs
variable {M : MH}
theorem Gr.out {M0 Mb M Mr : MH} {v : V} {us : List V} {fp g : List (Nat × List V)} (h : Gr 1 Mb M v us) (hm : Mem M0 Mb fp) (k : Mem M Mr g) : ∃ Mb', Gr 1 Mb' Mr v us ∧ Mem M0 Mb' (fp ++ g) := by
  have key : Sub Mb (fun i => if blkV v = .some i then none else Mr i) := fun i l hi => by
    have hne : blkV v ≠ some i := fun e => by rw [h.new i e] at hi; cases hi
    simp only [hne, if_false]; exact k.sub _ _ (h.sub _ _ hi)
  refine ⟨fun i => if blkV v = .some i then none else Mr i, ⟨fun i l hi => ?_, fun b hb => by simp [hb], h.own.sub k.sub⟩, hm.add ⟨key, fun p hp => h.sub.none (k.new p hp), k.nd, fun p hp => ?_⟩⟩
  · have hi : (if blkV v = .some i then none else Mr i) = .some l := hi
    split at hi
    · cases hi
    · exact hi
  · have hne : blkV v ≠ some p.1 := fun e => by
      have h1 := k.new p hp
      rcases h.own with ⟨rfl, q, rfl⟩ | ⟨b', n, ex, rfl, h2, _⟩
      · simp [blkV] at e
      · simp [blkV] at e; subst e; rw [h1] at h2; cases h2
    simp only [hne, if_false]; exact k.at_ p hp
def RT (M0 M : MH) (v : V) (rows : List (List Int)) : Prop :=
  ∃ us us' fp Mb, Gr 1 Mb M v us ∧ Mem M0 Mb fp ∧ Tr us us' fp ∧ flatL us ∧ (∀ q ∈ fp, flatL q.2) ∧ us.all oneV = true ∧ Cs isL us' rows
section
variable {M0 M1 M2 : MH} {v u : V} {rows : List (List Int)} {ys : List Int}
theorem RT.sub (h : RT M0 M1 v rows) : Sub M0 M1 := by
  obtain ⟨us, us', fp, Mb, hg, hm, _⟩ := h
  exact hm.sub.trans hg.sub
theorem RT.nil {k : Nat} (h : Sub M0 M1) : RT M0 M1 (.sc (.sl none 0 0 true k)) [] := ⟨[], [], [], M1, .nil (Sub.refl _), .nil h, .nil, by simp [flatL], fun q hq => (by cases hq), rfl, .nil⟩
theorem RT.len (h : RT M0 M1 v rows) : lenF (er v) = .some (.int .i64 (rows.length : Int)) := by
  obtain ⟨us, us', fp, Mb, hg, hm, ht, _, _, _, hc⟩ := h
  rw [hg.len1, ← hc.1, ht.len]
theorem RT.one (h : RT M0 M1 v rows) : One v := by
  obtain ⟨us, us', fp, Mb, hg, _⟩ := h
  exact hg.one
theorem RT.more (h : RT M0 M1 v rows) (hs : Sub M1 M2) : RT M0 M2 v rows := by
  obtain ⟨us, us', fp, Mb, hg, hm, h⟩ := h
  obtain ⟨Mb', g1, m1⟩ := hg.out hm (Mem.nil hs)
  rw [List.append_nil] at m1
  exact ⟨us, us', fp, Mb', g1, m1, h⟩
theorem RT.base {Mz : MH} (h : RT M0 M1 v rows) (hs : Sub Mz M0) : RT Mz M1 v rows := by
  obtain ⟨us, us', fp, Mb, hg, hm, h⟩ := h
  exact ⟨us, us', fp, Mb, hg, hm.base hs, h⟩
theorem RT.tree (h : RT M0 M1 v rows) : ∃ v' fp, Tr [v] [v'] fp ∧ Mem M0 M1 fp ∧ flat v ∧ (∀ q ∈ fp, flatL q.2) ∧ LII v' rows := by
  obtain ⟨us, us', fp, Mb, hg, hm, ht, hf, hff, _, hc⟩ := h
  rcases hg.own with ⟨rfl, k, rfl⟩ | ⟨b, n, ex, rfl, hb, hl⟩
  · cases ht
    have : rows = [] := List.eq_nil_of_length_eq_zero hc.1.symm
    subst this
    exact ⟨_, [], .refl _, .nil (hm.sub.trans hg.sub), by simp [flat], fun q hq => (by cases hq), .nil⟩
  · have hnew : Mb b = none := hg.new b rfl
    refine ⟨.fs (some (b, 0)) n n ex 1 (us'.drop 0), (b, us) :: (fp ++ []), .sl ht .nil, ?_, by simp [flat], fun q hq => ?_, ?_⟩
    · have k : Mem Mb M1 [(b, us)] := ⟨hg.sub, fun p hp => by simp at hp; subst hp; exact hnew, by simp [Nd2], fun p hp => by simp at hp; subst hp; exact hb⟩
      rw [List.append_nil]
      exact (hm.add k).perm List.perm_append_comm
    · simp only [List.append_nil, List.mem_cons] at hq
      rcases hq with rfl | h1
      · exact hf
      · exact hff q h1
    · have := ht.len
      exact Fr.lsC (us := us') (.inr ⟨_, _, _, _, _, by rw [List.drop_zero], by omega⟩) hc
theorem RT.dn (h : RT M0 M1 v rows) : Dn M0 M1 v (fun u => LII u rows) := h.tree
theorem RT.row (h : RT M0 M1 v rows) {i : Nat} (hi : i < rows.length) : ∃ (us : List V) (u u' : V) (g : List (Nat × List V)), (∀ {k : IntKind} {a : Int}, 0 ≤ a → a < (rows.length : Int) → iaddrV 1 v (.int k a) = .some (.sc (.ptr (some (oB v, a.toNat))))) ∧ M1 (oB v) = .some us ∧ us[i]? = .some u ∧ One u ∧ Tr [u] [u'] g ∧ Nd2 g ∧ (∀ p ∈ g, M1 p.1 = .some p.2) ∧ (∀ p ∈ g, M0 p.1 = none) ∧ LI u' rows[i] := by
  obtain ⟨us, us', fp, Mb, hg, hm, ht, hf, hff, ho, hc⟩ := h
  have hul : us.length = rows.length := by rw [← ht.len]; exact hc.1
  have hiu : i < us.length := by omega
  have hsp : us = us.take i ++ (us[i] :: us.drop (i + 1)) := by rw [← List.drop_eq_getElem_cons hiu, List.take_append_drop]
  rw [hsp] at ht
  obtain ⟨a', b', f1, f2, rfl, rfl, t1, t2⟩ := Tr.split (a := us.take i) (b := us[i] :: us.drop (i + 1)) (b' := []) ht
  obtain ⟨x', r', g1, g2, rfl, rfl, t3, t4⟩ := t2.uncons
  have hal : a'.length = i := by rw [t1.len, List.length_take]; omega
  have hmg : Mem M0 Mb g1 := hm.right.left
  have h4 := hc.2 i hi
  rw [List.getElem?_append_right (by omega), hal, Nat.sub_self] at h4
  obtain ⟨w, h5, h6⟩ := h4
  simp only [List.getElem?_cons_zero, Option.some.injEq] at h5
  subst h5
  have o1 := List.all_eq_true.1 ho _ (List.getElem_mem hiu)
  have fl := flatL_all.1 hf _ (List.getElem_mem hiu)
  refine ⟨us, us[i], x', g1, fun h0 h1 => hg.own.iaddr h0 (by rw [hul]; exact h1), hg.at (by omega), List.getElem?_eq_getElem hiu, ⟨o1, ?_⟩, t3, hmg.nd, fun p hp => hg.sub _ _ (hmg.at_ p hp), hmg.new, h6⟩
  rcases t3.inv1 with ⟨h1, h2⟩ | ⟨b, o, n, c, ex, k, cs, cs', g, h0, _⟩ | ⟨a, a', _, h0⟩ | ⟨a, a', _, h0⟩
  · simp only [List.cons.injEq, and_true] at h1
    rw [← h1]; exact h6.one.2
  · rw [h0]; rfl
  · rw [h0] at o1; exact absurd o1 (by simp [oneV, er, oneA])
  · rw [h0] at o1; exact absurd o1 (by simp [oneV, er, oneA])
theorem RT.snoc {s' : V} {M' : MH} {us us' : List V} {fp g : List (Nat × List V)} {u' : V} {Mb' : MH} (h1 : Gr 1 Mb' M' s' (us ++ [u])) (m1 : Mem M0 Mb' (fp ++ g)) (ht : Tr us us' fp) (htu : Tr [u] [u'] g) (hf : flatL us) (hfu : flat u) (hff : ∀ q ∈ fp, flatL q.2) (hfg : ∀ q ∈ g, flatL q.2)
    (ho : us.all oneV = true) (hou : oneV u = true) (hc : Cs isL us' rows) (hu : LI u' ys) : RT M0 M' s' (rows ++ [ys]) := by
  refine ⟨us ++ [u], us' ++ [u'], fp ++ g, Mb', h1, m1, ht.append htu, ?_, ?_, by simp [ho, hou], hc.snoc (x := ys) hu⟩
  · exact flatL_all.2 fun w hw => by
      rcases List.mem_append.1 hw with h2 | h2
      · exact flatL_all.1 hf w h2
      · rw [List.mem_singleton] at h2; subst h2; exact hfu
  · intro w hw
    rcases List.mem_append.1 hw with h2 | h2
    · exact hff w h2
    · exact hfg w h2
theorem t_cloneRows (h : RT M0 M v rows) (hl : rows.length ≤ 1048576) : VCall Try.prog n_impl_clone_Sint [v] M (fun r M' => RT M0 M' r rows) := by
  obtain ⟨us, us', fp, Mb, hg, hm, ht, hf, hff, hos, hc⟩ := h
  have hul : us.length = rows.length := by rw [← ht.len]; exact hc.1
  have fin : ∀ r M', Gr 1 M M' r us → RT M0 M' r rows := fun r M' h1 => ⟨us, us', fp, M, h1, hm.more hg.sub, ht, hf, hff, hos, hc⟩
  refine VCall.plain fun R hR => v_impl_clone_Sint rfl ?_
  have hlen := hg.len1
  refine sS1 @hlen ?_
  refine cond_dec (fun h => ?_) (fun h => ?_)
  · refine sS0 ?_
    have : us = [] := List.eq_nil_of_length_eq_zero (by omega)
    subst this
    exact hR _ _ (fin _ _ (.nil (Sub.refl _)))
  · refine sS1 @hlen ?_
    refine mks3 (by omega) (by simp [mostCells]; omega) (by simp [mostCells]; omega) ?_
    intro b3 hb3
    rcases hg.own with ⟨rfl, q, rfl⟩ | ⟨b, n, ex, rfl, hb, hn⟩
    · exact absurd rfl h
    have hne : b ≠ b3 := fun e => by subst e; rw [hb3] at hb; cases hb
    have hz : ((zeros [AV.sl none 0 0 true 0] us.length).map V.sc).length = us.length := by simp [zeros_length]
    refine sS0 ?_
    generalize hZ : (zeros [AV.sl none 0 0 true 0] us.length).map V.sc = Z at hz ⊢
    refine copy_own (t := us.length) (ls := us) (ld := Z) (by rw [set_ne hne]; exact hb) set_same (by omega) (by omega) (by omega) (by omega) (by simpa using hos) ?_
    simp only [List.drop_zero, List.take_length]
    rw [setAtG_all _ _ _ (by omega)]
    refine sS0 ?_
    exact hR _ _ (fin _ _ (Gr.new' (Sub.refl _) hb3 (by simp)))
end
end Go.M2

namespace Go.M2
open Go.Proofs
variable {M : MH}
end Go.M2

namespace Go.M2
open Go.Proofs
variable {M : MH}
end Go.M2

namespace Go.M2
open Go.Proofs
variable {M : MH}
theorem Tr.one1 {u u' : V} {g : List (Nat × List V)} (h : Tr [u] [u'] g) (h' : One u') : One u := by
  obtain ⟨h1, h2⟩ := h'
  rcases h.inv1 with ⟨h3, _⟩ | ⟨b, o, n, c, ex, k, cs, cs', g, rfl, _⟩ | ⟨a, a', h3, _⟩ | ⟨a, a', h3, _⟩
  · simp only [List.cons.injEq, and_true] at h3
    rw [← h3]; exact ⟨h1, h2⟩
  · exact ⟨rfl, rfl⟩
  · simp only [List.cons.injEq, and_true] at h3
    rw [h3] at h1; exact absurd h1 (by simp [oneV, er, oneA])
  · simp only [List.cons.injEq, and_true] at h3
    rw [h3] at h1; exact absurd h1 (by simp [oneV, er, oneA])
theorem tr_two {a x x' : V} {g : List (Nat × List V)} (t : Tr [x] [x'] g) : Tr [a, x] [a, x'] g := .keep a t
theorem tr_fst {a x x' : V} {g : List (Nat × List V)} (t : Tr [x] [x'] g) : Tr [x, a] [x', a] g := by simpa using t.append (.keep a .nil)
def RdI (M : MH) (v : V) (xs : List Int) : Prop := ∃ v' g, Tr [v] [v'] g ∧ Nd2 g ∧ (∀ p ∈ g, M p.1 = .some p.2) ∧ LI v' xs
theorem RdI.of {v : V} {xs : List Int} (h : LI v xs) : RdI M v xs := ⟨v, [], .refl _, List.nodup_nil, fun p hp => (by cases hp), h⟩
theorem RdI.more {M' : MH} {v : V} {xs : List Int} (h : RdI M v xs) (hs : Sub M M') : RdI M' v xs := by
  obtain ⟨v', g, h1, h2, h3, h4⟩ := h
  exact ⟨v', g, h1, h2, fun p hp => hs _ _ (h3 p hp), h4⟩
theorem RdI.one {v : V} {xs : List Int} (h : RdI M v xs) : One v := by
  obtain ⟨v', g, h1, h2, h3, h4⟩ := h
  exact h1.one1 h4.one
theorem Dn.rdI {M0 : MH} {v : V} {xs : List Int} (h : Dn M0 M v (fun u => LI u xs)) : RdI M v xs := by
  obtain ⟨v', g, h1, h2, h3, h4, h5⟩ := h
  exact ⟨v', g, h1, h2.nd, h2.at_, h5⟩
theorem RdI.len {v : V} {xs : List Int} (h : RdI M v xs) : lenF (er v) = .some (.int .i64 (xs.length : Int)) := by
  obtain ⟨v', g, h1, h2, h3, h4⟩ := h
  have hl := h4.len
  rcases h1.inv1 with ⟨h5, _⟩ | ⟨b, o, n, c, ex, k, cs, cs', g, rfl, h5, _⟩ | ⟨a, a', h5, rfl⟩ | ⟨a, a', h5, rfl⟩
  · simp only [List.cons.injEq, and_true] at h5
    rw [← h5]; exact hl
  · simp only [List.cons.injEq, and_true] at h5
    rw [h5] at hl; exact hl
  · simp only [List.cons.injEq, and_true] at h5
    rw [h5] at hl; simp [er, lenF] at hl
  · simp only [List.cons.injEq, and_true] at h5
    rw [h5] at hl; simp [er, lenF] at hl
theorem RT.rdI {M0 M1 : MH} {v u : V} {us : List V} {rows : List (List Int)} (h : RT M0 M1 v rows) {i : Nat} (hi : i < rows.length) (hm : M1 (oB v) = .some us) (hu : us[i]? = .some u) : RdI M1 u rows[i] := by
  obtain ⟨us2, u2, u', g, _, h1, h2, _, h3, h4, h5, _, h6⟩ := h.row hi
  rw [hm] at h1; cases h1
  rw [hu] at h2; cases h2
  exact ⟨u', g, h3, h4, h5, h6⟩
theorem RT.cell {M0 M1 : MH} {v : V} {rows : List (List Int)} (h : RT M0 M1 v rows) (hl : 0 < rows.length) : ∃ us : List V, M1 (oB v) = .some us ∧ us.length = rows.length ∧ ∀ i (h : i < rows.length), ∃ u, us[i]? = .some u ∧ RdI M1 u rows[i] := by
  have h0 := h
  obtain ⟨us, us', fp, Mb, hg, hm, ht, hf, hff, ho, hc⟩ := h0
  have hul : us.length = rows.length := by rw [← ht.len]; exact hc.1
  have hat : M1 (oB v) = .some us := hg.at (by omega)
  exact ⟨us, hat, hul, fun i hi => ⟨us[i]'(by omega), List.getElem?_eq_getElem (by omega), h.rdI hi hat (List.getElem?_eq_getElem (by omega))⟩⟩
theorem RT.iaddr {M0 M1 : MH} {v : V} {rows : List (List Int)} (h : RT M0 M1 v rows) {k : IntKind} {a : Int} (h0 : 0 ≤ a) (h1 : a < (rows.length : Int)) : iaddrV 1 v (.int k a) = .some (.sc (.ptr (some (oB v, a.toNat)))) := by
  obtain ⟨us, us', fp, Mb, hg, hm, ht, hf, hff, ho, hc⟩ := h
  have hul : us.length = rows.length := by rw [← ht.len]; exact hc.1
  exact hg.own.iaddr h0 (by rw [hul]; exact h1)
end Go.M2

namespace Go.M2
open Go.Proofs
variable {M : MH}
end Go.M2

namespace Go.M2
open Go.Proofs
variable {M : MH}
end Go.M2

namespace Go.M2
open Go.Proofs
variable {M : MH}
end Go.M2

namespace Go.M2
open Go.Proofs
variable {M : MH}
end Go.M2

namespace Go.M2
open Go.Proofs
variable {M : MH}
theorem t_Equal {v w : V} {xs ys : List Int} (hv : LI v xs) (hw : LI w ys) (hl : xs.length ≤ 1048576) (hl2 : ys.length ≤ 1048576) : VCall Try.prog n_slices_Equal_Sint_int [v, w] M (fun r M' => M = M' ∧ r = .sc (.bool (decide (xs = ys)))) := by
  refine VCall.pure fun R hR => v_slices_Equal_Sint_int rfl ?_
  refine sS2 @hv.len @hw.len ?_
  refine cond_dec (fun h => ?_) (fun h => ?_)
  · refine sS0 ?_
    have : ¬ xs = ys := fun e => h (by rw [e])
    exact hR _ _ (sB) (by simp [this])
  · have hll : xs.length = ys.length := by omega
    refine sS1 @hv.len ?_
    refine loop_k (fun e M' => M' = M ∧ ∃ i : Nat, i ≤ xs.length ∧ e 0 = v ∧ e 1 = w ∧ e 12 = .sc (.int .i64 xs.length) ∧ e 13 = .sc (.int .i64 i) ∧ ∀ j (h1 : j < xs.length) (h2 : j < ys.length), j < i → xs[j] = ys[j]) (fun e _ => ctrV xs.length (e 13)) ?_ ?_
    · exact ⟨rfl, 0, by omega, sT0, sT0, sT0, by refine sS0 ?_; rfl, fun j _ _ h => by omega⟩
    · rintro e _ ⟨rfl, i, hi, e0, e1, e12, e13, hj⟩ K hK
      refine sS4 @e0 @e1 @e12 @e13 ?_
      refine cond_dec (fun hc => ?_) (fun hc => ?_)
      · have h1 : i < xs.length := by omega
        have h2 : i < ys.length := by omega
        simp (maxSteps := 2000000) (disch := first | omega | assumption | exact idP rfl | exact idP (bL rfl)) only [go_sem, reduceIte, Nat.reduceEqDiff, wpV_kd, wpV_tH, e0, e1, e12, e13, hv.iaddr, hw.iaddr, hv.at h1, hw.at h2]
        refine cond_dec (fun hn => ?_) (fun hn => ?_)
        · refine sS0 ?_
          have : ¬ xs = ys := fun e => hn (by simp only [e])
          exact hR _ _ (sB) (by simp [this])
        · refine sS4 @e0 @e1 @e12 @e13 ?_
          refine hK _ _ ⟨rfl, i + 1, by omega, sT1 @e0, sT1 @e1, sT1 @e12, by refine sS1 @e13 ?_; rfl, fun j q1 q2 q3 => ?_⟩ (by refine sS2 @ctrV_int @e13 ?_; omega)
          by_cases e : j = i
          · subst e; exact Classical.byContradiction hn
          · exact hj j q1 q2 (by omega)
      · obtain rfl : i = xs.length := by omega
        refine sS0 ?_
        have : xs = ys := List.ext_getElem hll fun j q1 q2 => hj j q1 q2 q1
        exact hR _ _ (sB) (by simp [this])
end Go.M2

namespace Go.M2
open Go.Proofs
variable {M : MH}
end Go.M2

namespace Go.M2
open Go.Proofs
variable {M : MH}
structure TrS where
  states : List (List Int)
  rules : List Int
def isTr (t : TrS) (u : V) : Prop := ∃ x y, u = .agg [x, y] ∧ LII x t.states ∧ LI y t.rules
theorem Dn.more {M0 M1 M2 : MH} {v : V} {p : V → Prop} (h : Dn M0 M1 v p) (hs : Sub M1 M2) : Dn M0 M2 v p := by
  obtain ⟨r', fp, h1, h2, h3⟩ := h
  exact ⟨r', fp, h1, h2.more hs, h3⟩
theorem Dn.base {Mz M0 M1 : MH} {v : V} {p : V → Prop} (h : Dn M0 M1 v p) (hs : Sub Mz M0) : Dn Mz M1 v p := by
  obtain ⟨r', fp, h1, h2, h3⟩ := h
  exact ⟨r', fp, h1, h2.base hs, h3⟩
theorem Dn.setB {M0 Mb M1 : MH} {v : V} {p : V → Prop} {b : Nat} {l l0 : List V} (h : Dn Mb M1 v p) (hb : Mb b = .some l0) (h0 : M0 b = none) (hs : Sub M0 Mb) : Dn M0 (M1.set b l) v p := by
  obtain ⟨r', fp, h1, h2, h3⟩ := h
  refine ⟨r', fp, h1, ⟨(hs.trans h2.sub).set h0, fun q hq => hs.none (h2.new q hq), h2.nd, fun q hq => ?_⟩, h3⟩
  have hne : q.1 ≠ b := fun e => by have := h2.new q hq; rw [e, hb] at this; cases this
  rw [set_ne hne]; exact h2.at_ q hq
theorem Dn.agg2 {M0 M1 M2 : MH} {x y : V} {p q : V → Prop} (h : Dn M0 M1 x p) (k : Dn M1 M2 y q) : Dn M0 M2 (.agg [x, y]) (fun u => ∃ x' y', u = .agg [x', y'] ∧ p x' ∧ q y') := by
  obtain ⟨x', f, t1, m1, f1, g1, h1⟩ := h
  obtain ⟨y', g, t2, m2, f2, g2, h2⟩ := k
  refine ⟨.agg [x', y'], f ++ g, ?_, m1.add m2, by simp [flat, flatL, f1, f2], fun r hr => ?_, x', y', rfl, h1, h2⟩
  · have := Tr.agg (t1.append t2) Tr.nil
    simpa using this
  · rcases List.mem_append.1 hr with h3 | h3
    · exact g1 r h3
    · exact g2 r h3
structure TB (Mb M : MH) (b6 : Nat) (S : List (List Int)) (Rl : List Int) (ul ur : V) : Prop where
  sub : Sub Mb M
  new6 : Mb b6 = none
  at6 : M b6 = .some [ul, ur]
  rx : ∃ us us' fp, Ow 1 M ul us ∧ Tr us us' fp ∧ Nd2 fp ∧ (∀ p ∈ fp, M p.1 = .some p.2) ∧ (∀ p ∈ fp, Mb p.1 = none ∧ p.1 ≠ b6 ∧ blkV ul ≠ some p.1 ∧ blkV ur ≠ some p.1) ∧ flatL us ∧ (∀ q ∈ fp, flatL q.2) ∧ us.all oneV = true ∧ Cs isL us' S
  newl : ∀ b, blkV ul = .some b → Mb b = none ∧ b ≠ b6 ∧ blkV ur ≠ some b
  owr : Ow 1 M ur (Rl.map vi)
  newr : ∀ b, blkV ur = .some b → Mb b = none ∧ b ≠ b6
section
variable {Mb M1 M2 : MH} {b6 : Nat} {S : List (List Int)} {Rl ys : List Int} {ul ur u : V}
theorem Ow.blk {sz : Nat} {v : V} {l : List V} (h : Ow sz M v l) {b : Nat} (hb : blkV v = .some b) : M b = .some l := by
  rcases h with ⟨_, k, rfl⟩ | ⟨b', n, ex, rfl, h2, _⟩
  · simp [blkV] at hb
  · simp [blkV] at hb; subst hb; exact h2
theorem Ow.to {sz : Nat} {M' : MH} {v : V} {l : List V} (h : Ow sz M v l) (hs : ∀ b, blkV v = .some b → M' b = M b) : Ow sz M' v l := by
  rcases h with h | ⟨b', n, ex, rfl, h2, h3⟩
  · exact .inl h
  · exact .inr ⟨b', n, ex, rfl, by rw [hs b' rfl]; exact h2, h3⟩
theorem Ow.gr {v : V} {l : List V} (h : Ow 1 M v l) : Gr 1 (fun i => if blkV v = .some i then none else M i) M v l :=
  ⟨fun i l hi => by
    have hi : (if blkV v = .some i then none else M i) = .some l := hi
    split at hi
    · cases hi
    · exact hi, fun b hb => by simp [hb], h⟩
theorem TB.more (h : TB Mb M1 b6 S Rl ul ur) (hs : Sub M1 M2) : TB Mb M2 b6 S Rl ul ur := by
  obtain ⟨us, us', fp, h1, h2, h3, h4, h5⟩ := h.rx
  exact ⟨h.sub.trans hs, h.new6, hs _ _ h.at6, ⟨us, us', fp, h1.sub hs, h2, h3, fun p hp => hs _ _ (h4 p hp), h5⟩, h.newl, h.owr.sub hs, h.newr⟩
theorem TB.lenS (h : TB Mb M1 b6 S Rl ul ur) : lenF (er ul) = .some (.int .i64 (S.length : Int)) := by
  obtain ⟨us, us', fp, h1, h2, _, _, _, _, _, _, hc⟩ := h.rx
  rw [h1.len1, ← hc.1, h2.len]
theorem TB.oneL (h : TB Mb M1 b6 S Rl ul ur) : One ul := by
  obtain ⟨us, us', fp, h1, _⟩ := h.rx
  obtain ⟨n, _, _, _, h2, h3⟩ := h1.len
  exact ⟨h2, h3⟩
theorem TB.oneR (h : TB Mb M1 b6 S Rl ul ur) : One ur := by
  obtain ⟨n, _, _, _, h2, h3⟩ := h.owr.len
  exact ⟨h2, h3⟩
theorem TB.iaddr (h : TB Mb M1 b6 S Rl ul ur) {k : IntKind} {a : Int} (h0 : 0 ≤ a) (h1 : a < (S.length : Int)) : iaddrV 1 ul (.int k a) = .some (.sc (.ptr (some (oB ul, a.toNat)))) := by
  obtain ⟨us, us', fp, h2, h3, _, _, _, _, _, _, hc⟩ := h.rx
  have hul : us.length = S.length := by rw [← h3.len]; exact hc.1
  exact h2.iaddr h0 (by rw [hul]; exact h1)
theorem TB.cell (h : TB Mb M1 b6 S Rl ul ur) (hl : 0 < S.length) : ∃ us : List V, M1 (oB ul) = .some us ∧ us.length = S.length ∧ ∀ i (h : i < S.length), ∃ u, us[i]? = .some u ∧ RdI M1 u S[i] := by
  obtain ⟨us, us', fp, h1, ht, hnd, hat, _, hf, hff, ho, hc⟩ := h.rx
  have hul : us.length = S.length := by rw [← ht.len]; exact hc.1
  refine ⟨us, h1.at (by omega), hul, fun i hi => ?_⟩
  have hiu : i < us.length := by omega
  have hsp : us = us.take i ++ (us[i] :: us.drop (i + 1)) := by rw [← List.drop_eq_getElem_cons hiu, List.take_append_drop]
  rw [hsp] at ht
  obtain ⟨a', b', f1, f2, rfl, rfl, t1, t2⟩ := Tr.split (a := us.take i) (b := us[i] :: us.drop (i + 1)) (b' := []) ht
  obtain ⟨x', r', g1, g2, rfl, rfl, t3, t4⟩ := t2.uncons
  have hal : a'.length = i := by rw [t1.len, List.length_take]; omega
  have h4 := hc.2 i hi
  rw [List.getElem?_append_right (by omega), hal, Nat.sub_self] at h4
  obtain ⟨w, h5, h6⟩ := h4
  simp only [List.getElem?_cons_zero, Option.some.injEq] at h5
  subst h5
  exact ⟨us[i], List.getElem?_eq_getElem hiu, x', g1, t3, (Nd2.append (Nd2.append hnd).2.1).1, fun p hp => hat p (List.mem_append_right _ (List.mem_append_left _ hp)), h6⟩
theorem TB.addS {K : V → MH → Prop} {by_ bt c k : Nat} {ex : Bool} (h : TB Mb M1 b6 S Rl ul ur) (ho : oneV u = true) (hd : Dn M1 M2 u (fun u' => LI u' ys)) (hbt : M2 bt = none) (hb : S.length + 1 ≤ 34359738368) (hby : by_ ≤ 32)
    (hk : ∀ s' M', M' b6 = .some [ul, ur] → One s' → TB Mb (M'.set b6 [s', ur]) b6 (S ++ [ys]) Rl s' ur → K s' M') : appV 1 by_ ul (.sc (.sl (some (bt, 0)) 1 c ex k)) (M2.set bt [u]) K := by
  obtain ⟨us, us', fp, h1, ht, hnd, hat, hnew, hf, hff, hos, hc⟩ := h.rx
  obtain ⟨u', g, tg, mg, fu, fg, hu⟩ := hd
  have hul : us.length = S.length := by rw [← ht.len]; exact hc.1
  have o2 := h1.sub mg.sub
  refine app_val o2.gr hbt ho (by omega) hby fun s' M' hg hoth => ?_
  have n6 : blkV ul ≠ some b6 := fun e => (h.newl b6 e).2.1 rfl
  have a6 : M2 b6 = .some [ul, ur] := mg.sub _ _ h.at6
  obtain ⟨q6, q7⟩ := hoth b6 _ a6 n6
  have keep : ∀ b l, M2 b = .some l → blkV ul ≠ some b → b ≠ b6 → (M'.set b6 [s', ur]) b = .some l := fun b l hl hn hn6 => by
    rw [set_ne hn6]; exact (hoth b l hl hn).1
  have gnew : ∀ p ∈ g, Mb p.1 = none ∧ p.1 ≠ b6 ∧ blkV ul ≠ some p.1 ∧ blkV ur ≠ some p.1 := fun p hp => by
    have hn := mg.new p hp
    refine ⟨h.sub.none hn, fun e => ?_, fun e => ?_, fun e => ?_⟩
    · rw [e, h.at6] at hn; cases hn
    · rw [h1.blk e] at hn; cases hn
    · rw [h.owr.blk e] at hn; cases hn
  refine hk s' M' q6 hg.one ⟨fun i l hi => keep i l (mg.sub _ _ (h.sub _ _ hi)) (fun e => ?_) (fun e => ?_), h.new6, set_same, ⟨us ++ [u], us' ++ [u'], fp ++ g, hg.own.to (fun b hb => ?_), ht.append tg, ?_, fun p hp => ?_, fun p hp => ?_, ?_, ?_, by simp [hos, ho], hc.snoc (x := ys) hu⟩, fun b hb => ?_, h.owr.to (fun b hb => ?_), h.newr⟩
  · rw [(h.newl i e).1] at hi; cases hi
  · rw [e, h.new6] at hi; cases hi
  · exact set_ne (fun e => q7 (e ▸ hb))
  · unfold Nd2
    rw [List.map_append, List.nodup_append]
    refine ⟨hnd, mg.nd, fun a ha c hc e => ?_⟩
    obtain ⟨p, hp, rfl⟩ := List.mem_map.1 ha
    obtain ⟨q, hq, rfl⟩ := List.mem_map.1 hc
    have h3 := hat p hp
    have h4 := mg.new q hq
    rw [e, h4] at h3; cases h3
  · rcases List.mem_append.1 hp with h3 | h3
    · obtain ⟨n1, n2, n3, n4⟩ := hnew p h3
      exact keep _ _ (mg.sub _ _ (hat p h3)) n3 n2
    · obtain ⟨n1, n2, n3, n4⟩ := gnew p h3
      exact keep _ _ (mg.at_ p h3) n3 n2
  · rcases List.mem_append.1 hp with h3 | h3
    · obtain ⟨n1, n2, n3, n4⟩ := hnew p h3
      exact ⟨n1, n2, (hoth _ _ (mg.sub _ _ (hat p h3)) n3).2, n4⟩
    · obtain ⟨n1, n2, n3, n4⟩ := gnew p h3
      exact ⟨n1, n2, (hoth _ _ (mg.at_ p h3) n3).2, n4⟩
  · exact flatL_all.2 fun w hw => by
      rcases List.mem_append.1 hw with h3 | h3
      · exact flatL_all.1 hf w h3
      · rw [List.mem_singleton] at h3; subst h3; exact fu
  · intro w hw
    rcases List.mem_append.1 hw with h3 | h3
    · exact hff w h3
    · exact fg w h3
  · refine ⟨?_, fun e => q7 (e ▸ hb), fun e => ?_⟩
    · have h3 := hg.new b hb
      cases hm : Mb b with
      | none => rfl
      | some l =>
        have h4 := mg.sub _ _ (h.sub _ _ hm)
        have h5 : blkV ul ≠ some b := fun e => by rw [(h.newl b e).1] at hm; cases hm
        simp only [h5, if_false] at h3
        rw [h3] at h4; cases h4
    · have h3 := mg.sub _ _ (h.owr.blk e)
      exact (hoth b _ h3 (fun e2 => (h.newl b e2).2.2 e)).2 hb
  · have hn := h.newr b hb
    have h3 := mg.sub _ _ (h.owr.blk hb)
    rw [set_ne hn.2, (hoth b _ h3 (fun e2 => (h.newl b e2).2.2 hb)).1]
    exact (h.owr.blk hb).symm
theorem TB.addR {K : V → MH → Prop} {by_ bt c k : Nat} {ex : Bool} {n : Int} (h : TB Mb M1 b6 S Rl ul ur) (hbt : M1 bt = none) (hb : Rl.length + 1 ≤ 68719476736) (hby : by_ ≤ 16)
    (hk : ∀ s' M', M' b6 = .some [ul, ur] → One s' → TB Mb (M'.set b6 [ul, s']) b6 S (Rl ++ [n]) ul s' → K s' M') : appV 1 by_ ur (.sc (.sl (some (bt, 0)) 1 c ex k)) (M1.set bt [.sc (.int .i64 n)]) K := by
  obtain ⟨us, us', fp, h1, ht, hnd, hat, hnew, hf, hff, hos, hc⟩ := h.rx
  refine app_int h.owr.gr hbt hb hby fun s' M' hg hoth => ?_
  have n6 : blkV ur ≠ some b6 := fun e => (h.newr b6 e).2 rfl
  obtain ⟨q6, q7⟩ := hoth b6 _ h.at6 n6
  have keep : ∀ b l, M1 b = .some l → blkV ur ≠ some b → b ≠ b6 → (M'.set b6 [ul, s']) b = .some l := fun b l hl hn hn6 => by
    rw [set_ne hn6]; exact (hoth b l hl hn).1
  have nlr : ∀ b, blkV ul = .some b → blkV ur ≠ some b := fun b hb => (h.newl b hb).2.2
  refine hk s' M' q6 hg.one ⟨fun i l hi => keep i l (h.sub _ _ hi) (fun e => ?_) (fun e => ?_), h.new6, set_same, ⟨us, us', fp, h1.to (fun b hb => ?_), ht, hnd, fun p hp => ?_, fun p hp => ?_, hf, hff, hos, hc⟩, fun b hb => ?_, hg.own.to (fun b hb => ?_), fun b hb => ⟨?_, fun e => q7 (e ▸ hb)⟩⟩
  · rw [(h.newr i e).1] at hi; cases hi
  · rw [e, h.new6] at hi; cases hi
  · rw [keep b _ (h1.blk hb) (nlr b hb) (h.newl b hb).2.1, h1.blk hb]
  · obtain ⟨n1, n2, n3, n4⟩ := hnew p hp
    exact keep _ _ (hat p hp) n4 n2
  · obtain ⟨n1, n2, n3, n4⟩ := hnew p hp
    exact ⟨n1, n2, n3, (hoth _ _ (hat p hp) n4).2⟩
  · exact ⟨(h.newl b hb).1, (h.newl b hb).2.1, (hoth b _ (h1.blk hb) (nlr b hb)).2⟩
  · exact set_ne (fun e => q7 (e ▸ hb))
  · have h3 := hg.new b hb
    cases hm : Mb b with
    | none => rfl
    | some l =>
      have h4 := h.sub _ _ hm
      have h5 : blkV ur ≠ some b := fun e => by rw [(h.newr b e).1] at hm; cases hm
      simp only [h5, if_false] at h3
      rw [h3] at h4; cases h4
theorem TB.box (h : RT Mb M1 ul S) (hb : M1 b6 = none) : TB Mb (M1.set b6 [ul, .sc (.sl none 0 0 true 0)]) b6 S [] ul (.sc (.sl none 0 0 true 0)) := by
  obtain ⟨us, us', fp, Mc, hg, hm, ht, hf, hff, hos, hc⟩ := h
  have hs : Sub M1 (M1.set b6 [ul, .sc (.sl none 0 0 true 0)]) := (Sub.refl M1).set' hb
  have hs0 : Sub Mb M1 := hm.sub.trans hg.sub
  have hne : ∀ b l, M1 b = .some l → b ≠ b6 := fun b l hl e => by rw [e, hb] at hl; cases hl
  refine ⟨hs0.trans hs, hs0.none hb, set_same, ⟨us, us', fp, hg.own.sub hs, ht, hm.nd, fun p hp => hs _ _ (hg.sub _ _ (hm.at_ p hp)), fun p hp => ⟨hm.new p hp, hne _ _ (hg.sub _ _ (hm.at_ p hp)), fun e => ?_, by simp [blkV]⟩, hf, hff, hos, hc⟩, fun b hb2 => ⟨hm.sub.none (hg.new b hb2), hne _ _ (hg.own.blk hb2), by simp [blkV]⟩, .inl ⟨rfl, 0, rfl⟩, fun b hb2 => by simp [blkV] at hb2⟩
  have h1 := hg.new p.1 e
  rw [hm.at_ p hp] at h1; cases h1
theorem TB.dnS (h : TB Mb M1 b6 S Rl ul ur) : Dn (Mb.set b6 [ul, ur]) M1 ul (fun u => LII u S) := by
  obtain ⟨us, us', fp, h1, ht, hnd, hat, hnew, hf, hff, hos, hc⟩ := h.rx
  have hs : Sub (Mb.set b6 [ul, ur]) M1 := fun i l hi => by
    by_cases e : i = b6
    · subst e; rw [set_same] at hi; cases hi; exact h.at6
    · rw [set_ne e] at hi; exact h.sub _ _ hi
  have hR : RT (Mb.set b6 [ul, ur]) M1 ul S := by
    refine ⟨us, us', fp, _, h1.gr, ⟨fun i l hi => ?_, fun p hp => ?_, hnd, fun p hp => ?_⟩, ht, hf, hff, hos, hc⟩
    · have hne : blkV ul ≠ some i := fun e => by
        by_cases e6 : i = b6
        · exact (h.newl i e).2.1 e6
        · rw [set_ne e6, (h.newl i e).1] at hi; cases hi
      simp only [hne, if_false]; exact hs i l hi
    · obtain ⟨n1, n2, n3, n4⟩ := hnew p hp
      rw [set_ne n2]; exact n1
    · obtain ⟨n1, n2, n3, n4⟩ := hnew p hp
      simp only [n3, if_false]; exact hat p hp
  exact hR.dn
theorem TB.dn (h : TB Mb M1 b6 S Rl ul ur) : Dn (Mb.set b6 [ul, ur]) M1 (.agg [ul, ur]) (isTr ⟨S, Rl⟩) := by
  obtain ⟨us, us', fp, h1, ht, hnd, hat, hnew, hf, hff, hos, hc⟩ := h.rx
  have d1 := h.dnS
  have g := h.owr.gr
  -- the states stand on what is not the rules' block
  have hs : Sub (Mb.set b6 [ul, ur]) M1 := fun i l hi => by
    by_cases e : i = b6
    · subst e; rw [set_same] at hi; cases hi; exact h.at6
    · rw [set_ne e] at hi; exact h.sub _ _ hi
  have hR : RT (Mb.set b6 [ul, ur]) (fun i => if blkV ur = .some i then none else M1 i) ul S := by
    have h1' : Ow 1 (fun i => if blkV ur = .some i then none else M1 i) ul us := h1.to fun b hb => by simp [(h.newl b hb).2.2]
    refine ⟨us, us', fp, _, h1'.gr, ⟨fun i l hi => ?_, fun p hp => ?_, hnd, fun p hp => ?_⟩, ht, hf, hff, hos, hc⟩
    · have hn1 : blkV ul ≠ some i := fun e => by
        by_cases e6 : i = b6
        · exact (h.newl i e).2.1 e6
        · rw [set_ne e6, (h.newl i e).1] at hi; cases hi
      have hn2 : blkV ur ≠ some i := fun e => by
        by_cases e6 : i = b6
        · exact (h.newr i e).2 e6
        · rw [set_ne e6, (h.newr i e).1] at hi; cases hi
      simp only [hn1, hn2, if_false]; exact hs i l hi
    · obtain ⟨n1, n2, n3, n4⟩ := hnew p hp
      rw [set_ne n2]; exact n1
    · obtain ⟨n1, n2, n3, n4⟩ := hnew p hp
      simp only [n3, n4, if_false]; exact hat p hp
  exact hR.dn.agg2 g.dnI
end
end Go.M2

namespace Go.M2
open Go.Proofs
variable {M : MH}
theorem Hd.frame {M' : MH} {v : V} {n : Nat} {k : Int} (h : Hd M v n k) (hb : ∀ b, blkV v = .some b → M' b = M b) : Hd M' v n k := by
  rcases h with h | ⟨b, o, c, ex, kk, l, rfl, hm, hl⟩
  · exact .inl h
  · exact .inr ⟨b, o, c, ex, kk, l, rfl, by rw [hb b rfl]; exact hm, hl⟩
def offN (rows : List (List Int)) (i : Nat) : Nat := (rows.take i).flatten.length
theorem offN_zero (rows : List (List Int)) : offN rows 0 = 0 := by simp [offN]
theorem offN_succ {rows : List (List Int)} {i : Nat} (h : i < rows.length) : offN rows (i + 1) = offN rows i + rows[i].length := by
  unfold offN
  rw [take_snoc h, List.flatten_append, List.length_append]; simp
theorem offN_le {rows : List (List Int)} (h : ∀ ts ∈ rows, ts.length ≤ 1048576) : ∀ i, i ≤ rows.length → offN rows i ≤ 1048576 * i
  | 0, _ => by simp [offN]
  | i + 1, hi => by
    have h1 := offN_le h i (by omega)
    rw [offN_succ (by omega)]
    have := h _ (List.getElem_mem (show i < rows.length by omega))
    omega
def HdS (M : MH) (v : V) (rows : List (List Int)) (k : Int) : Prop := (rows = [] ∧ ∃ q, v = .sc (.sl none 0 0 true q)) ∨ ∃ (b o c : Nat) (ex : Bool) (kk : Nat) (cs : List V), v = .sc (.sl (some (b, o)) rows.length c ex kk) ∧ M b = .some cs ∧ ∀ i (h : i < rows.length), ∃ u, cs[o + i]? = .some u ∧ Hd M u rows[i].length (k + offN rows i)
theorem t_heldIntSS {v : V} {rows : List (List Int)} {k : Int} (hv : HdS M v rows k) (hl : rows.length ≤ 1048576) (hl2 : ∀ ts ∈ rows, ts.length ≤ 1048576) (hk : 0 ≤ k) (hk2 : k ≤ 8900000000000000000) : VCall Try.prog n_laws_heldIntSS [v, .sc (.int .i64 k)] M (fun r M' => M = M' ∧ r = .sc (.int .i64 (k + offN rows rows.length))) := by
  refine VCall.pure fun R hR => v_laws_heldIntSS rfl ?_
  rcases hv with ⟨rfl, q, rfl⟩ | ⟨b, o, c, ex, kk, cs, rfl, hm, hc⟩
  · refine sS0 ?_
    refine loop_k (fun e M' => M' = M ∧ e 0 = .sc (.sl none 0 0 true q) ∧ e 1 = .sc (.int .i64 k) ∧ e 5 = .sc (.int .i64 0)) (fun e _ => 0) ⟨rfl, sT0, sT0, sT0⟩ ?_
    rintro e _ ⟨rfl, e0, e1, e5⟩ K hK
    refine sS3 @e0 @e1 @e5 ?_
    exact hR _ _ (sB) (by rw [show ((offN [] ([] : List (List Int)).length : Nat) : Int) = 0 from rfl, Int.add_zero]; rfl)
  · refine sS0 ?_
    refine loop_k (fun e M' => M' = M ∧ ∃ i : Nat, i ≤ rows.length ∧ e 0 = .sc (.sl (some (b, o)) rows.length c ex kk) ∧ e 1 = .sc (.int .i64 (k + offN rows i)) ∧ e 5 = .sc (.int .i64 i)) (fun e _ => ctrV rows.length (e 5)) ?_ ?_
    · exact ⟨rfl, 0, by omega, sT0, by refine sS0 ?_; simp [offN_zero], by refine sS0 ?_; rfl⟩
    · rintro e _ ⟨rfl, i, hi, e0, e1, e5⟩ K hK
      have hob := offN_le hl2 i hi
      refine sS3 @e0 @e1 @e5 ?_
      refine cond_dec (fun h => ?_) (fun h => ?_)
      · have hi' : i < rows.length := by omega
        obtain ⟨u, h1, h2⟩ := hc i hi'
        have h1' : cs[o + i * 1]? = .some u := by rw [Nat.mul_one]; exact h1
        have hrl := hl2 _ (List.getElem_mem hi')
        refine sS6 @e0 @e1 @e5 @hm @h1 @h1' ?_
        refine (t_heldIntS h2 hrl (by omega) (by omega)).mono ?_
        rintro _ _ ⟨rfl, rfl⟩
        have hos := offN_succ hi'
        (repeat' (first | ((with_reducible first | refine cond_dec (fun h => ?_) (fun h => ?_) | refine guardK_dec (fun h => ?_) (fun h => ?_) | refine guardD3_dec (fun h => ?_) (fun h => ?_)) <;> first | (exfalso; omega) | (simp (maxSteps := 2000000) (disch := first | omega | assumption | exact idP rfl | exact idP (bL rfl)) only [go_sem, reduceIte, Nat.reduceEqDiff, wpV_kd, wpV_tH, h]) | skip) | ((with_reducible first | refine cond_split (fun h => ?_) (fun h => ?_) | refine guardK_split (fun h => ?_) (fun h => ?_) | refine guardD3_split (fun h => ?_) (fun h => ?_)) <;> ((try simp only [Bool.not_eq_true', Bool.not_eq_false'] at h); first | (simp (maxSteps := 2000000) (disch := first | omega | assumption | exact idP rfl | exact idP (bL rfl)) only [go_sem, reduceIte, Nat.reduceEqDiff, wpV_kd, wpV_tH, h]) | skip)) | (with_reducible intro bk hbk; try have hnk := (fresh_set hbk).1) | (simp (maxSteps := 2000000) (disch := first | omega | assumption | exact idP rfl | exact idP (bL rfl)) only [go_sem, reduceIte, Nat.reduceEqDiff, wpV_kd, wpV_tH])))
        refine hK _ _ ⟨rfl, i + 1, by omega, sT1 @e0, by refine sS0 ?_; rw [hos, Int.natCast_add, Int.add_assoc], by refine sS1 @e5 ?_; rfl⟩ (by refine sS2 @ctrV_int @e5 ?_; omega)
      · obtain rfl : i = rows.length := by omega
        refine sS1 @e1 ?_
        exact hR _ _ (sB) rfl
theorem t_markRk {v v' : V} {fp : List (Nat × List V)} {ys : List Int} {k : Int} (ht : Tr [v] [v'] fp) (hf : flat v) (hv : LI v' ys) (hm : ∀ p ∈ fp, M p.1 = .some p.2) (hl : ys.length ≤ 1048576) (hk : 0 ≤ k) (hk2 : k ≤ 9000000000000000000) :
    VCall Try.prog n_laws_markIntS [v, .sc (.int .i64 k)] M (fun r M' => r = .sc (.int .i64 (k + ys.length)) ∧ Hd M' v ys.length k ∧ (∀ b, blkV v = .some b → inF fp b = true) ∧ ∀ q, inF fp q = false → M' q = M q) := by
  refine VCall.plain fun R hR => v_laws_markIntS rfl ?_
  rcases ht.win hf (ls_lc hv) with ⟨q, rfl, rfl⟩ | ⟨b, o, c, ex, kk, cs, cs', g, rfl, h2, rfl, h3, h4⟩
  · refine sS0 ?_
    refine loop_k (fun e M' => M' = M ∧ e 0 = .sc (.sl none 0 0 true q) ∧ e 1 = .sc (.int .i64 k) ∧ e 5 = .sc (.int .i64 0)) (fun e _ => 0) ⟨rfl, sT0, sT0, sT0⟩ ?_
    rintro e _ ⟨rfl, e0, e1, e5⟩ K hK
    refine sS3 @e0 @e1 @e5 ?_
    exact hR _ _ ⟨by rw [List.length_nil, Int.natCast_zero, Int.add_zero]; rfl, .inl ⟨rfl, q, rfl⟩, fun b hb => by simp [blkV] at hb, fun q _ => rfl⟩
  · have hmb : M b = .some cs := hm (b, cs) (List.mem_cons_self ..)
    have hfb := inF_mem (fp := (b, cs) :: g) (p := (b, cs)) (List.mem_cons_self ..)
    refine sS0 ?_
    refine loop_k (fun e M' => ∃ (i : Nat) (l' : List V), i ≤ ys.length ∧ e 0 = .sc (.sl (some (b, o)) ys.length c ex kk) ∧ e 1 = .sc (.int .i64 (k + i)) ∧ e 5 = .sc (.int .i64 i) ∧ (∀ q, q ≠ b → M' q = M q) ∧ M' b = .some l' ∧ l'.length = cs.length ∧ ∀ j, j < i → l'[o + j]? = .some (.sc (.int .i64 (k + j)))) (fun e _ => ctrV ys.length (e 5)) ?_ ?_
    · exact ⟨0, cs, by omega, sT0, by refine sS0 ?_; simp, by refine sS0 ?_; rfl, fun _ _ => rfl, hmb, rfl, fun j hj => by omega⟩
    · rintro e M1 ⟨i, l', hi, e0, e1, e5, hq, hm1, hl1, hj⟩ K hK
      refine sS3 @e0 @e1 @e5 ?_
      refine cond_dec (fun h => ?_) (fun h => ?_)
      · have h3 := h3 (by omega)
        have hso : o + i * 1 < l'.length := by omega
        have hso2 : o + i < l'.length := by omega
        refine sS4 @e0 @e1 @e5 @hm1 ?_
        refine hK _ _ ⟨i + 1, l'.set (o + i) (.sc (.int .i64 (k + i))), by omega, sT1 @e0, by refine sS0 ?_; rw [Int.natCast_add, Int.add_assoc]; rfl, by refine sS0 ?_; rfl, fun q hqb => by rw [set_ne hqb]; exact hq q hqb, by rw [set_same], by simp [hl1], fun j hj2 => ?_⟩ (by refine sS2 @ctrV_int @e5 ?_; omega)
        by_cases e : j = i
        · subst e; rw [List.getElem?_set_self (by omega)]
        · rw [List.getElem?_set_ne (by omega)]; exact hj j (by omega)
      · obtain rfl : i = ys.length := by omega
        refine sS1 @e1 ?_
        refine hR _ _ ⟨rfl, .inr ⟨b, o, c, ex, kk, l', rfl, hm1, hj⟩, fun b' hb' => by simp [blkV] at hb'; subst hb'; exact hfb, fun q hq1 => hq q fun e => ?_⟩
        rw [e] at hq1
        simp only at hfb
        rw [hfb] at hq1; cases hq1
theorem t_markIntSS2 {v v' : V} {fp : List (Nat × List V)} {rows : List (List Int)} {k : Int} (ht : Tr [v] [v'] fp) (hf : flat v) (hff : ∀ q ∈ fp, flatL q.2) (hv : LII v' rows) (hn : Nd2 fp) (hm : ∀ p ∈ fp, M p.1 = .some p.2) (hl : rows.length ≤ 1048576) (hl2 : ∀ ts ∈ rows, ts.length ≤ 1048576) (hk : 0 ≤ k) (hk2 : k ≤ 8900000000000000000) :
    VCall Try.prog n_laws_markIntSS [v, .sc (.int .i64 k)] M (fun r M' => r = .sc (.int .i64 (k + offN rows rows.length)) ∧ (∀ M2 : MH, (∀ q, inF fp q = true → M2 q = M' q) → HdS M2 v rows k) ∧ ∀ q, inF fp q = false → M' q = M q) := by
  refine VCall.plain fun R hR => v_laws_markIntSS rfl ?_
  rcases ht.win hf (ls_lc hv) with ⟨q, rfl, rfl⟩ | ⟨b, o, c, ex, kk, cs, cs', g, rfl, h2, rfl, h3, h4⟩
  · refine sS0 ?_
    refine loop_k (fun e M' => M' = M ∧ e 0 = .sc (.sl none 0 0 true q) ∧ e 1 = .sc (.int .i64 k) ∧ e 5 = .sc (.int .i64 0)) (fun e _ => 0) ⟨rfl, sT0, sT0, sT0⟩ ?_
    rintro e _ ⟨rfl, e0, e1, e5⟩ K hK
    refine sS3 @e0 @e1 @e5 ?_
    exact hR _ _ ⟨by rw [show ((offN [] ([] : List (List Int)).length : Nat) : Int) = 0 from rfl, Int.add_zero]; rfl, fun _ _ => .inl ⟨rfl, q, rfl⟩, fun q _ => rfl⟩
  · obtain ⟨hbg, hng⟩ := nd_hd hn
    have hmb : M b = .some cs := hm (b, cs) (List.mem_cons_self ..)
    have hmg : ∀ p ∈ g, M p.1 = .some p.2 := fun p hp => hm p (List.mem_cons_of_mem _ hp)
    have hfc : flatL cs := hff (b, cs) (List.mem_cons_self ..)
    have hgo : ∀ q, inF g q = true → inF ((b, cs) :: g) q = true := fun q hq => by
      obtain ⟨l, hl⟩ := inF_iff.1 hq
      exact inF_iff.2 ⟨l, List.mem_cons_of_mem _ hl⟩
    refine sS0 ?_
    refine loop_k (fun e M' => ∃ (i : Nat) (g1 g2 : List (Nat × List V)) (l1 l2 : List V), i ≤ rows.length ∧ e 0 = .sc (.sl (some (b, o)) rows.length c ex kk) ∧ e 1 = .sc (.int .i64 (k + offN rows i)) ∧ e 5 = .sc (.int .i64 i) ∧ Tr (cs.take (o + i)) l1 g1 ∧ Tr (cs.drop (o + i)) l2 g2 ∧ g = g1 ++ g2 ∧ cs' = l1 ++ l2 ∧ (∀ q, inF g1 q = false → M' q = M q) ∧ ∀ j (h : j < rows.length), j < i → ∃ u, cs[o + j]? = .some u ∧ Hd M' u rows[j].length (k + offN rows j) ∧ ∀ b', blkV u = .some b' → inF g1 b' = true) (fun e _ => ctrV rows.length (e 5)) ?_ ?_
    · obtain ⟨l1, l2, g1, g2, rfl, rfl, h5, h6⟩ := Tr.split (a := cs.take o) (b := cs.drop o) (b' := []) (by rw [List.take_append_drop]; exact h2)
      exact ⟨0, g1, g2, l1, l2, by omega, sT0, by refine sS0 ?_; simp [offN_zero], by refine sS0 ?_; rfl, h5, h6, rfl, rfl, fun _ _ => rfl, fun j _ h => by omega⟩
    · rintro e M1 ⟨i, g1, g2, l1, l2, hi, e0, e1, e5, t1, t2, rfl, rfl, hq, hjs⟩ K hK
      have hob := offN_le hl2 i hi
      refine sS3 @e0 @e1 @e5 ?_
      refine cond_dec (fun h => ?_) (fun h => ?_)
      · have hi' : i < rows.length := by omega
        have h3 := h3 (by omega)
        have hj : o + i < cs.length := by omega
        have hcx : cs[o + i]? = .some cs[o + i] := List.getElem?_eq_getElem hj
        have hcx2 : cs[o + i * 1]? = .some cs[o + i] := by rw [Nat.mul_one]; exact hcx
        rw [List.drop_eq_getElem_cons hj] at t2
        obtain ⟨x', r', gx, gr, rfl, rfl, t3, t4⟩ := t2.uncons
        have hl1 : l1.length = o + i := by rw [t1.len, List.length_take]; omega
        obtain ⟨u, h5, h6⟩ := h4 i hi'
        rw [Nat.mul_one, List.drop_left' hl1, List.take_succ_cons, List.take_zero, List.cons.injEq] at h5
        obtain ⟨rfl, _⟩ := h5
        have hb1 : M1 b = .some cs := by
          rw [hq b (by rw [inF_append] at hbg; simp only [Bool.or_eq_false_iff] at hbg; exact hbg.1)]; exact hmb
        refine sS6 @e0 @e1 @e5 @hb1 @hcx @hcx2 ?_
        refine (t_markRk t3 (flatL_all.1 hfc _ (List.getElem_mem hj)) h6 (fun p hp => ?_) (hl2 _ (List.getElem_mem hi')) (by omega) (by omega)).mono ?_
        · rw [hq p.1 (nd_sep hng (List.mem_append_left _ hp))]
          exact hmg p (List.mem_append_right _ (List.mem_append_left _ hp))
        · rintro _ M2 ⟨rfl, p1, p2, p3⟩
          have hos := offN_succ hi'
          refine sS3 @e0 @e1 @e5 ?_
          refine hK _ _ ⟨i + 1, g1 ++ gx, gr, l1 ++ [x'], r', by omega, sT1 @e0, by refine sS0 ?_; rw [hos, Int.natCast_add, Int.add_assoc], by refine sS0 ?_; rfl, ?_, t4, by simp, by simp, fun q hq2 => ?_, fun j hj1 hj2 => ?_⟩ (by refine sS2 @ctrV_int @e5 ?_; omega)
          · rw [← Nat.add_assoc, take_one hj]; exact t1.append t3
          · rw [inF_append, Bool.or_eq_false_iff] at hq2
            rw [p3 q hq2.2]
            exact hq q hq2.1
          · by_cases ej : j = i
            · subst ej
              exact ⟨_, hcx, p1, fun b' hb' => by rw [inF_append, p2 b' hb', Bool.or_true]⟩
            · obtain ⟨w, w1, w2, w3⟩ := hjs j hj1 (by omega)
              refine ⟨w, w1, w2.frame fun b' hb' => p3 b' ?_, fun b' hb' => by rw [inF_append, w3 b' hb', Bool.true_or]⟩
              cases hc : inF gx b' with
              | false => rfl
              | true =>
                obtain ⟨l, hl⟩ := inF_iff.1 hc
                have h7 := nd_sep hng (p := (b', l)) (List.mem_append_left _ hl)
                simp only at h7
                rw [w3 b' hb'] at h7; cases h7
      · obtain rfl : i = rows.length := by omega
        have hqf : ∀ q, inF ((b, cs) :: (g1 ++ g2)) q = false → M1 q = M q := fun q hq1 => hq q (by
          cases hc : inF g1 q with
          | false => rfl
          | true => rw [hgo q (by rw [inF_append, hc]; rfl)] at hq1; cases hq1)
        have hb1 : M1 b = .some cs := by
          rw [hq b (by rw [inF_append] at hbg; simp only [Bool.or_eq_false_iff] at hbg; exact hbg.1)]; exact hmb
        refine sS1 @e1 ?_
        refine hR _ _ ⟨rfl, fun M2 hM2 => .inr ⟨b, o, c, ex, kk, cs, rfl, by rw [hM2 b (inF_mem (p := (b, cs)) (List.mem_cons_self ..))]; exact hb1, fun j hj1 => ?_⟩, hqf⟩
        obtain ⟨w, w1, w2, w3⟩ := hjs j hj1 hj1
        exact ⟨w, w1, w2.frame fun b' hb' => hM2 b' (hgo b' (by rw [inF_append, w3 b' hb', Bool.true_or]))⟩
end Go.M2

namespace Go.M2
theorem sep2 {M M' : MH} {f g : List (Nat × List V)} (_ : ∀ p ∈ f, M' p.1 = .some p.2) (hf : ∀ p ∈ f, M p.1 = .some p.2) (hg : ∀ p ∈ g, M p.1 = none) {p : Nat × List V} (hp : p ∈ g) : inF f p.1 = false := by
  cases hc : inF f p.1 with
  | false => rfl
  | true =>
    obtain ⟨l, hl⟩ := inF_iff.1 hc
    have e1 := hf _ hl
    have e2 := hg p hp
    simp only at e1
    rw [e1] at e2; cases e2
theorem oldF {M : MH} {f : List (Nat × List V)} {q : Nat} {l : Cell} (hf : ∀ p ∈ f, M p.1 = none) (h : M q = .some l) : inF f q = false := by
  cases hc : inF f q with
  | false => rfl
  | true =>
    obtain ⟨l2, hl⟩ := inF_iff.1 hc
    have e1 := hf _ hl
    simp only at e1
    rw [e1] at h; cases h
theorem newF {M : MH} {f : List (Nat × List V)} {b : Nat} (hf : ∀ p ∈ f, M p.1 = .some p.2) (h : M b = none) : inF f b = false := by
  cases hc : inF f b with
  | false => rfl
  | true =>
    obtain ⟨l2, hl⟩ := inF_iff.1 hc
    have e1 := hf _ hl
    simp only at e1
    rw [h] at e1; cases e1
end Go.M2

namespace Go.M2
open Go.Proofs
variable {M : MH}
theorem d_cloneInt {v : V} {xs : List Int} (hv : RdI M v xs) (hl : xs.length ≤ 1048576) : VCall Try.prog n_impl_clone_int [v] M (fun r M' => Dn M M' r (fun u => LI u xs)) := by
  obtain ⟨v', g, t, nd, hat, hl2⟩ := hv
  exact VCall.lendD t hat nd fun M' => (t_cloneInt hl2 hl).mono fun r M'' h => h.dnI
end Go.M2

namespace Go.M2
open Go.Proofs
variable {M : MH}
end Go.M2

namespace Go.M2
open Go.Proofs
variable {M : MH}
theorem d_l3Copy {v : V} {xs : List Int} (hv : LI v xs) (hl : xs.length ≤ 1048576) : VCall Try.prog n_spec_l3Copy [v] M (fun r M' => Dn M M' r (fun u => LI u xs)) := (t_l3Copy hv hl).mono fun r M' h => h.dnI
theorem take_one' {α : Type} {l : List α} {x : α} (h : l[0]? = .some x) : l.take 1 = [x] := by
  cases l with
  | nil => cases h
  | cons y t => simp at h; simp [h]
end Go.M2

namespace Go.M2
open Go.Proofs
variable {M : MH}
structure TrFit (t : TrS) : Prop where
  l : t.states.length ≤ 1048576
  m : ∀ y ∈ t.states, y.length ≤ 1048576
  r : t.rules.length ≤ 1048576
theorem x_eqTrace {v w : V} {t : TrS} (hv : isTr t v) (hw : isTr t w) (hf : TrFit t) : VCall Try.prog n_laws_eqTrace [v, w] M (fun r M' => M = M' ∧ r = .sc (.bool true)) := by
  refine VCall.pure fun R hR => v_laws_eqTrace rfl ?_
  obtain ⟨x, y, rfl, hx, hy⟩ := hv
  obtain ⟨x2, y2, rfl, hx2, hy2⟩ := hw
  refine sS0 ?_
  intro b2 hb2 b3 hb3
  have n3 := (fresh_set hb3).1
  have q2 : ((M.set b2 [x, y]).set b3 [x2, y2]) b2 = .some [x, y] := by rw [set_ne (Ne.symm n3)]; exact set_same
  have q3 : ((M.set b2 [x, y]).set b3 [x2, y2]) b3 = .some [x2, y2] := set_same
  refine sS2 @q2 @q3 ?_
  refine (x_eqIntSS hx hx2 hf.l hf.m).mono ?_
  rintro _ _ ⟨rfl, rfl⟩
  refine sS2 @q2 @q3 ?_
  refine (x_eqIntS hy hy2 hf.r).mono ?_
  rintro _ _ ⟨rfl, rfl⟩
  have ei : decide (t.rules = t.rules) = true := by simp
  refine sS1 @ei ?_
  exact hR _ _ (sB) rfl
theorem l_eqTrace {v v' w : V} {fp : List (Nat × List V)} {t : TrS} (ht : Tr [v] [v'] fp) (hv : isTr t v') (hm : ∀ p ∈ fp, M p.1 = .some p.2) (hn : Nd2 fp) (hw : isTr t w) (hf : TrFit t) : VCall Try.prog n_laws_eqTrace [v, w] M (fun r M' => M = M' ∧ r = .sc (.bool true)) :=
  VCall.lendP (tr_fst ht) hm hn flat_bool fun M' => x_eqTrace hv hw hf
theorem Tr.trace {v v' : V} {fp : List (Nat × List V)} {t : TrS} (ht : Tr [v] [v'] fp) (hf : flat v) (hv : isTr t v') : ∃ x y x' y' f g, v = .agg [x, y] ∧ fp = f ++ g ∧ Tr [x] [x'] f ∧ Tr [y] [y'] g ∧ flat x ∧ flat y ∧ LII x' t.states ∧ LI y' t.rules := by
  obtain ⟨x', y', rfl, hx, hy⟩ := hv
  cases ht with
  | keep v h1 =>
    cases h1
    simp only [flat, flatL] at hf
    exact ⟨x', y', x', y', [], [], rfl, rfl, .refl _, .refl _, hf.1, hf.2.1, hx, hy⟩
  | agg h1 h2 =>
    cases h2
    rename_i a fp1
    match a, h1 with
    | [x, y], h1 =>
      obtain ⟨x2, t', f1, f2, e1, rfl, h3, h4⟩ := h1.uncons
      rw [List.cons.injEq] at e1
      obtain ⟨rfl, rfl⟩ := e1
      simp only [flat, flatL] at hf
      exact ⟨x, y, _, _, f1, f2, rfl, by simp, h3, h4, hf.1, hf.2.1, hx, hy⟩
    | [], h1 => exact absurd h1.len (by simp)
    | [x], h1 => exact absurd h1.len (by simp)
    | x :: y :: z :: t, h1 => exact absurd h1.len (by simp)
theorem Tr.traceOne {v v' : V} {fp : List (Nat × List V)} {t : TrS} (ht : Tr [v] [v'] fp) (hf : flat v) (hv : isTr t v') : ∃ x y, v = .agg [x, y] ∧ One x ∧ One y := by
  obtain ⟨x, y, x', y', f, g, rfl, _, h1, h2, _, _, h3, h4⟩ := ht.trace hf hv
  exact ⟨x, y, rfl, h1.one1 h3.one, h2.one1 h4.one⟩
def HdT (M : MH) (v : V) (t : TrS) (k : Int) : Prop := ∃ x y, v = .agg [x, y] ∧ One x ∧ One y ∧ HdS M x t.states k ∧ Hd M y t.rules.length (k + offN t.states t.states.length)
def cntT (t : TrS) : Nat := offN t.states t.states.length + t.rules.length
theorem cntT_le {t : TrS} (hf : TrFit t) : cntT t ≤ 1099512676352 := by
  have := offN_le hf.m t.states.length (Nat.le_refl _)
  have h1 := hf.l
  have h2 := hf.r
  unfold cntT
  have : 1048576 * t.states.length ≤ 1048576 * 1048576 := Nat.mul_le_mul_left _ h1
  omega
theorem HdS.more {M' : MH} {v : V} {rows : List (List Int)} {k : Int} (h : HdS M v rows k) (hs : Sub M M') : HdS M' v rows k := by
  rcases h with h | ⟨b, o, c, ex, kk, cs, rfl, hm, hc⟩
  · exact .inl h
  · refine .inr ⟨b, o, c, ex, kk, cs, rfl, hs _ _ hm, fun i hi => ?_⟩
    obtain ⟨u, h1, h2⟩ := hc i hi
    refine ⟨u, h1, ?_⟩
    rcases h2 with h2 | ⟨b', o', c', ex', kk', l', rfl, hm', hl'⟩
    · exact .inl h2
    · exact .inr ⟨b', o', c', ex', kk', l', rfl, hs _ _ hm', hl'⟩
theorem Hd.more {M' : MH} {v : V} {n : Nat} {k : Int} (h : Hd M v n k) (hs : Sub M M') : Hd M' v n k := by
  rcases h with h2 | ⟨b', o', c', ex', kk', l', rfl, hm', hl'⟩
  · exact .inl h2
  · exact .inr ⟨b', o', c', ex', kk', l', rfl, hs _ _ hm', hl'⟩
theorem HdT.more {M' : MH} {v : V} {t : TrS} {k : Int} (h : HdT M v t k) (hs : Sub M M') : HdT M' v t k := by
  obtain ⟨x, y, rfl, h1, h2, h3, h4⟩ := h
  exact ⟨x, y, rfl, h1, h2, h3.more hs, h4.more hs⟩
theorem t_heldTrace {v : V} {t : TrS} {k : Int} (hv : HdT M v t k) (hf : TrFit t) (hk : 0 ≤ k) (hk2 : k ≤ 8000000000000000000) : VCall Try.prog n_laws_heldTrace [v, .sc (.int .i64 k)] M (fun r M' => M = M' ∧ r = .sc (.int .i64 (k + cntT t))) := by
  refine VCall.pure fun R hR => v_laws_heldTrace rfl ?_
  obtain ⟨x, y, rfl, ⟨hx1, hx2⟩, ⟨hy1, hy2⟩, hs, hr⟩ := hv
  have hc := cntT_le hf
  unfold cntT at hc hR
  refine sS4 @hx1 @hx2 @hy1 @hy2 ?_
  intro b2 hb2
  have q2 : (M.set b2 [x, y]) b2 = .some [x, y] := set_same
  have hsub : Sub M (M.set b2 [x, y]) := (Sub.refl M).set' hb2
  refine (t_heldIntSS (hs.more hsub) hf.l hf.m hk (by omega)).mono ?_
  rintro _ _ ⟨rfl, rfl⟩
  have n1 : ¬ k + (offN t.states t.states.length : Int) < 0 := by omega
  refine sS2 @n1 @q2 ?_
  refine (t_heldIntS (hr.more hsub) hf.r (by omega) (by omega)).mono ?_
  rintro _ _ ⟨rfl, rfl⟩
  have n2 : ¬ k + (offN t.states t.states.length : Int) + (t.rules.length : Int) < 0 := by omega
  refine sS1 @n2 ?_
  exact hR _ _ hsub (by rw [Int.natCast_add, Int.add_assoc])
theorem t_markTrace {v v' : V} {fp : List (Nat × List V)} {t : TrS} {k : Int} (ht : Tr [v] [v'] fp) (hf : flat v) (hff : ∀ q ∈ fp, flatL q.2) (hv : isTr t v') (hn : Nd2 fp) (hm : ∀ p ∈ fp, M p.1 = .some p.2) (hfit : TrFit t) (hk : 0 ≤ k) (hk2 : k ≤ 8000000000000000000) :
    VCall Try.prog n_laws_markTrace [v, .sc (.int .i64 k)] M (fun r M' => r = .sc (.int .i64 (k + cntT t)) ∧ HdT M' v t k ∧ ∀ q l, M q = .some l → inF fp q = false → M' q = .some l) := by
  refine VCall.plain fun R hR => v_laws_markTrace rfl ?_
  obtain ⟨ox, oy, e, hox, hoy⟩ := ht.traceOne hf hv
  obtain ⟨x, y, x', y', f, g, rfl, rfl, t1, t2, f1, f2, hx, hy⟩ := ht.trace hf hv
  cases e
  have hc := cntT_le hfit
  unfold cntT at hc hR
  have hx1 := hox.1
  have hx2 := hox.2
  have hy1 := hoy.1
  have hy2 := hoy.2
  refine sS4 @hx1 @hx2 @hy1 @hy2 ?_
  intro b2 hb2
  have hsub : Sub M (M.set b2 [ox, oy]) := (Sub.refl M).set' hb2
  have nf : ∀ p ∈ f ++ g, p.1 ≠ b2 := fun p hp e => by have := hm p hp; rw [e, hb2] at this; cases this
  have b2f : inF f b2 = false := by
    cases hc : inF f b2 with
    | false => rfl
    | true =>
      obtain ⟨l, hl⟩ := inF_iff.1 hc
      exact absurd rfl (nf _ (List.mem_append_left _ hl))
  have nd := Nd2.append hn
  refine (t_markIntSS2 t1 f1 (fun q hq => hff q (List.mem_append_left _ hq)) hx nd.1 (fun p hp => hsub _ _ (hm p (List.mem_append_left _ hp))) hfit.l hfit.m hk (by omega)).mono ?_
  rintro _ M1 ⟨rfl, hd1, keep1⟩
  have q2 : M1 b2 = .some [ox, oy] := by rw [keep1 b2 b2f]; exact set_same
  refine sS1 @q2 ?_
  refine (t_markRk t2 f2 hy (fun p hp => ?_) hfit.r (by omega) (by omega)).mono ?_
  · rw [keep1 p.1 (nd_sep hn hp)]
    exact hsub _ _ (hm p (List.mem_append_right _ hp))
  · rintro _ M2 ⟨rfl, hd2, _, keep2⟩
    refine sS0 ?_
    refine hR _ _ ⟨by rw [Int.natCast_add, Int.add_assoc], ⟨ox, oy, rfl, hox, hoy, hd1 M2 fun q hq => keep2 q ?_, hd2⟩, fun q l hq hfq => ?_⟩
    · obtain ⟨l, hl⟩ := inF_iff.1 hq
      exact nd.2.2 _ hl
    · rw [inF_append, Bool.or_eq_false_iff] at hfq
      rw [keep2 q hfq.2, keep1 q hfq.1]
      exact hsub q l hq
end Go.M2

namespace Go.M2
open Go.Proofs
variable {M : MH}
def lastB (sts : List (List Int)) (x : List Int) : Nat → Nat
  | 0 => 0
  | k + 1 => if sts.getD k [] = x then k else lastB sts x k
theorem lastB_spec {sts : List (List Int)} {x : List Int} {i : Nat} (hi : sts.getD i [] = x) : ∀ k, i < k → i ≤ lastB sts x k ∧ lastB sts x k < k ∧ sts.getD (lastB sts x k) [] = x ∧ ∀ j, lastB sts x k < j → j < k → sts.getD j [] ≠ x
  | 0, h => by omega
  | k + 1, h => by
    unfold lastB
    split
    · rename_i h1
      exact ⟨by omega, by omega, h1, fun j h2 h3 => by omega⟩
    · rename_i h1
      have hne : i ≠ k := fun e => h1 (e ▸ hi)
      obtain ⟨q1, q2, q3, q4⟩ := lastB_spec hi k (by omega)
      refine ⟨q1, by omega, q3, fun j h2 h3 => ?_⟩
      by_cases e : j = k
      · subst e; exact h1
      · exact q4 j h2 (by omega)
theorem lastB_succ {sts : List (List Int)} {x : List Int} {k : Nat} : lastB sts x (k + 1) = if sts.getD k [] = x then k else lastB sts x k := rfl
inductive WrR (t : TrS) : Nat → List (List Int) → List Int → Prop
  | stop {i : Nat} : t.states.length ≤ i → WrR t i [] []
  | go {i l : Nat} {S : List (List Int)} {R : List Int} : i < t.states.length → l = lastB t.states (t.states.getD i []) t.states.length → WrR t (l + 1) S R → WrR t i (t.states.getD i [] :: S) ((if l < t.rules.length then [t.rules.getD l 0] else []) ++ R)
theorem WrR.ex {t : TrS} : ∀ (n i : Nat), t.states.length ≤ i + n → ∃ S R, WrR t i S R
  | 0, i, h => ⟨[], [], .stop (by omega)⟩
  | n + 1, i, h => by
    rcases Nat.lt_or_ge i t.states.length with h1 | h1
    · have h2 := (lastB_spec (sts := t.states) (i := i) rfl t.states.length h1).1
      obtain ⟨S, R, h3⟩ := WrR.ex (t := t) n (lastB t.states (t.states.getD i []) t.states.length + 1) (by omega)
      exact ⟨_, _, .go h1 rfl h3⟩
    · exact ⟨[], [], .stop h1⟩
theorem WrR.len {t : TrS} {i : Nat} {S : List (List Int)} {R : List Int} (h : WrR t i S R) : S.length ≤ t.states.length - i ∧ R.length ≤ t.states.length - i ∧ ∀ y ∈ S, y ∈ t.states := by
  induction h with
  | stop h => simp
  | @go i l S R h1 h2 h3 ih =>
    have h4 := (lastB_spec (sts := t.states) (i := i) rfl t.states.length h1).1
    rw [← h2] at h4
    refine ⟨by simp; omega, ?_, fun y hy => ?_⟩
    · rw [List.length_append]
      split
      · simp; omega
      · simp; omega
    · rcases List.mem_cons.1 hy with rfl | hy
      · have : t.states.getD i [] = t.states[i] := by simp [List.getD, h1]
        rw [this]; exact List.getElem_mem h1
      · exact ih.2.2 y hy
structure TvOk (s : SysS) (t : TrS) : Prop where
  ok : SysOk s
  n1 : 1 ≤ t.states.length
  n2 : t.states.length ≤ 500
  rl : t.rules.length + 1 = t.states.length
  f0 : t.states.getD 0 [] = firstF s
  st : ∀ i (h : i < t.rules.length), 0 ≤ t.rules[i] ∧ t.rules[i] ≤ (s.rules.length : Int) - 1 ∧ ∀ hk : t.rules[i].toNat < s.rules.length, useR s.vars s.rules[t.rules[i].toNat] (t.states.getD i []) = .some (t.states.getD (i + 1) [])
noncomputable def tvB (s : SysS) (t : TrS) : Bool := @decide (TvOk s t) (Classical.propDecidable _)
theorem tvB_iff {s : SysS} {t : TrS} : tvB s t = true ↔ TvOk s t := by unfold tvB; exact @decide_eq_true_iff _ (Classical.propDecidable _)
theorem tvB_false {s : SysS} {t : TrS} (h : ¬ TvOk s t) : tvB s t = false := by
  cases hb : tvB s t with
  | false => rfl
  | true => exact absurd (tvB_iff.1 hb) h
noncomputable def wrF (s : SysS) (t : TrS) : TrS := if tvB s t = true then ⟨(WrR.ex (t := t) t.states.length 0 (by omega)).choose, (WrR.ex (t := t) t.states.length 0 (by omega)).choose_spec.choose⟩ else ⟨[], []⟩
theorem wrF_ok {s : SysS} {t : TrS} (h : TvOk s t) : WrR t 0 (wrF s t).states (wrF s t).rules := by
  unfold wrF
  rw [if_pos (tvB_iff.2 h)]
  exact (WrR.ex (t := t) t.states.length 0 (by omega)).choose_spec.choose_spec
theorem wrF_bad {s : SysS} {t : TrS} (h : ¬ TvOk s t) : wrF s t = ⟨[], []⟩ := by unfold wrF; rw [tvB_false h]; rfl
theorem wrF_fit {s : SysS} {t : TrS} (hf : TrFit t) : TrFit (wrF s t) := by
  by_cases h : TvOk s t
  · obtain ⟨h1, h2, h3⟩ := (wrF_ok h).len
    have := h.n2
    exact ⟨by omega, fun y hy => hf.m y (h3 y hy), by omega⟩
  · rw [wrF_bad h]; exact ⟨by simp, fun y hy => (by cases hy), by simp⟩
end Go.M2

namespace Go.M2
open Go.Proofs
variable {M : MH}
theorem lRes_len {r : V} {o : Option (List Int)} (h : lRes r o) : lenF (er r) = .some (.int .i64 ((o.getD []).length : Int)) := by
  cases o with
  | none => cases h; rfl
  | some xs => exact Ls.len h
theorem tv_in {s : SysS} {t : TrS} (hs : SysOk s) (hf0 : t.states.getD 0 [] = firstF s) (n1 : 1 ≤ t.states.length) {i : Nat} (hst : ∀ j (h : j < t.rules.length), j < i → ∀ hk : t.rules[j].toNat < s.rules.length, useR s.vars s.rules[t.rules[j].toNat] (t.states.getD j []) = .some (t.states.getD (j + 1) []))
    (hk : ∀ j (h : j < t.rules.length), j < i → t.rules[j].toNat < s.rules.length) (hi : i ≤ t.rules.length) : StIn s.vars (t.states.getD i []) := by
  cases i with
  | zero => rw [hf0]; exact first_in hs
  | succ j => exact useR_in (hst j (by omega) (by omega) (hk j (by omega) (by omega)))
theorem t_specTraceValid {v w : V} {s : SysS} {t : TrS} (hv : isSys s v) (hw : isTr t w) (hf : TrFit t) : VCall Try.prog n_spec_TraceValid [v, w] M (fun r M' => M = M' ∧ r = .sc (.bool (tvB s t))) := by
  refine VCall.pure fun R hR => v_spec_TraceValid rfl ?_
  have hv0 := hv
  obtain ⟨a, b, rfl, ha, hb⟩ := hv
  obtain ⟨x, y, rfl, hx, hy⟩ := hw
  have no : ¬ TvOk s t → tvB s t = false := tvB_false
  have hfl := hf.l
  have hfr := hf.r
  refine sS0 ?_
  intro b2 hb2 b3 hb3
  have n3 := (fresh_set hb3).1
  have m2 : ((M.set b2 [a, b]).set b3 [x, y]) b2 = .some [a, b] := by rw [set_ne (Ne.symm n3)]; exact set_same
  have m3 : ((M.set b2 [a, b]).set b3 [x, y]) b3 = .some [x, y] := set_same
  have hs0 : Sub M ((M.set b2 [a, b]).set b3 [x, y]) := sB
  generalize ((M.set b2 [a, b]).set b3 [x, y]) = M0 at *
  refine sS2 @m2 @m3 ?_
  refine (t_SystemValidS hv0).mono ?_
  rintro _ _ ⟨rfl, rfl⟩
  cases h1 : sysB s with
  | false =>
    refine sS0 ?_
    exact hR _ _ hs0 (by rw [no fun h => by rw [(sysB_iff s).2 h.ok] at h1; cases h1])
  | true =>
  have hs := (sysB_iff s).1 h1
  have hwr : IntKind.i64.wrap ((t.states.length : Int) - 1) = (t.states.length : Int) - 1 := wrap_in (by omega) (by omega)
  refine sS4 @m2 @m3 @hx.len @hy.len ?_
  refine t_l1In.mono ?_
  rintro _ _ ⟨rfl, rfl⟩
  by_cases hln : (1 : Int) ≤ (t.states.length : Int) ∧ (t.states.length : Int) ≤ 500
  case neg =>
    have hd : decide ((1 : Int) ≤ (t.states.length : Int) ∧ (t.states.length : Int) ≤ 500) = false := by simpa using hln
    refine sS1 @hd ?_
    exact hR _ _ hs0 (by rw [no fun h => hln ⟨by have := h.n1; omega, by have := h.n2; omega⟩])
  have hd : decide ((1 : Int) ≤ (t.states.length : Int) ∧ (t.states.length : Int) ≤ 500) = true := by simp [hln]
  have hl0 : 0 < t.states.length := by omega
  by_cases hrl : (t.rules.length : Int) = (t.states.length : Int) - 1
  case neg =>
    have hd2 : decide (¬ (t.rules.length : Int) = (t.states.length : Int) - 1) = true := decide_eq_true hrl
    refine sS5 @hd @hx.len @hy.len @m3 @hd2 ?_
    exact hR _ _ hs0 (by rw [no fun h => hrl (by have := h.rl; omega)])
  have hd2 : decide (¬ (t.rules.length : Int) = (t.states.length : Int) - 1) = false := decide_eq_false fun h => h hrl
  have hia0 := hx.iaddr (k := .i64) (a := 0) (by omega) (by omega)
  have z0 : (0 : Int).toNat = 0 := rfl
  rw [z0] at hia0
  refine sS7 @hd @hx.len @hy.len @m2 @m3 @hd2 @hia0 ?_
  refine (VCall.fr1 (t_FirstState hv0 hs)).mono ?_
  rintro f _ ⟨rfl, hff⟩
  refine sS2 @hia0 @m3 ?_
  refine (t_l2Same (hx.elt hl0) hff.li (hf.m _ (List.getElem_mem hl0))).mono ?_
  rintro _ _ ⟨rfl, rfl⟩
  have g0 : t.states.getD 0 [] = t.states[0] := by simp [List.getD, hl0]
  by_cases hf0 : t.states[0] = firstF s
  case neg =>
    have hd3 : decide (t.states[0] = firstF s) = false := by simpa using hf0
    refine sS1 @hd3 ?_
    exact hR _ _ hs0 (by rw [no fun h => hf0 (by rw [← g0]; exact h.f0)])
  have hd3 : decide (t.states[0] = firstF s) = true := by simpa using hf0
  refine sS1 @hd3 ?_
  refine loop_k (fun e M' => M0 = M' ∧ ∃ i : Nat, i ≤ t.rules.length ∧ e 2 = .sc (.ptr (some (b2, 0))) ∧ e 3 = .sc (.ptr (some (b3, 0))) ∧ e 5 = .sc (.int .i64 i) ∧ ∀ j (h : j < t.rules.length), j < i → 0 ≤ t.rules[j] ∧ t.rules[j] ≤ (s.rules.length : Int) - 1 ∧ ∀ hk : t.rules[j].toNat < s.rules.length, useR s.vars s.rules[t.rules[j].toNat] (t.states.getD j []) = .some (t.states.getD (j + 1) [])) (fun e _ => ctrV t.rules.length (e 5)) ?_ ?_
  · exact ⟨rfl, 0, by omega, sT0, sT0, by refine sS0 ?_; rfl, fun j _ h => by omega⟩
  · rintro e _ ⟨rfl, i, hi, e2, e3, e5, hj⟩ K hK
    refine sS5 @e2 @e3 @e5 @m3 @hy.len ?_
    refine cond_dec (fun h => ?_) (fun h => ?_)
    · have hi' : i < t.rules.length := by omega
      have hi2 : i < t.states.length := by omega
      have hi3 : i + 1 < t.states.length := by omega
      have gi : t.states.getD i [] = t.states[i] := by simp [List.getD, hi2]
      have gi1 : t.states.getD (i + 1) [] = t.states[i + 1] := by simp [List.getD, hi3]
      have hin : StIn s.vars (t.states.getD i []) := tv_in hs (by rw [g0]; exact hf0) (by omega) (fun j h1 h2 => (hj j h1 h2).2.2) (fun j h1 h2 => by have := hj j h1 h2; omega) (by omega)
      rw [gi] at hin
      have hr8 := hs.r8
      have bad : ¬ (0 ≤ t.rules[i] ∧ t.rules[i] ≤ (s.rules.length : Int) - 1 ∧ ∀ hk : t.rules[i].toNat < s.rules.length, useR s.vars s.rules[t.rules[i].toNat] (t.states.getD i []) = .some (t.states.getD (i + 1) [])) → tvB s t = false := fun hb => no fun h => hb (h.st i hi')
      simp (maxSteps := 2000000) (disch := first | omega | assumption | exact idP rfl | exact idP (bL rfl)) only [go_sem, reduceIte, Nat.reduceEqDiff, wpV_kd, wpV_tH, e2, e3, e5, m2, m3, hy.iaddr, hy.at hi', hb.len]
      refine t_l1In.mono ?_
      rintro _ _ ⟨rfl, rfl⟩
      by_cases hk : 0 ≤ t.rules[i] ∧ t.rules[i] ≤ (s.rules.length : Int) - 1
      case neg =>
        have hd4 : decide (0 ≤ t.rules[i] ∧ t.rules[i] ≤ (s.rules.length : Int) - 1) = false := by simpa using hk
        refine sS1 @hd4 ?_
        exact hR _ _ hs0 (by rw [bad fun h => hk ⟨h.1, h.2.1⟩])
      have hd4 : decide (0 ≤ t.rules[i] ∧ t.rules[i] ≤ (s.rules.length : Int) - 1) = true := by simp [hk]
      have hkn : t.rules[i].toNat < s.rules.length := by omega
      have ek : t.rules[i] = ((t.rules[i].toNat : Nat) : Int) := by omega
      simp (maxSteps := 2000000) (disch := first | omega | assumption | exact idP rfl | exact idP (bL rfl)) only [go_sem, reduceIte, Nat.reduceEqDiff, wpV_kd, wpV_tH, hd4, e2, e3, e5, m2, m3, hx.iaddr, hy.iaddr, hy.at hi']
      have huse := t_l2Use (M := M0) hv0 hs (hx.elt hi2) hin hkn
      rw [← ek] at huse
      refine huse.mono ?_
      rintro r _ ⟨rfl, hr⟩
      have hrl' := lRes_len hr
      cases hu : useR s.vars s.rules[t.rules[i].toNat] t.states[i] with
      | none =>
        rw [hu] at hr
        cases hr
        have hz0 : decide (((0 : Nat) : Int) = 0) = true := rfl
        refine sS4 @e2 @e3 @e5 @hz0 ?_
        exact hR _ _ hs0 (by rw [bad fun h => by have := h.2.2 hkn; rw [gi, hu] at this; cases this])
      | some z =>
        rw [hu] at hr
        have hzl : z.length = s.vars.length := (useR_in hu).1
        have hv1 := hs.v1
        have hv5 := hs.v5
        have hzn : decide ((z.length : Int) = 0) = false := decide_eq_false (by omega)
        have hr' : LI r z := hr
        refine sS7 @e2 @e3 @e5 @hr'.len @hzn @m3 @hx.iaddr ?_
        rw [show ((i : Int) + 1).toNat = i + 1 by omega]
        refine (t_l2Same hr' (hx.elt hi3) (by omega)).mono ?_
        rintro _ _ ⟨rfl, rfl⟩
        by_cases hq : z = t.states[i + 1]
        · have dq : decide (z = t.states[i + 1]) = true := decide_eq_true hq
          refine sS4 @e2 @e3 @e5 @dq ?_
          refine hK _ _ ⟨rfl, i + 1, by omega, sT0, sT0, by refine sS0 ?_; rfl, fun j q1 q2 => ?_⟩ (by refine sS2 @ctrV_int @e5 ?_; omega)
          by_cases e : j = i
          · subst e
            exact ⟨hk.1, hk.2, fun _ => by rw [gi, gi1, hu, hq]⟩
          · exact hj j q1 (by omega)
        · have dq : decide (z = t.states[i + 1]) = false := decide_eq_false hq
          refine sS4 @e2 @e3 @e5 @dq ?_
          exact hR _ _ hs0 (by rw [bad fun h => by have := h.2.2 hkn; rw [gi, gi1, hu] at this; exact hq (Option.some.inj this)])
    · obtain rfl : i = t.rules.length := by omega
      refine sS0 ?_
      exact hR _ _ hs0 (by rw [tvB_iff.2 ⟨hs, by omega, by omega, by omega, by rw [g0]; exact hf0, fun i hi => hj i hi hi⟩])
end Go.M2

namespace Go.M2
open Go.Proofs
variable {M : MH}
theorem WrR.inv {t : TrS} {i : Nat} {S : List (List Int)} {R : List Int} (h : WrR t i S R) : (t.states.length ≤ i → S = [] ∧ R = []) ∧ (i < t.states.length → ∃ S1 R1, S = t.states.getD i [] :: S1 ∧ R = (if lastB t.states (t.states.getD i []) t.states.length < t.rules.length then [t.rules.getD (lastB t.states (t.states.getD i []) t.states.length) 0] else []) ++ R1 ∧ WrR t (lastB t.states (t.states.getD i []) t.states.length + 1) S1 R1) := by
  cases h with
  | stop h1 => exact ⟨fun _ => ⟨rfl, rfl⟩, fun h2 => by omega⟩
  | go h1 h2 h3 => subst h2; exact ⟨fun h4 => by omega, fun _ => ⟨_, _, rfl, rfl, h3⟩⟩
theorem o_specWithoutRounds {v w : V} {s : SysS} {t : TrS} (hv : isSys s v) (hw : isTr t w) (hf : TrFit t) : VCall Try.prog n_spec_WithoutRounds [v, w] M (fun r M' => Dn M M' r (isTr (wrF s t))) := by
  refine VCall.plain fun R hR => v_spec_WithoutRounds rfl ?_
  have hv0 := hv
  have hw0 := hw
  obtain ⟨a, b, rfl, ha, hb⟩ := hv
  obtain ⟨x, y, rfl, hx, hy⟩ := hw
  have hfl := hf.l
  have hfr := hf.r
  refine sS0 ?_
  intro b2 hb2 b3 hb3 b4 hb4
  have n3 := (fresh_set hb3).1
  have n4 := (fresh_set hb4).1
  have hM4 : M b4 = none := (fresh_set (fresh_set hb4).2).2
  have k2 : ((M.set b2 [a, b]).set b3 [x, y]) b2 = .some [a, b] := by rw [set_ne (Ne.symm n3)]; exact set_same
  have k3 : ((M.set b2 [a, b]).set b3 [x, y]) b3 = .some [x, y] := set_same
  have hMk0 : Sub M ((M.set b2 [a, b]).set b3 [x, y]) := sB
  have hkb4 := hb4
  generalize ((M.set b2 [a, b]).set b3 [x, y]) = Mk at *
  have hMk : Sub Mk (Mk.set b4 [.sc (.sl none 0 0 true 0), .sc (.sl none 0 0 true 0)]) := (Sub.refl _).set' hb4
  have q4 : (Mk.set b4 [V.sc (AV.sl none 0 0 true 0), V.sc (AV.sl none 0 0 true 0)]) b4 = .some [V.sc (AV.sl none 0 0 true 0), V.sc (AV.sl none 0 0 true 0)] := set_same
  have m2 := hMk _ _ k2
  have m3 := hMk _ _ k3
  generalize Mk.set b4 [V.sc (AV.sl none 0 0 true 0), V.sc (AV.sl none 0 0 true 0)] = Mb at *
  intro b5 hb5
  have htb0 : TB Mb (Mb.set b5 [.sc (.sl none 0 0 true 0), .sc (.sl none 0 0 true 0)]) b5 [] [] (.sc (.sl none 0 0 true 0)) (.sc (.sl none 0 0 true 0)) := TB.box (RT.nil (Sub.refl _)) hb5
  have n54 : b4 ≠ b5 := fun e => by subst e; rw [hb5] at q4; cases q4
  generalize Mb.set b5 [V.sc (AV.sl none 0 0 true 0), V.sc (AV.sl none 0 0 true 0)] = M5 at *
  have fin : ∀ (M' : MH) (S : List (List Int)) (Rl : List Int) (ul ur : V), TB Mb M' b5 S Rl ul ur → (⟨S, Rl⟩ : TrS) = wrF s t → R (.agg [ul, ur]) (M'.set b4 [ul, ur]) := fun M' S Rl ul ur htb e => by
    refine hR _ _ ?_
    rw [← e]
    have hsub6 : Sub Mb (Mb.set b5 [ul, ur]) := (Sub.refl _).set' htb.new6
    exact (((htb.dn.base hsub6).setB (l := [ul, ur]) q4 hkb4 hMk).base hMk0)
  have m25 := htb0.sub _ _ m2
  have m35 := htb0.sub _ _ m3
  refine sS2 @m25 @m35 ?_
  refine (t_specTraceValid hv0 hw0 hf).mono ?_
  rintro _ _ ⟨rfl, rfl⟩
  by_cases hT : ¬ TvOk s t
  · have q45 := htb0.sub _ _ q4
    have h56 := htb0.at6
    rw [tvB_false hT]
    refine sS2 @h56 @q45 ?_
    exact fin _ _ _ _ _ htb0 (wrF_bad hT).symm
  have hT := Classical.not_not.1 hT
  have hW := wrF_ok hT
  obtain ⟨hWl, hWr, _⟩ := hW.len
  have hTn2 := hT.n2
  have hTrl := hT.rl
  rw [tvB_iff.2 hT]
  refine sS0 ?_
  generalize wrF s t = W at *
  refine loop_k (fun e M' => ∃ (i : Nat) (S S1 : List (List Int)) (Rl R1 : List Int) (ul ur : V), i ≤ t.states.length ∧ e 3 = .sc (.ptr (some (b3, 0))) ∧ e 4 = .sc (.ptr (some (b4, 0))) ∧ e 5 = .sc (.ptr (some (b5, 0))) ∧ e 6 = .sc (.int .i64 i) ∧ TB Mb M' b5 S Rl ul ur ∧ WrR t i S1 R1 ∧ S ++ S1 = W.states ∧ Rl ++ R1 = W.rules) (fun e _ => ctrV t.states.length (e 6)) ?_ ?_
  · exact ⟨0, [], _, [], _, _, _, by omega, sT0, sT0, sT0, by refine sS0 ?_; rfl, htb0, hW, rfl, rfl⟩
  · rintro e M6 ⟨i, S, S1, Rl, R1, ul, ur, hi, e3, e4, e5, e6, htb, hWi, hS, hRl⟩ K hK
    have m36 := htb.sub _ _ m3
    have h56 := htb.at6
    have hSl : S.length ≤ 500 := by have := congrArg List.length hS; simp at this; omega
    have hRll : Rl.length ≤ 500 := by have := congrArg List.length hRl; simp at this; omega
    refine sS6 @e3 @e4 @e5 @e6 @m36 @hx.len ?_
    refine cond_dec (fun h => ?_) (fun h => ?_)
    · have hi' : i < t.states.length := by omega
      have gi : t.states.getD i [] = t.states[i] := by simp [List.getD, hi']
      obtain ⟨S2, R2, rfl, hR1, hW2⟩ := hWi.inv.2 hi'
      have hls := lastB_spec (sts := t.states) (i := i) rfl t.states.length hi'
      refine sS4 @e3 @e4 @e5 @e6 ?_
      refine loop_k (fun e' M' => M6 = M' ∧ ∃ k : Nat, i ≤ k ∧ k ≤ t.states.length ∧ e' 3 = .sc (.ptr (some (b3, 0))) ∧ e' 4 = .sc (.ptr (some (b4, 0))) ∧ e' 5 = .sc (.ptr (some (b5, 0))) ∧ e' 6 = .sc (.int .i64 i) ∧ e' 7 = .sc (.int .i64 (if i < k then lastB t.states (t.states.getD i []) k else i : Nat)) ∧ e' 8 = .sc (.int .i64 k)) (fun e' _ => ctrV t.states.length (e' 8)) ?_ ?_
      · refine ⟨rfl, i, by omega, by omega, sT0, sT0, sT0, sT0, ?_, sT0⟩
        refine sS0 ?_
        rw [if_neg (by omega)]
      · rintro e' _ ⟨rfl, k, hk1, hk2, f3, f4, f5, f6, f7, f8⟩ K2 hK2
        refine sS8 @f3 @f4 @f5 @f6 @f7 @f8 @m36 @hx.len ?_
        refine cond_dec (fun hc => ?_) (fun hc => ?_)
        · have hk' : k < t.states.length := by omega
          have gk : t.states.getD k [] = t.states[k] := by simp [List.getD, hk']
          have nx : (if i < k + 1 then lastB t.states (t.states.getD i []) (k + 1) else i) = if t.states[k] = t.states[i] then k else (if i < k then lastB t.states (t.states.getD i []) k else i) := by
            rw [if_pos (by omega), lastB_succ, gk, gi]
            by_cases hki : i < k
            · rw [if_pos hki]
            · have : k = i := by omega
              subst this
              simp
          refine sS8 @f3 @f4 @f5 @f6 @f7 @f8 @m36 @hx.iaddr ?_
          refine (t_l2Same (hx.elt hk') (hx.elt hi') (hf.m _ (List.getElem_mem hk'))).mono ?_
          rintro _ _ ⟨rfl, rfl⟩
          by_cases hq : t.states[k] = t.states[i]
          · have dq : decide (t.states[k] = t.states[i]) = true := decide_eq_true hq
            refine sS7 @f3 @f4 @f5 @f6 @f7 @f8 @dq ?_
            refine hK2 _ _ ⟨rfl, k + 1, by omega, by omega, sT0, sT0, sT0, sT0, ?_, by refine sS0 ?_; rfl⟩ (by refine sS2 @ctrV_int @f8 ?_; omega)
            refine sS0 ?_
            rw [nx, if_pos hq]
          · have dq : decide (t.states[k] = t.states[i]) = false := decide_eq_false hq
            refine sS7 @f3 @f4 @f5 @f6 @f7 @f8 @dq ?_
            refine hK2 _ _ ⟨rfl, k + 1, by omega, by omega, sT0, sT0, sT0, sT0, ?_, by refine sS0 ?_; rfl⟩ (by refine sS2 @ctrV_int @f8 ?_; omega)
            refine sS0 ?_
            rw [nx, if_neg hq]
        · obtain rfl : k = t.states.length := by omega
          rw [if_pos hi'] at f7
          rw [if_pos hi']
          generalize hll : lastB t.states (t.states.getD i []) t.states.length = l at *
          refine sS8 @f3 @f4 @f5 @f6 @f7 @m36 @h56 @hx.iaddr ?_
          refine (d_l3Copy (hx.elt hi') (hf.m _ (List.getElem_mem hi'))).mono ?_
          rintro u M7 hu
          have hou := hu.rdI.one
          have hou1 := hou.1
          have hou2 := hou.2
          have h57 : M7 b5 = .some [ul, ur] := hu.sub _ _ h56
          refine sS3 @h57 @hou1 @hou2 ?_
          intro bt hbt
          refine htb.addS hou1 hu hbt (by omega) (by omega) ?_
          intro s' M8 h66 hos htb2
          have hos1 := hos.1
          have hos2 := hos.2
          have m38 := htb2.sub _ _ m3
          have h58 := htb2.at6
          have hr1 := htb2.oneR
          refine sS5 @h66 @hos1 @hos2 @m38 @hy.len ?_
          refine cond_dec (fun hc2 => ?_) (fun hc2 => ?_)
          · have hl' : l < t.rules.length := by omega
            have gl : t.rules.getD l 0 = t.rules[l] := by simp [List.getD, hl']
            rw [if_pos hl', gl] at hR1
            simp (maxSteps := 2000000) (disch := first | omega | assumption | exact idP rfl | exact idP (bL rfl)) only [go_sem, reduceIte, Nat.reduceEqDiff, wpV_kd, wpV_tH, h58, m38, hy.iaddr, hy.at hl']
            intro bt2 hbt2
            refine htb2.addR hbt2 (by omega) (by omega) ?_
            intro s2 M9 h76 hos3 htb3
            have hos31 := hos3.1
            have hos32 := hos3.2
            refine sS3 @h76 @hos31 @hos32 ?_
            refine hK _ _ ⟨l + 1, _, S2, _, R2, _, _, by omega, sT0, sT0, sT0, by refine sS0 ?_; rfl, htb3, hW2, ?_, ?_⟩ (by refine sS2 @ctrV_int @e6 ?_; omega)
            · rw [← hS, gi, List.append_assoc]; rfl
            · rw [← hRl, hR1, List.append_assoc]
          · rw [if_neg (by omega), List.nil_append] at hR1
            refine sS0 ?_
            refine hK _ _ ⟨l + 1, _, S2, _, R2, _, _, by omega, sT0, sT0, sT0, by refine sS0 ?_; rfl, htb2, hW2, ?_, ?_⟩ (by refine sS2 @ctrV_int @e6 ?_; omega)
            · rw [← hS, gi, List.append_assoc]; rfl
            · rw [← hRl, hR1]
    · have hi2 : t.states.length ≤ i := by omega
      obtain ⟨rfl, rfl⟩ := hWi.inv.1 hi2
      rw [List.append_nil] at hS hRl
      have q46 := htb.sub _ _ q4
      have o1 := htb.oneL.1
      have o2 := htb.oneL.2
      have o3 := htb.oneR.1
      have o4 := htb.oneR.2
      refine sS8 @e4 @e5 @h56 @q46 @o1 @o2 @o3 @o4 ?_
      exact fin _ _ _ _ _ htb (by rw [hS, hRl])
end Go.M2

namespace Go.M2
open Go.Proofs
theorem least {p : Nat → Prop} (h : ∃ n, p n) : ∃ n, p n ∧ ∀ m, p m → n ≤ m := by
  obtain ⟨n, hn⟩ := h
  induction n using Nat.strongRecOn with
  | _ n ih =>
    by_cases h2 : ∃ m, m < n ∧ p m
    · obtain ⟨m, h3, h4⟩ := h2
      exact ih m h3 h4
    · refine ⟨n, hn, fun m hm => ?_⟩
      rcases Nat.lt_or_ge m n with h3 | h3
      · exact absurd ⟨m, h3, hm⟩ h2
      · exact h3
open Classical in
noncomputable def leastOf (p : Nat → Prop) : Nat := if h : ∃ n, p n then (least h).choose else 0
theorem leastOf_spec {p : Nat → Prop} (h : ∃ n, p n) : p (leastOf p) ∧ ∀ m, p m → leastOf p ≤ m := by
  unfold leastOf
  rw [dif_pos h]
  exact (least h).choose_spec
theorem loop_g {P : Program} {Q : PostV} {e : EnvV} {M : MH} {a : IR} (I : Nat → EnvV → MH → Prop) (n : Nat) (h0 : I n e M)
    (hr : ∀ n e M, I n e M → ∀ K : EnvV → MH → Prop, (∀ m e' M', m < n → I m e' M' → K e' M') → wpV P a (thenQV K Q) e M) : wpV P (.loop a) Q e M := by
  refine loop_k (fun e M => ∃ n, I n e M) (fun e M => leastOf fun n => I n e M) ⟨n, h0⟩ fun e M hI K hK => ?_
  have h1 := leastOf_spec hI
  exact hr _ e M h1.1 K fun m e' M' hm hI' => hK e' M' ⟨m, hI'⟩ (Nat.lt_of_le_of_lt ((leastOf_spec ⟨m, hI'⟩).2 m hI') hm)
def Wn (M0 M : MH) (v : V) (xs : List Int) : Prop := ∃ (b o : Nat) (ex : Bool) (l : List V), v = .sc (.sl (some (b, o)) xs.length xs.length ex 1) ∧ M b = .some l ∧ o + xs.length ≤ l.length ∧ (l.drop o).take xs.length = xs.map vi ∧ M0 b = none ∧ Sub M0 M
section
variable {M0 M : MH} {v : V} {x : Int} {xs : List Int} {K : V → MH → Prop} {by_ : Nat}
theorem Wn.len (h : Wn M0 M v xs) : lenF (er v) = .some (.int .i64 (xs.length : Int)) := by
  obtain ⟨b, o, ex, l, rfl, _⟩ := h; rfl
theorem Wn.sub (h : Wn M0 M v xs) : Sub M0 M := by
  obtain ⟨b, o, ex, l, rfl, _, _, _, _, hs⟩ := h; exact hs
theorem Wn.oth {q : Nat} {l' : List V} (h : Wn M0 M v xs) (hq : blkV v ≠ some q) (h0 : M0 q = none) : Wn M0 (M.set q l') v xs := by
  obtain ⟨b, o, ex, l, rfl, h1, h2, h3, h4, h5⟩ := h
  have hne : b ≠ q := fun e => hq (by simp [blkV, e])
  exact ⟨b, o, ex, l, rfl, by rw [set_ne hne]; exact h1, h2, h3, h4, h5.set h0⟩
end
inductive Rch (tab : List (List Int)) (st : Nat → Prop) : Nat → Prop
  | base {i : Nat} : st i → Rch tab st i
  | step {i : Nat} {x : Int} : Rch tab st i → x ∈ tab.getD i [] → Rch tab st x.toNat
end Go.M2

namespace Go.M2
open Go.Proofs
variable {M : MH}
theorem t_impTraceValid {v w : V} {s : SysS} {t : TrS} (hv : isSys s v) (hz : SysSz s) (hw : isTr t w) (hf : TrFit t) : VCall Try.prog n_impl_TraceValid [v, w] M (fun r M' => M = M' ∧ r = .sc (.bool (tvB s t))) := by
  refine VCall.pure fun R hR => v_impl_TraceValid rfl ?_
  have hv0 := hv
  obtain ⟨a, b, rfl, ha, hb⟩ := hv
  obtain ⟨x, y, rfl, hx, hy⟩ := hw
  have no : ¬ TvOk s t → tvB s t = false := tvB_false
  have hfl := hf.l
  have hfr := hf.r
  refine sS0 ?_
  intro b2 hb2 b3 hb3
  have n3 := (fresh_set hb3).1
  have m2 : ((M.set b2 [a, b]).set b3 [x, y]) b2 = .some [a, b] := by rw [set_ne (Ne.symm n3)]; exact set_same
  have m3 : ((M.set b2 [a, b]).set b3 [x, y]) b3 = .some [x, y] := set_same
  have hs0 : Sub M ((M.set b2 [a, b]).set b3 [x, y]) := sB
  generalize ((M.set b2 [a, b]).set b3 [x, y]) = M0 at *
  refine sS2 @m2 @m3 ?_
  refine (t_impSystemValid hv0 hz).mono ?_
  rintro _ _ ⟨rfl, rfl⟩
  cases h1 : sysB s with
  | false =>
    refine sS0 ?_
    exact hR _ _ hs0 (by rw [no fun h => by rw [(sysB_iff s).2 h.ok] at h1; cases h1])
  | true =>
  have hs := (sysB_iff s).1 h1
  have hwr : IntKind.i64.wrap ((t.states.length : Int) - 1) = (t.states.length : Int) - 1 := wrap_in (by omega) (by omega)
  refine sS4 @m2 @m3 @hx.len @hy.len ?_
  refine t_in.mono ?_
  rintro _ _ ⟨rfl, rfl⟩
  by_cases hln : (1 : Int) ≤ (t.states.length : Int) ∧ (t.states.length : Int) ≤ 500
  case neg =>
    have hd : decide ((1 : Int) ≤ (t.states.length : Int) ∧ (t.states.length : Int) ≤ 500) = false := by simpa using hln
    refine sS1 @hd ?_
    exact hR _ _ hs0 (by rw [no fun h => hln ⟨by have := h.n1; omega, by have := h.n2; omega⟩])
  have hd : decide ((1 : Int) ≤ (t.states.length : Int) ∧ (t.states.length : Int) ≤ 500) = true := by simp [hln]
  have hl0 : 0 < t.states.length := by omega
  by_cases hrl : (t.rules.length : Int) = (t.states.length : Int) - 1
  case neg =>
    have hd2 : decide (¬ (t.rules.length : Int) = (t.states.length : Int) - 1) = true := decide_eq_true hrl
    refine sS5 @hd @hx.len @hy.len @m3 @hd2 ?_
    exact hR _ _ hs0 (by rw [no fun h => hrl (by have := h.rl; omega)])
  have hd2 : decide (¬ (t.rules.length : Int) = (t.states.length : Int) - 1) = false := decide_eq_false fun h => h hrl
  have hia0 := hx.iaddr (k := .i64) (a := 0) (by omega) (by omega)
  have z0 : (0 : Int).toNat = 0 := rfl
  rw [z0] at hia0
  refine sS7 @hd @hx.len @hy.len @m2 @m3 @hd2 @hia0 ?_
  refine (t_first hv0 hs).mono ?_
  rintro f _ ⟨rfl, hff⟩
  have hffl : (firstF s).length ≤ 1048576 := by have := hs.v5; simp [firstF]; omega
  refine sS2 @hia0 @m3 ?_
  refine (t_Equal (hx.elt hl0) hff (hf.m _ (List.getElem_mem hl0)) hffl).mono ?_
  rintro _ _ ⟨rfl, rfl⟩
  have g0 : t.states.getD 0 [] = t.states[0] := by simp [List.getD, hl0]
  by_cases hf0 : t.states[0] = firstF s
  case neg =>
    have hd3 : decide (t.states[0] = firstF s) = false := by simpa using hf0
    refine sS1 @hd3 ?_
    exact hR _ _ hs0 (by rw [no fun h => hf0 (by rw [← g0]; exact h.f0)])
  have hd3 : decide (t.states[0] = firstF s) = true := by simpa using hf0
  refine sS3 @hd3 @m3 @hy.len ?_
  refine loop_k (fun e M' => M0 = M' ∧ ∃ i : Nat, i ≤ t.rules.length ∧ e 2 = .sc (.ptr (some (b2, 0))) ∧ e 3 = .sc (.ptr (some (b3, 0))) ∧ e 40 = y ∧ e 41 = .sc (.int .i64 t.rules.length) ∧ e 42 = .sc (.int .i64 i) ∧ ∀ j (h : j < t.rules.length), j < i → 0 ≤ t.rules[j] ∧ t.rules[j] ≤ (s.rules.length : Int) - 1 ∧ ∀ hk : t.rules[j].toNat < s.rules.length, useR s.vars s.rules[t.rules[j].toNat] (t.states.getD j []) = .some (t.states.getD (j + 1) [])) (fun e _ => ctrV t.rules.length (e 42)) ?_ ?_
  · exact ⟨rfl, 0, by omega, sT0, sT0, sT0, sT0, by refine sS0 ?_; rfl, fun j _ h => by omega⟩
  · rintro e _ ⟨rfl, i, hi, e2, e3, e40, e41, e42, hj⟩ K hK
    refine sS5 @e2 @e3 @e40 @e41 @e42 ?_
    refine cond_dec (fun h => ?_) (fun h => ?_)
    · have hi' : i < t.rules.length := by omega
      have hi2 : i < t.states.length := by omega
      have hi3 : i + 1 < t.states.length := by omega
      have gi : t.states.getD i [] = t.states[i] := by simp [List.getD, hi2]
      have gi1 : t.states.getD (i + 1) [] = t.states[i + 1] := by simp [List.getD, hi3]
      have hin : StIn s.vars (t.states.getD i []) := tv_in hs (by rw [g0]; exact hf0) (by omega) (fun j h1 h2 => (hj j h1 h2).2.2) (fun j h1 h2 => by have := hj j h1 h2; omega) (by omega)
      rw [gi] at hin
      have hr8 := hs.r8
      have bad : ¬ (0 ≤ t.rules[i] ∧ t.rules[i] ≤ (s.rules.length : Int) - 1 ∧ ∀ hk : t.rules[i].toNat < s.rules.length, useR s.vars s.rules[t.rules[i].toNat] (t.states.getD i []) = .some (t.states.getD (i + 1) [])) → tvB s t = false := fun hb => no fun h => hb (h.st i hi')
      simp (maxSteps := 2000000) (disch := first | omega | assumption | exact idP rfl | exact idP (bL rfl)) only [go_sem, reduceIte, Nat.reduceEqDiff, wpV_kd, wpV_tH, e2, e3, e40, e41, e42, m2, m3, hy.iaddr, hy.at hi', hb.len]
      refine t_in.mono ?_
      rintro _ _ ⟨rfl, rfl⟩
      by_cases hk : 0 ≤ t.rules[i] ∧ t.rules[i] ≤ (s.rules.length : Int) - 1
      case neg =>
        have hd4 : decide (0 ≤ t.rules[i] ∧ t.rules[i] ≤ (s.rules.length : Int) - 1) = false := by simpa using hk
        refine sS1 @hd4 ?_
        exact hR _ _ hs0 (by rw [bad fun h => hk ⟨h.1, h.2.1⟩])
      have hd4 : decide (0 ≤ t.rules[i] ∧ t.rules[i] ≤ (s.rules.length : Int) - 1) = true := by simp [hk]
      have hkn : t.rules[i].toNat < s.rules.length := by omega
      have ek : t.rules[i] = ((t.rules[i].toNat : Nat) : Int) := by omega
      refine sS9 @hd4 @e2 @e3 @e40 @e41 @e42 @m2 @m3 @hx.iaddr ?_
      have huse := t_use (M := M0) hv0 hs (hx.elt hi2) hin hkn
      rw [← ek] at huse
      refine huse.mono ?_
      rintro r _ ⟨rfl, hr⟩
      cases hu : useR s.vars s.rules[t.rules[i].toNat] t.states[i] with
      | none =>
        rw [hu] at hr
        have hr' : r = .tup [.sc (.sl none 0 0 true 0), .sc (.bool false)] := hr
        subst hr'
        refine sS5 @e2 @e3 @e40 @e41 @e42 ?_
        exact hR _ _ hs0 (by rw [bad fun h => by have := h.2.2 hkn; rw [gi, hu] at this; cases this])
      | some z =>
        rw [hu] at hr
        obtain ⟨uu, rfl, hr'⟩ := hr
        have hzl : z.length = s.vars.length := (useR_in hu).1
        have hv1 := hs.v1
        have hv5 := hs.v5
        refine sS7 @e2 @e3 @e40 @e41 @e42 @m3 @hx.iaddr ?_
        rw [show ((i : Int) + 1).toNat = i + 1 by omega]
        refine (t_Equal hr' (hx.elt hi3) (by omega) (hf.m _ (List.getElem_mem hi3))).mono ?_
        rintro _ _ ⟨rfl, rfl⟩
        by_cases hq : z = t.states[i + 1]
        · have dq : decide (z = t.states[i + 1]) = true := decide_eq_true hq
          refine sS6 @e2 @e3 @e40 @e41 @e42 @dq ?_
          refine hK _ _ ⟨rfl, i + 1, by omega, sT0, sT0, sT0, sT0, by refine sS0 ?_; rfl, fun j q1 q2 => ?_⟩ (by refine sS2 @ctrV_int @e42 ?_; omega)
          by_cases e : j = i
          · subst e
            exact ⟨hk.1, hk.2, fun _ => by rw [gi, gi1, hu, hq]⟩
          · exact hj j q1 (by omega)
        · have dq : decide (z = t.states[i + 1]) = false := decide_eq_false hq
          refine sS6 @e2 @e3 @e40 @e41 @e42 @dq ?_
          exact hR _ _ hs0 (by rw [bad fun h => by have := h.2.2 hkn; rw [gi, gi1, hu] at this; exact hq (Option.some.inj this)])
    · obtain rfl : i = t.rules.length := by omega
      refine sS0 ?_
      exact hR _ _ hs0 (by rw [tvB_iff.2 ⟨hs, by omega, by omega, by omega, by rw [g0]; exact hf0, fun i hi => hj i hi hi⟩])
theorem TB.own {Mb M1 : MH} {b6 : Nat} {S : List (List Int)} {Rl : List Int} {ul ur : V} (h : TB Mb M1 b6 S Rl ul ur) : ∃ Mz : MH, Sub Mb Mz ∧ RT Mz M1 ul S ∧ RdI Mz ur Rl ∧ Mz b6 = .some [ul, ur] := by
  obtain ⟨us, us', fp, h1, ht, hnd, hat, hnew, hf, hff, hos, hc⟩ := h.rx
  let Mz : MH := fun i => if blkV ul = .some i ∨ inF fp i = true then none else M1 i
  have zn : ∀ i, ¬ (blkV ul = .some i ∨ inF fp i = true) → Mz i = M1 i := fun i hi => by
    show (if blkV ul = .some i ∨ inF fp i = true then none else M1 i) = M1 i
    rw [if_neg hi]
  have zy : ∀ i, (blkV ul = .some i ∨ inF fp i = true) → Mz i = none := fun i hi => by
    show (if blkV ul = .some i ∨ inF fp i = true then none else M1 i) = none
    rw [if_pos hi]
  have old : ∀ i l, Mb i = .some l → ¬ (blkV ul = .some i ∨ inF fp i = true) := fun i l hi hh => by
    rcases hh with hh | hh
    · rw [(h.newl i hh).1] at hi; cases hi
    · obtain ⟨l2, hl2⟩ := inF_iff.1 hh
      have := (hnew _ hl2).1
      simp only at this
      rw [this] at hi; cases hi
  have h6 : Mz b6 = .some [ul, ur] := by
    rw [zn b6 fun hh => ?_]
    · exact h.at6
    · rcases hh with hh | hh
      · exact (h.newl b6 hh).2.1 rfl
      · obtain ⟨l2, hl2⟩ := inF_iff.1 hh
        exact (hnew _ hl2).2.1 rfl
  refine ⟨Mz, fun i l hi => by rw [zn i (old i l hi)]; exact h.sub i l hi, ?_, ?_, h6⟩
  · refine ⟨us, us', fp, _, h1.gr, ⟨fun i l hi => ?_, fun p hp => zy _ (.inr (inF_iff.2 ⟨p.2, hp⟩)), hnd, fun p hp => ?_⟩, ht, hf, hff, hos, hc⟩
    · have hne : ¬ (blkV ul = .some i ∨ inF fp i = true) := fun hh => by rw [zy i hh] at hi; cases hi
      rw [zn i hne] at hi
      have h2 : blkV ul ≠ some i := fun e => hne (.inl e)
      simp only [h2, if_false]; exact hi
    · obtain ⟨n1, n2, n3', n4⟩ := hnew p hp
      simp only [n3', if_false]; exact hat p hp
  · rcases h.owr with ⟨e1, k, e2⟩ | ⟨b, n, ex, e2, e3, e4⟩
    · have e1 : Rl = [] := by simpa using e1
      rw [e1, e2]; exact .of .nil
    · have hb : ¬ (blkV ul = .some b ∨ inF fp b = true) := fun hh => by
        rcases hh with hh | hh
        · exact (h.newl b hh).2.2 (by rw [e2]; rfl)
        · obtain ⟨l2, hl2⟩ := inF_iff.1 hh
          exact (hnew _ hl2).2.2.2 (by rw [e2]; rfl)
      rw [e2]
      refine ⟨.fs (some (b, 0)) n n ex 1 ((Rl.map vi).drop 0), [(b, Rl.map vi)], ?_, by simp [Nd2], fun p hp => by simp at hp; subst hp; rw [zn _ hb]; exact e3, Fr.li (.inr ⟨_, _, _, _, _, by rw [List.drop_zero], by simpa using e4⟩)⟩
      have := Tr.sl (b := b) (o := 0) (n := n) (c := n) (k := 1) (ex := ex) (Tr.refl (Rl.map vi)) Tr.nil
      simpa using this
theorem d_EqualR {v w : V} {xs ys : List Int} (hv : LI v xs) (hw : RdI M w ys) (hl : xs.length ≤ 1048576) (hl2 : ys.length ≤ 1048576) : VCall Try.prog n_slices_Equal_Sint_int [v, w] M (fun r M' => M = M' ∧ r = .sc (.bool (decide (xs = ys)))) := by
  obtain ⟨w', g, tg, nd, hat, hl3⟩ := hw
  refine VCall.lendP (tr_two tg) hat nd ?_ fun M' => t_Equal hv hl3 hl hl2
  rintro r rfl
  simp [flat]
theorem o_impWithoutRounds {v w : V} {s : SysS} {t : TrS} (hv : isSys s v) (hz : SysSz s) (hw : isTr t w) (hf : TrFit t) : VCall Try.prog n_impl_WithoutRounds [v, w] M (fun r M' => Dn M M' r (isTr (wrF s t))) := by
  refine VCall.plain fun R hR => v_impl_WithoutRounds rfl ?_
  have hv0 := hv
  have hw0 := hw
  obtain ⟨a, b, rfl, ha, hb⟩ := hv
  obtain ⟨x, y, rfl, hx, hy⟩ := hw
  have hfl := hf.l
  have hfr := hf.r
  refine sS0 ?_
  intro b2 hb2 b3 hb3 b4 hb4
  have n3 := (fresh_set hb3).1
  have hM4 : M b4 = none := (fresh_set (fresh_set hb4).2).2
  have k2 : ((M.set b2 [a, b]).set b3 [x, y]) b2 = .some [a, b] := by rw [set_ne (Ne.symm n3)]; exact set_same
  have k3 : ((M.set b2 [a, b]).set b3 [x, y]) b3 = .some [x, y] := set_same
  have hMk0 : Sub M ((M.set b2 [a, b]).set b3 [x, y]) := sB
  have hkb4 := hb4
  generalize ((M.set b2 [a, b]).set b3 [x, y]) = Mk at *
  have hMk : Sub Mk (Mk.set b4 [.sc (.sl none 0 0 true 0), .sc (.sl none 0 0 true 0)]) := (Sub.refl _).set' hb4
  have q4 : (Mk.set b4 [V.sc (AV.sl none 0 0 true 0), V.sc (AV.sl none 0 0 true 0)]) b4 = .some [V.sc (AV.sl none 0 0 true 0), V.sc (AV.sl none 0 0 true 0)] := set_same
  have m2 := hMk _ _ k2
  have m3 := hMk _ _ k3
  generalize Mk.set b4 [V.sc (AV.sl none 0 0 true 0), V.sc (AV.sl none 0 0 true 0)] = Mb at *
  refine sS2 @m2 @m3 ?_
  refine (t_impTraceValid hv0 hz hw0 hf).mono ?_
  rintro _ _ ⟨rfl, rfl⟩
  by_cases hT : ¬ TvOk s t
  · rw [tvB_false hT]
    refine sS1 @q4 ?_
    refine hR _ _ ?_
    rw [wrF_bad hT]
    have d := (RT.nil (k := 0) (Sub.refl Mb)).dn.agg2 (RT.nil (k := 0) (Sub.refl Mb)).dn
    refine (((d.setB (l := [.sc (.sl none 0 0 true 0), .sc (.sl none 0 0 true 0)]) q4 hkb4 hMk).base hMk0).mono fun u ⟨x', y', h1, h2, h3⟩ => ⟨x', y', h1, h2, ?_⟩)
    rcases h3 with ⟨_, k, rfl⟩ | ⟨A, c, ex, k, xs, rfl, h4, h5⟩
    · exact .nil
    · exact .inr ⟨A, c, ex, k, xs, rfl, h4, fun i hi => absurd hi (by simp)⟩
  have hT := Classical.not_not.1 hT
  have hW := wrF_ok hT
  obtain ⟨hWl, hWr, _⟩ := hW.len
  have hTn1 := hT.n1
  have hTn2 := hT.n2
  have hTrl := hT.rl
  rw [tvB_iff.2 hT]
  have hl0 : 0 < t.states.length := by omega
  have hia0 := hx.iaddr (k := .i64) (a := 0) (by omega) (by omega)
  have z0 : (0 : Int).toNat = 0 := rfl
  rw [z0] at hia0
  refine sS2 @m3 @hia0 ?_
  generalize wrF s t = W at *
  refine (d_cloneInt (.of (hx.elt hl0)) (hf.m _ (List.getElem_mem hl0))).mono ?_
  rintro u0 M3 hu0
  have ho := hu0.rdI.one
  have ho1 := ho.1
  have ho2 := ho.2
  refine sS2 @ho1 @ho2 ?_
  intro bq hbq
  have hul : RT Mb (M3.set bq [u0]) (.sc (.sl (some (bq, 0)) 1 1 true 1)) (t.states.take 1) := by
    obtain ⟨u', g, tg, mg, fu, fg, hl3⟩ := hu0
    rw [take_one' (by rw [List.getElem?_eq_getElem hl0])]
    exact ⟨[u0], [u'], g, M3, Gr.new' (Sub.refl _) hbq rfl, mg, tg, by simp [flatL, fu], fg, by simp [ho1], ⟨rfl, fun i hi => by
      have : i = 0 := by simpa using hi
      subst this; exact ⟨u', rfl, hl3⟩⟩⟩
  intro b5 hb5
  have htb0 := TB.box hul hb5
  have t1 : t.states.take 1 = [] ++ [t.states.getD 0 []] := by
    rw [take_one' (by rw [List.getElem?_eq_getElem hl0])]
    simp [List.getD, hl0]
  rw [t1] at htb0
  generalize (M3.set bq [u0]).set b5 [V.sc (AV.sl (some (bq, 0)) 1 1 true 1), V.sc (AV.sl none 0 0 true 0)] = M5 at *
  generalize V.sc (AV.sl (some (bq, 0)) 1 1 true 1) = ul0 at *
  have n54 : b4 ≠ b5 := fun e => by have := htb0.new6; rw [← e, q4] at this; cases this
  refine loop_g (fun n e M' => ∃ (i : Nat) (S S1 : List (List Int)) (Rl R1 : List Int) (ul ur : V), n = t.states.length - i ∧ i < t.states.length ∧ e 3 = .sc (.ptr (some (b3, 0))) ∧ e 4 = .sc (.ptr (some (b4, 0))) ∧ e 5 = .sc (.ptr (some (b5, 0))) ∧ TB Mb M' b5 (S ++ [t.states.getD i []]) Rl ul ur ∧ WrR t i S1 R1 ∧ S ++ S1 = W.states ∧ Rl ++ R1 = W.rules) t.states.length ?_ ?_
  · exact ⟨0, [], _, [], _, _, _, by omega, by omega, sT0, sT0, sT0, htb0, hW, rfl, rfl⟩
  · rintro n e M6 ⟨i, S, S1, Rl, R1, ul, ur, rfl, hi, e3, e4, e5, htb, hWi, hS, hRl⟩ K hK
    have m36 := htb.sub _ _ m3
    have h56 := htb.at6
    have hSl : S.length + S1.length ≤ 500 := by have := congrArg List.length hS; simp at this; omega
    have hRll : Rl.length ≤ 500 := by have := congrArg List.length hRl; simp at this; omega
    have gi : t.states.getD i [] = t.states[i] := by simp [List.getD, hi]
    obtain ⟨S2, R2, rfl, hR1, hW2⟩ := hWi.inv.2 hi
    have hls := lastB_spec (sts := t.states) (i := i) rfl t.states.length hi
    have hlenS := htb.lenS
    have hsl : (S ++ [t.states.getD i []]).length = S.length + 1 := by simp
    obtain ⟨us, hmu, hul2, hcell⟩ := htb.cell (by omega)
    obtain ⟨u, hu1, hu2⟩ := hcell S.length (by omega)
    have hux : (S ++ [t.states.getD i []])[S.length] = t.states.getD i [] := by simp
    rw [hux] at hu2
    have et : (((S ++ [t.states.getD i []]).length : Nat) : Int) - 1 = ((S.length : Nat) : Int) := by rw [hsl]; omega
    have hia : iaddrV 1 ul (.int .i64 ((S.length : Nat) : Int)) = .some (.sc (.ptr (some (oB ul, S.length)))) := htb.iaddr (by omega) (by omega)
    have hone := hu2.one
    simp (maxSteps := 2000000) (disch := first | omega | assumption | exact idP rfl | exact idP (bL rfl)) only [go_sem, reduceIte, Nat.reduceEqDiff, wpV_kd, wpV_tH, e3, e4, e5, h56, hlenS, et, hia, hmu, hu1, m36, hx.len]
    refine loop_k (fun e' M' => M6 = M' ∧ ∃ k : Nat, k ≤ t.states.length ∧ e' 3 = .sc (.ptr (some (b3, 0))) ∧ e' 4 = .sc (.ptr (some (b4, 0))) ∧ e' 5 = .sc (.ptr (some (b5, 0))) ∧ e' 6 = u ∧ e' 7 = .sc (.int .i64 (lastB t.states (t.states.getD i []) k : Nat)) ∧ e' 31 = x ∧ e' 32 = .sc (.int .i64 t.states.length) ∧ e' 33 = .sc (.int .i64 k)) (fun e' _ => ctrV t.states.length (e' 33)) ?_ ?_
    · exact ⟨rfl, 0, by omega, sT0, sT0, sT0, sT0, by refine sS0 ?_; rfl, sT0, sT0, by refine sS0 ?_; rfl⟩
    · rintro e' _ ⟨rfl, k, hk, f3, f4, f5, f6, f7, f31, f32, f33⟩ K2 hK2
      refine sS8 @f3 @f4 @f5 @f6 @f7 @f31 @f32 @f33 ?_
      refine cond_dec (fun hc => ?_) (fun hc => ?_)
      · have hk' : k < t.states.length := by omega
        have gk : t.states.getD k [] = t.states[k] := by simp [List.getD, hk']
        refine sS9 @f3 @f4 @f5 @f6 @f7 @f31 @f32 @f33 @hx.iaddr ?_
        refine (d_EqualR (hx.elt hk') hu2 (hf.m _ (List.getElem_mem hk')) (by rw [gi]; exact hf.m _ (List.getElem_mem hi))).mono ?_
        rintro _ _ ⟨rfl, rfl⟩
        by_cases hq : t.states[k] = t.states.getD i []
        · have dq : decide (t.states[k] = t.states.getD i []) = true := decide_eq_true hq
          refine sS9 @f3 @f4 @f5 @f6 @f7 @f31 @f32 @f33 @dq ?_
          refine hK2 _ _ ⟨rfl, k + 1, by omega, sT0, sT0, sT0, sT0, ?_, sT0, sT0, by refine sS0 ?_; rfl⟩ (by refine sS2 @ctrV_int @f33 ?_; omega)
          refine sS0 ?_
          rw [lastB_succ, gk, if_pos hq]
        · have dq : decide (t.states[k] = t.states.getD i []) = false := decide_eq_false hq
          refine sS9 @f3 @f4 @f5 @f6 @f7 @f31 @f32 @f33 @dq ?_
          refine hK2 _ _ ⟨rfl, k + 1, by omega, sT0, sT0, sT0, sT0, ?_, sT0, sT0, by refine sS0 ?_; rfl⟩ (by refine sS2 @ctrV_int @f33 ?_; omega)
          refine sS0 ?_
          rw [lastB_succ, gk, if_neg hq]
      · obtain rfl : k = t.states.length := by omega
        generalize hll : lastB t.states (t.states.getD i []) t.states.length = l at *
        refine sS6 @f3 @f4 @f5 @f7 @m36 @hy.len ?_
        refine cond_dec (fun hc2 => ?_) (fun hc2 => ?_)
        · have hle : l = t.rules.length := by omega
          rw [if_neg (by omega), List.nil_append] at hR1
          subst hR1
          obtain ⟨rfl, rfl⟩ := hW2.inv.1 (by omega)
          rw [List.append_nil] at hRl
          obtain ⟨Mz, hz1, hz2, hz3, hz4⟩ := htb.own
          refine sS3 @f4 @f5 @h56 ?_
          refine (t_cloneRows hz2 (by omega)).mono ?_
          intro c1 M7 hc1
          have h57 := hc1.sub _ _ hz4
          have oc1 := hc1.one
          have oc11 := oc1.1
          have oc12 := oc1.2
          refine sS1 @h57 ?_
          refine (d_cloneInt (hz3.more hc1.sub) (by omega)).mono ?_
          rintro c2 M8 hc2'
          have oc2 := hc2'.rdI.one
          have oc21 := oc2.1
          have oc22 := oc2.2
          have q48 : M8 b4 = .some [V.sc (AV.sl none 0 0 true 0), V.sc (AV.sl none 0 0 true 0)] := hc2'.sub _ _ (hc1.sub _ _ (hz1 _ _ q4))
          refine sS5 @q48 @oc11 @oc12 @oc21 @oc22 ?_
          refine hR _ _ ?_
          have d := hc1.dn.agg2 hc2'
          refine (((d.setB (l := [c1, c2]) (hz1 _ _ q4) hkb4 (hMk.trans hz1)).base hMk0).mono fun v' ⟨x', y', h1, h2, h3⟩ => ⟨x', y', h1, ?_, ?_⟩)
          · rw [← hS]; exact h2
          · rw [← hRl]; exact h3
        · have hl' : l < t.rules.length := by omega
          have gl : t.rules.getD l 0 = t.rules[l] := by simp [List.getD, hl']
          rw [if_pos hl', gl] at hR1
          have hl2 : l + 1 < t.states.length := by omega
          simp (maxSteps := 2000000) (disch := first | omega | assumption | exact idP rfl | exact idP (bL rfl)) only [go_sem, reduceIte, Nat.reduceEqDiff, wpV_kd, wpV_tH, f3, f4, f5, f7, h56, m36, hy.iaddr, hy.at hl']
          intro bt hbt
          refine htb.addR hbt (by omega) (by omega) ?_
          intro s2 M9 h76 hos3 htb3
          have hos31 := hos3.1
          have hos32 := hos3.2
          have m39 := htb3.sub _ _ m3
          have h59 := htb3.at6
          refine sS6 @h76 @hos31 @hos32 @h59 @m39 @hx.iaddr ?_
          rw [show ((l : Int) + 1).toNat = l + 1 by omega]
          refine (d_cloneInt (.of (hx.elt hl2)) (hf.m _ (List.getElem_mem hl2))).mono ?_
          rintro w2 M10 hw2
          have how := hw2.rdI.one
          have how1 := how.1
          have how2 := how.2
          have h510 := hw2.sub _ _ h59
          refine sS3 @how1 @how2 @h510 ?_
          intro bt2 hbt2
          refine htb3.addS how1 hw2 hbt2 (by omega) (by omega) ?_
          intro s3 M11 h77 hos4 htb4
          have hos41 := hos4.1
          have hos42 := hos4.2
          refine sS3 @h77 @hos41 @hos42 ?_
          have gl1 : t.states.getD (l + 1) [] = t.states[l + 1] := by simp [List.getD, hl2]
          rw [← gl1] at htb4
          refine hK _ _ _ ?_ ⟨l + 1, _, S2, _, R2, _, _, rfl, hl2, sT0, sT0, sT0, htb4, hW2, ?_, ?_⟩
          · omega
          · rw [← hS, List.append_assoc]; rfl
          · rw [← hRl, hR1, List.append_assoc]
end Go.M2

namespace Go.M2
open Go.Proofs
variable {M : MH}
def KC : V → Prop
  | .fs (some _) n c _ k _ => k = 1 ∧ n ≤ c
  | _ => False
theorem d_toIntSS {v : V} {xs : List (List Int)} (hv : XII v xs) (hl : xs.length ≤ 1048576) (hx : ∀ ts ∈ xs, ts.length ≤ 1048576) : VCall Try.prog n_laws_toIntSS [v] M (fun r M' => One r ∧ Dn M M' r (fun u => LII u xs ∧ KC u)) := by
  refine VCall.plain fun R hR => v_laws_toIntSS rfl ?_
  have hlen := hv.len fun _ _ h => h.len
  refine sS1 @hlen ?_
  refine mks3 (by omega) (by simp [mostCells]; omega) (by simp [mostCells]; omega) ?_
  intro b3 hb3
  simp (maxSteps := 2000000) (disch := first | omega | assumption | exact idP rfl | exact idP (bL rfl)) only [go_sem, reduceIte, Nat.reduceEqDiff, wpV_kd, wpV_tH, zeros_nil]
  refine loop_k (fun e M' => ∃ (i : Nat) (us us' : List V) (fp : List (Nat × List V)), i ≤ xs.length ∧ e 0 = v ∧ e 3 = .sc (.sl (some (b3, 0)) xs.length xs.length true 1) ∧ e 4 = .sc (.int .i64 i) ∧ Tr us us' fp ∧ Mem M M' ((b3, us ++ List.replicate (xs.length - i) nil1) :: fp) ∧ flatL us ∧ (∀ q ∈ fp, flatL q.2) ∧ Cs isL us' (xs.take i)) (fun e _ => ctrV xs.length (e 4)) ?_ ?_
  · exact ⟨0, [], [], [], by omega, sT0, sT0, by refine sS0 ?_; rfl, .nil, by simpa using (Mem.nil (Sub.refl M)).new1 hb3, by simp [flatL], fun q hq => (by cases hq), .nil⟩
  · rintro e M1 ⟨i, us, us', fp, hi, e0, e3, e4, htr, hmem, hfl, hff, hc⟩ K hK
    have hul : us.length = i := by have := hc.1; have h2 := htr.len; simp at this; omega
    have hm := hmem.hd
    refine sS4 @e0 @e3 @e4 @hlen ?_
    refine cond_dec (fun h => ?_) (fun h => ?_)
    · have hi' : i < xs.length := by omega
      have hv' := hv.get (by omega)
      obtain ⟨q, hq⟩ : ∃ q, xs.length - i = q + 1 := ⟨xs.length - i - 1, by omega⟩
      rw [hq, List.replicate_succ] at hm hmem
      refine sS4 @e0 @e3 @e4 @hv'.iaddr ?_
      refine (d_toIntS (hv'.elt hi') (hx _ (List.getElem_mem hi'))).mono ?_
      rintro r M2 ⟨⟨hr1, hr2⟩, r', g, t1, t2, t3, t4, hr⟩
      have hmem2 := hmem.add t2
      rw [List.cons_append] at hmem2
      have hm2 := hmem2.hd
      have hsm : (us ++ nil1 :: List.replicate q nil1).set i r = us ++ r :: List.replicate q nil1 := set_mid hul
      have hnl3 : i < (us ++ nil1 :: List.replicate q nil1).length := by simp; omega
      refine sS6 @e0 @e3 @e4 @hm2 @hr2 @hsm ?_
      refine hK _ _ ⟨i + 1, us ++ [r], us' ++ [r'], fp ++ g, by omega, sT0, sT0, by refine sS0 ?_; rfl, htr.append t1, ?_, ?_, ?_, ?_⟩ (by refine sS2 @ctrV_int @e4 ?_; omega)
      · have := hmem2.upd (l' := us ++ r :: List.replicate q nil1)
        simpa [show xs.length - (i + 1) = q by omega] using this
      · exact flatL_all.2 fun w hw => by
          rcases List.mem_append.1 hw with h1 | h1
          · exact flatL_all.1 hfl w h1
          · rw [List.mem_singleton] at h1; subst h1; exact t3
      · intro w hw
        rcases List.mem_append.1 hw with h1 | h1
        · exact hff w h1
        · exact t4 w h1
      · rw [take_snoc hi']
        exact hc.snoc (x := xs[i]) hr
    · obtain rfl : i = xs.length := by omega
      rw [List.take_length] at hc
      refine sS1 @e3 ?_
      simp only [Nat.sub_self, List.replicate_zero, List.append_nil] at hmem
      have hul' : us'.length = xs.length := hc.1
      refine hR _ _ ⟨⟨rfl, rfl⟩, .fs (some (b3, 0)) xs.length xs.length true 1 (us'.drop 0), (b3, us) :: (fp ++ []), .sl htr .nil, by simpa using hmem, by simp [flat], fun q hq => ?_, ?_⟩
      · simp only [List.append_nil, List.mem_cons] at hq
        rcases hq with rfl | h1
        · exact hfl
        · exact hff q h1
      · exact ⟨Fr.lsC (us := us') (.inr ⟨_, _, _, _, _, by rw [List.drop_zero], by omega⟩) hc, rfl, Nat.le_refl _⟩
end Go.M2

namespace Go.M2
open Go.Proofs
variable {M : MH}
def isTrX (t : TrS) (v : V) : Prop := ∃ x y, v = .agg [x, y] ∧ XII x t.states ∧ XI y t.rules
structure TrLen (t : TrS) : Prop where
  l1 : LenOk t.states
  l2 : ∀ r ∈ t.states, LenOk r
  l3 : LenOk t.rules
theorem x_szTrace {v : V} {t : TrS} {k : Int} (hv : isTrX t v) (hl : TrLen t) (h1 : 0 ≤ k) (h2 : k ≤ 1048576) :
    VCall Try.prog n_laws_szTrace [v, .sc (.int .i64 k)] M (fun r M' => M = M' ∧ ∃ q : Int, r = .sc (.int .i64 q) ∧ q ≤ k ∧ (0 ≤ q → TrFit t)) := by
  refine VCall.pure fun R hR => v_laws_szTrace rfl ?_
  obtain ⟨a, b, rfl, ha, hb⟩ := hv
  (repeat' (first | ((with_reducible first | refine cond_dec (fun h => ?_) (fun h => ?_) | refine guardK_dec (fun h => ?_) (fun h => ?_) | refine guardD3_dec (fun h => ?_) (fun h => ?_)) <;> first | (exfalso; omega) | (simp (maxSteps := 2000000) (disch := first | omega | assumption | exact idP rfl | exact idP (bL rfl)) only [go_sem, reduceIte, Nat.reduceEqDiff, wpV_kd, wpV_tH, h]) | skip) | ((with_reducible first | refine cond_split (fun h => ?_) (fun h => ?_) | refine guardK_split (fun h => ?_) (fun h => ?_) | refine guardD3_split (fun h => ?_) (fun h => ?_)) <;> ((try simp only [Bool.not_eq_true', Bool.not_eq_false'] at h); first | (simp (maxSteps := 2000000) (disch := first | omega | assumption | exact idP rfl | exact idP (bL rfl)) only [go_sem, reduceIte, Nat.reduceEqDiff, wpV_kd, wpV_tH, h]) | skip)) | (with_reducible intro bk hbk; try have hnk := (fresh_set hbk).1) | (simp (maxSteps := 2000000) (disch := first | omega | assumption | exact idP rfl | exact idP (bL rfl)) only [go_sem, reduceIte, Nat.reduceEqDiff, wpV_kd, wpV_tH])))
  refine (x_szIntSS ha hl.l1 hl.l2 h1 h2).mono ?_
  rintro _ _ ⟨rfl, k1, rfl, p1, p2⟩
  (repeat' (first | ((with_reducible first | refine cond_dec (fun h => ?_) (fun h => ?_) | refine guardK_dec (fun h => ?_) (fun h => ?_) | refine guardD3_dec (fun h => ?_) (fun h => ?_)) <;> first | (exfalso; omega) | (simp (maxSteps := 2000000) (disch := first | omega | assumption | exact idP rfl | exact idP (bL rfl)) only [go_sem, reduceIte, Nat.reduceEqDiff, wpV_kd, wpV_tH, h]) | skip) | ((with_reducible first | refine cond_split (fun h => ?_) (fun h => ?_) | refine guardK_split (fun h => ?_) (fun h => ?_) | refine guardD3_split (fun h => ?_) (fun h => ?_)) <;> ((try simp only [Bool.not_eq_true', Bool.not_eq_false'] at h); first | (simp (maxSteps := 2000000) (disch := first | omega | assumption | exact idP rfl | exact idP (bL rfl)) only [go_sem, reduceIte, Nat.reduceEqDiff, wpV_kd, wpV_tH, h]) | skip)) | (with_reducible intro bk hbk; try have hnk := (fresh_set hbk).1) | (simp (maxSteps := 2000000) (disch := first | omega | assumption | exact idP rfl | exact idP (bL rfl)) only [go_sem, reduceIte, Nat.reduceEqDiff, wpV_kd, wpV_tH])))
  · exact hR _ _ (sB) ⟨_, rfl, by omega, by omega⟩
  · refine (x_szIntS hb hl.l3 (by omega) (by omega)).mono ?_
    rintro _ _ ⟨rfl, k2, rfl, q1, q2⟩
    (repeat' (first | ((with_reducible first | refine cond_dec (fun h => ?_) (fun h => ?_) | refine guardK_dec (fun h => ?_) (fun h => ?_) | refine guardD3_dec (fun h => ?_) (fun h => ?_)) <;> first | (exfalso; omega) | (simp (maxSteps := 2000000) (disch := first | omega | assumption | exact idP rfl | exact idP (bL rfl)) only [go_sem, reduceIte, Nat.reduceEqDiff, wpV_kd, wpV_tH, h]) | skip) | ((with_reducible first | refine cond_split (fun h => ?_) (fun h => ?_) | refine guardK_split (fun h => ?_) (fun h => ?_) | refine guardD3_split (fun h => ?_) (fun h => ?_)) <;> ((try simp only [Bool.not_eq_true', Bool.not_eq_false'] at h); first | (simp (maxSteps := 2000000) (disch := first | omega | assumption | exact idP rfl | exact idP (bL rfl)) only [go_sem, reduceIte, Nat.reduceEqDiff, wpV_kd, wpV_tH, h]) | skip)) | (with_reducible intro bk hbk; try have hnk := (fresh_set hbk).1) | (simp (maxSteps := 2000000) (disch := first | omega | assumption | exact idP rfl | exact idP (bL rfl)) only [go_sem, reduceIte, Nat.reduceEqDiff, wpV_kd, wpV_tH])))
    · exact hR _ _ (sB) ⟨_, rfl, by omega, by omega⟩
    · exact hR _ _ (sB) ⟨_, rfl, by omega, fun h => ⟨(p2 (by omega)).1, (p2 (by omega)).2, q2 h⟩⟩
theorem o_toTrace {v : V} {t : TrS} (hv : isTrX t v) (hf : TrFit t) : VCall Try.prog n_laws_toTrace [v] M (fun r M' => (∃ x y, r = .agg [x, y] ∧ One x ∧ One y) ∧ Dn M M' r (isTr t)) := by
  refine VCall.plain fun R hR => v_laws_toTrace rfl ?_
  obtain ⟨a, b, rfl, ha, hb⟩ := hv
  refine sS0 ?_
  intro b1 hb1
  try simp (maxSteps := 2000000) (disch := first | omega | assumption | exact idP rfl | exact idP (bL rfl)) only [go_sem, reduceIte, Nat.reduceEqDiff, wpV_kd, wpV_tH]
  intro b2 hb2
  try simp (maxSteps := 2000000) (disch := first | omega | assumption | exact idP rfl | exact idP (bL rfl)) only [go_sem, reduceIte, Nat.reduceEqDiff, wpV_kd, wpV_tH]
  intro b3 hb3
  have n21 := (fresh_set hb2).1
  have n32 := (fresh_set hb3).1
  have n31 := (fresh_set (fresh_set hb3).2).1
  have m0 := (((Mem.nil (Sub.refl M)).new1 hb1).new1 hb2).new1 (l := [.sc (.sl none 0 0 true 0), .sc (.sl none 0 0 true 0)]) hb3
  refine sS0 ?_
  refine (d_toIntSS ha hf.l hf.m).mono ?_
  rintro x M2 ⟨⟨hx1, hx2⟩, x', gx, tx, mx, fx, ffx, hx, -⟩
  have m1 := m0.add mx
  simp only [List.cons_append, List.nil_append] at m1
  have q1 := m1.hd
  have q2 := m1.tail.hd
  have q3 := m1.tail.tail.hd
  refine sS4 @q1 @q2 @q3 @hx2 ?_
  have m2 := m1.upd (l' := [x, .sc (.sl none 0 0 true 0)])
  refine (d_toIntS hb hf.r).mono ?_
  rintro y M3 ⟨⟨hy1, hy2⟩, y', gy, ty, my, fy, ffy, hy⟩
  have m3 := m2.add my
  simp only [List.cons_append, List.nil_append] at m3
  have q1 := m3.hd
  have q2 := m3.tail.hd
  have q3 := m3.tail.tail.hd
  refine sS4 @q1 @q2 @q3 @hy2 ?_
  have m6 := (m3.upd (l' := [x, y])).perm (List.Perm.swap ..)
  have m7 := m6.upd (l' := [x, y])
  refine hR _ _ ⟨⟨x, y, rfl, ⟨hx1, hx2⟩, ⟨hy1, hy2⟩⟩, .agg [x', y'], gx ++ gy, ?_, m7.tail.tail.tail, ?_, fun q hq => ?_, x', y', rfl, hx, hy⟩
  · have := Tr.agg (tx.append ty) Tr.nil
    simpa using this
  · simp only [flat, flatL]; exact ⟨fx, fy, trivial⟩
  · rcases List.mem_append.1 hq with h2 | h2
    · exact ffx q h2
    · exact ffy q h2
theorem f_toTrace {v : V} {t : TrS} (hv : isTrX t v) (hf : TrFit t) : VCall Try.prog n_laws_toTrace [v] M (fun r M' => M = M' ∧ isTr t r) :=
  VCall.frT ((o_toTrace hv hf).mono fun r M' h => h.2)
end Go.M2

namespace Go.M2
open Go.Proofs
variable {M : MH}
theorem law_WithoutRounds {v : V} {s : SysS} (hv : isSysX s v) (hl : SysLen s) {w1 : V} {t : TrS} (hw1 : isTrX t w1) (hx1 : TrLen t) :
    VCall Try.prog n_laws_FnExactWithoutRounds [v, w1] M (fun r M' => M = M' ∧ r = .sc (.bool true)) := by
  refine VCall.pure fun R hR => v_laws_FnExactWithoutRounds rfl ?_
  have hv0 := hv
  have hw10 := hw1
  obtain ⟨a, b, rfl, ha, hb⟩ := hv
  obtain ⟨pa, pb, rfl, hpa, hpb⟩ := hw1
  refine sS0 ?_
  intro bk hbk bj hbj
  have nj := (fresh_set hbj).1
  have hB0 : Sub M ((M.set bk [a, b]).set bj [pa, pb]) := sB
  have hBk : ((M.set bk [a, b]).set bj [pa, pb]) bk = .some [a, b] := by rw [set_ne (Ne.symm nj)]; exact set_same
  have hBj : ((M.set bk [a, b]).set bj [pa, pb]) bj = .some [pa, pb] := set_same
  generalize ((M.set bk [a, b]).set bj [pa, pb]) = MB at *
  refine sS2 @hBk @hBj ?_
  refine (x_szSystem hv0 hl (by omega) (by omega)).mono ?_
  rintro _ _ ⟨rfl, k, rfl, hk1, hk⟩
  (repeat' (first | ((with_reducible first | refine cond_dec (fun h => ?_) (fun h => ?_) | refine guardK_dec (fun h => ?_) (fun h => ?_) | refine guardD3_dec (fun h => ?_) (fun h => ?_)) <;> first | (exfalso; omega) | (simp (maxSteps := 2000000) (disch := first | omega | assumption | exact idP rfl | exact idP (bL rfl)) only [go_sem, reduceIte, Nat.reduceEqDiff, wpV_kd, wpV_tH, h, hBk, hBj]) | skip) | ((with_reducible first | refine cond_split (fun h => ?_) (fun h => ?_) | refine guardK_split (fun h => ?_) (fun h => ?_) | refine guardD3_split (fun h => ?_) (fun h => ?_)) <;> ((try simp only [Bool.not_eq_true', Bool.not_eq_false'] at h); first | (simp (maxSteps := 2000000) (disch := first | omega | assumption | exact idP rfl | exact idP (bL rfl)) only [go_sem, reduceIte, Nat.reduceEqDiff, wpV_kd, wpV_tH, h, hBk, hBj]) | skip)) | (with_reducible intro bk hbk; try have hnk := (fresh_set hbk).1) | (simp (maxSteps := 2000000) (disch := first | omega | assumption | exact idP rfl | exact idP (bL rfl)) only [go_sem, reduceIte, Nat.reduceEqDiff, wpV_kd, wpV_tH, hBk, hBj])))
  · exact hR _ _ hB0 rfl
  have hf := hk (by omega)
  refine (x_szTrace hw10 hx1 (by omega) (by omega)).mono ?_
  rintro _ _ ⟨rfl, kk1, rfl, hka1, hkb1⟩
  (repeat' (first | ((with_reducible first | refine cond_dec (fun h => ?_) (fun h => ?_) | refine guardK_dec (fun h => ?_) (fun h => ?_) | refine guardD3_dec (fun h => ?_) (fun h => ?_)) <;> first | (exfalso; omega) | (simp (maxSteps := 2000000) (disch := first | omega | assumption | exact idP rfl | exact idP (bL rfl)) only [go_sem, reduceIte, Nat.reduceEqDiff, wpV_kd, wpV_tH, h, hBk, hBj]) | skip) | ((with_reducible first | refine cond_split (fun h => ?_) (fun h => ?_) | refine guardK_split (fun h => ?_) (fun h => ?_) | refine guardD3_split (fun h => ?_) (fun h => ?_)) <;> ((try simp only [Bool.not_eq_true', Bool.not_eq_false'] at h); first | (simp (maxSteps := 2000000) (disch := first | omega | assumption | exact idP rfl | exact idP (bL rfl)) only [go_sem, reduceIte, Nat.reduceEqDiff, wpV_kd, wpV_tH, h, hBk, hBj]) | skip)) | (with_reducible intro bk hbk; try have hnk := (fresh_set hbk).1) | (simp (maxSteps := 2000000) (disch := first | omega | assumption | exact idP rfl | exact idP (bL rfl)) only [go_sem, reduceIte, Nat.reduceEqDiff, wpV_kd, wpV_tH, hBk, hBj])))
  · exact hR _ _ hB0 rfl
  have htf := hkb1 (by omega)
  have hzf := wrF_fit (s := s) htf
  generalize hz0 : wrF s t = z0 at *
  refine (f_toSystem hv0 hf).mono ?_
  rintro s1 _ ⟨rfl, hs1⟩
  refine sS2 @hBk @hBj ?_
  refine (f_toTrace hw10 htf).mono ?_
  rintro y1 _ ⟨rfl, hy1⟩
  refine sS2 @hBk @hBj ?_
  refine (VCall.frT (o_specWithoutRounds hs1 hy1 htf)).mono ?_
  rintro _ _ ⟨rfl, hwr0⟩
  rw [hz0] at hwr0
  have hwr := hwr0
  obtain ⟨wx, wy, rfl, hwx, hwy⟩ := hwr0
  have owx1 := hwx.one.1
  have owx2 := hwx.one.2
  have owy1 := hwy.one.1
  have owy2 := hwy.one.2
  refine sS4 @owx1 @owx2 @owy1 @owy2 ?_
  intro bw hbw
  have hWs : Sub MB (MB.set bw [wx, wy]) := (Sub.refl MB).set' hbw
  have hWw : (MB.set bw [wx, wy]) bw = .some [wx, wy] := set_same
  have hWk : (MB.set bw [wx, wy]) bk = .some [a, b] := hWs bk _ hBk
  have hWj : (MB.set bw [wx, wy]) bj = .some [pa, pb] := hWs bj _ hBj
  have hW0 : Sub M (MB.set bw [wx, wy]) := hB0.trans hWs
  generalize MB.set bw [wx, wy] = Mw at *
  refine sS2 @hWk @hWw ?_
  refine (o_toSystem hv0 hf).mono ?_
  rintro _ M1 ⟨x, y, x', y', fp, rfl, ⟨ox1, ox2⟩, ⟨oy1, oy2⟩, hos⟩
  refine sS4 @ox1 @ox2 @oy1 @oy2 ?_
  intro b7 hb7
  have hs7 : Sub M1 (M1.set b7 [x, y]) := (Sub.refl M1).set' hb7
  have hm71 : (M1.set b7 [x, y]) b7 = .some [x, y] := set_same
  have hos1 := hos.more hs7
  generalize M1.set b7 [x, y] = N0 at *
  have hmj0 : N0 bj = .some [pa, pb] := hos1.mem.sub bj _ hWj
  have hmk0 : N0 bk = .some [a, b] := hos1.mem.sub bk _ hWk
  refine sS1 @hmj0 ?_
  refine (o_toTrace hw10 htf).mono ?_
  rintro q1 N1 ⟨⟨tx, ty, rfl, ⟨otx1, otx2⟩, ⟨oty1, oty2⟩⟩, q1', fq1, tq1, mq1, flq1, ffq1, hq1⟩
  refine sS4 @otx1 @otx2 @oty1 @oty2 ?_
  intro b8 hb8
  have hs8 : Sub N1 (N1.set b8 [tx, ty]) := (Sub.refl _).set' hb8
  have hm8 : (N1.set b8 [tx, ty]) b8 = .some [tx, ty] := set_same
  have n8p : inF fp b8 = false := newF (hos1.mem.more mq1.sub).at_ hb8
  have n8q : inF fq1 b8 = false := newF mq1.at_ hb8
  have hsn1 : Sub N0 (N1.set b8 [tx, ty]) := mq1.sub.trans hs8
  have mq2 := mq1.more hs8
  generalize N1.set b8 [tx, ty] = N2 at *
  have hos3 := hos1.more hsn1
  have hm7 : N2 b7 = .some [x, y] := hsn1 b7 _ hm71
  have hmk1 : N2 bk = .some [a, b] := hsn1 bk _ hmk0
  have hmj1 : N2 bj = .some [pa, pb] := hsn1 bj _ hmj0
  have hall := hos1.mem.add mq2
  have htr := hos.arg.append tq1
  refine sS2 @hm7 @hm8 ?_
  refine (VCall.lendD htr hall.at_ hall.nd fun M' => o_impWithoutRounds hos.sys hf.sz hq1 htf).mono ?_
  rintro r4 M4 hd4
  rw [hz0] at hd4
  obtain ⟨g0', fg0, tg0, mg0, flg0, ffg0, hg0⟩ := hd4
  have hs4 := mg0.sub
  obtain ⟨gx, gy, rfl, ⟨ogx1, ogx2⟩, ⟨ogy1, ogy2⟩⟩ := tg0.traceOne flg0 hg0
  have n8g : inF fg0 b8 = false := oldF mg0.new hm8
  refine sS4 @ogx1 @ogx2 @ogy1 @ogy2 ?_
  intro b10 hb10
  have hs10 : Sub M4 (M4.set b10 [gx, gy]) := (Sub.refl _).set' hb10
  have h10 : (M4.set b10 [gx, gy]) b10 = .some [gx, gy] := set_same
  have hs4n := hs4.trans hs10
  have hos4 := hos3.more hs4n
  have n10p : inF fp b10 = false := newF (hos3.mem.more hs4).at_ hb10
  have n10q : inF fq1 b10 = false := newF (mq2.more hs4).at_ hb10
  have n10g : inF fg0 b10 = false := newF mg0.at_ hb10
  have mg1 := mg0.more hs10
  generalize M4.set b10 [gx, gy] = M4n at *
  have hmk4 : M4n bk = .some [a, b] := hs4n bk _ hmk1
  have hmj4 : M4n bj = .some [pa, pb] := hs4n bj _ hmj1
  have hmw4 : M4n bw = .some [wx, wy] := hos4.mem.sub bw _ hWw
  have hm74 : M4n b7 = .some [x, y] := hs4n b7 _ hm7
  have hm84 : M4n b8 = .some [tx, ty] := hs4n b8 _ hm8
  have hqb1 : ∀ p ∈ fq1, M4n p.1 = .some p.2 := (mq2.more hs4n).at_
  refine sS2 @h10 @hmw4 ?_
  refine (l_eqTrace tg0 hg0 mg1.at_ mg1.nd hwr hzf).mono ?_
  rintro _ _ ⟨rfl, rfl⟩
  refine sS2 @hmk4 @hm74 ?_
  refine (f_toSystem hv0 hf).mono ?_
  rintro s3 _ ⟨rfl, hs3⟩
  refine sS2 @hmk4 @hm74 ?_
  refine (l_eqSystem hos4 hs3 hf).mono ?_
  rintro _ _ ⟨rfl, rfl⟩
  refine sS2 @hmj4 @hm84 ?_
  refine (f_toTrace hw10 htf).mono ?_
  rintro z1a _ ⟨rfl, hz1b⟩
  refine sS2 @hmj4 @hm84 ?_
  refine (l_eqTrace tq1 hq1 hqb1 mq1.nd hz1b htf).mono ?_
  rintro _ _ ⟨rfl, rfl⟩
  refine sS1 @hm74 ?_
  refine (t_markSystem hos4 hf (by omega) (by omega)).mono ?_
  rintro _ M5 ⟨k5, rfl, k51, k52, sub5, keep5⟩
  have hp1 : ∀ p ∈ fq1, inF fp p.1 = false := fun p hp => sep2 hos1.mem.at_ hos1.mem.at_ mq1.new hp
  have hpg : ∀ p ∈ fg0, inF fp p.1 = false := fun p hp => sep2 hos3.mem.at_ hos3.mem.at_ mg0.new hp
  have hgq1 : ∀ p ∈ fg0, inF fq1 p.1 = false := fun p hp => sep2 mq2.at_ mq2.at_ mg0.new hp
  have hqc1 : ∀ p ∈ fq1, M5 p.1 = .some p.2 := fun p hp => keep5 _ _ (hqb1 p hp) (hp1 p hp)
  have hgc0 : ∀ p ∈ fg0, M5 p.1 = .some p.2 := fun p hp => keep5 _ _ (mg1.at_ p hp) (hpg p hp)
  have h105 : M5 b10 = .some [gx, gy] := keep5 _ _ h10 n10p
  have h85 : M5 b8 = .some [tx, ty] := keep5 _ _ hm84 n8p
  refine sS1 @h85 ?_
  have hct1 := cntT_le htf
  refine (t_markTrace tq1 flq1 ffq1 hq1 mq1.nd hqc1 htf (by omega) (by omega)).mono ?_
  rintro _ L1 ⟨rfl, _, keepL1⟩
  have old1 : ∀ q l, Mw q = .some l → inF fq1 q = false := fun q l hq => oldF mq1.new (hos1.mem.sub q l hq)
  have subL1 : Sub Mw L1 := fun q l hq => keepL1 q l (sub5 q l hq) (old1 q l hq)
  have hgd0 : ∀ p ∈ fg0, L1 p.1 = .some p.2 := fun p hp => keepL1 _ _ (hgc0 p hp) (hgq1 p hp)
  have h106 : L1 b10 = .some [gx, gy] := keepL1 _ _ h105 n10q
  have hmw6 : L1 bw = .some [wx, wy] := subL1 bw _ hWw
  have hk6 : ¬ k5 + (cntT t : Int) < 0 := by omega
  refine sS3 @hk6 @h106 @hmw6 ?_
  refine (l_eqTrace tg0 hg0 hgd0 mg1.nd hwr hzf).mono ?_
  rintro _ _ ⟨rfl, rfl⟩
  refine sS1 @h106 ?_
  have hct := cntT_le hzf
  refine (t_markTrace tg0 flg0 ffg0 hg0 mg1.nd hgd0 hzf (by omega) (by omega)).mono ?_
  rintro _ M7 ⟨rfl, hd7, keep7⟩
  have sub7 : Sub Mw M7 := fun q l hq => keep7 q l (subL1 q l hq) (oldF mg0.new (hos3.mem.sub q l hq))
  have h107 : M7 b10 = .some [gx, gy] := keep7 _ _ h106 n10g
  have hmk7 : M7 bk = .some [a, b] := sub7 bk _ hWk
  have hmj7 : M7 bj = .some [pa, pb] := sub7 bj _ hWj
  have hmw7 : M7 bw = .some [wx, wy] := sub7 bw _ hWw
  refine sS1 @h107 ?_
  refine (t_heldTrace hd7 hzf (by omega) (by omega)).mono ?_
  rintro _ _ ⟨rfl, rfl⟩
  have hneg : ¬ (1 : Int) + (cntT z0 : Int) < 0 := by omega
  refine sS3 @hneg @hmk7 @hmj7 ?_
  refine (f_toSystem hv0 hf).mono ?_
  rintro s4 _ ⟨rfl, hs4b⟩
  refine sS2 @hmk7 @hmj7 ?_
  refine (f_toTrace hw10 htf).mono ?_
  rintro u1 _ ⟨rfl, hu1⟩
  refine sS2 @hmk7 @hmj7 ?_
  refine (VCall.frT (o_impWithoutRounds hs4b hf.sz hu1 htf)).mono ?_
  rintro _ _ ⟨rfl, hh0⟩
  rw [hz0] at hh0
  have hh := hh0
  obtain ⟨hx0, hy0, rfl, hhx, hhy⟩ := hh0
  have ohx1 := hhx.one.1
  have ohx2 := hhx.one.2
  have ohy1 := hhy.one.1
  have ohy2 := hhy.one.2
  refine sS4 @ohx1 @ohx2 @ohy1 @ohy2 ?_
  intro b15 hb15
  have hs15 : Sub M7 (M7.set b15 [hx0, hy0]) := (Sub.refl _).set' hb15
  have h15 : (M7.set b15 [hx0, hy0]) b15 = .some [hx0, hy0] := set_same
  have h108 := hs15 _ _ h107
  have hmw8 := hs15 _ _ hmw7
  have hd8 := hd7.more hs15
  generalize M7.set b15 [hx0, hy0] = M8 at *
  refine sS2 @h15 @hmw8 ?_
  refine (x_eqTrace hh hwr hzf).mono ?_
  rintro _ _ ⟨rfl, rfl⟩
  refine sS1 @h108 ?_
  refine (t_heldTrace hd8 hzf (by omega) (by omega)).mono ?_
  rintro _ _ ⟨rfl, rfl⟩
  refine sS1 @hneg ?_
  exact hR _ _ ((hW0.trans sub7).trans hs15) rfl
end Go.M2

namespace Go.M2
open Go.Proofs
variable {H : Type} {enc : TypeId × Value → H} {W : World} {fuel : Nat} {x : DataW H × List MemPlace}
theorem up_trace {v : Value} (hv : ∃ a, v = .agg a) (h : DataW.trod enc Try.prog W 0 (fun _ => true) true fuel 29 v.cells.toList = .some x) : ∃ t : TrS, UpV W (fun (t : TrS) u => isTrX t u) t v ∧ TrLen t := by
  obtain ⟨cs, rfl⟩ := hv
  have c1 : Try.prog.cellsOf 26 = 1 := by kernel_rfl
  have c2 : Try.prog.cellsOf 27 = 1 := by kernel_rfl
  obtain ⟨xs, n, _, _, hl, hxl, hf⟩ := DataW.trod_struct Try.underlying29 h
  have hxl : xs.length = 2 := hxl
  have hl : cs.toList.length = 2 := hl.trans (by kernel_rfl)
  obtain ⟨a, b, hab⟩ : ∃ a b, cs.toList = [a, b] := by
    match hcs : cs.toList, hl with
    | [a, b], _ => exact ⟨a, b, rfl⟩
  have f0 := hf 0 ⟨ "States", 26, 0, false, "", "", 0⟩ rfl
  have f1 := hf 1 ⟨ "Rules", 27, 1, false, "", "", 24⟩ rfl
  rw [List.getElem?_eq_getElem (by omega)] at f0 f1
  simp only [Value.cells, hab, c1, c2, List.drop_zero, List.drop_succ_cons, List.take_succ_cons, List.take_zero] at f0 f1
  obtain ⟨n0, e0, g0⟩ := in_intss f0
  obtain ⟨n1, e1, g1⟩ := in_ints f1
  obtain ⟨u0, p0, q0, r0⟩ := e0.one
  obtain ⟨u1, p1, q1, r1⟩ := e1.one
  refine ⟨⟨n0, n1⟩, ⟨.agg [u0, u1], ?_, by simp only [okV, okL]; exact ⟨q0, q1, trivial⟩, u0, u1, rfl, r0, r1⟩, g0.1, g0.2, g1⟩
  simp [er, erl, avT, hab, p0, p1]
end Go.M2
