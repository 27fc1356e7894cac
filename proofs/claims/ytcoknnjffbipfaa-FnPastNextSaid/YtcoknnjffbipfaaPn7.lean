/- Lists of lists that are owned whole, and grow. -/
import Derived.Test.YtcoknnjffbipfaaPn6
set_option linter.unusedVariables false
set_option linter.unusedSimpArgs false
set_option maxRecDepth 10000
set_option maxHeartbeats 4000000
namespace Go.M2
open Go.Proofs
variable {M : MH}
theorem Gr.out {M0 Mb M Mr : MH} {v : V} {us : List V} {fp g : List (Nat × List V)} (h : Gr 1 Mb M v us) (hm : Mem M0 Mb fp) (k : Mem M Mr g) : ∃ Mb', Gr 1 Mb' Mr v us ∧ Mem M0 Mb' (fp ++ g) := by
  have key : Sub Mb (fun i => if blkV v = some i then none else Mr i) := fun i l hi => by
    have hne : blkV v ≠ some i := fun e => by rw [h.new i e] at hi; cases hi
    simp only [hne, if_false]; exact k.sub _ _ (h.sub _ _ hi)
  refine ⟨fun i => if blkV v = some i then none else Mr i, ⟨fun i l hi => ?_, fun b hb => by simp [hb], h.own.sub k.sub⟩, hm.add ⟨key, fun p hp => h.sub.none (k.new p hp), k.nd, fun p hp => ?_⟩⟩
  · have hi : (if blkV v = some i then none else Mr i) = some l := hi
    split at hi
    · cases hi
    · exact hi
  · have hne : blkV v ≠ some p.1 := fun e => by
      have h1 := k.new p hp
      rcases h.own with ⟨rfl, q, rfl⟩ | ⟨b', n, ex, rfl, h2, _⟩
      · simp [blkV] at e
      · simp [blkV] at e; subst e; rw [h1] at h2; cases h2
    simp only [hne, if_false]; exact k.at_ p hp
def RT (M0 M : MH) (v : V) (rows : List (List Int)) : Prop :=
  ∃ us us' fp Mb, Gr 1 Mb M v us ∧ Mem M0 Mb fp ∧ Tr us us' fp ∧ flatL us ∧ (∀ q ∈ fp, flatL q.2) ∧ us.all oneV = true ∧ Cs isL us' rows
section
variable {M0 M1 M2 : MH} {v u : V} {rows : List (List Int)} {ys : List Int}
theorem RT.sub (h : RT M0 M1 v rows) : Sub M0 M1 := by
  obtain ⟨us, us', fp, Mb, hg, hm, _⟩ := h
  exact hm.sub.trans hg.sub
theorem RT.nil {k : Nat} (h : Sub M0 M1) : RT M0 M1 (.sc (.sl none 0 0 true k)) [] := ⟨[], [], [], M1, .nil (Sub.refl _), .nil h, .nil, by simp [flatL], fun q hq => (by cases hq), rfl, .nil⟩
theorem RT.len (h : RT M0 M1 v rows) : lenF (er v) = some (.int .i64 (rows.length : Int)) := by
  obtain ⟨us, us', fp, Mb, hg, hm, ht, _, _, _, hc⟩ := h
  rw [hg.len1, ← hc.1, ht.len]
theorem RT.one (h : RT M0 M1 v rows) : One v := by
  obtain ⟨us, us', fp, Mb, hg, _⟩ := h
  exact hg.one
theorem RT.more (h : RT M0 M1 v rows) (hs : Sub M1 M2) : RT M0 M2 v rows := by
  obtain ⟨us, us', fp, Mb, hg, hm, h⟩ := h
  obtain ⟨Mb', g1, m1⟩ := hg.out hm (Mem.nil hs)
  rw [List.append_nil] at m1
  exact ⟨us, us', fp, Mb', g1, m1, h⟩
theorem RT.base {Mz : MH} (h : RT M0 M1 v rows) (hs : Sub Mz M0) : RT Mz M1 v rows := by
  obtain ⟨us, us', fp, Mb, hg, hm, h⟩ := h
  exact ⟨us, us', fp, Mb, hg, hm.base hs, h⟩
theorem RT.tree (h : RT M0 M1 v rows) : ∃ v' fp, Tr [v] [v'] fp ∧ Mem M0 M1 fp ∧ flat v ∧ (∀ q ∈ fp, flatL q.2) ∧ LII v' rows := by
  obtain ⟨us, us', fp, Mb, hg, hm, ht, hf, hff, _, hc⟩ := h
  rcases hg.own with ⟨rfl, k, rfl⟩ | ⟨b, n, ex, rfl, hb, hl⟩
  · cases ht
    have : rows = [] := List.eq_nil_of_length_eq_zero hc.1.symm
    subst this
    exact ⟨_, [], .refl _, .nil (hm.sub.trans hg.sub), by simp [flat], fun q hq => (by cases hq), .nil⟩
  · have hnew : Mb b = none := hg.new b rfl
    refine ⟨.fs (some (b, 0)) n n ex 1 (us'.drop 0), (b, us) :: (fp ++ []), .sl ht .nil, ?_, by simp [flat], fun q hq => ?_, ?_⟩
    · have k : Mem Mb M1 [(b, us)] := ⟨hg.sub, fun p hp => by simp at hp; subst hp; exact hnew, by simp [Nd2], fun p hp => by simp at hp; subst hp; exact hb⟩
      rw [List.append_nil]
      exact (hm.add k).perm List.perm_append_comm
    · simp only [List.append_nil, List.mem_cons] at hq
      rcases hq with rfl | h1
      · exact hf
      · exact hff q h1
    · have := ht.len
      exact Fr.lsC (us := us') (.inr ⟨_, _, _, _, _, by rw [List.drop_zero], by omega⟩) hc
theorem RT.dn (h : RT M0 M1 v rows) : Dn M0 M1 v (fun u => LII u rows) := h.tree
theorem RT.row (h : RT M0 M1 v rows) {i : Nat} (hi : i < rows.length) : ∃ (us : List V) (u u' : V) (g : List (Nat × List V)), (∀ {k : IntKind} {a : Int}, 0 ≤ a → a < (rows.length : Int) → iaddrV 1 v (.int k a) = some (.sc (.ptr (some (oB v, a.toNat))))) ∧ M1 (oB v) = some us ∧ us[i]? = some u ∧ One u ∧ Tr [u] [u'] g ∧ Nd2 g ∧ (∀ p ∈ g, M1 p.1 = some p.2) ∧ (∀ p ∈ g, M0 p.1 = none) ∧ LI u' rows[i] := by
  obtain ⟨us, us', fp, Mb, hg, hm, ht, hf, hff, ho, hc⟩ := h
  have hul : us.length = rows.length := by rw [← ht.len]; exact hc.1
  have hiu : i < us.length := by omega
  have hsp : us = us.take i ++ (us[i] :: us.drop (i + 1)) := by rw [← List.drop_eq_getElem_cons hiu, List.take_append_drop]
  rw [hsp] at ht
  obtain ⟨a', b', f1, f2, rfl, rfl, t1, t2⟩ := Tr.split (a := us.take i) (b := us[i] :: us.drop (i + 1)) (b' := []) ht
  obtain ⟨x', r', g1, g2, rfl, rfl, t3, t4⟩ := t2.uncons
  have hal : a'.length = i := by rw [t1.len, List.length_take]; omega
  have hmg : Mem M0 Mb g1 := hm.right.left
  have h4 := hc.2 i hi
  rw [List.getElem?_append_right (by omega), hal, Nat.sub_self] at h4
  obtain ⟨w, h5, h6⟩ := h4
  simp only [List.getElem?_cons_zero, Option.some.injEq] at h5
  subst h5
  have o1 := List.all_eq_true.1 ho _ (List.getElem_mem hiu)
  have fl := flatL_all.1 hf _ (List.getElem_mem hiu)
  refine ⟨us, us[i], x', g1, fun h0 h1 => hg.own.iaddr h0 (by rw [hul]; exact h1), hg.at (by omega), List.getElem?_eq_getElem hiu, ⟨o1, ?_⟩, t3, hmg.nd, fun p hp => hg.sub _ _ (hmg.at_ p hp), hmg.new, h6⟩
  rcases t3.inv1 with ⟨h1, h2⟩ | ⟨b, o, n, c, ex, k, cs, cs', g, h0, _⟩ | ⟨a, a', _, h0⟩ | ⟨a, a', _, h0⟩
  · simp only [List.cons.injEq, and_true] at h1
    rw [← h1]; exact h6.one.2
  · rw [h0]; rfl
  · rw [h0] at o1; exact absurd o1 (by simp [oneV, er, oneA])
  · rw [h0] at o1; exact absurd o1 (by simp [oneV, er, oneA])
theorem RT.snoc {s' : V} {M' : MH} {us us' : List V} {fp g : List (Nat × List V)} {u' : V} {Mb' : MH} (h1 : Gr 1 Mb' M' s' (us ++ [u])) (m1 : Mem M0 Mb' (fp ++ g)) (ht : Tr us us' fp) (htu : Tr [u] [u'] g) (hf : flatL us) (hfu : flat u) (hff : ∀ q ∈ fp, flatL q.2) (hfg : ∀ q ∈ g, flatL q.2)
    (ho : us.all oneV = true) (hou : oneV u = true) (hc : Cs isL us' rows) (hu : LI u' ys) : RT M0 M' s' (rows ++ [ys]) := by
  refine ⟨us ++ [u], us' ++ [u'], fp ++ g, Mb', h1, m1, ht.append htu, ?_, ?_, by simp [ho, hou], hc.snoc (x := ys) hu⟩
  · exact flatL_all.2 fun w hw => by
      rcases List.mem_append.1 hw with h2 | h2
      · exact flatL_all.1 hf w h2
      · rw [List.mem_singleton] at h2; subst h2; exact hfu
  · intro w hw
    rcases List.mem_append.1 hw with h2 | h2
    · exact hff w h2
    · exact hfg w h2
end
end Go.M2

namespace Go.M2
open Go.Proofs
variable {M : MH}
end Go.M2

namespace Go.M2
open Go.Proofs
variable {M : MH}
noncomputable def inS (s : SysS) (st : List Int) : Bool := sysB s && inB s.vars st
theorem t_impInRange {v w : V} {s : SysS} {st : List Int} (hv : isSys s v) (hz : SysSz s) (hw : LI w st) : VCall Try.prog n_impl_InRange [v, w] M (fun r M' => M = M' ∧ r = .sc (.bool (inS s st))) := by
  refine VCall.pure fun R hR => v_impl_InRange rfl ?_
  have hv0 := hv
  obtain ⟨a, b, rfl, ha, hb⟩ := hv
  (repeat' (first | ((with_reducible first | refine cond_dec (fun h => ?_) (fun h => ?_) | refine guardK_dec (fun h => ?_) (fun h => ?_) | refine guardD3_dec (fun h => ?_) (fun h => ?_)) <;> first | (exfalso; omega) | (simp (maxSteps := 2000000) (disch := first | omega | assumption | exact idP rfl | exact idP (bL rfl)) only [go_sem, reduceIte, Nat.reduceEqDiff, wpV_kd, wpV_tH, h]) | skip) | ((with_reducible first | refine cond_split (fun h => ?_) (fun h => ?_) | refine guardK_split (fun h => ?_) (fun h => ?_) | refine guardD3_split (fun h => ?_) (fun h => ?_)) <;> ((try simp only [Bool.not_eq_true', Bool.not_eq_false'] at h); first | (simp (maxSteps := 2000000) (disch := first | omega | assumption | exact idP rfl | exact idP (bL rfl)) only [go_sem, reduceIte, Nat.reduceEqDiff, wpV_kd, wpV_tH, h]) | skip)) | ((with_reducible refine (t_impSystemValid hv0 hz).mono ?_); rintro _ _ ⟨rfl, rfl⟩) | (with_reducible intro bk hbk; try have hnk := (fresh_set hbk).1) | (simp (maxSteps := 2000000) (disch := first | omega | assumption | exact idP rfl | exact idP (bL rfl)) only [go_sem, reduceIte, Nat.reduceEqDiff, wpV_kd, wpV_tH])))
  · have hs := (sysB_iff s).1 h
    (repeat' (first | ((with_reducible first | refine cond_dec (fun h => ?_) (fun h => ?_) | refine guardK_dec (fun h => ?_) (fun h => ?_) | refine guardD3_dec (fun h => ?_) (fun h => ?_)) <;> first | (exfalso; omega) | (simp (maxSteps := 2000000) (disch := first | omega | assumption | exact idP rfl | exact idP (bL rfl)) only [go_sem, reduceIte, Nat.reduceEqDiff, wpV_kd, wpV_tH, h]) | skip) | ((with_reducible first | refine cond_split (fun h => ?_) (fun h => ?_) | refine guardK_split (fun h => ?_) (fun h => ?_) | refine guardD3_split (fun h => ?_) (fun h => ?_)) <;> ((try simp only [Bool.not_eq_true', Bool.not_eq_false'] at h); first | (simp (maxSteps := 2000000) (disch := first | omega | assumption | exact idP rfl | exact idP (bL rfl)) only [go_sem, reduceIte, Nat.reduceEqDiff, wpV_kd, wpV_tH, h]) | skip)) | ((with_reducible refine (t_inRange ha hw hs.v5).mono ?_); rintro _ _ ⟨rfl, rfl⟩) | (with_reducible intro bk hbk; try have hnk := (fresh_set hbk).1) | (simp (maxSteps := 2000000) (disch := first | omega | assumption | exact idP rfl | exact idP (bL rfl)) only [go_sem, reduceIte, Nat.reduceEqDiff, wpV_kd, wpV_tH])))
    exact hR _ _ (sB) (by simp [inS, h])
  · exact hR _ _ (sB) (by simp [inS, h])
theorem inS_iff {s : SysS} {st : List Int} : inS s st = true ↔ SysOk s ∧ StIn s.vars st := by
  simp [inS, sysB_iff, inB_iff]
end Go.M2

namespace Go.M2
open Go.Proofs
variable {M : MH}
theorem Tr.one1 {u u' : V} {g : List (Nat × List V)} (h : Tr [u] [u'] g) (h' : One u') : One u := by
  obtain ⟨h1, h2⟩ := h'
  rcases h.inv1 with ⟨h3, _⟩ | ⟨b, o, n, c, ex, k, cs, cs', g, rfl, _⟩ | ⟨a, a', h3, _⟩ | ⟨a, a', h3, _⟩
  · simp only [List.cons.injEq, and_true] at h3
    rw [← h3]; exact ⟨h1, h2⟩
  · exact ⟨rfl, rfl⟩
  · simp only [List.cons.injEq, and_true] at h3
    rw [h3] at h1; exact absurd h1 (by simp [oneV, er, oneA])
  · simp only [List.cons.injEq, and_true] at h3
    rw [h3] at h1; exact absurd h1 (by simp [oneV, er, oneA])
def RdI (M : MH) (v : V) (xs : List Int) : Prop := ∃ v' g, Tr [v] [v'] g ∧ Nd2 g ∧ (∀ p ∈ g, M p.1 = some p.2) ∧ LI v' xs
theorem RdI.of {v : V} {xs : List Int} (h : LI v xs) : RdI M v xs := ⟨v, [], .refl _, List.nodup_nil, fun p hp => (by cases hp), h⟩
theorem RdI.more {M' : MH} {v : V} {xs : List Int} (h : RdI M v xs) (hs : Sub M M') : RdI M' v xs := by
  obtain ⟨v', g, h1, h2, h3, h4⟩ := h
  exact ⟨v', g, h1, h2, fun p hp => hs _ _ (h3 p hp), h4⟩
theorem RdI.one {v : V} {xs : List Int} (h : RdI M v xs) : One v := by
  obtain ⟨v', g, h1, h2, h3, h4⟩ := h
  exact h1.one1 h4.one
theorem Dn.rdI {M0 : MH} {v : V} {xs : List Int} (h : Dn M0 M v (fun u => LI u xs)) : RdI M v xs := by
  obtain ⟨v', g, h1, h2, h3, h4, h5⟩ := h
  exact ⟨v', g, h1, h2.nd, h2.at_, h5⟩
theorem RdI.len {v : V} {xs : List Int} (h : RdI M v xs) : lenF (er v) = some (.int .i64 (xs.length : Int)) := by
  obtain ⟨v', g, h1, h2, h3, h4⟩ := h
  have hl := h4.len
  rcases h1.inv1 with ⟨h5, _⟩ | ⟨b, o, n, c, ex, k, cs, cs', g, rfl, h5, _⟩ | ⟨a, a', h5, rfl⟩ | ⟨a, a', h5, rfl⟩
  · simp only [List.cons.injEq, and_true] at h5
    rw [← h5]; exact hl
  · simp only [List.cons.injEq, and_true] at h5
    rw [h5] at hl; exact hl
  · simp only [List.cons.injEq, and_true] at h5
    rw [h5] at hl; simp [er, lenF] at hl
  · simp only [List.cons.injEq, and_true] at h5
    rw [h5] at hl; simp [er, lenF] at hl
theorem RT.rdI {M0 M1 : MH} {v u : V} {us : List V} {rows : List (List Int)} (h : RT M0 M1 v rows) {i : Nat} (hi : i < rows.length) (hm : M1 (oB v) = some us) (hu : us[i]? = some u) : RdI M1 u rows[i] := by
  obtain ⟨us2, u2, u', g, _, h1, h2, _, h3, h4, h5, _, h6⟩ := h.row hi
  rw [hm] at h1; cases h1
  rw [hu] at h2; cases h2
  exact ⟨u', g, h3, h4, h5, h6⟩
theorem RT.cell {M0 M1 : MH} {v : V} {rows : List (List Int)} (h : RT M0 M1 v rows) (hl : 0 < rows.length) : ∃ us, M1 (oB v) = some us ∧ us.length = rows.length ∧ ∀ i (h : i < rows.length), ∃ u, us[i]? = some u ∧ RdI M1 u rows[i] := by
  have h0 := h
  obtain ⟨us, us', fp, Mb, hg, hm, ht, hf, hff, ho, hc⟩ := h0
  have hul : us.length = rows.length := by rw [← ht.len]; exact hc.1
  have hat : M1 (oB v) = some us := hg.at (by omega)
  exact ⟨us, hat, hul, fun i hi => ⟨us[i]'(by omega), List.getElem?_eq_getElem (by omega), h.rdI hi hat (List.getElem?_eq_getElem (by omega))⟩⟩
theorem RT.iaddr {M0 M1 : MH} {v : V} {rows : List (List Int)} (h : RT M0 M1 v rows) {k : IntKind} {a : Int} (h0 : 0 ≤ a) (h1 : a < (rows.length : Int)) : iaddrV 1 v (.int k a) = some (.sc (.ptr (some (oB v, a.toNat)))) := by
  obtain ⟨us, us', fp, Mb, hg, hm, ht, hf, hff, ho, hc⟩ := h
  have hul : us.length = rows.length := by rw [← ht.len]; exact hc.1
  exact hg.own.iaddr h0 (by rw [hul]; exact h1)
theorem putF_ne (l : List (List Int)) (x : List Int) : putF l x ≠ [] := by
  cases l with
  | nil => simp [putF]
  | cons y t => simp only [putF]; split; · simp
                split <;> simp
theorem nextGo_nil {vars : List VarS} {st : List Int} : ∀ {rs : List RuleS} {l : List (List Int)}, nextGo vars st rs l = [] ↔ l = [] ∧ ∀ r ∈ rs, useR vars r st = none
  | [], l => by simp [nextGo]
  | r :: t, l => by
    simp only [nextGo]
    rw [nextGo_nil]
    cases hu : useR vars r st with
    | none => simp [hu]
    | some x => simp [hu, putF_ne]
noncomputable def ableB (s : SysS) (st : List Int) (k : Nat) : Bool := match s.rules[k]? with
  | some r => (useR s.vars r st).isSome
  | none => false
theorem ableB_at {s : SysS} {st : List Int} {k : Nat} (h : k < s.rules.length) : ableB s st k = (useR s.vars s.rules[k] st).isSome := by simp [ableB, h]
theorem able_nil {s : SysS} {st : List Int} : selL s.rules.length (ableB s st) = [] ↔ nextF s st = [] := by
  unfold nextF
  rw [nextGo_nil]
  constructor
  · intro h
    refine ⟨rfl, fun r hr => ?_⟩
    obtain ⟨i, hi, rfl⟩ := List.getElem_of_mem hr
    cases hu : useR s.vars s.rules[i] st with
    | none => rfl
    | some x =>
      have : ((i : Nat) : Int) ∈ selL s.rules.length (ableB s st) := mem_selL.2 ⟨i, hi, by rw [ableB_at hi, hu]; rfl, rfl⟩
      rw [h] at this; cases this
  · rintro ⟨_, h⟩
    refine List.eq_nil_iff_forall_not_mem.2 fun x hx => ?_
    obtain ⟨i, hi, h1, rfl⟩ := mem_selL.1 hx
    rw [ableB_at hi, h _ (List.getElem_mem hi)] at h1
    cases h1
end Go.M2

namespace Go.M2
open Go.Proofs
variable {M : MH}
def FrStep (s : SysS) (p f : List Int) : Prop := SetOk (sizeF s.vars) f ∧ (∀ x ∈ p, x ∈ f) ∧ (∀ x ∈ nextN s p, x ∈ f)
def FrOk (s : SysS) (fs : List (List Int)) : Prop := SysOk s ∧ 1 ≤ fs.length ∧ fs.length ≤ 30 ∧ fs[0]? = some [firstN s] ∧ ∀ i (h : i + 1 < fs.length), FrStep s fs[i] fs[i + 1]
noncomputable def frB (s : SysS) (fs : List (List Int)) : Bool := @decide (FrOk s fs) (Classical.propDecidable _)
end Go.M2

namespace Go.M2
open Go.Proofs
variable {M : MH}
theorem t_usableIn {v w : V} {s : SysS} {st : List Int} (hv : isSys s v) (hs : SysOk s) (hw : LI w st) (hin : StIn s.vars st) :
    VCall Try.prog n_impl_usableIn [v, w] M (fun r M' => M = M' ∧ LI r (selL s.rules.length (ableB s st))) := by
  refine VCall.froz fun R hP hG => v_impl_usableIn rfl ?_
  have hv0 := hv
  obtain ⟨a, b, rfl, ha, hb⟩ := hv
  have h8 := hs.r8
  (repeat' (first | ((with_reducible first | refine cond_dec (fun h => ?_) (fun h => ?_) | refine guardK_dec (fun h => ?_) (fun h => ?_) | refine guardD3_dec (fun h => ?_) (fun h => ?_)) <;> first | (exfalso; omega) | (simp (maxSteps := 2000000) (disch := first | omega | assumption | exact idP rfl | exact idP (bL rfl)) only [go_sem, reduceIte, Nat.reduceEqDiff, wpV_kd, wpV_tH, h, hb.len]) | skip) | ((with_reducible first | refine cond_split (fun h => ?_) (fun h => ?_) | refine guardK_split (fun h => ?_) (fun h => ?_) | refine guardD3_split (fun h => ?_) (fun h => ?_)) <;> ((try simp only [Bool.not_eq_true', Bool.not_eq_false'] at h); first | (simp (maxSteps := 2000000) (disch := first | omega | assumption | exact idP rfl | exact idP (bL rfl)) only [go_sem, reduceIte, Nat.reduceEqDiff, wpV_kd, wpV_tH, h, hb.len]) | skip)) | (with_reducible intro bk hbk; try have hnk := (fresh_set hbk).1) | (simp (maxSteps := 2000000) (disch := first | omega | assumption | exact idP rfl | exact idP (bL rfl)) only [go_sem, reduceIte, Nat.reduceEqDiff, wpV_kd, wpV_tH, hb.len])))
  refine loop_k (fun e M' => ∃ i : Nat, i ≤ s.rules.length ∧ e 1 = w ∧ e 2 = .sc (.ptr (some (bk, 0))) ∧ e 11 = .sc (.int .i64 s.rules.length) ∧ e 12 = .sc (.int .i64 i) ∧ Gr 1 (M.set bk [a, b]) M' (e 5) ((selL i (ableB s st)).map vi)) (fun e _ => ctrV s.rules.length (e 12)) ?_ ?_
  · exact ⟨0, by omega, sT0, sT0, sT0, by refine sS0 ?_; rfl, by refine sS0 ?_; exact .nil (Sub.refl _)⟩
  · rintro e M1 ⟨i, hi, e1, e2, e11, e12, hg⟩ K hK
    have hm : M1 bk = some [a, b] := hg.sub _ _ set_same
    have hsl : (selL i (ableB s st)).length ≤ i := selL_len
    refine sS4 @e1 @e2 @e11 @e12 ?_
    refine cond_dec (fun h => ?_) (fun h => ?_)
    · have hi' : i < s.rules.length := by omega
      have hab := ableB_at (st := st) hi'
      refine sS4 @e1 @e2 @e12 @hm ?_
      refine (t_use hv0 hs hw hin hi').mono ?_
      rintro r _ ⟨rfl, hr⟩
      cases hu : useR s.vars s.rules[i] st with
      | none =>
        rw [hu] at hr hab
        simp only [uRes] at hr
        subst hr
        refine sS4 @e1 @e2 @e11 @e12 ?_
        refine hK _ _ ⟨i + 1, by omega, sT0, sT0, sT0, by refine sS0 ?_; rfl, ?_⟩ (by refine sS2 @ctrV_int @e12 ?_; omega)
        refine sS0 ?_
        rw [selL_succ, if_neg (by rw [hab]; simp)]; exact hg
      | some xs =>
        rw [hu] at hr hab
        obtain ⟨u, rfl, hu1⟩ := hr
        refine sS4 @e1 @e2 @e11 @e12 ?_
        intro bt hbt
        refine app_int hg hbt (by omega) (by omega) ?_
        intro s' M' hg' _
        refine sS0 ?_
        refine hK _ _ ⟨i + 1, by omega, sT0, sT0, sT0, by refine sS0 ?_; rfl, ?_⟩ (by refine sS2 @ctrV_int @e12 ?_; omega)
        refine sS0 ?_
        rw [selL_succ, if_pos (by rw [hab]; rfl)]; exact hg'
    · obtain rfl : i = s.rules.length := by omega
      refine sS0 ?_
      refine (VCall.give0 hg fun u M2 hu hs2 => (t_cloneInt hu.li (by omega)).mono fun r M' hr => hr.base hs2).mono ?_
      rintro r M2 hg2
      refine sS0 ?_
      exact hG _ _ 1 _ (hg2.base (sB)) fun u hu => hu.li
end Go.M2

namespace Go.M2
open Go.Proofs
variable {M : MH}
theorem t_wcInts {v w : V} {xs ys : List Int} (hv : LI v xs) (hw : LI w ys) (hl : xs.length ≤ 1048576) : VCall Try.prog n_laws_wcInts [v, w] M (fun r M' => M = M' ∧ r = .sc (.bool (decide (xs = ys)))) := by
  refine VCall.pure fun R hR => v_laws_wcInts rfl ?_
  refine sS2 @hv.len @hw.len ?_
  refine cond_dec (fun h => ?_) (fun h => ?_)
  · refine sS0 ?_
    refine hR _ _ (Sub.refl _) (by rw [decide_eq_false]; intro e; rw [e] at h; exact h rfl)
  · have hlen : xs.length = ys.length := by omega
    refine sS1 @hv.len ?_
    refine loop_k (fun e M' => M' = M ∧ ∃ i : Nat, i ≤ xs.length ∧ e 1 = w ∧ e 12 = v ∧ e 13 = .sc (.int .i64 xs.length) ∧ e 14 = .sc (.int .i64 (i : Int)) ∧ ∀ j (h1 : j < xs.length) (h2 : j < ys.length), j < i → xs[j] = ys[j]) (fun e _ => ctrV xs.length (e 14)) ?_ ?_
    · exact ⟨rfl, 0, by omega, sE0, sE0, sE0, sE0, fun j _ _ h => by omega⟩
    · rintro e _ ⟨rfl, i, hi, q1, q12, q13, q14, hj⟩ K hK
      refine sS4 @q1 @q12 @q13 @q14 ?_
      refine cond_dec (fun h2 => ?_) (fun h2 => ?_)
      · have hi' : i < xs.length := by omega
        have hi2 : i < ys.length := by omega
        simp (maxSteps := 2000000) (disch := first | omega | assumption | exact idP rfl | exact idP (bL rfl)) only [go_sem, reduceIte, Nat.reduceEqDiff, wpV_kd, wpV_tH, q1, q12, q13, q14, hv.iaddr, hv.at hi', hw.iaddr, hw.at hi2]
        refine cond_dec (fun h3 => ?_) (fun h3 => ?_)
        · refine sS0 ?_
          refine hR _ _ (Sub.refl _) (by rw [decide_eq_false]; intro e; subst e; exact h3 rfl)
        · refine sS4 @q1 @q12 @q13 @q14 ?_
          refine hK _ _ ⟨rfl, i + 1, by omega, sE0, sE0, sE0, sE0, fun j h4 h5 h6 => ?_⟩ (by refine sS2 @ctrV_int @q14 ?_; omega)
          by_cases e : j = i
          · subst e; omega
          · exact hj j h4 h5 (by omega)
      · refine sS0 ?_
        refine hR _ _ (Sub.refl _) (by rw [decide_eq_true]; exact List.ext_getElem hlen fun j h4 h5 => hj j h4 h5 (by omega))
theorem t_wcHas {v : V} {xs : List Int} {n : Int} (hv : LI v xs) (hl : xs.length ≤ 1048576) : VCall Try.prog n_laws_wcHas [v, .sc (.int .i64 n)] M (fun r M' => M = M' ∧ r = .sc (.bool (decide (n ∈ xs)))) := by
  refine VCall.pure fun R hR => v_laws_wcHas rfl ?_
  refine sS1 @hv.len ?_
  refine loop_k (fun e M' => M' = M ∧ ∃ i : Nat, i ≤ xs.length ∧ e 1 = .sc (.int .i64 n) ∧ e 7 = v ∧ e 8 = .sc (.int .i64 xs.length) ∧ e 9 = .sc (.int .i64 (i : Int)) ∧ ∀ j (h1 : j < xs.length), j < i → xs[j] ≠ n) (fun e _ => ctrV xs.length (e 9)) ?_ ?_
  · exact ⟨rfl, 0, by omega, sE0, sE0, sE0, sE0, fun j _ h => by omega⟩
  · rintro e _ ⟨rfl, i, hi, q1, q7, q8, q9, hj⟩ K hK
    refine sS4 @q1 @q7 @q8 @q9 ?_
    refine cond_dec (fun h2 => ?_) (fun h2 => ?_)
    · have hi' : i < xs.length := by omega
      simp (maxSteps := 2000000) (disch := first | omega | assumption | exact idP rfl | exact idP (bL rfl)) only [go_sem, reduceIte, Nat.reduceEqDiff, wpV_kd, wpV_tH, q1, q7, q8, q9, hv.iaddr, hv.at hi']
      refine cond_dec (fun h3 => ?_) (fun h3 => ?_)
      · refine sS0 ?_
        exact hR _ _ (Sub.refl _) (by rw [decide_eq_true]; rw [← h3]; exact List.getElem_mem hi')
      · refine sS4 @q1 @q7 @q8 @q9 ?_
        refine hK _ _ ⟨rfl, i + 1, by omega, sE0, sE0, sE0, sE0, fun j h4 h6 => ?_⟩ (by refine sS2 @ctrV_int @q9 ?_; omega)
        by_cases e : j = i
        · subst e; exact h3
        · exact hj j h4 (by omega)
    · refine sS0 ?_
      refine hR _ _ (Sub.refl _) (by rw [decide_eq_false]; intro hm; obtain ⟨j, h4, h5⟩ := List.getElem_of_mem hm; exact hj j h4 (by omega) h5)
theorem t_impSizeOf {v : V} {s : SysS} (hv : isSys s v) (hz : SysSz s) : VCall Try.prog n_impl_SizeOf [v] M (fun r M' => M = M' ∧ r = .sc (.int .i64 (sizeB s))) := by
  refine VCall.pure fun R hR => v_impl_SizeOf rfl ?_
  have hv0 := hv
  obtain ⟨a, b, rfl, ha, hb⟩ := hv
  (repeat' (first | ((with_reducible first | refine cond_dec (fun h => ?_) (fun h => ?_) | refine guardK_dec (fun h => ?_) (fun h => ?_) | refine guardD3_dec (fun h => ?_) (fun h => ?_)) <;> first | (exfalso; omega) | (simp (maxSteps := 2000000) (disch := first | omega | assumption | exact idP rfl | exact idP (bL rfl)) only [go_sem, reduceIte, Nat.reduceEqDiff, wpV_kd, wpV_tH, h]) | skip) | ((with_reducible first | refine cond_split (fun h => ?_) (fun h => ?_) | refine guardK_split (fun h => ?_) (fun h => ?_) | refine guardD3_split (fun h => ?_) (fun h => ?_)) <;> ((try simp only [Bool.not_eq_true', Bool.not_eq_false'] at h); first | (simp (maxSteps := 2000000) (disch := first | omega | assumption | exact idP rfl | exact idP (bL rfl)) only [go_sem, reduceIte, Nat.reduceEqDiff, wpV_kd, wpV_tH, h]) | skip)) | ((with_reducible refine (t_impSystemValid hv0 hz).mono ?_); rintro _ _ ⟨rfl, rfl⟩) | (with_reducible intro bk hbk; try have hnk := (fresh_set hbk).1) | (simp (maxSteps := 2000000) (disch := first | omega | assumption | exact idP rfl | exact idP (bL rfl)) only [go_sem, reduceIte, Nat.reduceEqDiff, wpV_kd, wpV_tH])))
  · exact hR _ _ (sB) (by simp [sizeB, h])
  · have hs := (sysB_iff s).1 h
    refine (t_impSize ha hs.vars hs.v5).mono ?_
    rintro _ _ ⟨rfl, rfl⟩
    refine sS0 ?_
    exact hR _ _ (sB) (by simp [sizeB, h])
end Go.M2

namespace Go.M2
open Go.Proofs
variable {M : MH}
inductive Bk (tab : List (List Int)) (st : Nat → Prop) : Nat → Prop
  | base {i : Nat} : st i → Bk tab st i
  | step {i : Nat} {x : Int} : x ∈ tab.getD i [] → Bk tab st x.toNat → Bk tab st i
def TabIn (tab : List (List Int)) : Prop := ∀ (i : Nat), ∀ x ∈ tab.getD i [], 0 ≤ x ∧ x < (tab.length : Int)
section
variable {tab tab' : List (List Int)} {st : Nat → Prop} {i : Nat}
theorem getD_lt {i : Nat} {x : Int} (h : x ∈ tab.getD i []) : i < tab.length := by
  rcases Nat.lt_or_ge i tab.length with h1 | h1
  · exact h1
  · simp [List.getD, List.getElem?_eq_none h1] at h
theorem Rch.trans {a b c : Nat} (h1 : Rch tab (fun i => i = a) b) (h2 : Rch tab (fun i => i = b) c) : Rch tab (fun i => i = a) c := by
  induction h2 with
  | base h => rw [h]; exact h1
  | step _ hx ih => exact .step ih hx
end
theorem tabF_TabIn {s : SysS} (hs : SysOk s) : TabIn (tabF s) := fun i x hx => by
  have h1 := getD_lt hx
  have e : (tabF s).getD i [] = (tabF s)[i] := by simp [List.getD, h1]
  rw [e] at hx
  exact (tabF_in hs _ (List.getElem_mem h1)).2 x hx
end Go.M2

namespace Go.M2
open Go.Proofs
variable {M : MH}
noncomputable def usF (s : SysS) (st : List Int) : List Int := selL s.rules.length (ableB s st)
noncomputable def stuckB (s : SysS) (st : List Int) : Bool := inS s st && decide ((usF s st).length = 0)
theorem t_impStuckIn {v w : V} {s : SysS} {st : List Int} (hv : isSys s v) (hz : SysSz s) (hw : LI w st) : VCall Try.prog n_impl_StuckIn [v, w] M (fun r M' => M = M' ∧ r = .sc (.bool (stuckB s st))) := by
  refine VCall.pure fun R hR => v_impl_StuckIn rfl ?_
  have hv0 := hv
  obtain ⟨a, b, rfl, ha, hb⟩ := hv
  refine sS0 ?_
  intro b2 hb2
  refine (t_impInRange hv0 hz hw).mono ?_
  rintro _ _ ⟨rfl, rfl⟩
  cases h : inS s st with
  | false =>
    refine sS1 @h ?_
    exact hR _ _ (sB) (by simp [stuckB, h])
  | true =>
    obtain ⟨hs, hin⟩ := inS_iff.1 h
    refine sS1 @h ?_
    refine (t_usableIn hv0 hs hw hin).mono ?_
    rintro r _ ⟨rfl, hr⟩
    refine sS1 @hr.len ?_
    exact hR _ _ (sB) (by unfold stuckB usF; rw [h, Bool.true_and]; congr 2; exact decide_eq_decide.2 (by omega))
theorem t_impStateAt {v : V} {s : SysS} {n : Int} (hv : isSys s v) (hz : SysSz s) : VCall Try.prog n_impl_StateAt [v, .sc (.int .i64 n)] M (fun r M' => M = M' ∧ LI r (if 0 ≤ n ∧ n < sizeB s then stGo s.vars n else [])) := by
  refine VCall.pure fun R hR => v_impl_StateAt rfl ?_
  have hv0 := hv
  obtain ⟨a, b, rfl, ha, hb⟩ := hv
  have hsz := sizeB_bd s
  refine sS0 ?_
  intro b2 hb2
  refine (t_impSizeOf hv0 hz).mono ?_
  rintro _ _ ⟨rfl, rfl⟩
  refine sS0 ?_
  refine t_in.mono ?_
  rintro _ _ ⟨rfl, rfl⟩
  refine sS0 ?_
  refine cond_split (fun h => ?_) (fun h => ?_)
  · refine sS0 ?_
    exact hR _ _ (sB) (by rw [if_neg (by simp at h; omega)]; exact .nil)
  · have hn : 0 ≤ n ∧ n ≤ sizeB s - 1 := by simpa using h
    have hs : SysOk s := by
      rw [← sysB_iff]
      cases hb : sysB s with
      | true => rfl
      | false => unfold sizeB at hn; rw [hb] at hn; simp at hn; omega
    refine sS0 ?_
    refine (f_stateAt hv0 hs hn.1 (by omega)).mono ?_
    rintro r _ ⟨rfl, hr⟩
    refine sS0 ?_
    exact hR _ _ (sB) (by rw [if_pos (by omega)]; exact hr)
end Go.M2

namespace Go.M2
open Go.Proofs
variable {M : MH}
theorem t_l4Pair {v : V} {xs : List Int} (hv : XU v xs) (hc : CapOk v) (hl : xs.length ≤ 1048576) :
    VCall Try.prog n_spec_l4Pair [v] M (fun r M' => M = M' ∧ ∃ sv xv s ys, r = .tup [sv, xv] ∧ isSys s sv ∧ SysDr s ∧ LI xv ys ∧ NN xv ys ∧ ys.length ≤ 1000) := by
  refine VCall.pure fun R hR => v_spec_l4Pair rfl ?_
  refine sS0 ?_
  intro b2 hb2
  refine (t_l40Open hv hc hl).mono ?_
  rintro _ M1 ⟨rb, w, code, rfl, hrb, rfl, hr⟩
  have hs0 : Sub M ((M.set b2 [nil1, nil1]).set rb (rdC w 0)) := ((Sub.refl M).set' hb2).set' hrb
  have hz2 := hb2
  have hzr : M rb = none := (fresh_set hrb).2
  have n2 : b2 ≠ rb := fun e => by rw [← e] at hrb; simp [MH.set] at hrb
  have h2 : ((M.set b2 [nil1, nil1]).set rb (rdC w 0)) b2 = some [nil1, nil1] := by rw [set_ne n2]; exact set_same
  have hm : ((M.set b2 [nil1, nil1]).set rb (rdC w 0)) rb = some (rdC w 0) := set_same
  change contK _ _ _ _ _ _ _ ((M.set b2 [nil1, nil1]).set rb (rdC w 0))
  generalize hM1 : (M.set b2 [nil1, nil1]).set rb (rdC w 0) = M1 at *
  refine sS0 ?_
  refine (f_l2Any hr hm (by omega) (by omega) (by omega)).mono ?_
  rintro sv M2 ⟨p2, s, e2, d1, d2, hs, hd⟩
  obtain ⟨a, b, rfl, o1, o2⟩ := hs.two
  have h22 : M2 b2 = some [nil1, nil1] := by rw [e2, set_ne n2]; exact h2
  have hm2 : M2 rb = some (rdC w p2) := by rw [e2]; exact set_same
  have hs2 : Sub M M2 := by rw [e2]; exact hs0.set hzr
  refine sS3 @h22 @o1 @o2 ?_
  intro b6 hb6
  have n6 : b6 ≠ rb := fun e => by subst e; rw [hm2] at hb6; cases hb6
  have n26 : b2 ≠ b6 := fun e => by subst e; rw [h22] at hb6; cases hb6
  have h6 : (M2.set b6 [a, b]) b6 = some [a, b] := set_same
  have hm3 : (M2.set b6 [a, b]) rb = some (rdC w p2) := by rw [set_ne (Ne.symm n6)]; exact hm2
  have h23 : (M2.set b6 [a, b]) b2 = some [nil1, nil1] := by rw [set_ne n26]; exact h22
  have hs3 : Sub M (M2.set b6 [a, b]) := hs2.set' hb6
  generalize M2.set b6 [a, b] = M3 at *
  refine (t_l4Some hr hm3 (by omega) (by omega) hs).mono ?_
  rintro xv M4 ⟨p4, ys, e4, d3, d4, hx, hnn, hyl⟩
  have h64 : M4 b6 = some [a, b] := by rw [e4, set_ne n6]; exact h6
  have h24 : M4 b2 = some [nil1, nil1] := by rw [e4, set_ne n2]; exact h23
  have hs4 : Sub M M4 := by rw [e4]; exact hs3.set hzr
  refine sS4 @h64 @h24 @o1 @o2 ?_
  exact hR _ _ (hs4.set hz2) ⟨_, _, s, ys, rfl, hs, hd, hx, hnn, hyl⟩
theorem t_DrawNextNumbers {v : V} {xs : List Int} (hv : XU v xs) (hc : CapOk v) (hl : xs.length ≤ 1048576) :
    VCall Try.prog n_spec_DrawNextNumbers [v] M (fun r M' => M = M' ∧ ∃ sv xv s ys, r = .tup [sv, xv] ∧ isSys s sv ∧ SysDr s ∧ LI xv ys ∧ NN xv ys ∧ ys.length ≤ 1000) := by
  refine VCall.pure fun R hR => v_spec_DrawNextNumbers rfl ?_
  refine sS0 ?_
  intro b2 hb2
  refine (t_l4Pair hv hc hl).mono ?_
  rintro _ _ ⟨rfl, sv, xv, s, ys, rfl, hs, hd, hx, hnn, hyl⟩
  obtain ⟨a, b, rfl, o1, o2⟩ := hs.two
  refine sS2 @o1 @o2 ?_
  exact hR _ _ (sB) ⟨_, _, s, ys, rfl, hs, hd, hx, hnn, hyl⟩
theorem setV_next {s : SysS} {xs : List Int} : setV s (nextN s xs) = sysB s := by
  cases h : sysB s with
  | false => unfold setV; rw [h]; rfl
  | true =>
    have hs := (sysB_iff s).1 h
    refine setV_iff.2 ⟨hs, ?_⟩
    unfold nextN
    split
    · have htl := tabF_len s
      have := hs.sz
      exact (selL_ok _).mono (by omega)
    · exact fun i hi => by simp at hi
theorem past_next {s : SysS} {xs : List Int} {x : Int} (h : setV s xs = true) (hx : x ∈ xs) : (decide (x ∈ pastN s (nextN s xs)) || stuckB s (if 0 ≤ x ∧ x < sizeB s then stGo s.vars x else [])) = true := by
  obtain ⟨hs, hset⟩ := setV_iff.1 h
  have hb := (sysB_iff s).2 hs
  have hxi := hset.in x hx
  have hsz := hs.sz
  have htl := tabF_len s
  have esz : sizeB s = sizeF s.vars := by unfold sizeB; rw [if_pos hb]
  rw [if_pos (by omega), Bool.or_eq_true, decide_eq_true_eq]
  have hxn : x.toNat < (tabF s).length := by omega
  cases hr : (tabF s).getD x.toNat [] with
  | nil =>
    right
    have hin := stGo_in (n := x) hs.vars
    unfold stuckB usF
    rw [inS_iff.2 ⟨hs, hin⟩, Bool.true_and, decide_eq_true_eq, List.length_eq_zero_iff, able_nil]
    have e : (tabF s).getD x.toNat [] = rowF s x.toNat := by simp [List.getD, tabF, show x.toNat < (sizeF s.vars).toNat by omega]
    rw [e] at hr
    unfold rowF at hr
    rw [List.map_eq_nil_iff, Int.toNat_of_nonneg hxi.1] at hr
    exact hr
  | cons y t =>
    left
    have hy : y ∈ (tabF s).getD x.toNat [] := by rw [hr]; exact List.mem_cons_self ..
    have hyi := tabF_TabIn hs _ _ hy
    have hyn : y ∈ nextN s xs := (mem_nextN hs hset).2 ⟨x, hx, hy⟩
    unfold pastN
    rw [if_pos (by rw [setV_next]; exact hb), mem_selL]
    refine ⟨x.toNat, hxn, ?_, by omega⟩
    unfold aheadB
    rw [List.any_eq_true]
    exact ⟨y, hy, by unfold inL; rw [Int.toNat_of_nonneg hyi.1]; exact decide_eq_true hyn⟩
theorem law_PastNext {v : V} {xs : List Int} (hv : XU v xs) (hx : LenOk xs) (hc : CapOk v) :
    VCall Try.prog n_laws_FnPastNext [v] M (fun r M' => M = M' ∧ r = .sc (.bool true)) := by
  refine VCall.pure fun R hR => v_laws_FnPastNext rfl ?_
  unfold LenOk at hx
  have hlen := hv.len fun _ _ h => h.len
  (repeat' (first | ((with_reducible first | refine cond_dec (fun h => ?_) (fun h => ?_) | refine guardK_dec (fun h => ?_) (fun h => ?_) | refine guardD3_dec (fun h => ?_) (fun h => ?_)) <;> first | (exfalso; omega) | (simp (maxSteps := 2000000) (disch := first | omega | assumption | exact idP rfl | exact idP (bL rfl)) only [go_sem, reduceIte, Nat.reduceEqDiff, wpV_kd, wpV_tH, h, hlen]) | skip) | ((with_reducible first | refine cond_split (fun h => ?_) (fun h => ?_) | refine guardK_split (fun h => ?_) (fun h => ?_) | refine guardD3_split (fun h => ?_) (fun h => ?_)) <;> ((try simp only [Bool.not_eq_true', Bool.not_eq_false'] at h); first | (simp (maxSteps := 2000000) (disch := first | omega | assumption | exact idP rfl | exact idP (bL rfl)) only [go_sem, reduceIte, Nat.reduceEqDiff, wpV_kd, wpV_tH, h, hlen]) | skip)) | (with_reducible intro bk hbk; try have hnk := (fresh_set hbk).1) | (simp (maxSteps := 2000000) (disch := first | omega | assumption | exact idP rfl | exact idP (bL rfl)) only [go_sem, reduceIte, Nat.reduceEqDiff, wpV_kd, wpV_tH, hlen])))
  · exact hR _ _ (sB) rfl
  · refine (t_DrawNextNumbers hv hc (by omega)).mono ?_
    rintro _ _ ⟨rfl, sv, xv, s, ys, rfl, hs, hd, hx, hnn, hyl⟩
    have hs0 := hs
    obtain ⟨a, b, rfl, o1, o2⟩ := hs.two
    refine sS2 @o1 @o2 ?_
    intro b3 hb3
    have hyl' : ys.length ≤ 1048576 := by omega
    have h3 : (M.set b3 [a, b]) b3 = some [a, b] := set_same
    have hsub : Sub M (M.set b3 [a, b]) := (Sub.refl M).set' hb3
    have hnl := nextN_len (s := s) (xs := ys)
    have hpl := pastN_len (s := s) (xs := nextN s ys)
    refine (VCall.frT (o_impNextNumbers hs0 hd.sz hx hyl')).mono ?_
    rintro r1 _ ⟨rfl, hr1⟩
    refine sS0 ?_
    refine (t_NextNumbers hs0 hx hyl').mono ?_
    rintro q1 _ ⟨rfl, hq1⟩
    refine sS0 ?_
    refine (t_wcInts hr1 hq1 (by omega)).mono ?_
    rintro _ _ ⟨rfl, rfl⟩
    have e1 : decide (nextN s ys = nextN s ys) = true := by simp
    refine sS1 @e1 ?_
    refine (t_impSetValid hs0 hd.sz hx hyl').mono ?_
    rintro _ _ ⟨rfl, rfl⟩
    refine sS0 ?_
    refine (t_specSetValid hs0 hx hyl').mono ?_
    rintro _ _ ⟨rfl, rfl⟩
    simp (maxSteps := 2000000) (disch := first | omega | assumption | exact idP rfl | exact idP (bL rfl)) only [go_sem, reduceIte, Nat.reduceEqDiff, wpV_kd, wpV_tH, beq_self_eq_true, Bool.not_true, h3, o1, o2]
    refine (VCall.frT (o_impPastNumbers hs0 hd.sz hr1 (by omega))).mono ?_
    rintro r2 _ ⟨rfl, hr2⟩
    generalize M.set b3 [a, b] = M1 at *
    refine sS1 @hx.len ?_
    refine loop_k (fun e M' => M' = M1 ∧ ∃ i : Nat, i ≤ ys.length ∧ e 3 = .sc (.ptr (some (b3, 0))) ∧ e 4 = xv ∧ e 5 = r1 ∧ e 6 = r2 ∧ e 38 = xv ∧ e 39 = .sc (.int .i64 ys.length) ∧ e 40 = .sc (.int .i64 (i : Int))) (fun e _ => ctrV ys.length (e 40)) ?_ ?_
    · exact ⟨rfl, 0, by omega, sE0, sE0, sE0, sE0, sE0, sE0, sE0⟩
    · rintro e M2 ⟨rfl, i, hi, q3, q4, q5, q6, q38, q39, q40⟩ K hK
      refine sS7 @q3 @q4 @q5 @q6 @q38 @q39 @q40 ?_
      refine cond_dec (fun h => ?_) (fun h => ?_)
      · have hi' : i < ys.length := by omega
        obtain ⟨y, hy⟩ : ∃ y, ys[i] = y := ⟨_, rfl⟩
        have hym : y ∈ ys := by rw [← hy]; exact List.getElem_mem hi'
        have ha := hx.at hi'
        rw [hy] at ha
        simp (maxSteps := 2000000) (disch := first | omega | assumption | exact idP rfl | exact idP (bL rfl)) only [go_sem, reduceIte, Nat.reduceEqDiff, wpV_kd, wpV_tH, q3, q4, q5, q6, q38, q39, q40, hx.iaddr, ha, h3, o1, o2]
        refine (t_specSetValid hs0 hx hyl').mono ?_
        rintro _ _ ⟨rfl, rfl⟩
        cases hsv : setV s ys with
        | false =>
          refine sS8 @hsv @q3 @q4 @q5 @q6 @q38 @q39 @q40 ?_
          exact hK _ _ ⟨rfl, i + 1, by omega, sE0, sE0, sE0, sE0, sE0, sE0, sE0⟩ (by refine sS2 @ctrV_int @q40 ?_; omega)
        | true =>
          have hpn := past_next hsv hym
          refine sS1 @hsv ?_
          refine (t_wcHas hr2 (by omega)).mono ?_
          rintro _ _ ⟨rfl, rfl⟩
          cases hpb : decide (y ∈ pastN s (nextN s ys)) with
          | true =>
            refine sS8 @hpb @q3 @q4 @q5 @q6 @q38 @q39 @q40 ?_
            exact hK _ _ ⟨rfl, i + 1, by omega, sE0, sE0, sE0, sE0, sE0, sE0, sE0⟩ (by refine sS2 @ctrV_int @q40 ?_; omega)
          | false =>
            rw [hpb, Bool.false_or] at hpn
            simp (maxSteps := 2000000) (disch := first | omega | assumption | exact idP rfl | exact idP (bL rfl)) only [go_sem, reduceIte, Nat.reduceEqDiff, wpV_kd, wpV_tH, hpb, h3, o1, o2, q3, q4, q5, q6, q38, q39, q40]
            refine (t_impStateAt hs0 hd.sz).mono ?_
            rintro st _ ⟨rfl, hst⟩
            refine sS3 @h3 @o1 @o2 ?_
            refine (t_impStuckIn hs0 hd.sz hst).mono ?_
            rintro _ _ ⟨rfl, rfl⟩
            refine sS8 @hpn @q3 @q4 @q5 @q6 @q38 @q39 @q40 ?_
            exact hK _ _ ⟨rfl, i + 1, by omega, sE0, sE0, sE0, sE0, sE0, sE0, sE0⟩ (by refine sS2 @ctrV_int @q40 ?_; omega)
      · obtain rfl : i = ys.length := by omega
        refine sS5 @q3 @q5 @h3 @o1 @o2 ?_
        refine (t_impSetValid hs0 hd.sz hr1 (by omega)).mono ?_
        rintro _ _ ⟨rfl, rfl⟩
        refine sS3 @h3 @o1 @o2 ?_
        refine (t_impSizeOf hs0 hd.sz).mono ?_
        rintro _ _ ⟨rfl, rfl⟩
        have e3 : decide (0 < sizeB s) = sysB s := by
          unfold sizeB
          cases hb : sysB s with
          | false => rfl
          | true => have := ((sysB_iff s).1 hb).sz; simp; omega
        rw [setV_next]
        simp (maxSteps := 2000000) (disch := first | omega | assumption | exact idP rfl | exact idP (bL rfl)) only [go_sem, reduceIte, Nat.reduceEqDiff, wpV_kd, wpV_tH, e3, beq_self_eq_true]
        exact hR _ _ hsub rfl
end Go.M2

namespace Go.M2
open Go.Proofs
open Go.ChangeShapes Go.WideShapes Go.ChangeAt Go.RowKit
variable {HH : Type} {enc : TypeId × Value → HH} {P : Program} {W : World} {t e : TypeId} {fuel : Nat} {cs : List Value} {x : DataW HH × List MemPlace}
theorem in_u8 (ht : P.underlying t = some (.int .u8)) (h : DataW.trod enc P W 0 (fun _ => true) true fuel t cs = some x) : ∃ n, LiftE W (E1 isU) n cs ∧ True := by
  obtain ⟨n, rfl, _, h3⟩ := DataW.trod_int ht h
  have h4 : IntKind.u8.min ≤ n ∧ n ≤ IntKind.u8.max := by simpa [Lit.wf] using h3
  have e1 : IntKind.u8.min = 0 := by decide
  have e2 : IntKind.u8.max = 255 := by decide
  exact ⟨n, ⟨[.sc (.int .u8 n)], rfl, by simp [okL, okV], _, rfl, rfl, by omega, by omega⟩, trivial⟩
theorem avC_cap {N : Nat} {u : V} {v : Value} (h : er u = avC N v) : CapOk u := by
  cases u <;> try trivial
  rename_i A n c ex k l
  simp only [er] at h
  unfold avC at h
  show n ≤ c
  split at h <;> try cases h
  · split at h
    · rename_i h1
      cases h
      exact h1.2.2
    · split at h <;> cases h
  · exact Nat.le_refl _
theorem up_bytes (ht : P.underlying t = some (.slice e)) (he : P.underlying e = some (.int .u8)) (hsz : P.cellsOf e = 1) {v : Value} (hv : ∀ a, v ≠ .agg a) (h : DataW.trod enc P W 0 (fun _ => true) true fuel t v.cells.toList = some x) :
    ∃ ns : List Int, (∃ u, er u = avT W.heap.size v ∧ okV (heap0 W) u ∧ XU u ns ∧ CapOk u) ∧ ns.length ≤ 9223372036854775807 := by
  obtain ⟨ns, e, g, _⟩ := in_list1 (E := isU) (good := fun _ => True) ht hsz (fun n cs x h => in_u8 he h) h
  have hc : v.cells.toList = [v] := by
    cases v <;> first | rfl | exact absurd rfl (hv _)
  rw [hc] at e
  obtain ⟨u, p, q, r⟩ := e.one
  refine ⟨ns, ⟨u, ?_, q, r, avC_cap p⟩, g⟩
  rw [p]
  unfold avT
  split
  · rename_i a; exact absurd rfl (hv a)
  · rfl
end Go.M2
