/- Lists of lists that are owned whole, and grow. -/
import Derived.Test.YtopdgbopmjcdbaaRa4
set_option linter.unusedVariables false
set_option linter.unusedSimpArgs false
set_option maxRecDepth 10000
set_option maxHeartbeats 4000000
namespace Go.M2
open Go.Proofs
variable {M : MH}
theorem Gr.out {M0 Mb M Mr : MH} {v : V} {us : List V} {fp g : List (Nat × List V)} (h : Gr 1 Mb M v us) (hm : Mem M0 Mb fp) (k : Mem M Mr g) : ∃ Mb', Gr 1 Mb' Mr v us ∧ Mem M0 Mb' (fp ++ g) := by
  have key : Sub Mb (fun i => if blkV v = some i then none else Mr i) := fun i l hi => by
    have hne : blkV v ≠ some i := fun e => by rw [h.new i e] at hi; cases hi
    simp only [hne, if_false]; exact k.sub _ _ (h.sub _ _ hi)
  refine ⟨fun i => if blkV v = some i then none else Mr i, ⟨fun i l hi => ?_, fun b hb => by simp [hb], h.own.sub k.sub⟩, hm.add ⟨key, fun p hp => h.sub.none (k.new p hp), k.nd, fun p hp => ?_⟩⟩
  · have hi : (if blkV v = some i then none else Mr i) = some l := hi
    split at hi
    · cases hi
    · exact hi
  · have hne : blkV v ≠ some p.1 := fun e => by
      have h1 := k.new p hp
      rcases h.own with ⟨rfl, q, rfl⟩ | ⟨b', n, ex, rfl, h2, _⟩
      · simp [blkV] at e
      · simp [blkV] at e; subst e; rw [h1] at h2; cases h2
    simp only [hne, if_false]; exact k.at_ p hp
def RT (M0 M : MH) (v : V) (rows : List (List Int)) : Prop :=
  ∃ us us' fp Mb, Gr 1 Mb M v us ∧ Mem M0 Mb fp ∧ Tr us us' fp ∧ flatL us ∧ (∀ q ∈ fp, flatL q.2) ∧ us.all oneV = true ∧ Cs isL us' rows
section
variable {M0 M1 M2 : MH} {v u : V} {rows : List (List Int)} {ys : List Int}
theorem RT.sub (h : RT M0 M1 v rows) : Sub M0 M1 := by
  obtain ⟨us, us', fp, Mb, hg, hm, _⟩ := h
  exact hm.sub.trans hg.sub
theorem RT.nil {k : Nat} (h : Sub M0 M1) : RT M0 M1 (.sc (.sl none 0 0 true k)) [] := ⟨[], [], [], M1, .nil (Sub.refl _), .nil h, .nil, by simp [flatL], fun q hq => (by cases hq), rfl, .nil⟩
theorem RT.len (h : RT M0 M1 v rows) : lenF (er v) = some (.int .i64 (rows.length : Int)) := by
  obtain ⟨us, us', fp, Mb, hg, hm, ht, _, _, _, hc⟩ := h
  rw [hg.len1, ← hc.1, ht.len]
theorem RT.one (h : RT M0 M1 v rows) : One v := by
  obtain ⟨us, us', fp, Mb, hg, _⟩ := h
  exact hg.one
theorem RT.more (h : RT M0 M1 v rows) (hs : Sub M1 M2) : RT M0 M2 v rows := by
  obtain ⟨us, us', fp, Mb, hg, hm, h⟩ := h
  obtain ⟨Mb', g1, m1⟩ := hg.out hm (Mem.nil hs)
  rw [List.append_nil] at m1
  exact ⟨us, us', fp, Mb', g1, m1, h⟩
theorem RT.base {Mz : MH} (h : RT M0 M1 v rows) (hs : Sub Mz M0) : RT Mz M1 v rows := by
  obtain ⟨us, us', fp, Mb, hg, hm, h⟩ := h
  exact ⟨us, us', fp, Mb, hg, hm.base hs, h⟩
theorem RT.tree (h : RT M0 M1 v rows) : ∃ v' fp, Tr [v] [v'] fp ∧ Mem M0 M1 fp ∧ flat v ∧ (∀ q ∈ fp, flatL q.2) ∧ LII v' rows := by
  obtain ⟨us, us', fp, Mb, hg, hm, ht, hf, hff, _, hc⟩ := h
  rcases hg.own with ⟨rfl, k, rfl⟩ | ⟨b, n, ex, rfl, hb, hl⟩
  · cases ht
    have : rows = [] := List.eq_nil_of_length_eq_zero hc.1.symm
    subst this
    exact ⟨_, [], .refl _, .nil (hm.sub.trans hg.sub), by simp [flat], fun q hq => (by cases hq), .nil⟩
  · have hnew : Mb b = none := hg.new b rfl
    refine ⟨.fs (some (b, 0)) n n ex 1 (us'.drop 0), (b, us) :: (fp ++ []), .sl ht .nil, ?_, by simp [flat], fun q hq => ?_, ?_⟩
    · have k : Mem Mb M1 [(b, us)] := ⟨hg.sub, fun p hp => by simp at hp; subst hp; exact hnew, by simp [Nd2], fun p hp => by simp at hp; subst hp; exact hb⟩
      rw [List.append_nil]
      exact (hm.add k).perm List.perm_append_comm
    · simp only [List.append_nil, List.mem_cons] at hq
      rcases hq with rfl | h1
      · exact hf
      · exact hff q h1
    · have := ht.len
      exact Fr.lsC (us := us') (.inr ⟨_, _, _, _, _, by rw [List.drop_zero], by omega⟩) hc
theorem RT.dn (h : RT M0 M1 v rows) : Dn M0 M1 v (fun u => LII u rows) := h.tree
theorem RT.row (h : RT M0 M1 v rows) {i : Nat} (hi : i < rows.length) : ∃ (us : List V) (u u' : V) (g : List (Nat × List V)), (∀ {k : IntKind} {a : Int}, 0 ≤ a → a < (rows.length : Int) → iaddrV 1 v (.int k a) = some (.sc (.ptr (some (oB v, a.toNat))))) ∧ M1 (oB v) = some us ∧ us[i]? = some u ∧ One u ∧ Tr [u] [u'] g ∧ Nd2 g ∧ (∀ p ∈ g, M1 p.1 = some p.2) ∧ (∀ p ∈ g, M0 p.1 = none) ∧ LI u' rows[i] := by
  obtain ⟨us, us', fp, Mb, hg, hm, ht, hf, hff, ho, hc⟩ := h
  have hul : us.length = rows.length := by rw [← ht.len]; exact hc.1
  have hiu : i < us.length := by omega
  have hsp : us = us.take i ++ (us[i] :: us.drop (i + 1)) := by rw [← List.drop_eq_getElem_cons hiu, List.take_append_drop]
  rw [hsp] at ht
  obtain ⟨a', b', f1, f2, rfl, rfl, t1, t2⟩ := Tr.split (a := us.take i) (b := us[i] :: us.drop (i + 1)) (b' := []) ht
  obtain ⟨x', r', g1, g2, rfl, rfl, t3, t4⟩ := t2.uncons
  have hal : a'.length = i := by rw [t1.len, List.length_take]; omega
  have hmg : Mem M0 Mb g1 := hm.right.left
  have h4 := hc.2 i hi
  rw [List.getElem?_append_right (by omega), hal, Nat.sub_self] at h4
  obtain ⟨w, h5, h6⟩ := h4
  simp only [List.getElem?_cons_zero, Option.some.injEq] at h5
  subst h5
  have o1 := List.all_eq_true.1 ho _ (List.getElem_mem hiu)
  have fl := flatL_all.1 hf _ (List.getElem_mem hiu)
  refine ⟨us, us[i], x', g1, fun h0 h1 => hg.own.iaddr h0 (by rw [hul]; exact h1), hg.at (by omega), List.getElem?_eq_getElem hiu, ⟨o1, ?_⟩, t3, hmg.nd, fun p hp => hg.sub _ _ (hmg.at_ p hp), hmg.new, h6⟩
  rcases t3.inv1 with ⟨h1, h2⟩ | ⟨b, o, n, c, ex, k, cs, cs', g, h0, _⟩ | ⟨a, a', _, h0⟩ | ⟨a, a', _, h0⟩
  · simp only [List.cons.injEq, and_true] at h1
    rw [← h1]; exact h6.one.2
  · rw [h0]; rfl
  · rw [h0] at o1; exact absurd o1 (by simp [oneV, er, oneA])
  · rw [h0] at o1; exact absurd o1 (by simp [oneV, er, oneA])
theorem RT.snoc {s' : V} {M' : MH} {us us' : List V} {fp g : List (Nat × List V)} {u' : V} {Mb' : MH} (h1 : Gr 1 Mb' M' s' (us ++ [u])) (m1 : Mem M0 Mb' (fp ++ g)) (ht : Tr us us' fp) (htu : Tr [u] [u'] g) (hf : flatL us) (hfu : flat u) (hff : ∀ q ∈ fp, flatL q.2) (hfg : ∀ q ∈ g, flatL q.2)
    (ho : us.all oneV = true) (hou : oneV u = true) (hc : Cs isL us' rows) (hu : LI u' ys) : RT M0 M' s' (rows ++ [ys]) := by
  refine ⟨us ++ [u], us' ++ [u'], fp ++ g, Mb', h1, m1, ht.append htu, ?_, ?_, by simp [ho, hou], hc.snoc (x := ys) hu⟩
  · exact flatL_all.2 fun w hw => by
      rcases List.mem_append.1 hw with h2 | h2
      · exact flatL_all.1 hf w h2
      · rw [List.mem_singleton] at h2; subst h2; exact hfu
  · intro w hw
    rcases List.mem_append.1 hw with h2 | h2
    · exact hff w h2
    · exact hfg w h2
end
end Go.M2

namespace Go.M2
open Go.Proofs
variable {M : MH}
end Go.M2

namespace Go.M2
open Go.Proofs
variable {M : MH}
end Go.M2

namespace Go.M2
open Go.Proofs
variable {M : MH}
theorem Tr.one1 {u u' : V} {g : List (Nat × List V)} (h : Tr [u] [u'] g) (h' : One u') : One u := by
  obtain ⟨h1, h2⟩ := h'
  rcases h.inv1 with ⟨h3, _⟩ | ⟨b, o, n, c, ex, k, cs, cs', g, rfl, _⟩ | ⟨a, a', h3, _⟩ | ⟨a, a', h3, _⟩
  · simp only [List.cons.injEq, and_true] at h3
    rw [← h3]; exact ⟨h1, h2⟩
  · exact ⟨rfl, rfl⟩
  · simp only [List.cons.injEq, and_true] at h3
    rw [h3] at h1; exact absurd h1 (by simp [oneV, er, oneA])
  · simp only [List.cons.injEq, and_true] at h3
    rw [h3] at h1; exact absurd h1 (by simp [oneV, er, oneA])
def RdI (M : MH) (v : V) (xs : List Int) : Prop := ∃ v' g, Tr [v] [v'] g ∧ Nd2 g ∧ (∀ p ∈ g, M p.1 = some p.2) ∧ LI v' xs
theorem RdI.of {v : V} {xs : List Int} (h : LI v xs) : RdI M v xs := ⟨v, [], .refl _, List.nodup_nil, fun p hp => (by cases hp), h⟩
theorem RdI.more {M' : MH} {v : V} {xs : List Int} (h : RdI M v xs) (hs : Sub M M') : RdI M' v xs := by
  obtain ⟨v', g, h1, h2, h3, h4⟩ := h
  exact ⟨v', g, h1, h2, fun p hp => hs _ _ (h3 p hp), h4⟩
theorem RdI.one {v : V} {xs : List Int} (h : RdI M v xs) : One v := by
  obtain ⟨v', g, h1, h2, h3, h4⟩ := h
  exact h1.one1 h4.one
theorem Dn.rdI {M0 : MH} {v : V} {xs : List Int} (h : Dn M0 M v (fun u => LI u xs)) : RdI M v xs := by
  obtain ⟨v', g, h1, h2, h3, h4, h5⟩ := h
  exact ⟨v', g, h1, h2.nd, h2.at_, h5⟩
theorem RdI.len {v : V} {xs : List Int} (h : RdI M v xs) : lenF (er v) = some (.int .i64 (xs.length : Int)) := by
  obtain ⟨v', g, h1, h2, h3, h4⟩ := h
  have hl := h4.len
  rcases h1.inv1 with ⟨h5, _⟩ | ⟨b, o, n, c, ex, k, cs, cs', g, rfl, h5, _⟩ | ⟨a, a', h5, rfl⟩ | ⟨a, a', h5, rfl⟩
  · simp only [List.cons.injEq, and_true] at h5
    rw [← h5]; exact hl
  · simp only [List.cons.injEq, and_true] at h5
    rw [h5] at hl; exact hl
  · simp only [List.cons.injEq, and_true] at h5
    rw [h5] at hl; simp [er, lenF] at hl
  · simp only [List.cons.injEq, and_true] at h5
    rw [h5] at hl; simp [er, lenF] at hl
theorem RT.rdI {M0 M1 : MH} {v u : V} {us : List V} {rows : List (List Int)} (h : RT M0 M1 v rows) {i : Nat} (hi : i < rows.length) (hm : M1 (oB v) = some us) (hu : us[i]? = some u) : RdI M1 u rows[i] := by
  obtain ⟨us2, u2, u', g, _, h1, h2, _, h3, h4, h5, _, h6⟩ := h.row hi
  rw [hm] at h1; cases h1
  rw [hu] at h2; cases h2
  exact ⟨u', g, h3, h4, h5, h6⟩
theorem RT.cell {M0 M1 : MH} {v : V} {rows : List (List Int)} (h : RT M0 M1 v rows) (hl : 0 < rows.length) : ∃ us, M1 (oB v) = some us ∧ us.length = rows.length ∧ ∀ i (h : i < rows.length), ∃ u, us[i]? = some u ∧ RdI M1 u rows[i] := by
  have h0 := h
  obtain ⟨us, us', fp, Mb, hg, hm, ht, hf, hff, ho, hc⟩ := h0
  have hul : us.length = rows.length := by rw [← ht.len]; exact hc.1
  have hat : M1 (oB v) = some us := hg.at (by omega)
  exact ⟨us, hat, hul, fun i hi => ⟨us[i]'(by omega), List.getElem?_eq_getElem (by omega), h.rdI hi hat (List.getElem?_eq_getElem (by omega))⟩⟩
theorem RT.iaddr {M0 M1 : MH} {v : V} {rows : List (List Int)} (h : RT M0 M1 v rows) {k : IntKind} {a : Int} (h0 : 0 ≤ a) (h1 : a < (rows.length : Int)) : iaddrV 1 v (.int k a) = some (.sc (.ptr (some (oB v, a.toNat)))) := by
  obtain ⟨us, us', fp, Mb, hg, hm, ht, hf, hff, ho, hc⟩ := h
  have hul : us.length = rows.length := by rw [← ht.len]; exact hc.1
  exact hg.own.iaddr h0 (by rw [hul]; exact h1)
end Go.M2

namespace Go.M2
open Go.Proofs
variable {M : MH}
end Go.M2

namespace Go.M2
open Go.Proofs
variable {M : MH}
end Go.M2

namespace Go.M2
open Go.Proofs
variable {M : MH}
end Go.M2

namespace Go.M2
open Go.Proofs
variable {M : MH}
end Go.M2

namespace Go.M2
open Go.Proofs
variable {M : MH}
def FrStep (s : SysS) (p f : List Int) : Prop := SetOk (sizeF s.vars) f ∧ (∀ x ∈ p, x ∈ f) ∧ (∀ x ∈ nextN s p, x ∈ f)
def FrOk (s : SysS) (fs : List (List Int)) : Prop := SysOk s ∧ 1 ≤ fs.length ∧ fs.length ≤ 30 ∧ fs[0]? = some [firstN s] ∧ ∀ i (h : i + 1 < fs.length), FrStep s fs[i] fs[i + 1]
noncomputable def frB (s : SysS) (fs : List (List Int)) : Bool := @decide (FrOk s fs) (Classical.propDecidable _)
end Go.M2

namespace Go.M2
open Go.Proofs
variable {M : MH}
end Go.M2

namespace Go.M2
open Go.Proofs
variable {M : MH}
structure TrS where
  states : List (List Int)
  rules : List Int
def isTr (t : TrS) (u : V) : Prop := ∃ x y, u = .agg [x, y] ∧ LII x t.states ∧ LI y t.rules
theorem Dn.more {M0 M1 M2 : MH} {v : V} {p : V → Prop} (h : Dn M0 M1 v p) (hs : Sub M1 M2) : Dn M0 M2 v p := by
  obtain ⟨r', fp, h1, h2, h3⟩ := h
  exact ⟨r', fp, h1, h2.more hs, h3⟩
theorem Dn.base {Mz M0 M1 : MH} {v : V} {p : V → Prop} (h : Dn M0 M1 v p) (hs : Sub Mz M0) : Dn Mz M1 v p := by
  obtain ⟨r', fp, h1, h2, h3⟩ := h
  exact ⟨r', fp, h1, h2.base hs, h3⟩
theorem Dn.setB {M0 Mb M1 : MH} {v : V} {p : V → Prop} {b : Nat} {l l0 : List V} (h : Dn Mb M1 v p) (hb : Mb b = some l0) (h0 : M0 b = none) (hs : Sub M0 Mb) : Dn M0 (M1.set b l) v p := by
  obtain ⟨r', fp, h1, h2, h3⟩ := h
  refine ⟨r', fp, h1, ⟨(hs.trans h2.sub).set h0, fun q hq => hs.none (h2.new q hq), h2.nd, fun q hq => ?_⟩, h3⟩
  have hne : q.1 ≠ b := fun e => by have := h2.new q hq; rw [e, hb] at this; cases this
  rw [set_ne hne]; exact h2.at_ q hq
theorem Dn.agg2 {M0 M1 M2 : MH} {x y : V} {p q : V → Prop} (h : Dn M0 M1 x p) (k : Dn M1 M2 y q) : Dn M0 M2 (.agg [x, y]) (fun u => ∃ x' y', u = .agg [x', y'] ∧ p x' ∧ q y') := by
  obtain ⟨x', f, t1, m1, f1, g1, h1⟩ := h
  obtain ⟨y', g, t2, m2, f2, g2, h2⟩ := k
  refine ⟨.agg [x', y'], f ++ g, ?_, m1.add m2, by simp [flat, flatL, f1, f2], fun r hr => ?_, x', y', rfl, h1, h2⟩
  · have := Tr.agg (t1.append t2) Tr.nil
    simpa using this
  · rcases List.mem_append.1 hr with h3 | h3
    · exact g1 r h3
    · exact g2 r h3
structure TB (Mb M : MH) (b6 : Nat) (S : List (List Int)) (Rl : List Int) (ul ur : V) : Prop where
  sub : Sub Mb M
  new6 : Mb b6 = none
  at6 : M b6 = some [ul, ur]
  rx : ∃ us us' fp, Ow 1 M ul us ∧ Tr us us' fp ∧ Nd2 fp ∧ (∀ p ∈ fp, M p.1 = some p.2) ∧ (∀ p ∈ fp, Mb p.1 = none ∧ p.1 ≠ b6 ∧ blkV ul ≠ some p.1 ∧ blkV ur ≠ some p.1) ∧ flatL us ∧ (∀ q ∈ fp, flatL q.2) ∧ us.all oneV = true ∧ Cs isL us' S
  newl : ∀ b, blkV ul = some b → Mb b = none ∧ b ≠ b6 ∧ blkV ur ≠ some b
  owr : Ow 1 M ur (Rl.map vi)
  newr : ∀ b, blkV ur = some b → Mb b = none ∧ b ≠ b6
section
variable {Mb M1 M2 : MH} {b6 : Nat} {S : List (List Int)} {Rl ys : List Int} {ul ur u : V}
theorem Ow.blk {sz : Nat} {v : V} {l : List V} (h : Ow sz M v l) {b : Nat} (hb : blkV v = some b) : M b = some l := by
  rcases h with ⟨_, k, rfl⟩ | ⟨b', n, ex, rfl, h2, _⟩
  · simp [blkV] at hb
  · simp [blkV] at hb; subst hb; exact h2
theorem Ow.to {sz : Nat} {M' : MH} {v : V} {l : List V} (h : Ow sz M v l) (hs : ∀ b, blkV v = some b → M' b = M b) : Ow sz M' v l := by
  rcases h with h | ⟨b', n, ex, rfl, h2, h3⟩
  · exact .inl h
  · exact .inr ⟨b', n, ex, rfl, by rw [hs b' rfl]; exact h2, h3⟩
theorem Ow.gr {v : V} {l : List V} (h : Ow 1 M v l) : Gr 1 (fun i => if blkV v = some i then none else M i) M v l :=
  ⟨fun i l hi => by
    have hi : (if blkV v = some i then none else M i) = some l := hi
    split at hi
    · cases hi
    · exact hi, fun b hb => by simp [hb], h⟩
theorem TB.more (h : TB Mb M1 b6 S Rl ul ur) (hs : Sub M1 M2) : TB Mb M2 b6 S Rl ul ur := by
  obtain ⟨us, us', fp, h1, h2, h3, h4, h5⟩ := h.rx
  exact ⟨h.sub.trans hs, h.new6, hs _ _ h.at6, ⟨us, us', fp, h1.sub hs, h2, h3, fun p hp => hs _ _ (h4 p hp), h5⟩, h.newl, h.owr.sub hs, h.newr⟩
theorem TB.lenS (h : TB Mb M1 b6 S Rl ul ur) : lenF (er ul) = some (.int .i64 (S.length : Int)) := by
  obtain ⟨us, us', fp, h1, h2, _, _, _, _, _, _, hc⟩ := h.rx
  rw [h1.len1, ← hc.1, h2.len]
theorem TB.iaddr (h : TB Mb M1 b6 S Rl ul ur) {k : IntKind} {a : Int} (h0 : 0 ≤ a) (h1 : a < (S.length : Int)) : iaddrV 1 ul (.int k a) = some (.sc (.ptr (some (oB ul, a.toNat)))) := by
  obtain ⟨us, us', fp, h2, h3, _, _, _, _, _, _, hc⟩ := h.rx
  have hul : us.length = S.length := by rw [← h3.len]; exact hc.1
  exact h2.iaddr h0 (by rw [hul]; exact h1)
theorem TB.cell (h : TB Mb M1 b6 S Rl ul ur) (hl : 0 < S.length) : ∃ us, M1 (oB ul) = some us ∧ us.length = S.length ∧ ∀ i (h : i < S.length), ∃ u, us[i]? = some u ∧ RdI M1 u S[i] := by
  obtain ⟨us, us', fp, h1, ht, hnd, hat, _, hf, hff, ho, hc⟩ := h.rx
  have hul : us.length = S.length := by rw [← ht.len]; exact hc.1
  refine ⟨us, h1.at (by omega), hul, fun i hi => ?_⟩
  have hiu : i < us.length := by omega
  have hsp : us = us.take i ++ (us[i] :: us.drop (i + 1)) := by rw [← List.drop_eq_getElem_cons hiu, List.take_append_drop]
  rw [hsp] at ht
  obtain ⟨a', b', f1, f2, rfl, rfl, t1, t2⟩ := Tr.split (a := us.take i) (b := us[i] :: us.drop (i + 1)) (b' := []) ht
  obtain ⟨x', r', g1, g2, rfl, rfl, t3, t4⟩ := t2.uncons
  have hal : a'.length = i := by rw [t1.len, List.length_take]; omega
  have h4 := hc.2 i hi
  rw [List.getElem?_append_right (by omega), hal, Nat.sub_self] at h4
  obtain ⟨w, h5, h6⟩ := h4
  simp only [List.getElem?_cons_zero, Option.some.injEq] at h5
  subst h5
  exact ⟨us[i], List.getElem?_eq_getElem hiu, x', g1, t3, (Nd2.append (Nd2.append hnd).2.1).1, fun p hp => hat p (List.mem_append_right _ (List.mem_append_left _ hp)), h6⟩
theorem TB.box (h : RT Mb M1 ul S) (hb : M1 b6 = none) : TB Mb (M1.set b6 [ul, .sc (.sl none 0 0 true 0)]) b6 S [] ul (.sc (.sl none 0 0 true 0)) := by
  obtain ⟨us, us', fp, Mc, hg, hm, ht, hf, hff, hos, hc⟩ := h
  have hs : Sub M1 (M1.set b6 [ul, .sc (.sl none 0 0 true 0)]) := (Sub.refl M1).set' hb
  have hs0 : Sub Mb M1 := hm.sub.trans hg.sub
  have hne : ∀ b l, M1 b = some l → b ≠ b6 := fun b l hl e => by rw [e, hb] at hl; cases hl
  refine ⟨hs0.trans hs, hs0.none hb, set_same, ⟨us, us', fp, hg.own.sub hs, ht, hm.nd, fun p hp => hs _ _ (hg.sub _ _ (hm.at_ p hp)), fun p hp => ⟨hm.new p hp, hne _ _ (hg.sub _ _ (hm.at_ p hp)), fun e => ?_, by simp [blkV]⟩, hf, hff, hos, hc⟩, fun b hb2 => ⟨hm.sub.none (hg.new b hb2), hne _ _ (hg.own.blk hb2), by simp [blkV]⟩, .inl ⟨rfl, 0, rfl⟩, fun b hb2 => by simp [blkV] at hb2⟩
  have h1 := hg.new p.1 e
  rw [hm.at_ p hp] at h1; cases h1
theorem TB.dnS (h : TB Mb M1 b6 S Rl ul ur) : Dn (Mb.set b6 [ul, ur]) M1 ul (fun u => LII u S) := by
  obtain ⟨us, us', fp, h1, ht, hnd, hat, hnew, hf, hff, hos, hc⟩ := h.rx
  have hs : Sub (Mb.set b6 [ul, ur]) M1 := fun i l hi => by
    by_cases e : i = b6
    · subst e; rw [set_same] at hi; cases hi; exact h.at6
    · rw [set_ne e] at hi; exact h.sub _ _ hi
  have hR : RT (Mb.set b6 [ul, ur]) M1 ul S := by
    refine ⟨us, us', fp, _, h1.gr, ⟨fun i l hi => ?_, fun p hp => ?_, hnd, fun p hp => ?_⟩, ht, hf, hff, hos, hc⟩
    · have hne : blkV ul ≠ some i := fun e => by
        by_cases e6 : i = b6
        · exact (h.newl i e).2.1 e6
        · rw [set_ne e6, (h.newl i e).1] at hi; cases hi
      simp only [hne, if_false]; exact hs i l hi
    · obtain ⟨n1, n2, n3, n4⟩ := hnew p hp
      rw [set_ne n2]; exact n1
    · obtain ⟨n1, n2, n3, n4⟩ := hnew p hp
      simp only [n3, if_false]; exact hat p hp
  exact hR.dn
theorem TB.dn (h : TB Mb M1 b6 S Rl ul ur) : Dn (Mb.set b6 [ul, ur]) M1 (.agg [ul, ur]) (isTr ⟨S, Rl⟩) := by
  obtain ⟨us, us', fp, h1, ht, hnd, hat, hnew, hf, hff, hos, hc⟩ := h.rx
  have d1 := h.dnS
  have g := h.owr.gr
  -- the states stand on what is not the rules' block
  have hs : Sub (Mb.set b6 [ul, ur]) M1 := fun i l hi => by
    by_cases e : i = b6
    · subst e; rw [set_same] at hi; cases hi; exact h.at6
    · rw [set_ne e] at hi; exact h.sub _ _ hi
  have hR : RT (Mb.set b6 [ul, ur]) (fun i => if blkV ur = some i then none else M1 i) ul S := by
    have h1' : Ow 1 (fun i => if blkV ur = some i then none else M1 i) ul us := h1.to fun b hb => by simp [(h.newl b hb).2.2]
    refine ⟨us, us', fp, _, h1'.gr, ⟨fun i l hi => ?_, fun p hp => ?_, hnd, fun p hp => ?_⟩, ht, hf, hff, hos, hc⟩
    · have hn1 : blkV ul ≠ some i := fun e => by
        by_cases e6 : i = b6
        · exact (h.newl i e).2.1 e6
        · rw [set_ne e6, (h.newl i e).1] at hi; cases hi
      have hn2 : blkV ur ≠ some i := fun e => by
        by_cases e6 : i = b6
        · exact (h.newr i e).2 e6
        · rw [set_ne e6, (h.newr i e).1] at hi; cases hi
      simp only [hn1, hn2, if_false]; exact hs i l hi
    · obtain ⟨n1, n2, n3, n4⟩ := hnew p hp
      rw [set_ne n2]; exact n1
    · obtain ⟨n1, n2, n3, n4⟩ := hnew p hp
      simp only [n3, n4, if_false]; exact hat p hp
  exact hR.dn.agg2 g.dnI
end
end Go.M2

namespace Go.M2
open Go.Proofs
variable {M : MH}
theorem mkL_succ {n : Nat} {p : Nat → Bool} : mkL (n + 1) p = mkL n p ++ [p n] := by simp [mkL, List.range_succ]
theorem t_l1Needed {v : V} {ts : List TermS} {vars : Int} {ks : List Int} (hv : LT v ts) (hk : kindsF vars ts = some ks) :
    VCall Try.prog n_spec_l1Needed [v] M (fun r M' => Gr 1 M M' r ((mkL ts.length (ndA ts)).map vb)) := by
  obtain ⟨hok, h1, h40⟩ := TOk.of hk
  refine VCall.plain fun R hR => v_spec_l1Needed rfl ?_
  refine sS0 ?_
  intro b3 hb3
  refine loop_k (fun e M' => ∃ i : Nat, i ≤ ts.length ∧ e 0 = v ∧ e 4 = .sc (.int .i64 i) ∧ Gr 1 M M' (e 3) ((mkL i (ndK ts 0)).map vb)) (fun e _ => ctrV ts.length (e 4)) ?_ ?_
  · exact ⟨0, by omega, sT0, by refine sS0 ?_; rfl, by refine sS0 ?_; exact Gr.new' (Sub.refl _) hb3 rfl⟩
  · rintro e M1 ⟨i, hi, e0, e4, hg⟩ K hK
    refine sS3 @e0 @e4 @hv.len ?_
    refine cond_dec (fun h => ?_) (fun h => ?_)
    · have hz : decide ((i : Int) = (ts.length : Int) - 1) = ndK ts 0 i := by simp only [ndK, decide_eq_decide]; omega
      refine sS4 @e0 @e4 @hv.len @hz ?_
      intro bt hbt
      refine app_bool hg hbt (by rw [mkL_len]; omega) (by omega) ?_
      intro s' M' hg' _
      refine sS2 @e0 @e4 ?_
      refine hK _ _ ⟨i + 1, by omega, sT0, by refine sS0 ?_; rfl, by refine sS0 ?_; rw [mkL_succ]; exact hg'⟩ (by refine sS2 @ctrV_int @e4 ?_; omega)
    · obtain rfl : i = ts.length := by omega
      refine sS2 @e0 @hv.len ?_
      refine loop_k (fun e M' => ∃ j : Nat, j ≤ ts.length ∧ e 0 = v ∧ e 5 = .sc (.int .i64 ((ts.length : Int) - 1 - j)) ∧ Gr 1 M M' (e 3) ((mkL ts.length (ndK ts j)).map vb)) (fun e _ => dnV (e 5)) ?_ ?_
      · exact ⟨0, by omega, sT0, by refine sS0 ?_; exact eqI (by omega), by refine sS0 ?_; exact hg⟩
      · rintro e M2 ⟨j, hj, e0, e5, hg⟩ K2 hK2
        refine sS2 @e0 @e5 ?_
        refine cond_dec (fun h => ?_) (fun h => ?_)
        · have hi' : ts.length - 1 - j < ts.length := by omega
          have hnl := ndK_last hok (j := j) (by omega)
          have hns := fun x => ndK_succ (l := ts) (j := j) (i := x)
          obtain ⟨o1, o2, o3, o4⟩ := hok _ hi'
          have hat : atN 4 v (ts.length - 1 - j) = encT ts[ts.length - 1 - j] := hv.elt hi'
          rw [← tAt_eq hi'] at hat
          have et : (ts.length : Int) - 1 - j = ((ts.length - 1 - j : Nat) : Int) := by omega
          have g5 : ((mkL ts.length (ndK ts j)).map vb)[ts.length - 1 - j]? = some (.sc (.bool (ndA ts (ts.length - 1 - j)))) := by rw [mkL_at hi', hnl]
          have hat3 := hg.at (by rw [mkL_lenv]; omega)
          have hia : ∀ {k : IntKind} {a : Int}, 0 ≤ a → a < (ts.length : Int) → iaddrV 1 (e 3) (.int k a) = some (.sc (.ptr (some (oB (e 3), a.toNat)))) := fun q1 q2 => hg.own.iaddr q1 (by rw [mkL_lenv]; exact q2)
          generalize hI : ts.length - 1 - j = i at *
          generalize tAt ts i = t at *
          have e9 : (i : Int) - 1 = (ts.length : Int) - 1 - ((j + 1 : Nat) : Int) := by omega
          cases hA : ndA ts i with
          | false =>
            rw [hA] at g5 hnl
            rw [hnl] at hns
            have k5 : mkL ts.length (ndK ts (j + 1)) = mkL ts.length (ndK ts j) := mkL_ext fun x _ => by rw [hns x]; simp
            refine sS6 @e0 @e5 @et @hia @hat3 @g5 ?_
            exact hK2 _ _ ⟨j + 1, by omega, sT0, by refine sS0 ?_; exact eqI e9, by refine sS0 ?_; rw [k5]; exact hg⟩ (by simp (maxSteps := 2000000) (disch := first | omega | assumption | exact idP rfl | exact idP (bL rfl)) only [go_sem, reduceIte, Nat.reduceEqDiff, wpV_kd, wpV_tH, dnV_int, e5]; omega)
          | true =>
            rw [hA] at g5 hnl
            rw [hnl] at hns
            simp (maxSteps := 2000000) (disch := first | omega | assumption | exact idP rfl | exact idP (bL rfl)) only [go_sem, reduceIte, Nat.reduceEqDiff, wpV_kd, wpV_tH, e0, e5, et, hia, hat3, g5, hv.iaddr, hat, encT]
            refine cond_dec (fun z0 => ?_) (fun z0 => ?_)
            · obtain ⟨a1, a2, a3, a4⟩ := o4 (by omega)
              have ha5 : t.a.toNat + 1 ≤ ((mkL ts.length (ndK ts j)).map vb).length := by rw [mkL_lenv]; omega
              have hb5 : t.b.toNat + 1 ≤ (((mkL ts.length (ndK ts j)).map vb).set t.a.toNat (.sc (.bool true))).length := by rw [List.length_set, mkL_lenv]; omega
              have k5 : (((mkL ts.length (ndK ts j)).map vb).set t.a.toNat (.sc (.bool true))).set t.b.toNat (.sc (.bool true)) = (mkL ts.length (ndK ts (j + 1))).map vb := by
                rw [mkL_setv (q := fun x => ndK ts j x || decide (x = t.a.toNat)) fun x _ => rfl]
                have z2 : decide (2 ≤ t.op) = true := by simp; omega
                exact mkL_setv fun x _ => by rw [hns x, z2]; simp [Bool.or_assoc]
              simp (maxSteps := 2000000) (disch := first | omega | assumption | exact idP rfl | exact idP (bL rfl)) only [go_sem, reduceIte, Nat.reduceEqDiff, wpV_kd, wpV_tH, e0, e5, et, hia, hat3, hv.iaddr, hat, encT, k5]
              have hg2 := hg.setO (l' := (mkL ts.length (ndK ts (j + 1))).map vb) (by rw [mkL_lenv]; omega) (by rw [mkL_lenv, mkL_lenv])
              exact hK2 _ _ ⟨j + 1, by omega, sT0, by refine sS0 ?_; exact eqI e9, by refine sS0 ?_; exact hg2⟩ (by simp (maxSteps := 2000000) (disch := first | omega | assumption | exact idP rfl | exact idP (bL rfl)) only [go_sem, reduceIte, Nat.reduceEqDiff, wpV_kd, wpV_tH, dnV_int, e5]; omega)
            · have k5 : mkL ts.length (ndK ts (j + 1)) = mkL ts.length (ndK ts j) := mkL_ext fun x _ => by
                have z2 : decide (2 ≤ t.op) = false := by simp; omega
                rw [hns x, z2]; simp
              refine sS3 @e0 @e5 @et ?_
              exact hK2 _ _ ⟨j + 1, by omega, sT0, by refine sS0 ?_; exact eqI e9, by refine sS0 ?_; rw [k5]; exact hg⟩ (by simp (maxSteps := 2000000) (disch := first | omega | assumption | exact idP rfl | exact idP (bL rfl)) only [go_sem, reduceIte, Nat.reduceEqDiff, wpV_kd, wpV_tH, dnV_int, e5]; omega)
        · obtain rfl : j = ts.length := by omega
          refine sS0 ?_
          exact hR _ _ hg
theorem t_UsedBy {v : V} {ts : List TermS} {nv : Nat} {ks : List Int} (hv : LT v ts) (hk : kindsF nv ts = some ks) (h5 : nv ≤ 5) :
    VCall Try.prog n_spec_UsedBy [v, .sc (.int .i64 nv)] M (fun r M' => Gr 1 M M' r ((selL nv (usP ts)).map vi)) := by
  obtain ⟨hok, h1, h40⟩ := TOk.of hk
  refine VCall.plain fun R hR => v_spec_UsedBy rfl ?_
  refine sS0 ?_
  intro b5 hb5
  have hg0 : Gr 1 M (M.set b5 []) (.sc (.sl (some (b5, 0)) 0 0 true 1)) (([] : List Int).map vi) := Gr.new' (Sub.refl _) hb5 rfl
  generalize M.set b5 [] = M1 at *
  refine (t_TermsValid hv).mono ?_
  rintro _ _ ⟨rfl, rfl⟩
  have hks : (kindsF nv ts).isSome = true := by rw [hk]; rfl
  refine sS1 @hks ?_
  refine (VCall.fr1 (t_l1Needed hv hk)).mono ?_
  rintro nd _ ⟨rfl, hnd⟩
  have hnd := hnd.lb
  refine sS0 ?_
  refine loop_k (fun e M' => ∃ w : Nat, w ≤ nv ∧ e 0 = v ∧ e 1 = .sc (.int .i64 nv) ∧ e 6 = nd ∧ e 7 = .sc (.int .i64 w) ∧ Gr 1 M M' (e 5) ((selL w (usP ts)).map vi)) (fun e _ => ctrV nv (e 7)) ?_ ?_
  · exact ⟨0, by omega, sT0, sT0, sT0, by refine sS0 ?_; rfl, by refine sS0 ?_; exact hg0⟩
  · rintro e M2 ⟨w, hw, e0, e1, e6, e7, hg⟩ K hK
    have hsl : (selL w (usP ts)).length ≤ w := selL_len
    refine sS4 @e0 @e1 @e6 @e7 ?_
    refine cond_dec (fun h => ?_) (fun h => ?_)
    · refine sS4 @e0 @e1 @e6 @e7 ?_
      generalize e 5 = x5 at *
      have eq7 := e7
      refine loop_k (fun e M' => M2 = M' ∧ ∃ i : Nat, i ≤ ts.length ∧ e 0 = v ∧ e 1 = .sc (.int .i64 nv) ∧ e 5 = x5 ∧ e 6 = nd ∧ e 7 = .sc (.int .i64 w) ∧ e 8 = .sc (.bool (usF ts w i)) ∧ e 9 = .sc (.int .i64 i)) (fun e _ => ctrV ts.length (e 9)) ?_ ?_
      · exact ⟨rfl, 0, by omega, sT0, sT0, sT0, sT0, sT0, by refine sS0 ?_; rfl, by refine sS0 ?_; rfl⟩
      · rintro e _ ⟨rfl, i, hi, e0, e1, e5, e6, e7, e8, e9⟩ K2 hK2
        refine sS8 @e0 @e1 @e5 @e6 @e7 @e8 @e9 @hv.len ?_
        refine cond_dec (fun h => ?_) (fun h => ?_)
        · have hi' : i < ts.length := by omega
          have hi2 : i < (mkL ts.length (ndA ts)).length := by rw [mkL_len]; exact hi'
          have hat : atN 4 v i = encT ts[i] := hv.elt hi'
          rw [← tAt_eq hi'] at hat
          have hus := usF_succ (l := ts) (i := i) (v := w)
          unfold isV at hus
          generalize tAt ts i = t at *
          have hia := hnd.iaddr (k := .i64) (a := (i : Int)) (by omega) (by rw [mkL_len]; omega)
          have hnb := hnd.at hi2
          rw [mkL_get] at hnb
          cases hu : usF ts w i with
          | true =>
            rw [hu] at hus e8
            refine sS7 @e0 @e1 @e5 @e6 @e7 @e8 @e9 ?_
            exact hK2 _ _ ⟨rfl, i + 1, by omega, sT0, sT0, sT0, sT0, sT0, by refine sS0 ?_; rw [hus]; rfl, by refine sS0 ?_; rfl⟩ (by refine sS2 @ctrV_int @e9 ?_; omega)
          | false =>
            rw [hu] at hus e8
            cases hA : ndA ts i with
            | false =>
              rw [hA] at hus hnb
              refine sS9 @e0 @e1 @e5 @e6 @e7 @e8 @e9 @hia @hnb ?_
              exact hK2 _ _ ⟨rfl, i + 1, by omega, sT0, sT0, sT0, sT0, sT0, by refine sS0 ?_; rw [hus]; rfl, by refine sS0 ?_; rfl⟩ (by refine sS2 @ctrV_int @e9 ?_; omega)
            | true =>
              rw [hA] at hus hnb
              cases ho : decide (t.op = 1) with
              | false =>
                rw [ho] at hus
                simp (maxSteps := 2000000) (disch := first | omega | assumption | exact idP rfl | exact idP (bL rfl)) only [go_sem, reduceIte, Nat.reduceEqDiff, wpV_kd, wpV_tH, e0, e1, e5, e6, e7, e8, e9, hia, hnb, hv.iaddr, hat, encT, ho]
                exact hK2 _ _ ⟨rfl, i + 1, by omega, sT0, sT0, sT0, sT0, sT0, by refine sS0 ?_; rw [hus]; rfl, by refine sS0 ?_; rfl⟩ (by refine sS2 @ctrV_int @e9 ?_; omega)
              | true =>
                rw [ho] at hus
                simp (maxSteps := 2000000) (disch := first | omega | assumption | exact idP rfl | exact idP (bL rfl)) only [go_sem, reduceIte, Nat.reduceEqDiff, wpV_kd, wpV_tH, e0, e1, e5, e6, e7, e8, e9, hia, hnb, hv.iaddr, hat, encT, ho]
                exact hK2 _ _ ⟨rfl, i + 1, by omega, sT0, sT0, sT0, sT0, sT0, by refine sS0 ?_; rw [hus]; rfl, by refine sS0 ?_; rfl⟩ (by refine sS2 @ctrV_int @e9 ?_; omega)
        · obtain rfl : i = ts.length := by omega
          have hup : usF ts w ts.length = usP ts w := rfl
          rw [hup] at e8
          refine sS6 @e0 @e1 @e5 @e6 @e7 @e8 ?_
          refine cond_split (fun h2 => ?_) (fun h2 => ?_)
          · rw [hup] at h2
            refine sS5 @e0 @e1 @e5 @e6 @e7 ?_
            intro bt hbt
            refine app_int hg hbt (by omega) (by omega) ?_
            intro s' M' hg' _
            refine sS0 ?_
            exact hK _ _ ⟨w + 1, by omega, sT0, sT0, sT0, by refine sS0 ?_; rfl, by refine sS0 ?_; rw [selL_succ, if_pos h2]; exact hg'⟩ (by refine sS2 @ctrV_int @eq7 ?_; omega)
          · rw [hup] at h2
            refine sS5 @e0 @e1 @e5 @e6 @e7 ?_
            exact hK _ _ ⟨w + 1, by omega, sT0, sT0, sT0, by refine sS0 ?_; rfl, by refine sS0 ?_; rw [selL_succ, if_neg (by simpa using h2)]; exact hg⟩ (by refine sS2 @ctrV_int @eq7 ?_; omega)
    · obtain rfl : w = nv := by omega
      refine sS0 ?_
      exact hR _ _ hg
theorem f_UsedBy {v : V} {ts : List TermS} {nv : Nat} {ks : List Int} (hv : LT v ts) (hk : kindsF nv ts = some ks) (h5 : nv ≤ 5) :
    VCall Try.prog n_spec_UsedBy [v, .sc (.int .i64 nv)] M (fun r M' => M = M' ∧ LI r (selL nv (usP ts))) :=
  (VCall.fr1 (t_UsedBy hv hk h5)).mono fun r M' ⟨h1, h2⟩ => ⟨h1, h2.li⟩
end Go.M2

namespace Go.M2
open Go.Proofs
variable {M : MH}
theorem t_Contains {w : V} {xs : List Int} {n : Int} (hw : LI w xs) (hl : xs.length ≤ 1048576) : VCall Try.prog n_slices_Contains_Sint_int [w, .sc (.int .i64 n)] M (fun r M' => M = M' ∧ r = .sc (.bool (decide (n ∈ xs)))) := by
  have key : VCall Try.prog n_slices_Index_Sint_int [w, .sc (.int .i64 n)] M (fun r M' => M = M' ∧ ∃ k : Int, r = .sc (.int .i64 k) ∧ (0 ≤ k ↔ n ∈ xs)) := by
    refine VCall.pure fun R hR => v_slices_Index_Sint_int rfl ?_
    refine sS1 @hw.len ?_
    refine loop_k (fun e M' => M' = M ∧ ∃ i : Nat, i ≤ xs.length ∧ e 0 = w ∧ e 1 = .sc (.int .i64 n) ∧ e 7 = .sc (.int .i64 xs.length) ∧ e 8 = .sc (.int .i64 i) ∧ ∀ j (hj : j < xs.length), j < i → xs[j] ≠ n) (fun e _ => ctrV xs.length (e 8)) ?_ ?_
    · exact ⟨rfl, 0, by omega, sT0, sT0, sT0, by refine sS0 ?_; rfl, fun j _ h => by omega⟩
    · rintro e M1 ⟨hM, i, hi, e0, e1, e7, e8, hj⟩ K hK
      subst hM
      refine sS2 @e7 @e8 ?_
      refine cond_dec (fun h => ?_) (fun h => ?_)
      · have hi' : i < xs.length := by omega
        simp (maxSteps := 2000000) (disch := first | omega | assumption | exact idP rfl | exact idP (bL rfl)) only [go_sem, reduceIte, Nat.reduceEqDiff, wpV_kd, wpV_tH, e0, e1, e8, hw.iaddr, hw.at hi']
        refine cond_dec (fun h2 => ?_) (fun h2 => ?_)
        · refine sS0 ?_
          exact hR _ _ (sB) ⟨_, rfl, by simp only [Int.natCast_nonneg, true_iff]; first | exact h2 ▸ List.getElem_mem hi' | (rw [h2]; exact List.getElem_mem hi')⟩
        · refine sS1 @e8 ?_
          refine hK _ _ ⟨rfl, i + 1, by omega, sT0, sT0, sT0, by refine sS0 ?_; rfl, fun j hj1 hj2 => ?_⟩ (by refine sS2 @ctrV_int @e8 ?_; omega)
          by_cases hji : j = i
          · subst hji; first | exact h2 | exact fun e => h2 e.symm
          · exact hj j hj1 (by omega)
      · refine sS0 ?_
        refine hR _ _ (sB) ⟨-1, rfl, ⟨fun h => by omega, fun h => ?_⟩⟩
        obtain ⟨j, hj1, e⟩ := List.getElem_of_mem h
        exact absurd e (hj j hj1 (by omega))
  refine VCall.pure fun R hR => v_slices_Contains_Sint_int rfl ?_
  refine sS0 ?_
  refine key.mono ?_
  rintro _ _ ⟨rfl, k, rfl, hk⟩
  refine sS0 ?_
  exact hR _ _ (sB) (congrArg (fun b => V.sc (.bool b)) (decide_eq_decide.2 (by first | exact hk | (rw [← hk]; omega))))
end Go.M2

namespace Go.M2
open Go.Proofs
variable {M : MH}
theorem Dn.tupM {M0 M1 M2 : MH} {x y : V} {p q : V → Prop} (h : Dn M0 M1 x p) (k : Dn M1 M2 y q) : Dn M0 M2 (.tup [x, y]) (fun u => ∃ x' y', u = .tup [x', y'] ∧ p x' ∧ q y') := by
  obtain ⟨x', f, t1, m1, f1, g1, h1⟩ := h
  obtain ⟨y', g, t2, m2, f2, g2, h2⟩ := k
  refine ⟨.tup [x', y'], f ++ g, ?_, m1.add m2, by simp [flat, flatL, f1, f2], fun r hr => ?_, x', y', rfl, h1, h2⟩
  · have := Tr.tup (t1.append t2) Tr.nil
    simpa using this
  · rcases List.mem_append.1 hr with h3 | h3
    · exact g1 r h3
    · exact g2 r h3
def rOk (s : SysS) (k : Int) : Bool := decide (0 ≤ k ∧ k ≤ (s.rules.length : Int) - 1)
def ruleAt (s : SysS) (k : Int) : RuleS := s.rules.getD k.toNat ⟨[], [], []⟩
theorem ruleAt_eq {s : SysS} {n : Nat} (h : n < s.rules.length) : ruleAt s (n : Int) = s.rules[n] := by simp [ruleAt, h]
noncomputable def touF (s : SysS) (k : Int) : List Int × List Int := if sysB s = true ∧ rOk s k = true then ((ruleAt s k).sets, toF s.vars.length (ruleAt s k)) else ([], [])
def isTou (q : List Int × List Int) (u : V) : Prop := ∃ x y, u = .tup [x, y] ∧ LI x q.1 ∧ LI y q.2
theorem touF_no {s : SysS} {k : Int} (h : ¬ (sysB s = true ∧ rOk s k = true)) : touF s k = ([], []) := by unfold touF; rw [if_neg h]
theorem touF_yes {s : SysS} {n : Nat} (h1 : sysB s = true) (h : n < s.rules.length) : touF s (n : Int) = (s.rules[n].sets, toF s.vars.length s.rules[n]) := by
  unfold touF; rw [if_pos ⟨h1, by simp [rOk]; omega⟩, ruleAt_eq h]
theorem nilTou {M' : MH} (h : Sub M M') : Dn M M' (.tup [.sc (.sl none 0 0 true 0), .sc (.sl none 0 0 true 0)]) (isTou ([], [])) := (Dn.nilS h).tupM Dn.nil1
theorem mem_sel {n w : Nat} {p : Nat → Bool} (h : w < n) : decide ((w : Int) ∈ selL n p) = p w := by
  rw [Bool.eq_iff_iff, decide_eq_true_eq, mem_selL]
  constructor
  · rintro ⟨i, _, h2, h3⟩
    have : i = w := by omega
    subst this; exact h2
  · intro h2; exact ⟨w, h, h2, rfl⟩
theorem o_TouchedBy {v : V} {s : SysS} {k : Int} (hv : isSys s v) :
    VCall Try.prog n_spec_TouchedBy [v, .sc (.int .i64 k)] M (fun r M' => Dn M M' r (isTou (touF s k))) := by
  refine VCall.plain fun R hR => v_spec_TouchedBy rfl ?_
  have hv0 := hv
  obtain ⟨a, b, rfl, ha, hb⟩ := hv
  have nope : ∀ M', Sub M M' → ¬ (sysB s = true ∧ rOk s k = true) → R (.tup [.sc (.sl none 0 0 true 0), .sc (.sl none 0 0 true 0)]) M' := fun M' h1 h2 => hR _ _ (by rw [touF_no h2]; exact nilTou h1)
  refine sS0 ?_
  intro b2 hb2
  have q2 : (M.set b2 [a, b]) b2 = some [a, b] := set_same
  have s1 : Sub M (M.set b2 [a, b]) := (Sub.refl M).set' hb2
  generalize M.set b2 [a, b] = M1 at *
  refine (t_SystemValidS hv0).mono ?_
  rintro _ _ ⟨rfl, rfl⟩
  cases h1 : sysB s with
  | false =>
    refine sS0 ?_
    exact nope _ s1 (by simp [h1])
  | true =>
    have hs := (sysB_iff s).1 h1
    have h8 := hs.r8
    refine sS2 @q2 @hb.len ?_
    refine t_l1In.mono ?_
    rintro _ _ ⟨rfl, rfl⟩
    cases h2 : rOk s k with
    | false =>
      have h2' := h2
      unfold rOk at h2'
      refine sS1 @h2' ?_
      exact nope _ s1 (by simp [h2])
    | true =>
      have h2' := h2
      unfold rOk at h2'
      refine sS1 @h2' ?_
      obtain ⟨h3, h4⟩ := of_decide_eq_true h2'
      obtain ⟨n, rfl⟩ : ∃ n : Nat, k = n := ⟨k.toNat, by omega⟩
      have hn : n < s.rules.length := by omega
      obtain ⟨x, y, z, hat, hx, hy, hzz⟩ := hb.elt hn
      obtain ⟨hw2, hst, hsets⟩ := hs.rules _ (List.getElem_mem hn)
      obtain ⟨kw, hkw⟩ := kind_some hw2
      have h5 := hs.v5
      have hle := sets_le hsets (by omega)
      have hty := touF_yes h1 hn
      have hx1 := hx.one.1
      have hy1 := hy.one.1
      have hz1 := hzz.one.1
      generalize hr : s.rules[n] = r at *
      refine sS3 @q2 @hb.iaddr @hat ?_
      intro b6 hb6
      have q6 : (M1.set b6 [x, y, z]) b6 = some [x, y, z] := set_same
      have q26 : (M1.set b6 [x, y, z]) b2 = some [a, b] := by rw [set_ne (fun e => by subst e; rw [hb6] at q2; cases q2)]; exact q2
      have s2 : Sub M (M1.set b6 [x, y, z]) := s1.trans ((Sub.refl _).set' hb6)
      generalize M1.set b6 [x, y, z] = M2 at *
      intro b7 hb7
      have hg0 : Gr 1 M2 (M2.set b7 []) (.sc (.sl (some (b7, 0)) 0 0 true 1)) (([] : List Int).map vi) := Gr.new' (Sub.refl _) hb7 rfl
      generalize M2.set b7 [] = M2' at *
      refine loop_k (fun e M' => ∃ i : Nat, i ≤ r.sets.length ∧ e 2 = .sc (.ptr (some (b2, 0))) ∧ e 6 = .sc (.ptr (some (b6, 0))) ∧ e 8 = .sc (.int .i64 i) ∧ Gr 1 M2 M' (e 7) ((r.sets.take i).map vi)) (fun e _ => ctrV r.sets.length (e 8)) ?_ ?_
      · exact ⟨0, by omega, sT0, sT0, by refine sS0 ?_; rfl, by refine sS0 ?_; exact hg0⟩
      · rintro e M3 ⟨i, hi, e2, e6, e8, hg⟩ K hK
        have p6 := hg.sub _ _ q6
        refine sS5 @e2 @e6 @e8 @p6 @hy.len ?_
        refine cond_dec (fun h => ?_) (fun h => ?_)
        · have hi' : i < r.sets.length := by omega
          simp (maxSteps := 2000000) (disch := first | omega | assumption | exact idP rfl | exact idP (bL rfl)) only [go_sem, reduceIte, Nat.reduceEqDiff, wpV_kd, wpV_tH, e2, e6, e8, p6, hy.iaddr, hy.at hi']
          intro bt hbt
          refine app_int hg hbt (by simp; omega) (by omega) ?_
          intro s' M' hg' _
          refine sS3 @e2 @e6 @e8 ?_
          exact hK _ _ ⟨i + 1, by omega, sT0, sT0, by refine sS0 ?_; rfl, by refine sS0 ?_; rw [take_snoc hi']; exact hg'⟩ (by refine sS2 @ctrV_int @e8 ?_; omega)
        · obtain rfl : i = r.sets.length := by omega
          rw [List.take_length] at hg
          refine sS2 @e2 @e6 ?_
          generalize e 7 = x7 at *
          have p2 := hg.sub _ _ q26
          intro b9 hb9
          have hg9 : Gr 1 M3 (M3.set b9 []) (.sc (.sl (some (b9, 0)) 0 0 true 1)) (([] : List Int).map vi) := Gr.new' (Sub.refl _) hb9 rfl
          generalize M3.set b9 [] = M3' at *
          refine loop_k (fun e M' => ∃ w : Nat, w ≤ s.vars.length ∧ e 2 = .sc (.ptr (some (b2, 0))) ∧ e 6 = .sc (.ptr (some (b6, 0))) ∧ e 7 = x7 ∧ e 10 = .sc (.int .i64 w) ∧ Gr 1 M3 M' (e 9) ((selL w (toP r)).map vi)) (fun e _ => ctrV s.vars.length (e 10)) ?_ ?_
          · exact ⟨0, by omega, sT0, sT0, sT0, by refine sS0 ?_; rfl, by refine sS0 ?_; exact hg9⟩
          · rintro e M4 ⟨w, hw, e2, e6, e7, e10, hg4⟩ K2 hK2
            have hsl : (selL w (toP r)).length ≤ w := selL_len
            have p64 := hg4.sub _ _ p6
            have p24 := hg4.sub _ _ p2
            refine sS6 @e2 @e6 @e7 @e10 @p24 @ha.len ?_
            refine cond_dec (fun h => ?_) (fun h => ?_)
            · have hw' : w < s.vars.length := by omega
              refine sS7 @e2 @e6 @e7 @e10 @p24 @p64 @ha.len ?_
              refine (f_UsedBy hx hkw h5).mono ?_
              rintro u _ ⟨rfl, hu⟩
              have hul : (selL s.vars.length (usP r.when_)).length ≤ s.vars.length := selL_len
              refine sS1 @e10 ?_
              refine (t_l2Has hu (by omega)).mono ?_
              rintro _ _ ⟨rfl, rfl⟩
              rw [mem_sel hw']
              refine sS4 @e2 @e6 @e7 @e10 ?_
              generalize e 9 = x9 at *
              have eq10 := e10
              refine loop_k (fun e M' => M4 = M' ∧ ∃ i : Nat, i ≤ r.terms.length ∧ e 2 = .sc (.ptr (some (b2, 0))) ∧ e 6 = .sc (.ptr (some (b6, 0))) ∧ e 7 = x7 ∧ e 9 = x9 ∧ e 10 = .sc (.int .i64 w) ∧ e 11 = .sc (.bool (usP r.when_ w || (r.terms.take i).any fun t => usP t w)) ∧ e 12 = .sc (.int .i64 i)) (fun e _ => ctrV r.terms.length (e 12)) ?_ ?_
              · exact ⟨rfl, 0, by omega, sT0, sT0, sT0, sT0, sT0, by simp (maxSteps := 2000000) (disch := first | omega | assumption | exact idP rfl | exact idP (bL rfl)) only [go_sem, reduceIte, Nat.reduceEqDiff, wpV_kd, wpV_tH, List.take_zero, List.any_nil, Bool.or_false], by refine sS0 ?_; rfl⟩
              · rintro e _ ⟨rfl, i, hi, e2, e6, e7, e9, e10, e11, e12⟩ K3 hK3
                refine sS9 @e2 @e6 @e7 @e9 @e10 @e11 @e12 @p64 @hzz.len ?_
                refine cond_dec (fun h => ?_) (fun h => ?_)
                · have hi' : i < r.terms.length := by omega
                  have hnx : (r.terms.take (i + 1)).any (fun t => usP t w) = ((r.terms.take i).any (fun t => usP t w) || usP r.terms[i] w) := by rw [take_snoc hi', List.any_append]; simp
                  obtain ⟨ki, hki⟩ := kind_some (hsets.kind (by omega) hi')
                  cases hc : usP r.when_ w || (r.terms.take i).any fun t => usP t w with
                  | true =>
                    rw [hc] at e11
                    refine sS7 @e2 @e6 @e7 @e9 @e10 @e11 @e12 ?_
                    exact hK3 _ _ ⟨rfl, i + 1, by omega, sT0, sT0, sT0, sT0, sT0, by refine sS0 ?_; rw [hnx, ← Bool.or_assoc, hc]; rfl, by refine sS0 ?_; rfl⟩ (by refine sS2 @ctrV_int @e12 ?_; omega)
                  | false =>
                    rw [hc] at e11
                    simp (maxSteps := 2000000) (disch := first | omega | assumption | exact idP rfl | exact idP (bL rfl)) only [go_sem, reduceIte, Nat.reduceEqDiff, wpV_kd, wpV_tH, e2, e6, e7, e9, e10, e11, e12, p64, p24, hzz.iaddr, ha.len]
                    refine (f_UsedBy (hzz.elt hi') hki h5).mono ?_
                    rintro u _ ⟨rfl, hu⟩
                    have hul : (selL s.vars.length (usP r.terms[i])).length ≤ s.vars.length := selL_len
                    refine sS1 @e10 ?_
                    refine (t_l2Has hu (by omega)).mono ?_
                    rintro _ _ ⟨rfl, rfl⟩
                    rw [mem_sel hw']
                    refine sS6 @e2 @e6 @e7 @e9 @e10 @e12 ?_
                    exact hK3 _ _ ⟨rfl, i + 1, by omega, sT0, sT0, sT0, sT0, sT0, by refine sS0 ?_; rw [hnx, ← Bool.or_assoc, hc]; rfl, by refine sS0 ?_; rfl⟩ (by refine sS2 @ctrV_int @e12 ?_; omega)
                · obtain rfl : i = r.terms.length := by omega
                  rw [List.take_length] at e11
                  have hto : (usP r.when_ w || r.terms.any fun t => usP t w) = toP r w := rfl
                  rw [hto] at e11
                  refine sS6 @e2 @e6 @e7 @e9 @e10 @e11 ?_
                  refine cond_split (fun h2 => ?_) (fun h2 => ?_)
                  · rw [List.take_length] at h2
                    change toP r w = _ at h2
                    refine sS5 @e2 @e6 @e7 @e9 @e10 ?_
                    intro bt hbt
                    refine app_int hg4 hbt (by omega) (by omega) ?_
                    intro s' M' hg' _
                    refine sS4 @e2 @e6 @e7 @e10 ?_
                    exact hK2 _ _ ⟨w + 1, by omega, sT0, sT0, sT0, by refine sS0 ?_; rfl, by refine sS0 ?_; rw [selL_succ, if_pos h2]; exact hg'⟩ (by refine sS2 @ctrV_int @eq10 ?_; omega)
                  · rw [List.take_length] at h2
                    change toP r w = _ at h2
                    refine sS5 @e2 @e6 @e7 @e9 @e10 ?_
                    exact hK2 _ _ ⟨w + 1, by omega, sT0, sT0, sT0, by refine sS0 ?_; rfl, by refine sS0 ?_; rw [selL_succ, if_neg (by simpa using h2)]; exact hg4⟩ (by refine sS2 @ctrV_int @eq10 ?_; omega)
            · obtain rfl : w = s.vars.length := by omega
              refine sS1 @e7 ?_
              refine hR _ _ ?_
              rw [hty]
              exact (hg.dnI.base s2).tupM hg4.dnI
theorem f_TouchedBy {v : V} {s : SysS} {k : Int} (hv : isSys s v) :
    VCall Try.prog n_spec_TouchedBy [v, .sc (.int .i64 k)] M (fun r M' => M = M' ∧ isTou (touF s k) r) := VCall.frT (o_TouchedBy hv)
end Go.M2

namespace Go.M2
open Go.Proofs
variable {M : MH}
def meetB (xs ys : List Int) : Bool := xs.any fun x => decide (x ∈ ys)
theorem t_meets {v w : V} {xs ys : List Int} (hv : LI v xs) (hw : LI w ys) (hl : xs.length ≤ 1048576) (hl2 : ys.length ≤ 1048576) :
    VCall Try.prog n_impl_meets [v, w] M (fun r M' => M = M' ∧ r = .sc (.bool (meetB xs ys))) := by
  refine VCall.pure fun R hR => v_impl_meets rfl ?_
  have ho1 := hw.one.1
  have ho2 := hw.one.2
  refine sS1 @ho2 ?_
  intro bk hbk
  have q : (M.set bk [w]) bk = some [w] := set_same
  have s1 : Sub M (M.set bk [w]) := (Sub.refl M).set' hbk
  generalize M.set bk [w] = M1 at *
  refine (t_ContainsInt (pred := fun x => decide (x ∈ ys)) hv hl fun x hx => ?_).mono ?_
  · refine VCall.pure fun R2 hR2 => v_impl_meets_1 rfl ?_
    refine sS1 @q ?_
    refine (t_Contains hw hl2).mono ?_
    rintro _ _ ⟨rfl, rfl⟩
    refine sS0 ?_
    exact hR2 _ _ (Sub.refl _) rfl
  · rintro _ _ ⟨rfl, rfl⟩
    refine sS0 ?_
    exact hR _ _ s1 rfl
theorem t_l26Meet {v w : V} {xs ys : List Int} (hv : LI v xs) (hw : LI w ys) (hl : xs.length ≤ 1048576) (hl2 : ys.length ≤ 1048576) :
    VCall Try.prog n_spec_l26Meet [v, w] M (fun r M' => M = M' ∧ r = .sc (.bool (meetB xs ys))) := by
  refine VCall.pure fun R hR => v_spec_l26Meet rfl ?_
  refine sS0 ?_
  refine loop_k (fun e M' => M = M' ∧ ∃ i : Nat, i ≤ xs.length ∧ e 0 = v ∧ e 1 = w ∧ e 5 = .sc (.int .i64 i) ∧ meetB (xs.take i) ys = false) (fun e _ => ctrV xs.length (e 5)) ?_ ?_
  · exact ⟨rfl, 0, by omega, sT0, sT0, by refine sS0 ?_; rfl, rfl⟩
  · rintro e _ ⟨rfl, i, hi, e0, e1, e5, hm⟩ K hK
    refine sS4 @e0 @e1 @e5 @hv.len ?_
    refine cond_dec (fun h => ?_) (fun h => ?_)
    · have hi' : i < xs.length := by omega
      simp (maxSteps := 2000000) (disch := first | omega | assumption | exact idP rfl | exact idP (bL rfl)) only [go_sem, reduceIte, Nat.reduceEqDiff, wpV_kd, wpV_tH, e0, e1, e5, hv.iaddr, hv.at hi']
      refine (t_l2Has hw hl2).mono ?_
      rintro _ _ ⟨rfl, rfl⟩
      cases hd : decide (xs[i] ∈ ys) with
      | true =>
        refine sS0 ?_
        refine hR _ _ (Sub.refl _) ?_
        have : meetB xs ys = true := by
          unfold meetB; rw [List.any_eq_true]; exact ⟨_, List.getElem_mem hi', hd⟩
        rw [this]
      | false =>
        refine sS3 @e0 @e1 @e5 ?_
        refine hK _ _ ⟨rfl, i + 1, by omega, sT0, sT0, by refine sS0 ?_; rfl, ?_⟩ (by refine sS2 @ctrV_int @e5 ?_; omega)
        unfold meetB at hm ⊢
        rw [take_snoc hi', List.any_append, hm]
        simpa using hd
    · obtain rfl : i = xs.length := by omega
      rw [List.take_length] at hm
      refine sS0 ?_
      exact hR _ _ (Sub.refl _) (by rw [hm])
theorem f_touchedBy {v : V} {s : SysS} {k : Nat} (hv : isSys s v) (hs : SysOk s) (hk : k < s.rules.length) :
    VCall Try.prog n_impl_touchedBy [v, .sc (.int .i64 k)] M (fun r M' => M = M' ∧ LI r (toF s.vars.length s.rules[k])) :=
  (VCall.fr1 (t_touchedBy hv hs hk)).mono fun r M' ⟨h1, h2⟩ => ⟨h1, h2.li⟩
def apB (n : Nat) (r q : RuleS) : Bool := !meetB r.sets q.sets && !meetB r.sets (toF n q) && !meetB q.sets (toF n r)
noncomputable def apF (s : SysS) (i j : Int) : Bool := sysB s && rOk s i && rOk s j && apB s.vars.length (ruleAt s i) (ruleAt s j)
theorem t_rulesApart {v : V} {s : SysS} {i j : Nat} (hv : isSys s v) (hs : SysOk s) (hi : i < s.rules.length) (hj : j < s.rules.length) :
    VCall Try.prog n_impl_rulesApart [v, .sc (.int .i64 i), .sc (.int .i64 j)] M (fun r M' => M = M' ∧ r = .sc (.bool (apB s.vars.length s.rules[i] s.rules[j]))) := by
  refine VCall.pure fun R hR => v_impl_rulesApart rfl ?_
  have hv0 := hv
  obtain ⟨a, b, rfl, ha, hb⟩ := hv
  obtain ⟨x, y, z, hat, hx, hy, hz⟩ := hb.elt hi
  obtain ⟨x2, y2, z2, hat2, hx2, hy2, hz2⟩ := hb.elt hj
  have h5 := hs.v5
  have hl1 := sets_le (hs.rules _ (List.getElem_mem hi)).2.2 (by omega)
  have hl2 := sets_le (hs.rules _ (List.getElem_mem hj)).2.2 (by omega)
  have t1 : (toF s.vars.length s.rules[i]).length ≤ s.vars.length := selL_len
  have t2 : (toF s.vars.length s.rules[j]).length ≤ s.vars.length := selL_len
  refine sS0 ?_
  intro b3 hb3
  have q3 : (M.set b3 [a, b]) b3 = some [a, b] := set_same
  have s1 : Sub M (M.set b3 [a, b]) := (Sub.refl M).set' hb3
  generalize M.set b3 [a, b] = M1 at *
  refine sS5 @q3 @hb.len @hb.iaddr @hat @hat2 ?_
  refine (t_meets hy hy2 (by omega) (by omega)).mono ?_
  rintro _ _ ⟨rfl, rfl⟩
  unfold apB at hR
  cases c1 : meetB s.rules[i].sets s.rules[j].sets with
  | true =>
    refine sS0 ?_
    exact hR _ _ s1 (by rw [c1]; rfl)
  | false =>
    refine sS1 @q3 ?_
    refine (f_touchedBy hv0 hs hj).mono ?_
    rintro u _ ⟨rfl, hu⟩
    refine sS0 ?_
    refine (t_meets hy hu (by omega) (by omega)).mono ?_
    rintro _ _ ⟨rfl, rfl⟩
    cases c2 : meetB s.rules[i].sets (toF s.vars.length s.rules[j]) with
    | true =>
      refine sS0 ?_
      exact hR _ _ s1 (by rw [c1, c2]; rfl)
    | false =>
      refine sS1 @q3 ?_
      refine (f_touchedBy hv0 hs hi).mono ?_
      rintro u2 _ ⟨rfl, hu2⟩
      refine sS0 ?_
      refine (t_meets hy2 hu2 (by omega) (by omega)).mono ?_
      rintro _ _ ⟨rfl, rfl⟩
      refine sS0 ?_
      refine hR _ _ s1 ?_
      rw [c1, c2]; simp
theorem t_impRulesApart {v : V} {s : SysS} {i j : Int} (hv : isSys s v) (hz : SysSz s) :
    VCall Try.prog n_impl_RulesApart [v, .sc (.int .i64 i), .sc (.int .i64 j)] M (fun r M' => M = M' ∧ r = .sc (.bool (apF s i j))) := by
  refine VCall.pure fun R hR => v_impl_RulesApart rfl ?_
  have hv0 := hv
  obtain ⟨a, b, rfl, ha, hb⟩ := hv
  unfold apF at hR
  refine sS0 ?_
  intro b3 hb3
  have q3 : (M.set b3 [a, b]) b3 = some [a, b] := set_same
  have s1 : Sub M (M.set b3 [a, b]) := (Sub.refl M).set' hb3
  generalize M.set b3 [a, b] = M1 at *
  refine (t_impSystemValid hv0 hz).mono ?_
  rintro _ _ ⟨rfl, rfl⟩
  cases h1 : sysB s with
  | false =>
    refine sS0 ?_
    exact hR _ _ s1 (by rw [h1]; rfl)
  | true =>
    have hs := (sysB_iff s).1 h1
    have h8 := hs.r8
    refine sS2 @q3 @hb.len ?_
    refine t_in.mono ?_
    rintro _ _ ⟨rfl, rfl⟩
    cases h2 : rOk s i with
    | false =>
      have h2' := h2
      unfold rOk at h2'
      refine sS1 @h2' ?_
      exact hR _ _ s1 (by rw [h1, h2]; rfl)
    | true =>
      have h2' := h2
      unfold rOk at h2'
      refine sS3 @h2' @q3 @hb.len ?_
      refine t_in.mono ?_
      rintro _ _ ⟨rfl, rfl⟩
      cases h3 : rOk s j with
      | false =>
        have h3' := h3
        unfold rOk at h3'
        refine sS1 @h3' ?_
        exact hR _ _ s1 (by rw [h1, h2, h3]; rfl)
      | true =>
        have h3' := h3
        unfold rOk at h3'
        refine sS2 @h3' @q3 ?_
        obtain ⟨i0, i1⟩ := of_decide_eq_true h2'
        obtain ⟨j0, j1⟩ := of_decide_eq_true h3'
        obtain ⟨n, rfl⟩ : ∃ n : Nat, i = n := ⟨i.toNat, by omega⟩
        obtain ⟨m, rfl⟩ : ∃ m : Nat, j = m := ⟨j.toNat, by omega⟩
        have hn : n < s.rules.length := by omega
        have hm : m < s.rules.length := by omega
        refine (t_rulesApart hv0 hs hn hm).mono ?_
        rintro _ _ ⟨rfl, rfl⟩
        refine sS0 ?_
        exact hR _ _ s1 (by rw [h1, h2, h3, ruleAt_eq hn, ruleAt_eq hm]; rfl)
theorem t_l26Apart {v : V} {s : SysS} {i j : Nat} (hv : isSys s v) (h1 : sysB s = true) (hi : i < s.rules.length) (hj : j < s.rules.length) :
    VCall Try.prog n_spec_l26Apart [v, .sc (.int .i64 i), .sc (.int .i64 j)] M (fun r M' => M = M' ∧ r = .sc (.bool (apB s.vars.length s.rules[i] s.rules[j]))) := by
  refine VCall.pure fun R hR => v_spec_l26Apart rfl ?_
  have hs := (sysB_iff s).1 h1
  have hv0 := hv
  obtain ⟨a, b, rfl, ha, hb⟩ := hv
  have h5 := hs.v5
  have hl1 := sets_le (hs.rules _ (List.getElem_mem hi)).2.2 (by omega)
  have hl2 := sets_le (hs.rules _ (List.getElem_mem hj)).2.2 (by omega)
  have t1 : (toF s.vars.length s.rules[i]).length ≤ s.vars.length := selL_len
  have t2 : (toF s.vars.length s.rules[j]).length ≤ s.vars.length := selL_len
  have e1 := touF_yes h1 hi
  have e2 := touF_yes h1 hj
  refine sS0 ?_
  intro b3 hb3
  have q3 : (M.set b3 [a, b]) b3 = some [a, b] := set_same
  have s1 : Sub M (M.set b3 [a, b]) := (Sub.refl M).set' hb3
  generalize M.set b3 [a, b] = M1 at *
  refine (f_TouchedBy hv0).mono ?_
  rintro _ _ ⟨rfl, x, y, rfl, hx, hy⟩
  rw [e1] at hx hy
  refine sS1 @q3 ?_
  refine (f_TouchedBy hv0).mono ?_
  rintro _ _ ⟨rfl, x2, y2, rfl, hx2, hy2⟩
  rw [e2] at hx2 hy2
  simp only at hx hy hx2 hy2
  refine sS0 ?_
  refine (t_l26Meet hx hx2 (by omega) (by omega)).mono ?_
  rintro _ _ ⟨rfl, rfl⟩
  unfold apB at hR
  cases c1 : meetB s.rules[i].sets s.rules[j].sets with
  | true =>
    refine sS0 ?_
    exact hR _ _ s1 (by rw [c1]; rfl)
  | false =>
    refine sS0 ?_
    refine (t_l26Meet hx hy2 (by omega) (by omega)).mono ?_
    rintro _ _ ⟨rfl, rfl⟩
    cases c2 : meetB s.rules[i].sets (toF s.vars.length s.rules[j]) with
    | true =>
      refine sS0 ?_
      exact hR _ _ s1 (by rw [c1, c2]; rfl)
    | false =>
      refine sS0 ?_
      refine (t_l26Meet hx2 hy (by omega) (by omega)).mono ?_
      rintro _ _ ⟨rfl, rfl⟩
      refine sS0 ?_
      refine hR _ _ s1 ?_
      rw [c1, c2]; simp
theorem t_RulesApart {v : V} {s : SysS} {i j : Int} (hv : isSys s v) (hz : SysSz s) :
    VCall Try.prog n_spec_RulesApart [v, .sc (.int .i64 i), .sc (.int .i64 j)] M (fun r M' => M = M' ∧ r = .sc (.bool (apF s i j))) := by
  refine VCall.pure fun R hR => v_spec_RulesApart rfl ?_
  have hv0 := hv
  obtain ⟨a, b, rfl, ha, hb⟩ := hv
  unfold apF at hR
  have h8' := hz.2.1
  refine sS1 @hb.len ?_
  intro b3 hb3
  have q3 : (M.set b3 [a, b]) b3 = some [a, b] := set_same
  have s1 : Sub M (M.set b3 [a, b]) := (Sub.refl M).set' hb3
  generalize M.set b3 [a, b] = M1 at *
  refine (t_SystemValidS hv0).mono ?_
  rintro _ _ ⟨rfl, rfl⟩
  cases h1 : sysB s with
  | false =>
    refine sS0 ?_
    exact hR _ _ s1 (by rw [h1]; rfl)
  | true =>
    have hs := (sysB_iff s).1 h1
    have h8 := hs.r8
    refine sS2 @q3 @hb.len ?_
    refine t_l1In.mono ?_
    rintro _ _ ⟨rfl, rfl⟩
    cases h2 : rOk s i with
    | false =>
      have h2' := h2
      unfold rOk at h2'
      refine sS1 @h2' ?_
      exact hR _ _ s1 (by rw [h1, h2]; rfl)
    | true =>
      have h2' := h2
      unfold rOk at h2'
      refine sS3 @h2' @q3 @hb.len ?_
      refine t_l1In.mono ?_
      rintro _ _ ⟨rfl, rfl⟩
      cases h3 : rOk s j with
      | false =>
        have h3' := h3
        unfold rOk at h3'
        refine sS1 @h3' ?_
        exact hR _ _ s1 (by rw [h1, h2, h3]; rfl)
      | true =>
        have h3' := h3
        unfold rOk at h3'
        refine sS2 @h3' @q3 ?_
        obtain ⟨i0, i1⟩ := of_decide_eq_true h2'
        obtain ⟨j0, j1⟩ := of_decide_eq_true h3'
        obtain ⟨n, rfl⟩ : ∃ n : Nat, i = n := ⟨i.toNat, by omega⟩
        obtain ⟨m, rfl⟩ : ∃ m : Nat, j = m := ⟨j.toNat, by omega⟩
        have hn : n < s.rules.length := by omega
        have hm : m < s.rules.length := by omega
        refine (t_l26Apart hv0 h1 hn hm).mono ?_
        rintro _ _ ⟨rfl, rfl⟩
        refine sS0 ?_
        exact hR _ _ s1 (by rw [h1, h2, h3, ruleAt_eq hn, ruleAt_eq hm]; rfl)
end Go.M2

namespace Go.M2
open Go.Proofs
variable {M : MH}
theorem law_RulesApart {v : V} {s : SysS} {k1 k2 : Int} (hv : isSysX s v) (hl : SysLen s) :
    VCall Try.prog n_laws_FnExactRulesApart [v, .sc (.int .i64 k1), .sc (.int .i64 k2)] M (fun r M' => M = M' ∧ r = .sc (.bool true)) := by
  refine VCall.pure fun R hR => v_laws_FnExactRulesApart rfl ?_
  have hv0 := hv
  obtain ⟨a, b, rfl, ha, hb⟩ := hv
  (repeat' (first | ((with_reducible first | refine cond_dec (fun h => ?_) (fun h => ?_) | refine guardK_dec (fun h => ?_) (fun h => ?_) | refine guardD3_dec (fun h => ?_) (fun h => ?_)) <;> first | (exfalso; omega) | (simp (maxSteps := 2000000) (disch := first | omega | assumption | exact idP rfl | exact idP (bL rfl)) only [go_sem, reduceIte, Nat.reduceEqDiff, wpV_kd, wpV_tH, h]) | skip) | ((with_reducible first | refine cond_split (fun h => ?_) (fun h => ?_) | refine guardK_split (fun h => ?_) (fun h => ?_) | refine guardD3_split (fun h => ?_) (fun h => ?_)) <;> ((try simp only [Bool.not_eq_true', Bool.not_eq_false'] at h); first | (simp (maxSteps := 2000000) (disch := first | omega | assumption | exact idP rfl | exact idP (bL rfl)) only [go_sem, reduceIte, Nat.reduceEqDiff, wpV_kd, wpV_tH, h]) | skip)) | (with_reducible intro bk hbk; try have hnk := (fresh_set hbk).1) | (simp (maxSteps := 2000000) (disch := first | omega | assumption | exact idP rfl | exact idP (bL rfl)) only [go_sem, reduceIte, Nat.reduceEqDiff, wpV_kd, wpV_tH])))
  refine (x_szSystem hv0 hl (by omega) (by omega)).mono ?_
  rintro _ _ ⟨rfl, k, rfl, hk1, hk⟩
  (repeat' (first | ((with_reducible first | refine cond_dec (fun h => ?_) (fun h => ?_) | refine guardK_dec (fun h => ?_) (fun h => ?_) | refine guardD3_dec (fun h => ?_) (fun h => ?_)) <;> first | (exfalso; omega) | (simp (maxSteps := 2000000) (disch := first | omega | assumption | exact idP rfl | exact idP (bL rfl)) only [go_sem, reduceIte, Nat.reduceEqDiff, wpV_kd, wpV_tH, h]) | skip) | ((with_reducible first | refine cond_split (fun h => ?_) (fun h => ?_) | refine guardK_split (fun h => ?_) (fun h => ?_) | refine guardD3_split (fun h => ?_) (fun h => ?_)) <;> ((try simp only [Bool.not_eq_true', Bool.not_eq_false'] at h); first | (simp (maxSteps := 2000000) (disch := first | omega | assumption | exact idP rfl | exact idP (bL rfl)) only [go_sem, reduceIte, Nat.reduceEqDiff, wpV_kd, wpV_tH, h]) | skip)) | (with_reducible intro bk hbk; try have hnk := (fresh_set hbk).1) | (simp (maxSteps := 2000000) (disch := first | omega | assumption | exact idP rfl | exact idP (bL rfl)) only [go_sem, reduceIte, Nat.reduceEqDiff, wpV_kd, wpV_tH])))
  · exact hR _ _ (sB) rfl
  have hf := hk (by omega)
  refine (f_toSystem hv0 hf).mono ?_
  rintro s1 _ ⟨rfl, hs1⟩
  refine sS0 ?_
  refine (t_RulesApart (hz := hf.sz) hs1 ).mono ?_
  rintro _ _ ⟨rfl, rfl⟩
  refine sS0 ?_
  refine (f_toSystem hv0 hf).mono ?_
  rintro s2 _ ⟨rfl, hs2⟩
  have hs20 := hs2
  obtain ⟨a2, b2, rfl, ha2, hb2⟩ := hs2
  refine sS4 ha2.one.1 ha2.one.2 hb2.one.1 hb2.one.2 ?_
  intro b7 hb7
  have n7 := (fresh_set hb7).1
  have o1 := ha2.one.1
  have o2 := hb2.one.1
  refine (t_impRulesApart hs20 hf.sz ).mono ?_
  rintro _ _ ⟨rfl, rfl⟩
  generalize apF s k1 k2 = t
  cases t
  all_goals simp (maxSteps := 2000000) (disch := first | omega | assumption | exact idP rfl | exact idP (bL rfl)) only [go_sem, reduceIte, Nat.reduceEqDiff, wpV_kd, wpV_tH, beq_self_eq_true, Bool.not_true, BEq.rfl]
  all_goals refine (f_toSystem hv0 hf).mono ?_
  all_goals rintro s3 _ ⟨rfl, hs3⟩
  all_goals simp (maxSteps := 2000000) (disch := first | omega | assumption | exact idP rfl | exact idP (bL rfl)) only [go_sem, reduceIte, Nat.reduceEqDiff, wpV_kd, wpV_tH]
  all_goals refine (x_eqSystem hs20 hs3 hf).mono ?_
  all_goals rintro _ _ ⟨rfl, rfl⟩
  all_goals simp (maxSteps := 2000000) (disch := first | omega | assumption | exact idP rfl | exact idP (bL rfl)) only [go_sem, reduceIte, Nat.reduceEqDiff, wpV_kd, wpV_tH]
  all_goals exact hR _ _ (sB) rfl
end Go.M2
