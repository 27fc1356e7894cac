/- Contracts: PastNumbers of the reference. -/
import Derived.Test.YtcoknnjffbipfaaGreatCo6
import Derived.Test.YtcoknnjffbipfaaGreatChecked
set_option linter.unusedVariables false
set_option linter.unusedSimpArgs false
set_option maxRecDepth 10000
set_option maxHeartbeats 4000000
namespace Go.M2
open Go.Proofs
variable {M : MH}
end Go.M2

namespace Go.M2
open Go.Proofs
variable {M : MH}
theorem Mem.snoc1 {M0 M : MH} {b : Nat} {l : List V} {fp : List (Nat × List V)} (h : Mem M0 M fp) (hb : M0 b = none) (hm : M b = some l) (hn : ∀ p ∈ fp, p.1 ≠ b) : Mem M0 M (fp ++ [(b, l)]) := by
  refine ⟨h.sub, fun p hp => ?_, ?_, fun p hp => ?_⟩
  · rcases List.mem_append.1 hp with h1 | h1
    · exact h.new p h1
    · rw [List.mem_singleton] at h1; subst h1; exact hb
  · unfold Nd2
    rw [List.map_append, List.nodup_append]
    refine ⟨h.nd, by simp, fun a ha c hc e => ?_⟩
    obtain ⟨p, hp, rfl⟩ := List.mem_map.1 ha
    simp at hc
    exact hn p hp (by rw [e, hc])
  · rcases List.mem_append.1 hp with h1 | h1
    · exact h.at_ p h1
    · rw [List.mem_singleton] at h1; subst h1; exact hm
structure PT (M M' : MH) (b3 N : Nat) (us : List V) (mm : Nat → Int → Prop) (bd : Nat) : Prop where
  at3 : M' b3 = some us
  len : us.length = N
  sub : Sub M M'
  new : M b3 = none
  rows : ∀ (k : Nat) (u : V), us[k]? = some u → blkV u ≠ some b3 ∧ ∃ ys : List Int, Gr 1 M M' u (ys.map vi) ∧ ys.length ≤ bd ∧ ∀ x, x ∈ ys ↔ mm k x
  dis : ∀ (k k' : Nat) (u u' : V), us[k]? = some u → us[k']? = some u' → k ≠ k' → ∀ b, blkV u = some b → blkV u' ≠ some b
theorem PT.push {M1 M2 : MH} {b3 N k0 : Nat} {us : List V} {mm mm' : Nat → Int → Prop} {bd : Nat} {u s' : V} {ys : List Int} {x : Int} (h : PT M M1 b3 N us mm bd) (hu : us[k0]? = some u) (hys : ys.length ≤ bd) (hym : ∀ z, z ∈ ys ↔ mm k0 z)
    (hg : Gr 1 M M2 s' ((ys ++ [x]).map vi)) (ho : Oth M1 M2 u s') (h0 : ∀ z, mm' k0 z ↔ (mm k0 z ∨ z = x)) (h1 : ∀ k z, k ≠ k0 → (mm' k z ↔ mm k z)) :
    PT M (M2.set b3 (us.set k0 s')) b3 N (us.set k0 s') mm' (bd + 1) := by
  obtain ⟨o1, o2⟩ := ho b3 us h.at3 (h.rows k0 u hu).1
  have hk0 : k0 < us.length := (List.getElem?_eq_some_iff.1 hu).1
  refine ⟨set_same, by rw [List.length_set]; exact h.len, hg.sub.set h.new, h.new, fun k w hw => ?_, fun k k' w w' hw hw' hk => ?_⟩
  · by_cases e : k = k0
    · subst e
      rw [List.getElem?_set_self hk0] at hw
      cases hw
      refine ⟨o2, ys ++ [x], hg.setN h.new o2, by simp; omega, fun z => ?_⟩
      rw [List.mem_append, List.mem_singleton, hym, h0]
    · rw [List.getElem?_set_ne (fun e' => e e'.symm)] at hw
      obtain ⟨q1, zs, q2, q3, q4⟩ := h.rows k w hw
      obtain ⟨r1, r2⟩ := q2.oth (sz' := 1) ho (h.dis k k0 w u hw hu e) hg.sub
      exact ⟨q1, zs, r1.setN h.new q1, by omega, fun z => by rw [q4, h1 k z e]⟩
  · have key : ∀ (j : Nat) (v : V), us[j]? = some v → j ≠ k0 → (∀ b, blkV v = some b → blkV s' ≠ some b) := fun j v hv hj => by
      obtain ⟨q1, zs, q2, q3, q4⟩ := h.rows j v hv
      exact (q2.oth (sz' := 1) ho (h.dis j k0 v u hv hu hj) hg.sub).2
    by_cases e : k = k0
    · subst e
      rw [List.getElem?_set_self hk0] at hw
      cases hw
      rw [List.getElem?_set_ne (fun e' => hk e')] at hw'
      intro b hb hb'
      exact key k' w' hw' (fun e' => hk e'.symm) b hb' hb
    · rw [List.getElem?_set_ne (fun e' => e e'.symm)] at hw
      by_cases e2 : k' = k0
      · subst e2
        rw [List.getElem?_set_self hk0] at hw'
        cases hw'
        exact key k w hw e
      · rw [List.getElem?_set_ne (fun e' => e2 e'.symm)] at hw'
        exact h.dis k k' w w' hw hw' hk
theorem PT.tree {M1 : MH} {b3 N : Nat} {us : List V} {mm : Nat → Int → Prop} {bd : Nat} (h : PT M M1 b3 N us mm bd) : ∀ i, i ≤ N → ∃ us' fp tab', Tr (us.take i) us' fp ∧ Mem M M1 fp ∧ flatL (us.take i) ∧ (∀ q ∈ fp, flatL q.2) ∧ (∀ p ∈ fp, ∃ k u, k < i ∧ us[k]? = some u ∧ blkV u = some p.1) ∧ tab'.length = i ∧ Cs isL us' tab' ∧ ∀ k (hk : k < tab'.length), tab'[k].length ≤ bd ∧ ∀ x, x ∈ tab'[k] ↔ mm k x
  | 0, _ => ⟨[], [], [], .nil, .nil h.sub, by simp [flatL], fun q hq => (by cases hq), fun q hq => (by cases hq), rfl, .nil, fun k hk => (by simp at hk)⟩
  | i + 1, hi => by
    obtain ⟨us', fp, tab', t1, t2, t3, t4, t5, t6, t7, t8⟩ := PT.tree h i (by omega)
    have hiu : i < us.length := by rw [h.len]; omega
    obtain ⟨q1, ys, q2, q3, q4⟩ := h.rows i us[i] (List.getElem?_eq_getElem hiu)
    have hfl : flatL (us.take (i + 1)) := by
      rw [take_one hiu]
      exact flatL_all.2 fun w hw => by
        rcases List.mem_append.1 hw with h1 | h1
        · exact flatL_all.1 t3 w h1
        · rw [List.mem_singleton] at h1; subst h1; exact q2.own.flat
    have props : ∀ k (hk : k < (tab' ++ [ys]).length), (tab' ++ [ys])[k].length ≤ bd ∧ ∀ x, x ∈ (tab' ++ [ys])[k] ↔ mm k x := fun k hk => by
      by_cases e : k < tab'.length
      · rw [List.getElem_append_left e]; exact t8 k e
      · have hk2 : k = i := by simp at hk; omega
        subst hk2
        have hkt : tab'.length = k := t6
        simp only [List.getElem_append_right (show tab'.length ≤ k by omega), hkt, Nat.sub_self, List.getElem_cons_zero]
        exact ⟨q3, q4⟩
    have old : ∀ p ∈ fp, ∃ k u, k < i + 1 ∧ us[k]? = some u ∧ blkV u = some p.1 := fun p hp => by
      obtain ⟨k, u, h1, h2, h3⟩ := t5 p hp
      exact ⟨k, u, by omega, h2, h3⟩
    rcases q2.own with ⟨hy, kk, hu⟩ | ⟨b, n, ex, hu, hm, hl⟩
    · have hy0 : ys = [] := by simpa using hy
      refine ⟨us' ++ [us[i]], fp ++ [], tab' ++ [ys], ?_, by rw [List.append_nil]; exact t2, hfl, by rw [List.append_nil]; exact t4, by rw [List.append_nil]; exact old, by simp [t6], t7.snoc ?_, props⟩
      · rw [take_one hiu]; exact t1.append (.keep _ .nil)
      · rw [hu, hy0]; exact .inl ⟨rfl, kk, rfl⟩
    · have hne : ∀ p ∈ fp, p.1 ≠ b := fun p hp e => by
        obtain ⟨k, u, h1, h2, h3⟩ := t5 p hp
        exact h.dis k i u us[i] h2 (List.getElem?_eq_getElem hiu) (by omega) p.1 h3 (by rw [hu, e]; rfl)
      refine ⟨us' ++ [.fs (some (b, 0)) n n ex 1 ((ys.map vi).drop 0)], fp ++ ((b, ys.map vi) :: ([] ++ [])), tab' ++ [ys], ?_, by simpa using t2.snoc1 (q2.new b (by rw [hu]; rfl)) hm hne, hfl, fun q hq => ?_, fun p hp => ?_, by simp [t6], t7.snoc ?_, props⟩
      · rw [take_one hiu, hu]; exact t1.append (.sl (.refl _) .nil)
      · rcases List.mem_append.1 hq with h1 | h1
        · exact t4 q h1
        · simp at h1; subst h1; exact flatL_vi ys
      · rcases List.mem_append.1 hp with h1 | h1
        · exact old p h1
        · simp at h1; subst h1
          exact ⟨i, us[i], by omega, List.getElem?_eq_getElem hiu, by rw [hu]; rfl⟩
      · exact Fr.li (.inr ⟨_, _, _, _, _, by rw [List.drop_zero], by simpa using hl⟩)
end Go.M2

namespace Go.M2
open Go.Proofs
variable {M : MH}
theorem PT.conv {M1 : MH} {b3 N : Nat} {us : List V} {mm mm' : Nat → Int → Prop} {bd bd' : Nat} (h : PT M M1 b3 N us mm bd) (hb : bd ≤ bd') (hm : ∀ k z, mm' k z ↔ mm k z) : PT M M1 b3 N us mm' bd' :=
  ⟨h.at3, h.len, h.sub, h.new, fun k u hu => by
    obtain ⟨q1, ys, q2, q3, q4⟩ := h.rows k u hu
    exact ⟨q1, ys, q2, by omega, fun x => by rw [q4, hm]⟩, h.dis⟩
def mmP (tab : List (List Int)) (n j k : Nat) (x : Int) : Prop := (∃ q : Nat, q < n ∧ x = (q : Int) ∧ (k : Int) ∈ tab.getD q []) ∨ (x = (n : Int) ∧ (k : Int) ∈ (tab.getD n []).take j)
def isPast (tab tab' : List (List Int)) : Prop := tab'.length = tab.length ∧ ∀ k (hk : k < tab'.length), tab'[k].length ≤ tab.length * 8 ∧ ∀ x, x ∈ tab'[k] ↔ mmP tab tab.length 0 k x
theorem o_pasts {v : V} {tab : List (List Int)} (hv : LII v tab) (hN : tab.length ≤ 400) (htl : ∀ r ∈ tab, r.length ≤ 8 ∧ ∀ x ∈ r, 0 ≤ x ∧ x < (tab.length : Int)) :
    VCall Tryz.prog n_impl_pasts [v] M (fun r M' => ∃ us' fp tab', Tr [r] [us'] fp ∧ Mem M M' fp ∧ flat r ∧ (∀ q ∈ fp, flatL q.2) ∧ LII us' tab' ∧ isPast tab tab') := by
  refine VCall.plain fun R hR => v_impl_pasts rfl ?_
  obtain ⟨N, hNe⟩ : ∃ N, tab.length = N := ⟨_, rfl⟩
  have hvl := hv.len
  rw [hNe] at hvl hN htl
  refine sS1 @hvl ?_
  refine mks3 (by omega) (by simp [mostCells]; omega) (by simp [mostCells]; omega) ?_
  intro b3 hb3
  simp (maxSteps := 2000000) (disch := first | omega | assumption | exact idP rfl | exact idP (bL rfl)) only [go_sem, reduceIte, Nat.reduceEqDiff, wpV_kd, wpV_tH, zeros_nil, hvl]
  refine loop_k (fun e M' => ∃ (n : Nat) (us : List V), n ≤ N ∧ e 3 = .sc (.sl (some (b3, 0)) N N true 1) ∧ e 11 = v ∧ e 12 = .sc (.int .i64 N) ∧ e 13 = .sc (.int .i64 n) ∧ PT M M' b3 N us (mmP tab n 0) (n * 8)) (fun e _ => ctrV N (e 13)) ?_ ?_
  · refine ⟨0, List.replicate N nil1, by omega, sT0, sT0, sT0, by refine sS0 ?_; rfl, ⟨set_same, by simp, (Sub.refl M).set hb3, hb3, fun k u hu => ?_, fun k k' u u' hu hu' hk b hb => ?_⟩⟩
    · obtain ⟨h1, h2⟩ := List.getElem?_eq_some_iff.1 hu
      rw [List.getElem_replicate] at h2
      subst h2
      refine ⟨by simp [nil1, blkV], [], .nil ((Sub.refl M).set hb3), by simp, fun x => ⟨fun h => (by cases h), ?_⟩⟩
      rintro (⟨q, hq, _⟩ | ⟨_, h⟩)
      · omega
      · simp at h
    · obtain ⟨h1, h2⟩ := List.getElem?_eq_some_iff.1 hu
      rw [List.getElem_replicate] at h2
      subst h2
      simp [nil1, blkV] at hb
  · rintro e M1 ⟨n, us, hn, e3, e11, e12, e13, hpt⟩ K hK
    refine sS4 @e3 @e11 @e12 @e13 ?_
    refine cond_dec (fun h => ?_) (fun h => ?_)
    · have hnt : n < tab.length := by omega
      have hrow := hv.elt hnt
      have hri := htl _ (List.getElem_mem hnt)
      have hgd : tab.getD n [] = tab[n] := by simp [List.getD, hnt]
      refine sS6 @e3 @e11 @e12 @e13 @hv.iaddr @hrow.len ?_
      refine loop_k (fun e2 M' => ∃ (j : Nat) (us : List V), j ≤ tab[n].length ∧ e2 3 = .sc (.sl (some (b3, 0)) N N true 1) ∧ e2 4 = .sc (.int .i64 n) ∧ e2 11 = v ∧ e2 12 = .sc (.int .i64 N) ∧ e2 13 = .sc (.int .i64 n) ∧ e2 18 = at1 v n ∧ e2 19 = .sc (.int .i64 tab[n].length) ∧ e2 20 = .sc (.int .i64 j) ∧ PT M M' b3 N us (mmP tab n j) (n * 8 + j)) (fun e2 _ => ctrV tab[n].length (e2 20)) ?_ ?_
      · exact ⟨0, us, by omega, sT1 @e3, sT0, sT1 @e11, sT1 @e12, sT1 @e13, sT0, sT0, by refine sS0 ?_; rfl, hpt⟩
      · rintro e2 M2 ⟨j, us, hj, u3, u4, u11, u12, u13, u18, u19, u20, hp2⟩ K2 hK2
        refine sS8 @u3 @u4 @u11 @u12 @u13 @u18 @u19 @u20 ?_
        refine cond_dec (fun h2 => ?_) (fun h2 => ?_)
        · have hj' : j < tab[n].length := by omega
          have hyj := hri.2 _ (List.getElem_mem hj')
          obtain ⟨y, hy⟩ : ∃ y, tab[n][j] = y := ⟨_, rfl⟩
          rw [hy] at hyj
          have hyN : y.toNat < us.length := by rw [hp2.len]; omega
          have hu : us[y.toNat]? = some us[y.toNat] := List.getElem?_eq_getElem hyN
          obtain ⟨q1, ys, q2, q3, q4⟩ := hp2.rows _ _ hu
          have hat := hrow.at hj'
          rw [hy] at hat
          have hm := hp2.at3
          have ho1 := q2.one.1
          have ho2 := q2.one.2
          simp (maxSteps := 2000000) (disch := first | omega | assumption | exact idP rfl | exact idP (bL rfl)) only [go_sem, reduceIte, Nat.reduceEqDiff, wpV_kd, wpV_tH, u3, u4, u11, u12, u13, u18, u19, u20, hrow.iaddr, hat, hm, hu]
          intro bt hbt
          refine app_int q2 hbt (by omega) (by omega) ?_
          intro s' M' hg' hoth
          obtain ⟨g3', hne'⟩ := hoth b3 _ hm q1
          have ho3 := hg'.one.1
          have ho4 := hg'.one.2
          simp (maxSteps := 2000000) (disch := first | omega | assumption | exact idP rfl | exact idP (bL rfl)) only [go_sem, reduceIte, Nat.reduceEqDiff, wpV_kd, wpV_tH, u3, u4, u11, u12, u13, u18, u19, u20, g3', ho4]
          have hp3 := hp2.push (mm' := mmP tab n (j + 1)) hu q3 q4 hg' hoth (fun z => ?_) (fun k z hk => ?_)
          · refine hK2 _ _ ⟨j + 1, us.set y.toNat s', by omega, sT1 @u3, sT1 @u4, sT1 @u11, sT1 @u12, sT1 @u13, sT1 @u18, sT1 @u19, by refine sS1 @u20 ?_; rfl, by simpa [Nat.add_assoc] using hp3⟩ (by refine sS2 @ctrV_int @u20 ?_; omega)
          · unfold mmP
            rw [hgd, take_snoc hj', List.mem_append, List.mem_singleton, hy, Int.toNat_of_nonneg hyj.1]
            constructor
            · rintro (h3 | ⟨h3, h4 | h4⟩)
              · exact .inl (.inl h3)
              · exact .inl (.inr ⟨h3, h4⟩)
              · exact .inr h3
            · rintro ((h3 | h3) | h3)
              · exact .inl h3
              · exact .inr ⟨h3.1, .inl h3.2⟩
              · exact .inr ⟨h3, .inr rfl⟩
          · unfold mmP
            rw [hgd, take_snoc hj', List.mem_append, List.mem_singleton, hy]
            have : ¬ (k : Int) = y := fun e => hk (by omega)
            constructor
            · rintro (h3 | ⟨h3, h4 | h4⟩)
              · exact .inl h3
              · exact .inr ⟨h3, h4⟩
              · exact absurd h4 this
            · rintro (h3 | h3)
              · exact .inl h3
              · exact .inr ⟨h3.1, .inl h3.2⟩
        · obtain rfl : j = tab[n].length := by omega
          refine sS5 @u3 @u4 @u11 @u12 @u13 ?_
          refine hK _ _ ⟨n + 1, us, by omega, sT1 @u3, sT1 @u11, sT1 @u12, by refine sS1 @u13 ?_; rfl, hp2.conv (by omega) fun k z => ?_⟩ (by refine sS3 @ctrV_int @e13 @u13 ?_; omega)
          unfold mmP
          rw [hgd, List.take_length]
          constructor
          · rintro (⟨q, h3, h4, h5⟩ | ⟨_, h3⟩)
            · by_cases e : q = n
              · subst e; rw [hgd] at h5; exact .inr ⟨h4, h5⟩
              · exact .inl ⟨q, by omega, h4, h5⟩
            · simp at h3
          · rintro (⟨q, h3, h4, h5⟩ | ⟨h3, h4⟩)
            · exact .inl ⟨q, by omega, h4, h5⟩
            · exact .inl ⟨n, by omega, h3, by rw [hgd]; exact h4⟩
    · obtain rfl : n = N := by omega
      refine sS1 @e3 ?_
      obtain ⟨us', fp, tab', t1, t2, t3, t4, t5, t6, t7, t8⟩ := hpt.tree n (Nat.le_refl _)
      rw [List.take_of_length_le (by rw [hpt.len]; exact Nat.le_refl _)] at t1 t3
      have hne : ∀ p ∈ fp, p.1 ≠ b3 := fun p hp e => by
        obtain ⟨k, u, _, h2, h3⟩ := t5 p hp
        exact (hpt.rows k u h2).1 (by rw [h3, e])
      have hul := t1.len
      refine hR _ _ ⟨.fs (some (b3, 0)) n n true 1 (us'.drop 0), (b3, us) :: (fp ++ []), tab', .sl t1 .nil, ?_, by simp [flat], fun q hq => ?_, ?_, by rw [hNe]; exact t6, fun k hk => ?_⟩
      · rw [List.append_nil]
        exact (t2.snoc1 hpt.new hpt.at3 hne).perm (List.perm_append_comm)
      · rw [List.append_nil] at hq
        rcases List.mem_cons.1 hq with rfl | h1
        · exact t3
        · exact t4 q h1
      · exact Fr.lsC (us := us') (.inr ⟨_, _, _, _, _, by rw [List.drop_zero], by rw [hul, hpt.len, Nat.mul_one]⟩) t7
      · rw [hNe]; exact t8 k hk
theorem tabF_8 {s : SysS} (hs : SysOk s) : ∀ r ∈ tabF s, r.length ≤ 8 ∧ ∀ x ∈ r, 0 ≤ x ∧ x < ((tabF s).length : Int) := by
  intro r hr
  refine ⟨?_, (tabF_in hs r hr).2⟩
  obtain ⟨n, hn, rfl⟩ := List.mem_map.1 hr
  simp only [rowF, List.length_map]
  exact nextF_len hs _
end Go.M2

namespace Go.M2
open Go.Proofs
variable {M : MH}
end Go.M2

namespace Go.M2
open Go.Proofs
variable {M : MH}
end Go.M2

namespace Go.M2
open Go.Proofs
variable {M : MH}
end Go.M2

namespace Go.M2
open Go.Proofs
def EV {α : Type} (E : α → List V → Prop) : Heap → α → List AV → Prop := fun H x cs => ∃ vs : List V, erl vs = cs ∧ okL H vs ∧ E x vs
theorem erl_len : ∀ l : List V, (erl l).length = l.length
  | [] => rfl
  | v :: t => by simp only [erl, List.length_cons, erl_len t]
theorem erl_app : ∀ a b : List V, erl (a ++ b) = erl a ++ erl b
  | [], b => rfl
  | v :: t, b => by simp only [List.cons_append, erl, erl_app t b]
theorem okL_app {H : Heap} : ∀ {a b : List V}, okL H a → okL H b → okL H (a ++ b)
  | [], b, _, h => h
  | v :: t, b, h, k => by
    simp only [List.cons_append, okL] at h ⊢
    exact ⟨h.1, okL_app h.2 k⟩
theorem lift_cells {α : Type} {E : α → List V → Prop} {H : Heap} {b sz : Nat} : ∀ {xs : List α} {o : Nat}, (∀ i (h : i < xs.length), ∃ cs, cs.length = sz ∧ Rd H b (o + i * sz) cs ∧ EV E H xs[i] cs) →
    ∃ vs : List V, vs.length = xs.length * sz ∧ Rd H b o (erl vs) ∧ okL H vs ∧ ∀ i (h : i < xs.length), E xs[i] ((vs.drop (i * sz)).take sz)
  | [], o, _ => ⟨[], by simp, Rd.nil _ _ _, by simp [okL], fun i h => by simp at h⟩
  | x :: t, o, h => by
    obtain ⟨cs, h1, h2, us, h3, h4, h5⟩ := h 0 (by simp)
    obtain ⟨vs, k1, k2, k3, k4⟩ := lift_cells (xs := t) (o := o + sz) (E := E) (H := H) (b := b) (sz := sz) (fun i hi => by
      obtain ⟨cs, q1, q2, q3⟩ := h (i + 1) (by simp; omega)
      exact ⟨cs, q1, by rw [show o + sz + i * sz = o + (i + 1) * sz by rw [Nat.succ_mul]; omega]; exact q2, by simpa using q3⟩)
    have hu : us.length = sz := by rw [← erl_len, h3]; exact h1
    refine ⟨us ++ vs, by simp [hu, k1, Nat.succ_mul]; omega, ?_, okL_app h4 k3, fun i hi => ?_⟩
    · intro i y hy
      rw [erl_app] at hy
      by_cases hlt : i < (erl us).length
      · rw [List.getElem?_append_left hlt, h3] at hy
        have := h2 i y hy
        simpa using this
      · rw [List.getElem?_append_right (by omega)] at hy
        have e1 : (erl us).length = sz := by rw [erl_len]; exact hu
        rw [e1] at hy hlt
        have := k2 (i - sz) y hy
        rwa [show o + sz + (i - sz) = o + i by omega] at this
    · cases i with
      | zero => simpa [List.take_left' hu] using h5
      | succ i =>
        have := k4 i (by simpa using hi)
        have e2 : (us ++ vs).drop ((i + 1) * sz) = vs.drop (i * sz) := by
          rw [show (i + 1) * sz = us.length + i * sz by rw [Nat.succ_mul, hu]; omega, List.drop_append]
          simp
        rw [e2]
        simpa using this
theorem lift_slice {α : Type} {E : α → List V → Prop} {H : Heap} {sz : Nat} {v : AV} {xs : List α} (h : InS sz (EV E) H v xs) : ∃ v', er v' = v ∧ okV H v' ∧ In (Lc sz E) v' xs := by
  rcases h with ⟨A, c, ex, k, rfl, h⟩ | ⟨rfl, rfl⟩
  · obtain ⟨vs, h1, h2, h3, h4⟩ := lift_cells h
    exact ⟨.fs A xs.length c ex k vs, rfl, by simp only [okV]; exact ⟨h2, h3⟩, .inl (.inr ⟨A, c, ex, k, vs, rfl, by omega, fun i hi => h4 i hi⟩)⟩
  · exact ⟨.sc .emp, rfl, by simp [okV], .inr ⟨rfl, rfl⟩⟩
def E1 {α : Type} (E : α → V → Prop) : α → List V → Prop := fun a cs => ∃ u, cs = [u] ∧ E a u
theorem lc1_ls {α : Type} {E : α → V → Prop} {v : V} {ys : List α} (h : Lc 1 (E1 E) v ys) : Ls E v ys := by
  rcases h with h | ⟨A, c, ex, k, xs, rfl, hl, h⟩
  · exact .inl h
  · refine .inr ⟨A, c, ex, k, xs, rfl, by omega, fun i hi => ?_⟩
    obtain ⟨u, h1, h2⟩ := h i hi
    have h3 : xs[i]? = some u := by
      have := congrArg (fun l => l[0]?) h1
      simpa [atN, List.getElem?_take, List.getElem?_drop] using this
    have h4 : at1 (.fs A ys.length c ex k xs) i = u := by
      simp [at1, List.getD_eq_getElem?_getD, h3]
    rw [h4]; exact h2
section
open Go.ChangeShapes Go.WideShapes Go.ChangeAt Go.RowKit
variable {HH : Type} {enc : TypeId × Value → HH} {P : Program} {W : World} {t e : TypeId} {fuel : Nat} {cs : List Value} {x : DataW HH × List MemPlace}
def LiftE {α : Type} (W : World) (E : α → List V → Prop) (a : α) (cs : List Value) : Prop := ∃ vs, erl vs = cs.map (avC W.heap.size) ∧ okL (heap0 W) vs ∧ E a vs
theorem in_list {α : Type} {E : α → List V → Prop} {good : α → Prop} {sz : Nat} (ht : P.underlying t = some (.slice e)) (hsz : P.cellsOf e = sz) (h0 : 0 < sz)
    (he : ∀ n cs x, DataW.trod enc P W 0 (fun _ => true) true n e cs = some x → ∃ a, LiftE W E a cs ∧ good a)
    (h : DataW.trod enc P W 0 (fun _ => true) true fuel t cs = some x) : ∃ xs : List α, LiftE W (E1 (fun (ys : List α) u => In (Lc sz E) u ys)) xs cs ∧ (xs.length ≤ 9223372036854775807 ∧ ∀ a ∈ xs, good a) := by
  obtain ⟨v, xs, rfl, h1, h2, h3⟩ := in_slice (E := EV E) (good := good) ht hsz h0 (fun n cs x hx => by
    obtain ⟨a, ⟨vs, h1, h2, h3⟩, h4⟩ := he n cs x hx
    exact ⟨a, ⟨vs, h1, h2, h3⟩, h4⟩) h
  obtain ⟨u, k1, k2, k3⟩ := lift_slice h1
  exact ⟨xs, ⟨[u], by simp [erl, k1], by simp only [okL]; exact ⟨k2, trivial⟩, u, rfl, k3⟩, h3, h2⟩
theorem in_list1 {α : Type} {E : α → V → Prop} {good : α → Prop} (ht : P.underlying t = some (.slice e)) (hsz : P.cellsOf e = 1)
    (he : ∀ n cs x, DataW.trod enc P W 0 (fun _ => true) true n e cs = some x → ∃ a, LiftE W (E1 E) a cs ∧ good a)
    (h : DataW.trod enc P W 0 (fun _ => true) true fuel t cs = some x) : ∃ xs : List α, LiftE W (E1 (fun (ys : List α) u => In (Ls E) u ys)) xs cs ∧ (xs.length ≤ 9223372036854775807 ∧ ∀ a ∈ xs, good a) := by
  obtain ⟨xs, ⟨vs, h1, h2, u, rfl, h3⟩, h4⟩ := in_list ht hsz (by omega) he h
  exact ⟨xs, ⟨[u], h1, h2, u, rfl, h3.imp lc1_ls id⟩, h4⟩
theorem LiftE.one {α : Type} {E : α → V → Prop} {a : α} {c : Value} (h : LiftE W (E1 E) a [c]) : ∃ u, er u = avC W.heap.size c ∧ okV (heap0 W) u ∧ E a u := by
  obtain ⟨vs, h1, h2, u, rfl, h3⟩ := h
  simp only [erl, List.map_cons, List.map_nil, List.cons.injEq, and_true] at h1
  simp only [okL] at h2
  exact ⟨u, h1, h2.1, h3⟩
end
theorem calls_of_vcall {P : Program} {f : FuncId} {vs : List Value} {vv : List V} {W : World} (h : VCall P f vv (fun _ => none) (fun r M' => (fun _ => none) = M' ∧ r = .sc (.bool true)))
    (he : vv.map er = vs.map (avT W.heap.size)) (ho : okL (heap0 W) vv) : Calls P f vs.toArray W (fun e w' => e = .returned (.bool true) ∧ Go.RowKit.Below W.heap.size W w') := by
  refine calls_of_acall ?_
  rw [← he]
  refine (h (heap0 W) (heap0 W) ⟨rfl, fun b _ => .inr rfl, fun b l hb => by cases hb⟩ ho).mono ?_
  rintro a H' ⟨r, M', F', rfl, _, _, _, _, rfl⟩
  rfl
end Go.M2

namespace Go.M2
open Go.Proofs
open Go.ChangeShapes Go.WideShapes Go.ChangeAt Go.RowKit
variable {HH : Type} {enc : TypeId × Value → HH} {W : World} {fuel : Nat} {cs : List Value} {x : DataW HH × List MemPlace}
end Go.M2

namespace Go.M2
open Go.Proofs
open Go.ChangeShapes Go.WideShapes Go.ChangeAt Go.RowKit
variable {M : MH}
variable {HH : Type} {enc : TypeId × Value → HH} {W : World} {fuel : Nat} {cs : List Value} {x : DataW HH × List MemPlace}
end Go.M2

namespace Go.M2
open Go.Proofs
variable {M : MH}
theorem Gr.out {M0 Mb M Mr : MH} {v : V} {us : List V} {fp g : List (Nat × List V)} (h : Gr 1 Mb M v us) (hm : Mem M0 Mb fp) (k : Mem M Mr g) : ∃ Mb', Gr 1 Mb' Mr v us ∧ Mem M0 Mb' (fp ++ g) := by
  have key : Sub Mb (fun i => if blkV v = some i then none else Mr i) := fun i l hi => by
    have hne : blkV v ≠ some i := fun e => by rw [h.new i e] at hi; cases hi
    simp only [hne, if_false]; exact k.sub _ _ (h.sub _ _ hi)
  refine ⟨fun i => if blkV v = some i then none else Mr i, ⟨fun i l hi => ?_, fun b hb => by simp [hb], h.own.sub k.sub⟩, hm.add ⟨key, fun p hp => h.sub.none (k.new p hp), k.nd, fun p hp => ?_⟩⟩
  · have hi : (if blkV v = some i then none else Mr i) = some l := hi
    split at hi
    · cases hi
    · exact hi
  · have hne : blkV v ≠ some p.1 := fun e => by
      have h1 := k.new p hp
      rcases h.own with ⟨rfl, q, rfl⟩ | ⟨b', n, ex, rfl, h2, _⟩
      · simp [blkV] at e
      · simp [blkV] at e; subst e; rw [h1] at h2; cases h2
    simp only [hne, if_false]; exact k.at_ p hp
def RT (M0 M : MH) (v : V) (rows : List (List Int)) : Prop :=
  ∃ us us' fp Mb, Gr 1 Mb M v us ∧ Mem M0 Mb fp ∧ Tr us us' fp ∧ flatL us ∧ (∀ q ∈ fp, flatL q.2) ∧ us.all oneV = true ∧ Cs isL us' rows
section
variable {M0 M1 M2 : MH} {v u : V} {rows : List (List Int)} {ys : List Int}
theorem RT.sub (h : RT M0 M1 v rows) : Sub M0 M1 := by
  obtain ⟨us, us', fp, Mb, hg, hm, _⟩ := h
  exact hm.sub.trans hg.sub
theorem RT.nil {k : Nat} (h : Sub M0 M1) : RT M0 M1 (.sc (.sl none 0 0 true k)) [] := ⟨[], [], [], M1, .nil (Sub.refl _), .nil h, .nil, by simp [flatL], fun q hq => (by cases hq), rfl, .nil⟩
theorem RT.len (h : RT M0 M1 v rows) : lenF (er v) = some (.int .i64 (rows.length : Int)) := by
  obtain ⟨us, us', fp, Mb, hg, hm, ht, _, _, _, hc⟩ := h
  rw [hg.len1, ← hc.1, ht.len]
theorem RT.one (h : RT M0 M1 v rows) : One v := by
  obtain ⟨us, us', fp, Mb, hg, _⟩ := h
  exact hg.one
theorem RT.more (h : RT M0 M1 v rows) (hs : Sub M1 M2) : RT M0 M2 v rows := by
  obtain ⟨us, us', fp, Mb, hg, hm, h⟩ := h
  obtain ⟨Mb', g1, m1⟩ := hg.out hm (Mem.nil hs)
  rw [List.append_nil] at m1
  exact ⟨us, us', fp, Mb', g1, m1, h⟩
theorem RT.base {Mz : MH} (h : RT M0 M1 v rows) (hs : Sub Mz M0) : RT Mz M1 v rows := by
  obtain ⟨us, us', fp, Mb, hg, hm, h⟩ := h
  exact ⟨us, us', fp, Mb, hg, hm.base hs, h⟩
theorem RT.tree (h : RT M0 M1 v rows) : ∃ v' fp, Tr [v] [v'] fp ∧ Mem M0 M1 fp ∧ flat v ∧ (∀ q ∈ fp, flatL q.2) ∧ LII v' rows := by
  obtain ⟨us, us', fp, Mb, hg, hm, ht, hf, hff, _, hc⟩ := h
  rcases hg.own with ⟨rfl, k, rfl⟩ | ⟨b, n, ex, rfl, hb, hl⟩
  · cases ht
    have : rows = [] := List.eq_nil_of_length_eq_zero hc.1.symm
    subst this
    exact ⟨_, [], .refl _, .nil (hm.sub.trans hg.sub), by simp [flat], fun q hq => (by cases hq), .nil⟩
  · have hnew : Mb b = none := hg.new b rfl
    refine ⟨.fs (some (b, 0)) n n ex 1 (us'.drop 0), (b, us) :: (fp ++ []), .sl ht .nil, ?_, by simp [flat], fun q hq => ?_, ?_⟩
    · have k : Mem Mb M1 [(b, us)] := ⟨hg.sub, fun p hp => by simp at hp; subst hp; exact hnew, by simp [Nd2], fun p hp => by simp at hp; subst hp; exact hb⟩
      rw [List.append_nil]
      exact (hm.add k).perm List.perm_append_comm
    · simp only [List.append_nil, List.mem_cons] at hq
      rcases hq with rfl | h1
      · exact hf
      · exact hff q h1
    · have := ht.len
      exact Fr.lsC (us := us') (.inr ⟨_, _, _, _, _, by rw [List.drop_zero], by omega⟩) hc
theorem RT.dn (h : RT M0 M1 v rows) : Dn M0 M1 v (fun u => LII u rows) := h.tree
theorem RT.row (h : RT M0 M1 v rows) {i : Nat} (hi : i < rows.length) : ∃ (us : List V) (u u' : V) (g : List (Nat × List V)), (∀ {k : IntKind} {a : Int}, 0 ≤ a → a < (rows.length : Int) → iaddrV 1 v (.int k a) = some (.sc (.ptr (some (oB v, a.toNat))))) ∧ M1 (oB v) = some us ∧ us[i]? = some u ∧ One u ∧ Tr [u] [u'] g ∧ Nd2 g ∧ (∀ p ∈ g, M1 p.1 = some p.2) ∧ (∀ p ∈ g, M0 p.1 = none) ∧ LI u' rows[i] := by
  obtain ⟨us, us', fp, Mb, hg, hm, ht, hf, hff, ho, hc⟩ := h
  have hul : us.length = rows.length := by rw [← ht.len]; exact hc.1
  have hiu : i < us.length := by omega
  have hsp : us = us.take i ++ (us[i] :: us.drop (i + 1)) := by rw [← List.drop_eq_getElem_cons hiu, List.take_append_drop]
  rw [hsp] at ht
  obtain ⟨a', b', f1, f2, rfl, rfl, t1, t2⟩ := Tr.split (a := us.take i) (b := us[i] :: us.drop (i + 1)) (b' := []) ht
  obtain ⟨x', r', g1, g2, rfl, rfl, t3, t4⟩ := t2.uncons
  have hal : a'.length = i := by rw [t1.len, List.length_take]; omega
  have hmg : Mem M0 Mb g1 := hm.right.left
  have h4 := hc.2 i hi
  rw [List.getElem?_append_right (by omega), hal, Nat.sub_self] at h4
  obtain ⟨w, h5, h6⟩ := h4
  simp only [List.getElem?_cons_zero, Option.some.injEq] at h5
  subst h5
  have o1 := List.all_eq_true.1 ho _ (List.getElem_mem hiu)
  have fl := flatL_all.1 hf _ (List.getElem_mem hiu)
  refine ⟨us, us[i], x', g1, fun h0 h1 => hg.own.iaddr h0 (by rw [hul]; exact h1), hg.at (by omega), List.getElem?_eq_getElem hiu, ⟨o1, ?_⟩, t3, hmg.nd, fun p hp => hg.sub _ _ (hmg.at_ p hp), hmg.new, h6⟩
  rcases t3.inv1 with ⟨h1, h2⟩ | ⟨b, o, n, c, ex, k, cs, cs', g, h0, _⟩ | ⟨a, a', _, h0⟩ | ⟨a, a', _, h0⟩
  · simp only [List.cons.injEq, and_true] at h1
    rw [← h1]; exact h6.one.2
  · rw [h0]; rfl
  · rw [h0] at o1; exact absurd o1 (by simp [oneV, er, oneA])
  · rw [h0] at o1; exact absurd o1 (by simp [oneV, er, oneA])
theorem RT.snoc {s' : V} {M' : MH} {us us' : List V} {fp g : List (Nat × List V)} {u' : V} {Mb' : MH} (h1 : Gr 1 Mb' M' s' (us ++ [u])) (m1 : Mem M0 Mb' (fp ++ g)) (ht : Tr us us' fp) (htu : Tr [u] [u'] g) (hf : flatL us) (hfu : flat u) (hff : ∀ q ∈ fp, flatL q.2) (hfg : ∀ q ∈ g, flatL q.2)
    (ho : us.all oneV = true) (hou : oneV u = true) (hc : Cs isL us' rows) (hu : LI u' ys) : RT M0 M' s' (rows ++ [ys]) := by
  refine ⟨us ++ [u], us' ++ [u'], fp ++ g, Mb', h1, m1, ht.append htu, ?_, ?_, by simp [ho, hou], hc.snoc (x := ys) hu⟩
  · exact flatL_all.2 fun w hw => by
      rcases List.mem_append.1 hw with h2 | h2
      · exact flatL_all.1 hf w h2
      · rw [List.mem_singleton] at h2; subst h2; exact hfu
  · intro w hw
    rcases List.mem_append.1 hw with h2 | h2
    · exact hff w h2
    · exact hfg w h2
end
end Go.M2

namespace Go.M2
open Go.Proofs
variable {M : MH}
end Go.M2

namespace Go.M2
open Go.Proofs
variable {M : MH}
end Go.M2

namespace Go.M2
open Go.Proofs
variable {M : MH}
theorem Tr.one1 {u u' : V} {g : List (Nat × List V)} (h : Tr [u] [u'] g) (h' : One u') : One u := by
  obtain ⟨h1, h2⟩ := h'
  rcases h.inv1 with ⟨h3, _⟩ | ⟨b, o, n, c, ex, k, cs, cs', g, rfl, _⟩ | ⟨a, a', h3, _⟩ | ⟨a, a', h3, _⟩
  · simp only [List.cons.injEq, and_true] at h3
    rw [← h3]; exact ⟨h1, h2⟩
  · exact ⟨rfl, rfl⟩
  · simp only [List.cons.injEq, and_true] at h3
    rw [h3] at h1; exact absurd h1 (by simp [oneV, er, oneA])
  · simp only [List.cons.injEq, and_true] at h3
    rw [h3] at h1; exact absurd h1 (by simp [oneV, er, oneA])
def RdI (M : MH) (v : V) (xs : List Int) : Prop := ∃ v' g, Tr [v] [v'] g ∧ Nd2 g ∧ (∀ p ∈ g, M p.1 = some p.2) ∧ LI v' xs
theorem RdI.of {v : V} {xs : List Int} (h : LI v xs) : RdI M v xs := ⟨v, [], .refl _, List.nodup_nil, fun p hp => (by cases hp), h⟩
theorem RdI.more {M' : MH} {v : V} {xs : List Int} (h : RdI M v xs) (hs : Sub M M') : RdI M' v xs := by
  obtain ⟨v', g, h1, h2, h3, h4⟩ := h
  exact ⟨v', g, h1, h2, fun p hp => hs _ _ (h3 p hp), h4⟩
theorem RdI.one {v : V} {xs : List Int} (h : RdI M v xs) : One v := by
  obtain ⟨v', g, h1, h2, h3, h4⟩ := h
  exact h1.one1 h4.one
theorem Dn.rdI {M0 : MH} {v : V} {xs : List Int} (h : Dn M0 M v (fun u => LI u xs)) : RdI M v xs := by
  obtain ⟨v', g, h1, h2, h3, h4, h5⟩ := h
  exact ⟨v', g, h1, h2.nd, h2.at_, h5⟩
theorem RdI.len {v : V} {xs : List Int} (h : RdI M v xs) : lenF (er v) = some (.int .i64 (xs.length : Int)) := by
  obtain ⟨v', g, h1, h2, h3, h4⟩ := h
  have hl := h4.len
  rcases h1.inv1 with ⟨h5, _⟩ | ⟨b, o, n, c, ex, k, cs, cs', g, rfl, h5, _⟩ | ⟨a, a', h5, rfl⟩ | ⟨a, a', h5, rfl⟩
  · simp only [List.cons.injEq, and_true] at h5
    rw [← h5]; exact hl
  · simp only [List.cons.injEq, and_true] at h5
    rw [h5] at hl; exact hl
  · simp only [List.cons.injEq, and_true] at h5
    rw [h5] at hl; simp [er, lenF] at hl
  · simp only [List.cons.injEq, and_true] at h5
    rw [h5] at hl; simp [er, lenF] at hl
theorem RT.rdI {M0 M1 : MH} {v u : V} {us : List V} {rows : List (List Int)} (h : RT M0 M1 v rows) {i : Nat} (hi : i < rows.length) (hm : M1 (oB v) = some us) (hu : us[i]? = some u) : RdI M1 u rows[i] := by
  obtain ⟨us2, u2, u', g, _, h1, h2, _, h3, h4, h5, _, h6⟩ := h.row hi
  rw [hm] at h1; cases h1
  rw [hu] at h2; cases h2
  exact ⟨u', g, h3, h4, h5, h6⟩
theorem RT.cell {M0 M1 : MH} {v : V} {rows : List (List Int)} (h : RT M0 M1 v rows) (hl : 0 < rows.length) : ∃ us, M1 (oB v) = some us ∧ us.length = rows.length ∧ ∀ i (h : i < rows.length), ∃ u, us[i]? = some u ∧ RdI M1 u rows[i] := by
  have h0 := h
  obtain ⟨us, us', fp, Mb, hg, hm, ht, hf, hff, ho, hc⟩ := h0
  have hul : us.length = rows.length := by rw [← ht.len]; exact hc.1
  have hat : M1 (oB v) = some us := hg.at (by omega)
  exact ⟨us, hat, hul, fun i hi => ⟨us[i]'(by omega), List.getElem?_eq_getElem (by omega), h.rdI hi hat (List.getElem?_eq_getElem (by omega))⟩⟩
theorem RT.iaddr {M0 M1 : MH} {v : V} {rows : List (List Int)} (h : RT M0 M1 v rows) {k : IntKind} {a : Int} (h0 : 0 ≤ a) (h1 : a < (rows.length : Int)) : iaddrV 1 v (.int k a) = some (.sc (.ptr (some (oB v, a.toNat)))) := by
  obtain ⟨us, us', fp, Mb, hg, hm, ht, hf, hff, ho, hc⟩ := h
  have hul : us.length = rows.length := by rw [← ht.len]; exact hc.1
  exact hg.own.iaddr h0 (by rw [hul]; exact h1)
end Go.M2

namespace Go.M2
open Go.Proofs
variable {M : MH}
def FrStep (s : SysS) (p f : List Int) : Prop := SetOk (sizeF s.vars) f ∧ (∀ x ∈ p, x ∈ f) ∧ (∀ x ∈ nextN s p, x ∈ f)
def FrOk (s : SysS) (fs : List (List Int)) : Prop := SysOk s ∧ 1 ≤ fs.length ∧ fs.length ≤ 30 ∧ fs[0]? = some [firstN s] ∧ ∀ i (h : i + 1 < fs.length), FrStep s fs[i] fs[i + 1]
noncomputable def frB (s : SysS) (fs : List (List Int)) : Bool := @decide (FrOk s fs) (Classical.propDecidable _)
end Go.M2

namespace Go.M2
open Go.Proofs
variable {M : MH}
end Go.M2

namespace Go.M2
open Go.Proofs
variable {M : MH}
theorem t_wcInts {v w : V} {xs ys : List Int} (hv : LI v xs) (hw : LI w ys) (hl : xs.length ≤ 1048576) : VCall Tryz.prog n_laws_wcInts [v, w] M (fun r M' => M = M' ∧ r = .sc (.bool (decide (xs = ys)))) := by
  refine VCall.pure fun R hR => v_laws_wcInts rfl ?_
  refine sS2 @hv.len @hw.len ?_
  refine cond_dec (fun h => ?_) (fun h => ?_)
  · refine sS0 ?_
    refine hR _ _ (Sub.refl _) (by rw [decide_eq_false]; intro e; rw [e] at h; exact h rfl)
  · have hlen : xs.length = ys.length := by omega
    refine sS1 @hv.len ?_
    refine loop_k (fun e M' => M' = M ∧ ∃ i : Nat, i ≤ xs.length ∧ e 1 = w ∧ e 12 = v ∧ e 13 = .sc (.int .i64 xs.length) ∧ e 14 = .sc (.int .i64 (i : Int)) ∧ ∀ j (h1 : j < xs.length) (h2 : j < ys.length), j < i → xs[j] = ys[j]) (fun e _ => ctrV xs.length (e 14)) ?_ ?_
    · exact ⟨rfl, 0, by omega, sE0, sE0, sE0, sE0, fun j _ _ h => by omega⟩
    · rintro e _ ⟨rfl, i, hi, q1, q12, q13, q14, hj⟩ K hK
      refine sS4 @q1 @q12 @q13 @q14 ?_
      refine cond_dec (fun h2 => ?_) (fun h2 => ?_)
      · have hi' : i < xs.length := by omega
        have hi2 : i < ys.length := by omega
        simp (maxSteps := 2000000) (disch := first | omega | assumption | exact idP rfl | exact idP (bL rfl)) only [go_sem, reduceIte, Nat.reduceEqDiff, wpV_kd, wpV_tH, q1, q12, q13, q14, hv.iaddr, hv.at hi', hw.iaddr, hw.at hi2]
        refine cond_dec (fun h3 => ?_) (fun h3 => ?_)
        · refine sS0 ?_
          refine hR _ _ (Sub.refl _) (by rw [decide_eq_false]; intro e; subst e; exact h3 rfl)
        · refine sS4 @q1 @q12 @q13 @q14 ?_
          refine hK _ _ ⟨rfl, i + 1, by omega, sE0, sE0, sE0, sE0, fun j h4 h5 h6 => ?_⟩ (by refine sS2 @ctrV_int @q14 ?_; omega)
          by_cases e : j = i
          · subst e; omega
          · exact hj j h4 h5 (by omega)
      · refine sS0 ?_
        refine hR _ _ (Sub.refl _) (by rw [decide_eq_true]; exact List.ext_getElem hlen fun j h4 h5 => hj j h4 h5 (by omega))
theorem t_wcHas {v : V} {xs : List Int} {n : Int} (hv : LI v xs) (hl : xs.length ≤ 1048576) : VCall Tryz.prog n_laws_wcHas [v, .sc (.int .i64 n)] M (fun r M' => M = M' ∧ r = .sc (.bool (decide (n ∈ xs)))) := by
  refine VCall.pure fun R hR => v_laws_wcHas rfl ?_
  refine sS1 @hv.len ?_
  refine loop_k (fun e M' => M' = M ∧ ∃ i : Nat, i ≤ xs.length ∧ e 1 = .sc (.int .i64 n) ∧ e 7 = v ∧ e 8 = .sc (.int .i64 xs.length) ∧ e 9 = .sc (.int .i64 (i : Int)) ∧ ∀ j (h1 : j < xs.length), j < i → xs[j] ≠ n) (fun e _ => ctrV xs.length (e 9)) ?_ ?_
  · exact ⟨rfl, 0, by omega, sE0, sE0, sE0, sE0, fun j _ h => by omega⟩
  · rintro e _ ⟨rfl, i, hi, q1, q7, q8, q9, hj⟩ K hK
    refine sS4 @q1 @q7 @q8 @q9 ?_
    refine cond_dec (fun h2 => ?_) (fun h2 => ?_)
    · have hi' : i < xs.length := by omega
      simp (maxSteps := 2000000) (disch := first | omega | assumption | exact idP rfl | exact idP (bL rfl)) only [go_sem, reduceIte, Nat.reduceEqDiff, wpV_kd, wpV_tH, q1, q7, q8, q9, hv.iaddr, hv.at hi']
      refine cond_dec (fun h3 => ?_) (fun h3 => ?_)
      · refine sS0 ?_
        exact hR _ _ (Sub.refl _) (by rw [decide_eq_true]; rw [← h3]; exact List.getElem_mem hi')
      · refine sS4 @q1 @q7 @q8 @q9 ?_
        refine hK _ _ ⟨rfl, i + 1, by omega, sE0, sE0, sE0, sE0, fun j h4 h6 => ?_⟩ (by refine sS2 @ctrV_int @q9 ?_; omega)
        by_cases e : j = i
        · subst e; exact h3
        · exact hj j h4 (by omega)
    · refine sS0 ?_
      refine hR _ _ (Sub.refl _) (by rw [decide_eq_false]; intro hm; obtain ⟨j, h4, h5⟩ := List.getElem_of_mem hm; exact hj j h4 (by omega) h5)
theorem t_impSizeOf {v : V} {s : SysS} (hv : isSys s v) (hz : SysSz s) : VCall Tryz.prog n_impl_SizeOf [v] M (fun r M' => M = M' ∧ r = .sc (.int .i64 (sizeB s))) := by
  refine VCall.pure fun R hR => v_impl_SizeOf rfl ?_
  have hv0 := hv
  obtain ⟨a, b, rfl, ha, hb⟩ := hv
  (repeat' (first | ((with_reducible first | refine cond_dec (fun h => ?_) (fun h => ?_) | refine guardK_dec (fun h => ?_) (fun h => ?_) | refine guardD3_dec (fun h => ?_) (fun h => ?_)) <;> first | (exfalso; omega) | (simp (maxSteps := 2000000) (disch := first | omega | assumption | exact idP rfl | exact idP (bL rfl)) only [go_sem, reduceIte, Nat.reduceEqDiff, wpV_kd, wpV_tH, h]) | skip) | ((with_reducible first | refine cond_split (fun h => ?_) (fun h => ?_) | refine guardK_split (fun h => ?_) (fun h => ?_) | refine guardD3_split (fun h => ?_) (fun h => ?_)) <;> ((try simp only [Bool.not_eq_true', Bool.not_eq_false'] at h); first | (simp (maxSteps := 2000000) (disch := first | omega | assumption | exact idP rfl | exact idP (bL rfl)) only [go_sem, reduceIte, Nat.reduceEqDiff, wpV_kd, wpV_tH, h]) | skip)) | ((with_reducible refine (t_impSystemValid hv0 hz).mono ?_); rintro _ _ ⟨rfl, rfl⟩) | (with_reducible intro bk hbk; try have hnk := (fresh_set hbk).1) | (simp (maxSteps := 2000000) (disch := first | omega | assumption | exact idP rfl | exact idP (bL rfl)) only [go_sem, reduceIte, Nat.reduceEqDiff, wpV_kd, wpV_tH])))
  · exact hR _ _ (sB) (by simp [sizeB, h])
  · have hs := (sysB_iff s).1 h
    refine (t_impSize ha hs.vars hs.v5).mono ?_
    rintro _ _ ⟨rfl, rfl⟩
    refine sS0 ?_
    exact hR _ _ (sB) (by simp [sizeB, h])
end Go.M2

namespace Go.M2
open Go.Proofs
variable {M : MH}
inductive Bk (tab : List (List Int)) (st : Nat → Prop) : Nat → Prop
  | base {i : Nat} : st i → Bk tab st i
  | step {i : Nat} {x : Int} : x ∈ tab.getD i [] → Bk tab st x.toNat → Bk tab st i
noncomputable def bkB (tab : List (List Int)) (st : Nat → Prop) (i : Nat) : Bool := @decide (Bk tab st i) (Classical.propDecidable _)
theorem bkB_iff {tab : List (List Int)} {st : Nat → Prop} {i : Nat} : bkB tab st i = true ↔ Bk tab st i := by unfold bkB; exact @decide_eq_true_iff _ (Classical.propDecidable _)
def TurnOf (tab tab' : List (List Int)) : Prop := tab'.length = tab.length ∧ ∀ (k : Nat) (x : Int), x ∈ tab'.getD k [] ↔ k < tab.length ∧ ∃ q : Nat, q < tab.length ∧ x = (q : Int) ∧ (k : Int) ∈ tab.getD q []
def TabIn (tab : List (List Int)) : Prop := ∀ (i : Nat), ∀ x ∈ tab.getD i [], 0 ≤ x ∧ x < (tab.length : Int)
section
variable {tab tab' : List (List Int)} {st : Nat → Prop} {i : Nat}
theorem getD_lt {i : Nat} {x : Int} (h : x ∈ tab.getD i []) : i < tab.length := by
  rcases Nat.lt_or_ge i tab.length with h1 | h1
  · exact h1
  · simp [List.getD, List.getElem?_eq_none h1] at h
theorem turn_bk (ht : TurnOf tab tab') (hin : TabIn tab) : Rch tab' st i ↔ Bk tab st i := by
  constructor
  · intro h
    induction h with
    | base h => exact .base h
    | @step i x _ hx ih =>
      obtain ⟨h1, q, h2, rfl, h3⟩ := (ht.2 i x).1 hx
      exact .step h3 (by simpa using ih)
  · intro h
    induction h with
    | base h => exact .base h
    | @step i x hx _ ih =>
      have h1 := hin i x hx
      have h2 := getD_lt hx
      have := Rch.step (x := (i : Int)) ih ((ht.2 x.toNat i).2 ⟨by omega, i, h2, rfl, by rw [Int.toNat_of_nonneg h1.1]; exact hx⟩)
      simpa using this
theorem turn_in (ht : TurnOf tab tab') : TabIn tab' := fun i x hx => by
  obtain ⟨_, q, h2, rfl, _⟩ := (ht.2 i x).1 hx
  rw [ht.1]; omega
theorem Rch.trans {a b c : Nat} (h1 : Rch tab (fun i => i = a) b) (h2 : Rch tab (fun i => i = b) c) : Rch tab (fun i => i = a) c := by
  induction h2 with
  | base h => rw [h]; exact h1
  | step _ hx ih => exact .step ih hx
theorem bk_rch : Bk tab st i ↔ ∃ n, Rch tab (fun k => k = i) n ∧ st n := by
  constructor
  · intro h
    induction h with
    | @base i h => exact ⟨i, .base rfl, h⟩
    | @step i x hx _ ih =>
      obtain ⟨n, h1, h2⟩ := ih
      exact ⟨n, Rch.trans (.step (.base rfl) hx) h1, h2⟩
  · rintro ⟨n, h1, h2⟩
    have key : ∀ n, Rch tab (fun k => k = i) n → Bk tab st n → Bk tab st i := fun n h => by
      induction h with
      | base h => intro hb; rw [← h]; exact hb
      | step _ hx ih => intro hb; exact ih (.step hx hb)
    exact key n h1 (.base h2)
end
def tuF (tab : List (List Int)) : List (List Int) := (List.range tab.length).map fun n : Nat => selL tab.length fun m => decide ((n : Int) ∈ tab.getD m [])
theorem tuF_len (tab : List (List Int)) : (tuF tab).length = tab.length := by simp [tuF]
theorem tuF_get {tab : List (List Int)} {n : Nat} (h : n < (tuF tab).length) : (tuF tab)[n] = selL tab.length fun m => decide ((n : Int) ∈ tab.getD m []) := by simp [tuF]
theorem tuF_turn (tab : List (List Int)) : TurnOf tab (tuF tab) := by
  refine ⟨tuF_len tab, fun k x => ?_⟩
  rcases Nat.lt_or_ge k tab.length with h | h
  · have hk : k < (tuF tab).length := by rw [tuF_len]; exact h
    have e : (tuF tab).getD k [] = (tuF tab)[k] := by simp [List.getD, hk]
    rw [e, tuF_get, mem_selL]
    simp only [decide_eq_true_eq, h, true_and]
    exact ⟨fun ⟨q, h1, h2, h3⟩ => ⟨q, h1, h3.symm, h2⟩, fun ⟨q, h1, h3, h2⟩ => ⟨q, h1, h2, h3.symm⟩⟩
  · have e : (tuF tab).getD k [] = [] := by simp [List.getD, List.getElem?_eq_none (show (tuF tab).length ≤ k by rw [tuF_len]; exact h)]
    rw [e]
    simp
    omega
theorem past_turn {tab tab' : List (List Int)} (h : isPast tab tab') : TurnOf tab tab' := by
  obtain ⟨h1, h2⟩ := h
  refine ⟨h1, fun k x => ?_⟩
  rcases Nat.lt_or_ge k tab.length with hk | hk
  · have hk' : k < tab'.length := by omega
    have e : tab'.getD k [] = tab'[k] := by simp [List.getD, hk']
    rw [e, (h2 k hk').2 x]
    unfold mmP
    simp only [hk, true_and, List.take_zero, List.not_mem_nil, and_false, or_false]
  · have e : tab'.getD k [] = [] := by simp [List.getD, List.getElem?_eq_none (show tab'.length ≤ k by omega)]
    rw [e]
    simp
    omega
theorem tabF_TabIn {s : SysS} (hs : SysOk s) : TabIn (tabF s) := fun i x hx => by
  have h1 := getD_lt hx
  have e : (tabF s).getD i [] = (tabF s)[i] := by simp [List.getD, h1]
  rw [e] at hx
  exact (tabF_in hs _ (List.getElem_mem h1)).2 x hx
noncomputable def canS (s : SysS) (xs : List Int) : List Int := if setV s xs = true then selL (tabF s).length (bkB (tabF s) fun i => (i : Int) ∈ xs) else []
theorem canS_len {s : SysS} {xs : List Int} : (canS s xs).length ≤ 400 := by
  unfold canS
  split
  · rename_i h
    have := (setV_iff.1 h).1.sz
    have htl := tabF_len s
    exact Nat.le_trans selL_len (by omega)
  · simp
end Go.M2

namespace Go.M2
open Go.Proofs
variable {M : MH}
theorem selL_snoc {n : Nat} {p : Nat → Bool} (h : p n = true) : selL (n + 1) p = selL n p ++ [(n : Int)] := by rw [selL_succ, if_pos h]
theorem selL_skip {n : Nat} {p : Nat → Bool} (h : p n = false) : selL (n + 1) p = selL n p := by rw [selL_succ, if_neg (by rw [h]; simp)]
theorem t_l5Turned {v : V} {tab : List (List Int)} (hv : LII v tab) (hN : tab.length ≤ 1048576) (htl : ∀ r ∈ tab, r.length ≤ 1048576) :
    VCall Tryz.prog n_spec_l5Turned [v] M (fun r M' => ∃ us, Gr 1 M M' r us ∧ Cs isL us (tuF tab)) := by
  refine VCall.plain fun R hR => v_spec_l5Turned rfl ?_
  have htul := tuF_len tab
  refine sS0 ?_
  intro b3 hb3
  refine loop_k (fun e M' => ∃ (n : Nat) (us : List V), n ≤ tab.length ∧ e 0 = v ∧ e 4 = .sc (.int .i64 (n : Int)) ∧ Gr 1 M M' (e 3) us ∧ Cs isL us ((tuF tab).take n)) (fun e _ => ctrV tab.length (e 4)) ?_ ?_
  · exact ⟨0, [], by omega, sE0, sE0, by refine sS0 ?_; exact Gr.new' (Sub.refl _) hb3 rfl, .nil⟩
  · rintro e M1 ⟨n, us, hn, q0, q4, hg, hc⟩ K hK
    have hul := hc.1
    rw [List.length_take, htul] at hul
    refine sS3 @q0 @q4 @hv.len ?_
    refine cond_dec (fun h => ?_) (fun h => ?_)
    · have hn' : n < tab.length := by omega
      refine sS2 @q0 @q4 ?_
      intro b5 hb5
      refine loop_k (fun e' M' => ∃ i : Nat, i ≤ tab.length ∧ e' 0 = v ∧ e' 3 = e 3 ∧ e' 4 = .sc (.int .i64 (n : Int)) ∧ e' 6 = .sc (.int .i64 (i : Int)) ∧ Gr 1 M1 M' (e' 5) ((selL i fun m => decide ((n : Int) ∈ tab.getD m [])).map vi)) (fun e' _ => ctrV tab.length (e' 6)) ?_ ?_
      · exact ⟨0, by omega, sE1 @q0, sE0, sE1 @q4, sE0, by refine sS0 ?_; exact Gr.new' (Sub.refl _) hb5 rfl⟩
      · rintro e' M2 ⟨i, hi, f0, f3, f4, f6, hg2⟩ K2 hK2
        have hsl : (selL i fun m => decide ((n : Int) ∈ tab.getD m [])).length ≤ i := selL_len
        refine sS5 @f0 @f3 @f4 @f6 @hv.len ?_
        refine cond_dec (fun h2 => ?_) (fun h2 => ?_)
        · have hi' : i < tab.length := by omega
          have hgd : tab.getD i [] = tab[i] := by simp [List.getD, hi']
          refine sS5 @f0 @f3 @f4 @f6 @hv.iaddr ?_
          refine (t_l2Has (hv.elt hi') (htl _ (List.getElem_mem hi'))).mono ?_
          rintro _ _ ⟨rfl, rfl⟩
          refine sS0 ?_
          refine cond_dec (fun h3 => ?_) (fun h3 => ?_)
          · refine sS4 @f0 @f3 @f4 @f6 ?_
            intro bt hbt
            refine app_int hg2 hbt (by omega) (by omega) ?_
            intro s' M' hg' _
            refine sS0 ?_
            refine hK2 _ _ ⟨i + 1, by omega, sE0, sE0, sE0, sE0, ?_⟩ (by refine sS2 @ctrV_int @f6 ?_; omega)
            refine sS0 ?_
            rw [selL_snoc (by rw [hgd]; simpa using h3)]
            exact hg'
          · refine sS4 @f0 @f3 @f4 @f6 ?_
            refine hK2 _ _ ⟨i + 1, by omega, sE0, sE0, sE0, sE0, ?_⟩ (by refine sS2 @ctrV_int @f6 ?_; omega)
            refine sS0 ?_
            rw [selL_skip (by rw [hgd]; simpa using h3)]
            exact hg2
        · obtain rfl : i = tab.length := by omega
          have ho := hg2.one
          have ho1 := ho.1
          refine sS5 @f0 @f3 @f4 ho.1 ho.2 ?_
          intro bt hbt
          refine app_row hg hg2 hbt (by omega) (by omega) ?_
          intro s' M' u hg' hu
          refine sS0 ?_
          refine hK _ _ ⟨n + 1, _, by omega, sE0, sE0, by refine sS0 ?_; exact hg', ?_⟩ (by refine sS2 @ctrV_int @q4 ?_; omega)
          rw [take_snoc (by rw [htul]; exact hn'), tuF_get]
          exact hc.snoc hu.li
    · obtain rfl : n = tab.length := by omega
      rw [List.take_of_length_le (by rw [htul]; exact Nat.le_refl _)] at hc
      refine sS0 ?_
      exact hR _ _ ⟨us, hg, hc⟩
theorem f_l5Turned {v : V} {tab : List (List Int)} (hv : LII v tab) (hN : tab.length ≤ 1048576) (htl : ∀ r ∈ tab, r.length ≤ 1048576) : VCall Tryz.prog n_spec_l5Turned [v] M (fun r M' => M = M' ∧ LII r (tuF tab)) :=
  (VCall.fr (t_l5Turned hv hN htl) fun _ _ _ h => h).mono fun r M' ⟨h, c, hf, hc⟩ => ⟨h, hf.lsC hc⟩
theorem Rch.none {tab : List (List Int)} {st : Nat → Prop} (h : ∀ i, ¬ st i) {i : Nat} : ¬ Rch tab st i := fun hr => by
  induction hr with
  | base h1 => exact h _ h1
  | step _ _ ih => exact ih
theorem t_reachX {v w : V} {tab : List (List Int)} {xs : List Int} (hv : LII v tab) (hw : LI w xs) (hnn : NN w xs) (hN : tab.length ≤ 1048576) (hl : xs.length ≤ 1048576)
    (hin : ∀ x ∈ xs, 0 ≤ x ∧ x < (tab.length : Int)) (htl : ∀ r ∈ tab, r.length ≤ 1048576 ∧ ∀ x ∈ r, 0 ≤ x ∧ x < (tab.length : Int)) :
    VCall Tryz.prog n_impl_reach [v, w] M (fun r M' => Gr 1 M M' r ((mkL tab.length (rB tab fun i => (i : Int) ∈ xs)).map vb)) := by
  by_cases h0 : 0 < xs.length
  · exact t_reach hv hw (hnn h0) hN hl h0 hin htl
  · have hx : xs = [] := List.eq_nil_of_length_eq_zero (by omega)
    subst hx
    have hcl : VCall Tryz.prog n_slices_Clone_Sint_int [w] (M := M) = VCall Tryz.prog n_slices_Clone_Sint_int [w] (M := M) := rfl
    refine VCall.plain fun R hR => v_impl_reach rfl ?_
    refine sS1 @hv.len ?_
    refine mks3 (by omega) (by simp [mostCells]; omega) (by simp [mostCells]; omega) ?_
    intro b5 hb5
    simp (maxSteps := 2000000) (disch := first | omega | assumption | exact idP rfl | exact idP (bL rfl)) only [go_sem, reduceIte, Nat.reduceEqDiff, wpV_kd, wpV_tH, zeros_vb', mkL_none]
    have key : ∀ M1 : MH, VCall Tryz.prog n_slices_Clone_Sint_int [w] M1 (fun r M' => M' = M1 ∧ r = .sc (.sl none 0 0 true 0) ∨ Gr 1 M1 M' r []) := fun M1 => by
      rcases hb : isNilF .sl (er w) with _ | nb
      · rcases hw with ⟨_, k, rfl⟩ | ⟨A, c, ex, k, cs, rfl, _⟩
        · cases hb
        · cases A <;> cases hb
      · cases nb with
        | false => exact (t_Clone hw hb hl).mono fun r M' h => .inr h
        | true =>
          refine VCall.plain fun R hR => v_slices_Clone_Sint_int rfl ?_
          refine sS1 @hb ?_
          exact hR _ _ (.inl ⟨rfl, rfl⟩)
    refine (key _).mono ?_
    rintro q M1 hq
    have hql : lenF (er q) = some (.int .i64 0) := by
      rcases hq with ⟨_, rfl⟩ | hq
      · rfl
      · exact hq.len1
    have hsub : Sub (M.set b5 ((mkL tab.length fun _ => false).map vb)) M1 := by
      rcases hq with ⟨rfl, _⟩ | hq
      · exact Sub.refl _
      · exact hq.sub
    refine sS1 @hw.len ?_
    refine loop_k (fun e M' => M1 = M' ∧ e 0 = v ∧ e 5 = .sc (.sl (some (b5, 0)) tab.length tab.length true 1) ∧ e 6 = q ∧ e 18 = .sc (.int .i64 0) ∧ e 19 = .sc (.int .i64 0)) (fun e _ => 0) ?_ ?_
    · exact ⟨rfl, sE0, sE0, sE0, sE0, sE0⟩
    · rintro e _ ⟨rfl, q0, q5, q6, q18, q19⟩ K hK
      refine sS5 @q0 @q5 @q6 @q18 @q19 ?_
      refine loop_k (fun e M' => M1 = M' ∧ e 5 = .sc (.sl (some (b5, 0)) tab.length tab.length true 1) ∧ e 6 = q) (fun e _ => 0) ?_ ?_
      · exact ⟨rfl, sE1 @q5, sE1 @q6⟩
      · rintro e _ ⟨rfl, q5, q6⟩ K hK
        refine sS3 @q5 @q6 @hql ?_
        have hg : Gr 1 M (M.set b5 ((mkL tab.length fun _ => false).map vb)) (.sc (.sl (some (b5, 0)) tab.length tab.length true 1)) ((mkL tab.length fun _ => false).map vb) := Gr.new' (Sub.refl M) hb5 (by rw [len_vb', mkL_len]; omega)
        refine hR _ _ ?_
        rw [mkL_ext (q := fun _ => false) (fun i _ => by cases hr : rB tab (fun i : Nat => (i : Int) ∈ ([] : List Int)) i with | false => rfl | true => exact absurd (rB_iff.1 hr) (Rch.none (by simp)))]
        exact hg.more hsub
end Go.M2

namespace Go.M2
open Go.Proofs
variable {M : MH}
theorem turn_at {tab tab' : List (List Int)} (ht : TurnOf tab tab') : ∀ r ∈ tab', ∀ x ∈ r, 0 ≤ x ∧ x < (tab'.length : Int) := fun r hr x hx => by
  obtain ⟨k, hk, rfl⟩ := List.getElem_of_mem hr
  exact turn_in ht k x (by simpa [List.getD, hk] using hx)
theorem rB_turn {tab tab' : List (List Int)} {st : Nat → Prop} (ht : TurnOf tab tab') (hin : TabIn tab) (i : Nat) : rB tab' st i = bkB tab st i := by
  rw [Bool.eq_iff_iff, rB_iff, bkB_iff]; exact turn_bk ht hin
theorem f_pasts {v : V} {s : SysS} (hv : LII v (tabF s)) (hs : SysOk s) : VCall Tryz.prog n_impl_pasts [v] M (fun r M' => M = M' ∧ ∃ tab', LII r tab' ∧ isPast (tabF s) tab') :=
  VCall.frT ((o_pasts hv (by have := tabF_len s; have := hs.sz; omega) (tabF_8 hs)).mono fun r M' ⟨us', fp, tab', q1, q2, q3, q4, q5, q6⟩ => ⟨us', fp, q1, q2, q3, q4, tab', q5, q6⟩)
theorem past_len {s : SysS} {tab' : List (List Int)} (hs : SysOk s) (hp : isPast (tabF s) tab') : ∀ r ∈ tab', r.length ≤ 1048576 := fun r hr => by
  obtain ⟨k, hk, rfl⟩ := List.getElem_of_mem hr
  have := (hp.2 k hk).1
  have := tabF_len s
  have := hs.sz
  omega
theorem f_reachX {v w : V} {tab : List (List Int)} {xs : List Int} (hv : LII v tab) (hw : LI w xs) (hnn : NN w xs) (hN : tab.length ≤ 1048576) (hl : xs.length ≤ 1048576)
    (hin : ∀ x ∈ xs, 0 ≤ x ∧ x < (tab.length : Int)) (htl : ∀ r ∈ tab, r.length ≤ 1048576 ∧ ∀ x ∈ r, 0 ≤ x ∧ x < (tab.length : Int)) :
    VCall Tryz.prog n_impl_reach [v, w] M (fun r M' => M = M' ∧ LB r (mkL tab.length (rB tab fun i => (i : Int) ∈ xs))) :=
  (VCall.fr1 (t_reachX hv hw hnn hN hl hin htl)).mono fun r M' ⟨h1, h2⟩ => ⟨h1, h2.lb⟩
theorem t_impCanReach {v w : V} {s : SysS} {xs : List Int} (hv : isSys s v) (hz : SysSz s) (hw : LI w xs) (hnn : NN w xs) (hl : xs.length ≤ 1048576) : VCall Tryz.prog n_impl_CanReach [v, w] M (fun r M' => M = M' ∧ LI r (canS s xs)) := by
  refine VCall.pure fun R hR => v_impl_CanReach rfl ?_
  have hv0 := hv
  obtain ⟨a, b, rfl, ha, hb⟩ := hv
  (repeat' (first | ((with_reducible first | refine cond_dec (fun h => ?_) (fun h => ?_) | refine guardK_dec (fun h => ?_) (fun h => ?_) | refine guardD3_dec (fun h => ?_) (fun h => ?_)) <;> first | (exfalso; omega) | (simp (maxSteps := 2000000) (disch := first | omega | assumption | exact idP rfl | exact idP (bL rfl)) only [go_sem, reduceIte, Nat.reduceEqDiff, wpV_kd, wpV_tH, h]) | skip) | ((with_reducible first | refine cond_split (fun h => ?_) (fun h => ?_) | refine guardK_split (fun h => ?_) (fun h => ?_) | refine guardD3_split (fun h => ?_) (fun h => ?_)) <;> ((try simp only [Bool.not_eq_true', Bool.not_eq_false'] at h); first | (simp (maxSteps := 2000000) (disch := first | omega | assumption | exact idP rfl | exact idP (bL rfl)) only [go_sem, reduceIte, Nat.reduceEqDiff, wpV_kd, wpV_tH, h]) | skip)) | ((with_reducible refine (t_impSetValid hv0 hz hw hl).mono ?_); rintro _ _ ⟨rfl, rfl⟩) | (with_reducible intro bk hbk; try have hnk := (fresh_set hbk).1) | (simp (maxSteps := 2000000) (disch := first | omega | assumption | exact idP rfl | exact idP (bL rfl)) only [go_sem, reduceIte, Nat.reduceEqDiff, wpV_kd, wpV_tH])))
  · refine hR _ _ (sB) ?_
    unfold canS
    rw [if_neg (by rw [h]; simp)]
    exact .nil
  · obtain ⟨hs, hset⟩ := setV_iff.1 h
    have hsz := hs.sz
    have htl := tabF_len s
    have hin2 : ∀ x ∈ xs, 0 ≤ x ∧ x < ((tabF s).length : Int) := by rw [show ((tabF s).length : Int) = sizeF s.vars by omega]; exact hset.in
    refine (f_nexts hv0 hs).mono ?_
    rintro t _ ⟨rfl, ht⟩
    refine sS0 ?_
    refine (f_pasts ht hs).mono ?_
    rintro p _ ⟨rfl, tab', hp, hpp⟩
    have hpl := hpp.1
    have htu := past_turn hpp
    refine sS0 ?_
    refine (f_reachX hp hw hnn (by omega) hl (by rw [hpl]; exact hin2) (fun r hr => ⟨past_len hs hpp r hr, turn_at htu r hr⟩)).mono ?_
    rintro q _ ⟨rfl, hq⟩
    refine sS0 ?_
    rw [hpl, mkL_ext fun i _ => rB_turn htu (tabF_TabIn hs) i] at hq
    refine (f_listOf hq (by omega)).mono ?_
    rintro r _ ⟨rfl, hr⟩
    refine sS0 ?_
    refine hR _ _ (sB) ?_
    unfold canS
    rw [if_pos h]
    exact hr
end Go.M2

namespace Go.M2
open Go.Proofs
variable {M : MH}
def fM (p : Nat → Bool) : Nat → Int
  | 0 => -1
  | n + 1 => if 0 ≤ fM p n then fM p n else if p n = true then (n : Int) else -1
theorem fM_neg {p : Nat → Bool} : ∀ {n : Nat}, fM p n < 0 → ∀ i, i < n → p i = false
  | 0, _, i, hi => by omega
  | n + 1, h, i, hi => by
    unfold fM at h
    split at h
    · omega
    · rename_i h1
      split at h
      · omega
      · rename_i h2
        rcases Nat.lt_or_ge i n with h3 | h3
        · exact fM_neg (by omega) i h3
        · obtain rfl : i = n := by omega
          simpa using h2
theorem fM_of {p : Nat → Bool} : ∀ {n : Nat}, (∀ i, i < n → p i = false) → fM p n = -1
  | 0, _ => rfl
  | n + 1, h => by
    unfold fM
    rw [fM_of fun i hi => h i (by omega), if_neg (by omega), if_neg (by rw [h n (by omega)]; simp)]
theorem fM_pos {p : Nat → Bool} : ∀ {n : Nat}, 0 ≤ fM p n → ∃ i, i < n ∧ fM p n = (i : Int) ∧ p i = true ∧ ∀ j, j < i → p j = false
  | 0, h => by simp [fM] at h
  | n + 1, h => by
    unfold fM at h ⊢
    split at h
    · rename_i h1
      obtain ⟨i, h2, h3, h4, h5⟩ := fM_pos h1
      rw [if_pos h1]
      exact ⟨i, by omega, h3, h4, h5⟩
    · rename_i h1
      rw [if_neg h1]
      split at h
      · rename_i h2
        rw [if_pos h2]
        exact ⟨n, by omega, rfl, h2, fM_neg (by omega)⟩
      · omega
section
variable {tab : List (List Int)} {i j k : Nat}
def oneS (i : Nat) : Nat → Prop := fun j => (j : Int) ∈ [(i : Int)]
theorem oneS_iff : oneS i j ↔ j = i := by unfold oneS; rw [List.mem_singleton]; omega
theorem oneS_eq : oneS i = fun j => j = i := by funext j; exact propext oneS_iff
noncomputable def mrB (tab : List (List Int)) (i k : Nat) : Bool := rB tab (oneS i) k && bkB tab (oneS i) k
theorem mrB_iff : mrB tab i k = true ↔ Rch tab (fun j => j = i) k ∧ Rch tab (fun j => j = k) i := by
  unfold mrB
  rw [Bool.and_eq_true, rB_iff, bkB_iff, bk_rch, oneS_eq]
  constructor
  · rintro ⟨h1, n, h2, h3⟩
    have h3 : n = i := h3
    exact ⟨h1, h3 ▸ h2⟩
  · rintro ⟨h1, h2⟩
    exact ⟨h1, i, h2, rfl⟩
theorem mr_refl : mrB tab i i = true := mrB_iff.2 ⟨.base rfl, .base rfl⟩
theorem mr_symm (h : mrB tab i j = true) : mrB tab j i = true := mrB_iff.2 (mrB_iff.1 h).symm
theorem mr_trans (h : mrB tab i j = true) (h2 : mrB tab j k = true) : mrB tab i k = true := by
  obtain ⟨a, b⟩ := mrB_iff.1 h
  obtain ⟨c, d⟩ := mrB_iff.1 h2
  exact mrB_iff.2 ⟨Rch.trans a c, Rch.trans d b⟩
noncomputable def coF (tab : List (List Int)) (n k : Nat) : Int := fM (fun i => mrB tab i k) n
theorem co_skip (h : 0 ≤ coF tab i i) (k : Nat) : coF tab (i + 1) k = coF tab i k := by
  unfold coF at *
  obtain ⟨j, h1, h2, h3, h4⟩ := fM_pos h
  rw [fM]
  split
  · rfl
  · rename_i h5
    split
    · rename_i h6
      exact absurd (fM_neg (p := fun i => mrB tab i k) (n := i) (by omega) j h1) (by rw [mr_trans h3 h6]; simp)
    · rename_i h6
      rw [fM_of (fM_neg (by omega))]
theorem co_store (h : coF tab i i < 0) (k : Nat) : coF tab (i + 1) k = if mrB tab i k = true then (i : Int) else coF tab i k := by
  unfold coF at *
  have h1 := fM_neg h
  rw [fM]
  by_cases h2 : mrB tab i k = true
  · rw [if_pos h2, if_pos h2, fM_of, if_neg (by omega)]
    intro j hj
    cases h3 : mrB tab j k with
    | false => rfl
    | true => have := h1 j hj; rw [mr_trans h3 (mr_symm h2)] at this; cases this
  · rw [if_neg h2, if_neg h2]
    split
    · rfl
    · rename_i h5
      rw [fM_of (fM_neg (by omega))]
theorem co_less (h : coF tab i i < 0) (hk : k < i) : mrB tab i k = false := by
  cases h3 : mrB tab i k with
  | false => rfl
  | true => have := fM_neg h k hk; rw [mr_symm h3] at this; cases this
end
noncomputable def compF (tab : List (List Int)) : List Int := mkI tab.length (coF tab tab.length)
noncomputable def compS (s : SysS) : List Int := if sysB s = true then compF (tabF s) else []
theorem compS_len {s : SysS} : (compS s).length ≤ 400 := by
  unfold compS
  split
  · rename_i h
    have := ((sysB_iff s).1 h).sz
    have htl := tabF_len s
    unfold compF
    rw [mkI_len]; omega
  · simp
theorem co_first {tab : List (List Int)} {k : Nat} (h : k < tab.length) : ∃ i : Nat, i ≤ k ∧ coF tab tab.length k = (i : Int) ∧ coF tab tab.length i = (i : Int) ∧ mrB tab i k = true := by
  have h0 : 0 ≤ coF tab tab.length k := by
    rcases Int.lt_or_le (coF tab tab.length k) 0 with h1 | h1
    · have := fM_neg h1 k h; rw [mr_refl] at this; cases this
    · exact h1
  obtain ⟨i, h1, h2, h3, h4⟩ := fM_pos h0
  have hik : i ≤ k := by
    rcases Nat.lt_or_ge k i with h5 | h5
    · have := h4 k h5; rw [mr_refl] at this; cases this
    · exact h5
  have h5 : 0 ≤ coF tab tab.length i := by
    rcases Int.lt_or_le (coF tab tab.length i) 0 with h6 | h6
    · have := fM_neg h6 i h1; rw [mr_refl] at this; cases this
    · exact h6
  obtain ⟨j, g1, g2, g3, g4⟩ := fM_pos h5
  refine ⟨i, hik, h2, ?_, h3⟩
  have g2 : coF tab tab.length i = (j : Int) := g2
  rw [g2]
  have e1 : ¬ j < i := fun hj => by have := h4 j hj; rw [mr_trans g3 h3] at this; cases this
  have e2 : ¬ i < j := fun hj => by have := g4 i hj; rw [mr_refl] at this; cases this
  congr 1; omega
end Go.M2

namespace Go.M2
open Go.Proofs
variable {M : MH}
theorem f_reach1 {v w : V} {M0 : MH} {tab : List (List Int)} {i : Nat} (hv : LII v tab) (hg : Gr 1 M0 M w ([(i : Int)].map vi)) (hN : tab.length ≤ 1048576) (hi : i < tab.length)
    (htl : ∀ r ∈ tab, r.length ≤ 1048576 ∧ ∀ x ∈ r, 0 ≤ x ∧ x < (tab.length : Int)) :
    VCall Tryz.prog n_impl_reach [v, w] M (fun r M' => M0 = M' ∧ LB r (mkL tab.length (rB tab (oneS i)))) := by
  refine (VCall.frG (sz := 1) (q := fun B l => B = M0 ∧ l = (mkL tab.length (rB tab (oneS i))).map vb) (VCall.give1 hg fun u M2 hu hs2 => (t_reach hv hu.li (hu.some (by simp)) hN (by simp) (by simp) (by intro x hx; rw [List.mem_singleton] at hx; subst hx; omega) htl).mono fun r M' hr => ⟨_, _, hr.base hs2, rfl, rfl⟩)).mono ?_
  rintro r M' ⟨l, hf, rfl, rfl⟩
  exact ⟨rfl, hf.lb⟩
theorem f_l4Marks1 {w : V} {M0 : MH} {i n : Nat} (hg : Gr 1 M0 M w ([(i : Int)].map vi)) (hn : n ≤ 1048576) (hi : i < n) :
    VCall Tryz.prog n_spec_l4Marks [w, .sc (.int .i64 n)] M (fun r M' => M0 = M' ∧ LB r (mkL n (inL [(i : Int)]))) := by
  refine (VCall.frG (sz := 1) (q := fun B l => B = M0 ∧ l = (mkL n (inL [(i : Int)])).map vb) (VCall.give0 hg fun u M2 hu hs2 => (t_l4Marks hu.li hn (by simp) (by intro x hx; rw [List.mem_singleton] at hx; subst hx; omega)).mono fun r M' hr => ⟨_, _, hr.base hs2, rfl, rfl⟩)).mono ?_
  rintro r M' ⟨l, hf, rfl, rfl⟩
  exact ⟨rfl, hf.lb⟩
theorem rch_one {tab : List (List Int)} {i k : Nat} (hi : i < tab.length) (htl : ∀ r ∈ tab, r.length ≤ 1048576 ∧ ∀ x ∈ r, 0 ≤ x ∧ x < (tab.length : Int)) (h : Rch tab (oneS i) k) : k < tab.length := by
  cases h with
  | base h => have := oneS_iff.1 h; omega
  | @step j x _ hx =>
    have hj := getD_lt hx
    have e : tab.getD j [] = tab[j] := by simp [List.getD, hj]
    rw [e] at hx
    have := (htl _ (List.getElem_mem hj)).2 x hx
    omega
theorem f_l5Steps1 {v w : V} {tab : List (List Int)} {i : Nat} (hv : LII v tab) (hw : LB w (mkL tab.length (inL [(i : Int)]))) (hN : tab.length ≤ 1048576) (hi : i < tab.length)
    (htl : ∀ r ∈ tab, r.length ≤ 1048576 ∧ ∀ x ∈ r, 0 ≤ x ∧ x < (tab.length : Int)) :
    VCall Tryz.prog n_spec_l5Steps [v, w] M (fun r M' => M = M' ∧ LI r (mkI tab.length (dst tab (oneS i)))) :=
  (VCall.fr1 (t_l5Steps (st := oneS i) hv hw hN (fun j _ => by simp [inL, oneS]) (fun k hk => rch_one hi htl hk) htl)).mono fun r M' ⟨h1, h2⟩ => ⟨h1, h2.li⟩
theorem if_cg {α : Type} {p q : Prop} [Decidable p] [Decidable q] {x y : α} (h : p ↔ q) : (if p then x else y) = if q then x else y := by simp [h]
theorem t_components {v : V} {s : SysS} (hv : LII v (tabF s)) (hs : SysOk s) : VCall Tryz.prog n_impl_components [v] M (fun r M' => Gr 1 M M' r ((compF (tabF s)).map vi)) := by
  refine VCall.plain fun R hR => v_impl_components rfl ?_
  have hsz := hs.sz
  have htl := tabF_len s
  have hti := tabF_in hs
  have htu := tabF_TabIn hs
  unfold compF at hR
  generalize hT : tabF s = tab at *
  obtain ⟨N, hNe⟩ : ∃ N, tab.length = N := ⟨_, rfl⟩
  have hvl := hv.len
  refine sS1 @hvl ?_
  intro b9 hb9
  have hg : Gr 1 M (M.set b9 [.sc (.int .i64 (-1))]) (.sc (.sl (some (b9, 0)) 1 1 true 1)) ([(-1 : Int)].map vi) := Gr.new' (Sub.refl M) hb9 rfl
  refine (VCall.give0 hg fun u M2 hu hs2 => (t_Repeat (n := tab.length) hu.li (by omega) (by omega)).mono fun r M' hr => hr.base hs2).mono ?_
  rintro out M1 hout
  have hrep : (List.replicate tab.length (-1 : Int)) = mkI tab.length (coF tab 0) := by unfold mkI coF fM; rw [List.map_const', List.length_range]
  rw [hrep] at hout
  refine sS0 ?_
  have hp := f_pasts (M := M1) (v := v) (s := s) (by rw [hT]; exact hv) hs
  rw [hT] at hp
  refine hp.mono ?_
  rintro p _ ⟨rfl, tab', hp, hpp⟩
  have hpl := hpp.1
  have htn := past_turn hpp
  have hti' : ∀ r ∈ tab', r.length ≤ 1048576 ∧ ∀ x ∈ r, 0 ≤ x ∧ x < (tab'.length : Int) := fun r hr => ⟨past_len hs (by rw [hT]; exact hpp) r hr, turn_at htn r hr⟩
  refine sS1 @hvl ?_
  refine loop_k (fun e M' => ∃ i : Nat, i ≤ tab.length ∧ e 0 = v ∧ e 3 = out ∧ e 4 = p ∧ e 16 = .sc (.int .i64 tab.length) ∧ e 17 = .sc (.int .i64 (i : Int)) ∧ Gr 1 M M' out ((mkI tab.length (coF tab i)).map vi)) (fun e _ => ctrV tab.length (e 17)) ?_ ?_
  · exact ⟨0, by omega, sE0, sE0, sE0, sE0, sE0, hout⟩
  · rintro e M2 ⟨i, hi, q0, q3, q4, q16, q17, hg2⟩ K hK
    refine sS5 @q0 @q3 @q4 @q16 @q17 ?_
    refine cond_dec (fun h => ?_) (fun h => ?_)
    · have hi' : i < tab.length := by omega
      have hL : ∀ {f : Nat → Int}, ((mkI tab.length f).map vi).length = tab.length := by intro f; rw [len_vi, mkI_len]
      have hia : ∀ {k : IntKind} {a : Int}, 0 ≤ a → a < (tab.length : Int) → iaddrV 1 out (.int k a) = some (.sc (.ptr (some (oB out, a.toNat)))) := fun q1 q2 => hout.own.iaddr q1 (by rw [hL]; exact q2)
      have hm0 := hg2.at (by rw [hL]; omega)
      have hgi : ((mkI tab.length (coF tab i)).map vi)[i]? = some (.sc (.int .i64 (coF tab i i))) := by
        rw [List.getElem?_map, List.getElem?_eq_getElem (by rw [mkI_len]; exact hi'), mkI_get]; rfl
      refine sS8 @q0 @q3 @q4 @q16 @q17 @hia @hm0 @hgi ?_
      refine cond_dec (fun h2 => ?_) (fun h2 => ?_)
      · refine sS5 @q0 @q3 @q4 @q16 @q17 ?_
        refine hK _ _ ⟨i + 1, by omega, sE0, sE0, sE0, sE0, sE0, ?_⟩ (by refine sS2 @ctrV_int @q17 ?_; omega)
        rw [mkI_ext (g := coF tab i) fun k _ => co_skip (by omega) k]
        exact hg2
      · refine sS5 @q0 @q3 @q4 @q16 @q17 ?_
        intro bl hbl
        refine (f_reach1 (M0 := M2) hv (Gr.new' (Sub.refl M2) hbl rfl) (by omega) hi' hti).mono ?_
        rintro r1 _ ⟨rfl, hr1⟩
        refine sS5 @q0 @q3 @q4 @q16 @q17 ?_
        intro bm hbm
        refine (f_reach1 (i := i) (M0 := M2) hp (Gr.new' (Sub.refl _) hbm rfl) (by omega) (by omega) hti').mono ?_
        rintro r2 _ ⟨rfl, hr2⟩
        rw [hpl, mkL_ext fun k _ => rB_turn htn htu k] at hr2
        refine sS6 @q0 @q3 @q4 @q16 @q17 @hvl ?_
        refine loop_k (fun e' M' => ∃ k : Nat, k ≤ tab.length ∧ e' 0 = v ∧ e' 3 = out ∧ e' 4 = p ∧ e' 5 = .sc (.int .i64 (i : Int)) ∧ e' 6 = r1 ∧ e' 7 = r2 ∧ e' 16 = .sc (.int .i64 tab.length) ∧ e' 17 = .sc (.int .i64 (i : Int)) ∧ e' 34 = .sc (.int .i64 tab.length) ∧ e' 35 = .sc (.int .i64 (k : Int)) ∧ Gr 1 M M' out ((mkI tab.length fun j => if j < k ∧ mrB tab i j = true then (i : Int) else coF tab i j).map vi)) (fun e' _ => ctrV tab.length (e' 35)) ?_ ?_
        · refine ⟨0, by omega, sE1 @q0, sE1 @q3, sE1 @q4, sE0, sE0, sE0, sE1 @q16, sE1 @q17, sE0, sE0, ?_⟩
          rw [mkI_ext (g := coF tab i) fun j _ => by rw [if_neg (by omega)]]
          exact hg2
        · rintro e' M3 ⟨k, hk, f0, f3, f4, f5, f6, f7, f16, f17, f34, f35, hg3⟩ K2 hK2
          simp (maxSteps := 2000000) (disch := first | omega | assumption | exact idP rfl | exact idP (bL rfl)) only [go_sem, reduceIte, Nat.reduceEqDiff, wpV_kd, wpV_tH, f0, f3, f4, f5, f6, f7, f16, f17, f34, f35]
          refine cond_dec (fun h3 => ?_) (fun h3 => ?_)
          · have hk' : k < tab.length := by omega
            have g1 : k < (mkL tab.length (rB tab (oneS i))).length := by rw [mkL_len]; exact hk'
            have g2 : k < (mkL tab.length (bkB tab (oneS i))).length := by rw [mkL_len]; exact hk'
            have a1 := hr1.at g1
            have a2 := hr2.at g2
            rw [mkL_get] at a1 a2
            have i1 : ∀ {q : IntKind} {a : Int}, 0 ≤ a → a < (tab.length : Int) → iaddrV 1 r1 (.int q a) = some (.pf (hdB r1) (hdO r1 + a.toNat * 1) [at1 r1 a.toNat]) := fun x y => hr1.iaddr x (by rw [mkL_len]; exact y)
            have i2 : ∀ {q : IntKind} {a : Int}, 0 ≤ a → a < (tab.length : Int) → iaddrV 1 r2 (.int q a) = some (.pf (hdB r2) (hdO r2 + a.toNat * 1) [at1 r2 a.toNat]) := fun x y => hr2.iaddr x (by rw [mkL_len]; exact y)
            have hm3 := hg3.at (by rw [hL]; omega)
            have hso : k < ((mkI tab.length fun j => if j < k ∧ mrB tab i j = true then (i : Int) else coF tab i j).map vi).length := by rw [hL]; exact hk'
            cases hb1 : rB tab (oneS i) k with
            | false =>
              simp (maxSteps := 2000000) (disch := first | omega | assumption | exact idP rfl | exact idP (bL rfl)) only [go_sem, reduceIte, Nat.reduceEqDiff, wpV_kd, wpV_tH, f0, f3, f4, f5, f6, f7, f16, f17, f34, f35, i1, a1, hb1]
              have hmr : mrB tab i k = false := by unfold mrB; rw [hb1]; rfl
              refine hK2 _ _ ⟨k + 1, by omega, sE0, sE0, sE0, sE0, sE0, sE0, sE0, sE0, sE0, sE0, ?_⟩ (by refine sS2 @ctrV_int @f35 ?_; omega)
              rw [mkI_ext (g := fun j => if j < k ∧ mrB tab i j = true then (i : Int) else coF tab i j) fun j _ => ?_]
              · exact hg3
              · by_cases e : j = k
                · subst e; rw [if_neg (by rw [hmr]; simp), if_neg (by omega)]
                · exact if_cg (by rw [show j < k + 1 ↔ j < k by omega])
            | true =>
              cases hb2 : bkB tab (oneS i) k with
              | false =>
                simp (maxSteps := 2000000) (disch := first | omega | assumption | exact idP rfl | exact idP (bL rfl)) only [go_sem, reduceIte, Nat.reduceEqDiff, wpV_kd, wpV_tH, f0, f3, f4, f5, f6, f7, f16, f17, f34, f35, i1, a1, hb1, i2, a2, hb2]
                have hmr : mrB tab i k = false := by unfold mrB; rw [hb1, hb2]; rfl
                refine hK2 _ _ ⟨k + 1, by omega, sE0, sE0, sE0, sE0, sE0, sE0, sE0, sE0, sE0, sE0, ?_⟩ (by refine sS2 @ctrV_int @f35 ?_; omega)
                rw [mkI_ext (g := fun j => if j < k ∧ mrB tab i j = true then (i : Int) else coF tab i j) fun j _ => ?_]
                · exact hg3
                · by_cases e : j = k
                  · subst e; rw [if_neg (by rw [hmr]; simp), if_neg (by omega)]
                  · exact if_cg (by rw [show j < k + 1 ↔ j < k by omega])
              | true =>
                simp (maxSteps := 2000000) (disch := first | omega | assumption | exact idP rfl | exact idP (bL rfl)) only [go_sem, reduceIte, Nat.reduceEqDiff, wpV_kd, wpV_tH, f0, f3, f4, f5, f6, f7, f16, f17, f34, f35, i1, a1, hb1, i2, a2, hb2, hia, hm3, hso]
                have hmr : mrB tab i k = true := by unfold mrB; rw [hb1, hb2]; rfl
                refine hK2 _ _ ⟨k + 1, by omega, sE0, sE0, sE0, sE0, sE0, sE0, sE0, sE0, sE0, sE0, ?_⟩ (by refine sS2 @ctrV_int @f35 ?_; omega)
                rw [set_vi', mkI_set (g := fun j => if j < k + 1 ∧ mrB tab i j = true then (i : Int) else coF tab i j) (fun j hj => ?_)]
                · exact hg3.setO (by rw [hL]; omega) (by rw [hL, hL])
                · by_cases e : j = k
                  · subst e; rw [if_pos ⟨by omega, hmr⟩, if_pos rfl]
                  · rw [if_neg e]; exact if_cg (by rw [show j < k + 1 ↔ j < k by omega])
          · obtain rfl : k = tab.length := by omega
            refine sS5 @f0 @f3 @f4 @f16 @f17 ?_
            refine hK _ _ ⟨i + 1, by omega, sE1 @f0, sE1 @f3, sE1 @f4, sE1 @f16, sE1 @f17, ?_⟩ (by refine sS3 @ctrV_int @q17 @f17 ?_; omega)
            rw [mkI_ext (g := fun j => if j < tab.length ∧ mrB tab i j = true then (i : Int) else coF tab i j) fun j hj => ?_]
            · exact hg3
            · rw [co_store (by omega)]
              apply if_cg
              simp [hj]
    · obtain rfl : i = tab.length := by omega
      refine sS1 @q3 ?_
      exact hR _ _ hg2
theorem t_l5Parts {v : V} {s : SysS} (hv : LII v (tabF s)) (hs : SysOk s) : VCall Tryz.prog n_spec_l5Parts [v] M (fun r M' => Gr 1 M M' r ((compF (tabF s)).map vi)) := by
  refine VCall.plain fun R hR => v_spec_l5Parts rfl ?_
  have hsz := hs.sz
  have htl := tabF_len s
  have hti := tabF_in hs
  have htu := tabF_TabIn hs
  unfold compF at hR
  generalize hT : tabF s = tab at *
  have hvl := hv.len
  have htn := tuF_turn tab
  have hpl := htn.1
  have hti' : ∀ r ∈ tuF tab, r.length ≤ 1048576 ∧ ∀ x ∈ r, 0 ≤ x ∧ x < ((tuF tab).length : Int) := fun r hr => ⟨by
    obtain ⟨k, hk, rfl⟩ := List.getElem_of_mem hr
    rw [tuF_get]
    exact Nat.le_trans selL_len (by omega), turn_at htn r hr⟩
  refine sS0 ?_
  refine (f_l5Turned hv (by omega) (fun r hr => (hti r hr).1)).mono ?_
  rintro p _ ⟨rfl, hp⟩
  refine sS0 ?_
  intro b4 hb4
  have hL : ∀ {f : Nat → Int} {n : Nat}, ((mkI n f).map vi).length = n := by intro f n; rw [len_vi, mkI_len]
  refine loop_k (fun e M' => ∃ i : Nat, i ≤ tab.length ∧ e 0 = v ∧ e 3 = p ∧ e 5 = .sc (.int .i64 (i : Int)) ∧ Gr 1 M M' (e 4) ((mkI i (coF tab 0)).map vi)) (fun e _ => ctrV tab.length (e 5)) ?_ ?_
  · exact ⟨0, by omega, sE0, sE0, sE0, by refine sS0 ?_; exact Gr.new' (Sub.refl M) hb4 rfl⟩
  · rintro e M2 ⟨i, hi, q0, q3, q5, hg2⟩ K hK
    refine sS4 @q0 @q3 @q5 @hvl ?_
    refine cond_dec (fun h => ?_) (fun h => ?_)
    · refine sS3 @q0 @q3 @q5 ?_
      intro bt hbt
      refine app_int hg2 hbt (by rw [mkI_len]; omega) (by omega) ?_
      intro s' M' hg' _
      refine sS0 ?_
      refine hK _ _ ⟨i + 1, by omega, sE0, sE0, sE0, ?_⟩ (by refine sS2 @ctrV_int @q5 ?_; omega)
      refine sS0 ?_
      have e1 : mkI i (coF tab 0) ++ [-1] = mkI (i + 1) (coF tab 0) := by unfold mkI; rw [List.range_succ, List.map_append]; rfl
      rw [← e1]
      exact hg'
    · obtain rfl : i = tab.length := by omega
      refine sS0 ?_
      refine loop_k (fun e M' => ∃ i : Nat, i ≤ tab.length ∧ e 0 = v ∧ e 3 = p ∧ e 6 = .sc (.int .i64 (i : Int)) ∧ Gr 1 M M' (e 4) ((mkI tab.length (coF tab i)).map vi)) (fun e _ => ctrV tab.length (e 6)) ?_ ?_
      · exact ⟨0, by omega, sE0, sE0, sE0, by refine sS0 ?_; exact hg2⟩
      · rintro e M2 ⟨i, hi, q0, q3, q6, hg2⟩ K hK
        refine sS4 @q0 @q3 @q6 @hvl ?_
        refine cond_dec (fun h => ?_) (fun h => ?_)
        · have hi' : i < tab.length := by omega
          have hia : ∀ {k : IntKind} {a : Int}, 0 ≤ a → a < (tab.length : Int) → iaddrV 1 (e 4) (.int k a) = some (.sc (.ptr (some (oB (e 4), a.toNat)))) := fun q1 q2 => hg2.own.iaddr q1 (by rw [hL]; exact q2)
          have hm0 := hg2.at (by rw [hL]; omega)
          have hgi : ((mkI tab.length (coF tab i)).map vi)[i]? = some (.sc (.int .i64 (coF tab i i))) := by
            rw [List.getElem?_map, List.getElem?_eq_getElem (by rw [mkI_len]; exact hi'), mkI_get]; rfl
          refine sS6 @q0 @q3 @q6 @hia @hm0 @hgi ?_
          refine cond_dec (fun h2 => ?_) (fun h2 => ?_)
          · refine sS4 @q0 @q3 @q6 @hvl ?_
            intro bl hbl
            refine (f_l4Marks1 (i := i) (M0 := M2) (Gr.new' (Sub.refl M2) hbl rfl) (by omega) hi').mono ?_
            rintro m _ ⟨rfl, hm⟩
            refine sS3 @q0 @q3 @q6 ?_
            refine (f_l5Steps1 hv hm (by omega) hi' hti).mono ?_
            rintro r1 _ ⟨rfl, hr1⟩
            refine sS3 @q0 @q3 @q6 ?_
            rw [← hpl] at hm
            refine (f_l5Steps1 hp hm (by omega) (by omega) hti').mono ?_
            rintro r2 _ ⟨rfl, hr2⟩
            refine sS3 @q0 @q3 @q6 ?_
            rw [hpl] at hr2
            refine loop_k (fun e' M' => ∃ k : Nat, i ≤ k ∧ k ≤ tab.length ∧ e' 0 = v ∧ e' 3 = p ∧ e' 4 = e 4 ∧ e' 6 = .sc (.int .i64 (i : Int)) ∧ e' 8 = r1 ∧ e' 9 = r2 ∧ e' 10 = .sc (.int .i64 (k : Int)) ∧ Gr 1 M M' (e 4) ((mkI tab.length fun j => if j < k ∧ mrB tab i j = true then (i : Int) else coF tab i j).map vi)) (fun e' _ => ctrV tab.length (e' 10)) ?_ ?_
            · refine ⟨i, by omega, by omega, sE1 @q0, sE1 @q3, sE0, sE1 @q6, sE0, sE0, sE0, ?_⟩
              rw [mkI_ext (f := fun j => if j < i ∧ mrB tab i j = true then (i : Int) else coF tab i j) (g := coF tab i) fun j _ => ?_]
              · exact hg2
              · refine if_neg fun hh => ?_
                have h9 := co_less (tab := tab) (by omega) hh.1
                rw [h9] at hh; cases hh.2
            · rintro e' M3 ⟨k, hk0, hk, f0, f3, f4, f6, f8, f9, f10, hg3⟩ K2 hK2
              refine sS8 @f0 @f3 @f4 @f6 @f8 @f9 @f10 @hvl ?_
              refine cond_dec (fun h3 => ?_) (fun h3 => ?_)
              · have hk' : k < tab.length := by omega
                have a1 := hr1.at (i := k) (by rw [mkI_len]; exact hk')
                have a2 := hr2.at (i := k) (by rw [mkI_len]; exact hk')
                rw [mkI_get] at a1 a2
                have i1 : ∀ {q : IntKind} {a : Int}, 0 ≤ a → a < (tab.length : Int) → iaddrV 1 r1 (.int q a) = some (.pf (hdB r1) (hdO r1 + a.toNat * 1) [at1 r1 a.toNat]) := fun x y => hr1.iaddr x (by rw [mkI_len]; exact y)
                have i2 : ∀ {q : IntKind} {a : Int}, 0 ≤ a → a < (tab.length : Int) → iaddrV 1 r2 (.int q a) = some (.pf (hdB r2) (hdO r2 + a.toNat * 1) [at1 r2 a.toNat]) := fun x y => hr2.iaddr x (by rw [mkI_len]; exact y)
                have hm3 := hg3.at (by rw [hL]; omega)
                have hso : k < ((mkI tab.length fun j => if j < k ∧ mrB tab i j = true then (i : Int) else coF tab i j).map vi).length := by rw [hL]; exact hk'
                have hmr : mrB tab i k = (decide (0 ≤ dst tab (oneS i) k) && decide (0 ≤ dst (tuF tab) (oneS i) k)) := by
                  rw [Bool.eq_iff_iff, Bool.and_eq_true, decide_eq_true_eq, decide_eq_true_eq, dst_rch, dst_rch, turn_bk htn htu]
                  unfold mrB
                  rw [Bool.and_eq_true, rB_iff, bkB_iff]
                cases hb1 : decide (0 ≤ dst tab (oneS i) k) with
                | false =>
                  simp (maxSteps := 2000000) (disch := first | omega | assumption | exact idP rfl | exact idP (bL rfl)) only [go_sem, reduceIte, Nat.reduceEqDiff, wpV_kd, wpV_tH, f0, f3, f4, f6, f8, f9, f10, i1, a1, hb1]
                  have hmr : mrB tab i k = false := by rw [hmr, hb1]; rfl
                  refine hK2 _ _ ⟨k + 1, by omega, by omega, sE0, sE0, sE0, sE0, sE0, sE0, sE0, ?_⟩ (by refine sS2 @ctrV_int @f10 ?_; omega)
                  rw [mkI_ext (g := fun j => if j < k ∧ mrB tab i j = true then (i : Int) else coF tab i j) fun j _ => ?_]
                  · exact hg3
                  · by_cases e : j = k
                    · subst e; rw [if_neg (by rw [hmr]; simp), if_neg (by omega)]
                    · exact if_cg (by rw [show j < k + 1 ↔ j < k by omega])
                | true =>
                  cases hb2 : decide (0 ≤ dst (tuF tab) (oneS i) k) with
                  | false =>
                    simp (maxSteps := 2000000) (disch := first | omega | assumption | exact idP rfl | exact idP (bL rfl)) only [go_sem, reduceIte, Nat.reduceEqDiff, wpV_kd, wpV_tH, f0, f3, f4, f6, f8, f9, f10, i1, a1, hb1, i2, a2, hb2]
                    have hmr : mrB tab i k = false := by rw [hmr, hb1, hb2]; rfl
                    refine hK2 _ _ ⟨k + 1, by omega, by omega, sE0, sE0, sE0, sE0, sE0, sE0, sE0, ?_⟩ (by refine sS2 @ctrV_int @f10 ?_; omega)
                    rw [mkI_ext (g := fun j => if j < k ∧ mrB tab i j = true then (i : Int) else coF tab i j) fun j _ => ?_]
                    · exact hg3
                    · by_cases e : j = k
                      · subst e; rw [if_neg (by rw [hmr]; simp), if_neg (by omega)]
                      · exact if_cg (by rw [show j < k + 1 ↔ j < k by omega])
                  | true =>
                    simp (maxSteps := 2000000) (disch := first | omega | assumption | exact idP rfl | exact idP (bL rfl)) only [go_sem, reduceIte, Nat.reduceEqDiff, wpV_kd, wpV_tH, f0, f3, f4, f6, f8, f9, f10, i1, a1, hb1, i2, a2, hb2, hia, hm3, hso]
                    have hmr : mrB tab i k = true := by rw [hmr, hb1, hb2]; rfl
                    refine hK2 _ _ ⟨k + 1, by omega, by omega, sE0, sE0, sE0, sE0, sE0, sE0, sE0, ?_⟩ (by refine sS2 @ctrV_int @f10 ?_; omega)
                    rw [set_vi', mkI_set (g := fun j => if j < k + 1 ∧ mrB tab i j = true then (i : Int) else coF tab i j) (fun j hj => ?_)]
                    · exact hg3.setO (by rw [hL]; omega) (by rw [hL, hL])
                    · by_cases e : j = k
                      · subst e; rw [if_pos ⟨by omega, hmr⟩, if_pos rfl]
                      · rw [if_neg e]; exact if_cg (by rw [show j < k + 1 ↔ j < k by omega])
              · obtain rfl : k = tab.length := by omega
                refine sS4 @f0 @f3 @f4 @f6 ?_
                refine hK _ _ ⟨i + 1, by omega, sE1 @f0, sE1 @f3, sE1 @f6, ?_⟩ (by refine sS3 @ctrV_int @q6 @f6 ?_; omega)
                refine sS1 @f4 ?_
                rw [mkI_ext (g := fun j => if j < tab.length ∧ mrB tab i j = true then (i : Int) else coF tab i j) fun j hj => ?_]
                · exact hg3
                · rw [co_store (by omega)]
                  apply if_cg
                  simp [hj]
          · refine sS3 @q0 @q3 @q6 ?_
            refine hK _ _ ⟨i + 1, by omega, sE0, sE0, sE0, ?_⟩ (by refine sS2 @ctrV_int @q6 ?_; omega)
            refine sS0 ?_
            rw [mkI_ext (g := coF tab i) fun k _ => co_skip (by omega) k]
            exact hg2
        · obtain rfl : i = tab.length := by omega
          refine sS0 ?_
          exact hR _ _ hg2
theorem t_impComponents {v : V} {s : SysS} (hv : isSys s v) (hz : SysSz s) : VCall Tryz.prog n_impl_Components [v] M (fun r M' => M = M' ∧ LI r (compS s)) := by
  refine VCall.pure fun R hR => v_impl_Components rfl ?_
  have hv0 := hv
  obtain ⟨a, b, rfl, ha, hb⟩ := hv
  (repeat' (first | ((with_reducible first | refine cond_dec (fun h => ?_) (fun h => ?_) | refine guardK_dec (fun h => ?_) (fun h => ?_) | refine guardD3_dec (fun h => ?_) (fun h => ?_)) <;> first | (exfalso; omega) | (simp (maxSteps := 2000000) (disch := first | omega | assumption | exact idP rfl | exact idP (bL rfl)) only [go_sem, reduceIte, Nat.reduceEqDiff, wpV_kd, wpV_tH, h]) | skip) | ((with_reducible first | refine cond_split (fun h => ?_) (fun h => ?_) | refine guardK_split (fun h => ?_) (fun h => ?_) | refine guardD3_split (fun h => ?_) (fun h => ?_)) <;> ((try simp only [Bool.not_eq_true', Bool.not_eq_false'] at h); first | (simp (maxSteps := 2000000) (disch := first | omega | assumption | exact idP rfl | exact idP (bL rfl)) only [go_sem, reduceIte, Nat.reduceEqDiff, wpV_kd, wpV_tH, h]) | skip)) | ((with_reducible refine (t_impSystemValid hv0 hz).mono ?_); rintro _ _ ⟨rfl, rfl⟩) | (with_reducible intro bk hbk; try have hnk := (fresh_set hbk).1) | (simp (maxSteps := 2000000) (disch := first | omega | assumption | exact idP rfl | exact idP (bL rfl)) only [go_sem, reduceIte, Nat.reduceEqDiff, wpV_kd, wpV_tH])))
  · exact hR _ _ (sB) (by unfold compS; rw [if_neg (by rw [h]; simp)]; exact .nil)
  · have hs := (sysB_iff s).1 h
    refine (f_nexts hv0 hs).mono ?_
    rintro t _ ⟨rfl, ht⟩
    refine sS0 ?_
    refine (VCall.fr1 (t_components ht hs)).mono ?_
    rintro c _ ⟨rfl, hc⟩
    refine sS0 ?_
    refine (VCall.fr1 (t_cloneInt hc.li (by unfold compF; rw [mkI_len]; have := hs.sz; have := tabF_len s; omega))).mono ?_
    rintro c _ ⟨rfl, hc⟩
    refine sS0 ?_
    exact hR _ _ (sB) (by unfold compS; rw [if_pos h]; exact hc.li)
theorem t_specComponents {v : V} {s : SysS} (hv : isSys s v) : VCall Tryz.prog n_spec_Components [v] M (fun r M' => M = M' ∧ LI r (compS s)) := by
  refine VCall.pure fun R hR => v_spec_Components rfl ?_
  have hv0 := hv
  obtain ⟨a, b, rfl, ha, hb⟩ := hv
  (repeat' (first | ((with_reducible first | refine cond_dec (fun h => ?_) (fun h => ?_) | refine guardK_dec (fun h => ?_) (fun h => ?_) | refine guardD3_dec (fun h => ?_) (fun h => ?_)) <;> first | (exfalso; omega) | (simp (maxSteps := 2000000) (disch := first | omega | assumption | exact idP rfl | exact idP (bL rfl)) only [go_sem, reduceIte, Nat.reduceEqDiff, wpV_kd, wpV_tH, h]) | skip) | ((with_reducible first | refine cond_split (fun h => ?_) (fun h => ?_) | refine guardK_split (fun h => ?_) (fun h => ?_) | refine guardD3_split (fun h => ?_) (fun h => ?_)) <;> ((try simp only [Bool.not_eq_true', Bool.not_eq_false'] at h); first | (simp (maxSteps := 2000000) (disch := first | omega | assumption | exact idP rfl | exact idP (bL rfl)) only [go_sem, reduceIte, Nat.reduceEqDiff, wpV_kd, wpV_tH, h]) | skip)) | ((with_reducible refine (t_SystemValidS hv0).mono ?_); rintro _ _ ⟨rfl, rfl⟩) | (with_reducible intro bk hbk; try have hnk := (fresh_set hbk).1) | (simp (maxSteps := 2000000) (disch := first | omega | assumption | exact idP rfl | exact idP (bL rfl)) only [go_sem, reduceIte, Nat.reduceEqDiff, wpV_kd, wpV_tH])))
  · exact hR _ _ (sB) (by unfold compS; rw [if_neg (by rw [h]; simp)]; exact .nil)
  · have hs := (sysB_iff s).1 h
    refine (f_l4Steps hv0 hs).mono ?_
    rintro t _ ⟨rfl, ht⟩
    refine sS0 ?_
    refine (VCall.fr1 (t_l5Parts ht hs)).mono ?_
    rintro c _ ⟨rfl, hc⟩
    refine sS0 ?_
    exact hR _ _ (sB) (by unfold compS; rw [if_pos h]; exact hc.li)
end Go.M2

namespace Go.M2
open Go.Proofs
variable {M : MH}
theorem f_can1 {v w : V} {s : SysS} {x : Int} {M0 : MH} (hs : isSys s v) (hz : SysSz s) (hg : Gr 1 M0 M w ([x].map vi)) : VCall Tryz.prog n_impl_CanReach [v, w] M (fun r M' => Sub M0 M' ∧ LI r (canS s [x])) :=
  VCall.give1 hg fun u M2 hu hs2 => (t_impCanReach hs hz hu.li hu.nn (by simp)).mono fun r M' ⟨h1, h2⟩ => ⟨by rw [← h1]; exact hs2, h2⟩
theorem setV_one {s : SysS} {i : Nat} (hs : SysOk s) (hi : i < (tabF s).length) : setV s [(i : Int)] = true := by
  refine setV_iff.2 ⟨hs, fun j hj _ => ?_⟩
  have htl := tabF_len s
  have := hs.sz
  obtain rfl : j = 0 := by simp at hj; exact hj
  exact ⟨by simp; omega, fun h => by simp at h⟩
theorem can_one {s : SysS} {i k : Nat} (hs : SysOk s) (hi : i < (tabF s).length) (hk : k < (tabF s).length) (h : mrB (tabF s) i k = true) : decide ((k : Int) ∈ canS s [(i : Int)]) = true := by
  unfold canS
  rw [if_pos (setV_one hs hi), decide_eq_true_eq, mem_selL]
  unfold mrB at h
  rw [Bool.and_eq_true] at h
  exact ⟨k, hk, h.2, rfl⟩
theorem sizeB_tab {s : SysS} : sizeB s = ((compS s).length : Int) := by
  unfold sizeB compS
  cases h : sysB s with
  | false => simp
  | true =>
    have := ((sysB_iff s).1 h).sz
    have htl := tabF_len s
    unfold compF
    simp only [if_true, mkI_len]
    omega
theorem law_Components {v : V} {xs : List Int} (hv : XU v xs) (hx : LenOk xs) (hc : CapOk v) :
    VCall Tryz.prog n_laws_FnComponents [v] M (fun r M' => M = M' ∧ r = .sc (.bool true)) := by
  refine VCall.pure fun R hR => v_laws_FnComponents rfl ?_
  unfold LenOk at hx
  have hlen := hv.len fun _ _ h => h.len
  (repeat' (first | ((with_reducible first | refine cond_dec (fun h => ?_) (fun h => ?_) | refine guardK_dec (fun h => ?_) (fun h => ?_) | refine guardD3_dec (fun h => ?_) (fun h => ?_)) <;> first | (exfalso; omega) | (simp (maxSteps := 2000000) (disch := first | omega | assumption | exact idP rfl | exact idP (bL rfl)) only [go_sem, reduceIte, Nat.reduceEqDiff, wpV_kd, wpV_tH, h, hlen]) | skip) | ((with_reducible first | refine cond_split (fun h => ?_) (fun h => ?_) | refine guardK_split (fun h => ?_) (fun h => ?_) | refine guardD3_split (fun h => ?_) (fun h => ?_)) <;> ((try simp only [Bool.not_eq_true', Bool.not_eq_false'] at h); first | (simp (maxSteps := 2000000) (disch := first | omega | assumption | exact idP rfl | exact idP (bL rfl)) only [go_sem, reduceIte, Nat.reduceEqDiff, wpV_kd, wpV_tH, h, hlen]) | skip)) | (with_reducible intro bk hbk; try have hnk := (fresh_set hbk).1) | (simp (maxSteps := 2000000) (disch := first | omega | assumption | exact idP rfl | exact idP (bL rfl)) only [go_sem, reduceIte, Nat.reduceEqDiff, wpV_kd, wpV_tH, hlen])))
  · exact hR _ _ (sB) rfl
  · refine (t_DrawComponents hv hc (by omega)).mono ?_
    rintro sv _ ⟨rfl, s, hs, hd⟩
    have hs0 := hs
    obtain ⟨a, b, rfl, o1, o2⟩ := hs.two
    refine sS2 @o1 @o2 ?_
    intro b3 hb3
    have hcl := compS_len (s := s)
    have h3 : (M.set b3 [a, b]) b3 = some [a, b] := set_same
    have hsub : Sub M (M.set b3 [a, b]) := (Sub.refl M).set' hb3
    refine (t_impComponents hs0 hd.sz).mono ?_
    rintro p _ ⟨rfl, hp⟩
    refine sS0 ?_
    refine (t_specComponents hs0).mono ?_
    rintro q _ ⟨rfl, hq⟩
    refine sS0 ?_
    refine (t_wcInts hp hq (by omega)).mono ?_
    rintro _ _ ⟨rfl, rfl⟩
    have e1 : decide (compS s = compS s) = true := by simp
    refine sS1 @e1 ?_
    refine (t_impSizeOf hs0 hd.sz).mono ?_
    rintro _ _ ⟨rfl, rfl⟩
    refine sS0 ?_
    refine (t_SizeOfB hs0).mono ?_
    rintro _ _ ⟨rfl, rfl⟩
    have e2 : decide (sizeB s ≠ sizeB s) = false := by simp
    generalize M.set b3 [a, b] = M1 at *
    refine sS2 @e2 @hp.len ?_
    have hci : ∀ {k : IntKind} {x : Int}, 0 ≤ x → x < ((compS s).length : Int) → iaddrV 1 p (.int k x) = some (.pf (hdB p) (hdO p + x.toNat * 1) [at1 p x.toNat]) := fun h1 h2 => hp.iaddr h1 h2
    refine loop_k (fun e M' => ∃ i : Nat, i ≤ (compS s).length ∧ e 3 = .sc (.ptr (some (b3, 0))) ∧ e 4 = p ∧ e 26 = p ∧ e 27 = .sc (.int .i64 (compS s).length) ∧ e 28 = .sc (.int .i64 (i : Int)) ∧ Sub M1 M') (fun e _ => ctrV (compS s).length (e 28)) ?_ ?_
    · exact ⟨0, by omega, sE0, sE0, sE0, sE0, sE0, Sub.refl _⟩
    · rintro e M2 ⟨k, hk, q3, q4, q26, q27, q28, hs2⟩ K hK
      have h32 := hs2 _ _ h3
      refine sS5 @q3 @q4 @q26 @q27 @q28 ?_
      refine cond_dec (fun h => ?_) (fun h => ?_)
      · have hk' : k < (compS s).length := by omega
        have hsb : sysB s = true := by
          cases hb : sysB s with
          | true => rfl
          | false => unfold compS at hk'; rw [hb] at hk'; simp at hk'
        have hso := (sysB_iff s).1 hsb
        have ec : compS s = mkI (tabF s).length (coF (tabF s) (tabF s).length) := by unfold compS compF; rw [if_pos hsb]
        have el : (compS s).length = (tabF s).length := by rw [ec, mkI_len]
        obtain ⟨i, g1, g2, g3, g4⟩ := co_first (tab := tabF s) (k := k) (by omega)
        have ak : at1 p k = .sc (.int .i64 (i : Int)) := by
          have := hp.at hk'
          simp only [ec, mkI_get, g2] at this
          exact this
        have ai : at1 p i = .sc (.int .i64 (i : Int)) := by
          have := hp.at (i := i) (by omega)
          simp only [ec, mkI_get, g3] at this
          exact this
        have d1 : decide ((i : Int) ≠ (i : Int)) = false := by simp
        have d2 : decide ((k : Int) < (i : Int)) = false := by simp; omega
        have c1 := can_one hso (i := i) (k := k) (by omega) (by omega) g4
        have c2 := can_one hso (i := k) (k := i) (by omega) (by omega) (mr_symm g4)
        have cl : ∀ {x : List Int}, (canS s x).length ≤ 1048576 := fun {x} => Nat.le_trans canS_len (by omega)
        simp (maxSteps := 2000000) (disch := first | omega | assumption | exact idP rfl | exact idP (bL rfl)) only [go_sem, reduceIte, Nat.reduceEqDiff, wpV_kd, wpV_tH, q3, q4, q26, q27, q28, hci, ak, ai, d1, d2]
        refine sS3 @h32 @o1 @o2 ?_
        intro bl hbl
        refine (f_can1 hs0 hd.sz (Gr.new' (Sub.refl M2) hbl rfl)).mono ?_
        rintro r1 M3 ⟨s3, hr1⟩
        refine sS0 ?_
        refine (t_wcHas hr1 cl).mono ?_
        rintro _ _ ⟨rfl, rfl⟩
        have h33 := s3 _ _ h32
        refine sS4 @c1 @h33 @o1 @o2 ?_
        intro bm hbm
        refine (f_can1 hs0 hd.sz (Gr.new' (Sub.refl M3) hbm rfl)).mono ?_
        rintro r2 M4 ⟨s4, hr2⟩
        refine sS0 ?_
        refine (t_wcHas hr2 cl).mono ?_
        rintro _ _ ⟨rfl, rfl⟩
        refine sS6 @c2 @q3 @q4 @q26 @q27 @q28 ?_
        exact hK _ _ ⟨k + 1, by omega, sE0, sE0, sE0, sE0, sE0, hs2.trans (s3.trans s4)⟩ (by refine sS2 @ctrV_int @q28 ?_; omega)
      · obtain rfl : k = (compS s).length := by omega
        refine sS3 @q3 @q4 @hp.len ?_
        refine sS3 @h32 @o1 @o2 ?_
        refine (t_impSizeOf hs0 hd.sz).mono ?_
        rintro _ _ ⟨rfl, rfl⟩
        have e3 : decide (((compS s).length : Int) = sizeB s) = true := by rw [sizeB_tab]; simp
        refine sS1 @e3 ?_
        exact hR _ _ (hsub.trans hs2) rfl
end Go.M2

namespace Go.M2
open Go.Proofs
open Go.ChangeShapes Go.WideShapes Go.ChangeAt Go.RowKit
variable {HH : Type} {enc : TypeId × Value → HH} {P : Program} {W : World} {t e : TypeId} {fuel : Nat} {cs : List Value} {x : DataW HH × List MemPlace}
theorem in_u8 (ht : P.underlying t = some (.int .u8)) (h : DataW.trod enc P W 0 (fun _ => true) true fuel t cs = some x) : ∃ n, LiftE W (E1 isU) n cs ∧ True := by
  obtain ⟨n, rfl, _, h3⟩ := DataW.trod_int ht h
  have h4 : IntKind.u8.min ≤ n ∧ n ≤ IntKind.u8.max := by simpa [Lit.wf] using h3
  have e1 : IntKind.u8.min = 0 := by decide
  have e2 : IntKind.u8.max = 255 := by decide
  exact ⟨n, ⟨[.sc (.int .u8 n)], rfl, by simp [okL, okV], _, rfl, rfl, by omega, by omega⟩, trivial⟩
theorem avC_cap {N : Nat} {u : V} {v : Value} (h : er u = avC N v) : CapOk u := by
  cases u <;> try trivial
  rename_i A n c ex k l
  simp only [er] at h
  unfold avC at h
  show n ≤ c
  split at h <;> try cases h
  · split at h
    · rename_i h1
      cases h
      exact h1.2.2
    · split at h <;> cases h
  · exact Nat.le_refl _
theorem up_bytes (ht : P.underlying t = some (.slice e)) (he : P.underlying e = some (.int .u8)) (hsz : P.cellsOf e = 1) {v : Value} (hv : ∀ a, v ≠ .agg a) (h : DataW.trod enc P W 0 (fun _ => true) true fuel t v.cells.toList = some x) :
    ∃ ns : List Int, (∃ u, er u = avT W.heap.size v ∧ okV (heap0 W) u ∧ XU u ns ∧ CapOk u) ∧ ns.length ≤ 9223372036854775807 := by
  obtain ⟨ns, e, g, _⟩ := in_list1 (E := isU) (good := fun _ => True) ht hsz (fun n cs x h => in_u8 he h) h
  have hc : v.cells.toList = [v] := by
    cases v <;> first | rfl | exact absurd rfl (hv _)
  rw [hc] at e
  obtain ⟨u, p, q, r⟩ := e.one
  refine ⟨ns, ⟨u, ?_, q, r, avC_cap p⟩, g⟩
  rw [p]
  unfold avT
  split
  · rename_i a; exact absurd rfl (hv a)
  · rfl
end Go.M2
