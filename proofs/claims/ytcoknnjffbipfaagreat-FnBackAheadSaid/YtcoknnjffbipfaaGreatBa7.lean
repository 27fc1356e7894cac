/- Contracts: pasts, PastNumbers of the program; the plain law. -/
import Derived.Test.YtcoknnjffbipfaaGreatBa6
import Derived.Test.YtcoknnjffbipfaaGreatChecked
set_option linter.unusedVariables false
set_option linter.unusedSimpArgs false
set_option maxRecDepth 10000
set_option maxHeartbeats 4000000
namespace Go.M2
open Go.Proofs
variable {M : MH}
theorem PT.conv {M1 : MH} {b3 N : Nat} {us : List V} {mm mm' : Nat → Int → Prop} {bd bd' : Nat} (h : PT M M1 b3 N us mm bd) (hb : bd ≤ bd') (hm : ∀ k z, mm' k z ↔ mm k z) : PT M M1 b3 N us mm' bd' :=
  ⟨h.at3, h.len, h.sub, h.new, fun k u hu => by
    obtain ⟨q1, ys, q2, q3, q4⟩ := h.rows k u hu
    exact ⟨q1, ys, q2, by omega, fun x => by rw [q4, hm]⟩, h.dis⟩
def mmP (tab : List (List Int)) (n j k : Nat) (x : Int) : Prop := (∃ q : Nat, q < n ∧ x = (q : Int) ∧ (k : Int) ∈ tab.getD q []) ∨ (x = (n : Int) ∧ (k : Int) ∈ (tab.getD n []).take j)
def isPast (tab tab' : List (List Int)) : Prop := tab'.length = tab.length ∧ ∀ k (hk : k < tab'.length), tab'[k].length ≤ tab.length * 8 ∧ ∀ x, x ∈ tab'[k] ↔ mmP tab tab.length 0 k x
theorem o_pasts {v : V} {tab : List (List Int)} (hv : LII v tab) (hN : tab.length ≤ 400) (htl : ∀ r ∈ tab, r.length ≤ 8 ∧ ∀ x ∈ r, 0 ≤ x ∧ x < (tab.length : Int)) :
    VCall Tryz.prog n_impl_pasts [v] M (fun r M' => ∃ us' fp tab', Tr [r] [us'] fp ∧ Mem M M' fp ∧ flat r ∧ (∀ q ∈ fp, flatL q.2) ∧ LII us' tab' ∧ isPast tab tab') := by
  refine VCall.plain fun R hR => v_impl_pasts rfl ?_
  obtain ⟨N, hNe⟩ : ∃ N, tab.length = N := ⟨_, rfl⟩
  have hvl := hv.len
  rw [hNe] at hvl hN htl
  refine sS1 @hvl ?_
  refine mks3 (by omega) (by simp [mostCells]; omega) (by simp [mostCells]; omega) ?_
  intro b3 hb3
  simp (maxSteps := 2000000) (disch := first | omega | assumption | exact idP rfl | exact idP (bL rfl)) only [go_sem, reduceIte, Nat.reduceEqDiff, wpV_kd, wpV_tH, zeros_nil, hvl]
  refine loop_k (fun e M' => ∃ (n : Nat) (us : List V), n ≤ N ∧ e 3 = .sc (.sl (some (b3, 0)) N N true 1) ∧ e 11 = v ∧ e 12 = .sc (.int .i64 N) ∧ e 13 = .sc (.int .i64 n) ∧ PT M M' b3 N us (mmP tab n 0) (n * 8)) (fun e _ => ctrV N (e 13)) ?_ ?_
  · refine ⟨0, List.replicate N nil1, by omega, sT0, sT0, sT0, by refine sS0 ?_; rfl, ⟨set_same, by simp, (Sub.refl M).set hb3, hb3, fun k u hu => ?_, fun k k' u u' hu hu' hk b hb => ?_⟩⟩
    · obtain ⟨h1, h2⟩ := List.getElem?_eq_some_iff.1 hu
      rw [List.getElem_replicate] at h2
      subst h2
      refine ⟨by simp [nil1, blkV], [], .nil ((Sub.refl M).set hb3), by simp, fun x => ⟨fun h => (by cases h), ?_⟩⟩
      rintro (⟨q, hq, _⟩ | ⟨_, h⟩)
      · omega
      · simp at h
    · obtain ⟨h1, h2⟩ := List.getElem?_eq_some_iff.1 hu
      rw [List.getElem_replicate] at h2
      subst h2
      simp [nil1, blkV] at hb
  · rintro e M1 ⟨n, us, hn, e3, e11, e12, e13, hpt⟩ K hK
    refine sS4 @e3 @e11 @e12 @e13 ?_
    refine cond_dec (fun h => ?_) (fun h => ?_)
    · have hnt : n < tab.length := by omega
      have hrow := hv.elt hnt
      have hri := htl _ (List.getElem_mem hnt)
      have hgd : tab.getD n [] = tab[n] := by simp [List.getD, hnt]
      refine sS6 @e3 @e11 @e12 @e13 @hv.iaddr @hrow.len ?_
      refine loop_k (fun e2 M' => ∃ (j : Nat) (us : List V), j ≤ tab[n].length ∧ e2 3 = .sc (.sl (some (b3, 0)) N N true 1) ∧ e2 4 = .sc (.int .i64 n) ∧ e2 11 = v ∧ e2 12 = .sc (.int .i64 N) ∧ e2 13 = .sc (.int .i64 n) ∧ e2 18 = at1 v n ∧ e2 19 = .sc (.int .i64 tab[n].length) ∧ e2 20 = .sc (.int .i64 j) ∧ PT M M' b3 N us (mmP tab n j) (n * 8 + j)) (fun e2 _ => ctrV tab[n].length (e2 20)) ?_ ?_
      · exact ⟨0, us, by omega, sT1 @e3, sT0, sT1 @e11, sT1 @e12, sT1 @e13, sT0, sT0, by refine sS0 ?_; rfl, hpt⟩
      · rintro e2 M2 ⟨j, us, hj, u3, u4, u11, u12, u13, u18, u19, u20, hp2⟩ K2 hK2
        refine sS8 @u3 @u4 @u11 @u12 @u13 @u18 @u19 @u20 ?_
        refine cond_dec (fun h2 => ?_) (fun h2 => ?_)
        · have hj' : j < tab[n].length := by omega
          have hyj := hri.2 _ (List.getElem_mem hj')
          obtain ⟨y, hy⟩ : ∃ y, tab[n][j] = y := ⟨_, rfl⟩
          rw [hy] at hyj
          have hyN : y.toNat < us.length := by rw [hp2.len]; omega
          have hu : us[y.toNat]? = some us[y.toNat] := List.getElem?_eq_getElem hyN
          obtain ⟨q1, ys, q2, q3, q4⟩ := hp2.rows _ _ hu
          have hat := hrow.at hj'
          rw [hy] at hat
          have hm := hp2.at3
          have ho1 := q2.one.1
          have ho2 := q2.one.2
          simp (maxSteps := 2000000) (disch := first | omega | assumption | exact idP rfl | exact idP (bL rfl)) only [go_sem, reduceIte, Nat.reduceEqDiff, wpV_kd, wpV_tH, u3, u4, u11, u12, u13, u18, u19, u20, hrow.iaddr, hat, hm, hu]
          intro bt hbt
          refine app_int q2 hbt (by omega) (by omega) ?_
          intro s' M' hg' hoth
          obtain ⟨g3', hne'⟩ := hoth b3 _ hm q1
          have ho3 := hg'.one.1
          have ho4 := hg'.one.2
          simp (maxSteps := 2000000) (disch := first | omega | assumption | exact idP rfl | exact idP (bL rfl)) only [go_sem, reduceIte, Nat.reduceEqDiff, wpV_kd, wpV_tH, u3, u4, u11, u12, u13, u18, u19, u20, g3', ho4]
          have hp3 := hp2.push (mm' := mmP tab n (j + 1)) hu q3 q4 hg' hoth (fun z => ?_) (fun k z hk => ?_)
          · refine hK2 _ _ ⟨j + 1, us.set y.toNat s', by omega, sT1 @u3, sT1 @u4, sT1 @u11, sT1 @u12, sT1 @u13, sT1 @u18, sT1 @u19, by refine sS1 @u20 ?_; rfl, by simpa [Nat.add_assoc] using hp3⟩ (by refine sS2 @ctrV_int @u20 ?_; omega)
          · unfold mmP
            rw [hgd, take_snoc hj', List.mem_append, List.mem_singleton, hy, Int.toNat_of_nonneg hyj.1]
            constructor
            · rintro (h3 | ⟨h3, h4 | h4⟩)
              · exact .inl (.inl h3)
              · exact .inl (.inr ⟨h3, h4⟩)
              · exact .inr h3
            · rintro ((h3 | h3) | h3)
              · exact .inl h3
              · exact .inr ⟨h3.1, .inl h3.2⟩
              · exact .inr ⟨h3, .inr rfl⟩
          · unfold mmP
            rw [hgd, take_snoc hj', List.mem_append, List.mem_singleton, hy]
            have : ¬ (k : Int) = y := fun e => hk (by omega)
            constructor
            · rintro (h3 | ⟨h3, h4 | h4⟩)
              · exact .inl h3
              · exact .inr ⟨h3, h4⟩
              · exact absurd h4 this
            · rintro (h3 | h3)
              · exact .inl h3
              · exact .inr ⟨h3.1, .inl h3.2⟩
        · obtain rfl : j = tab[n].length := by omega
          refine sS5 @u3 @u4 @u11 @u12 @u13 ?_
          refine hK _ _ ⟨n + 1, us, by omega, sT1 @u3, sT1 @u11, sT1 @u12, by refine sS1 @u13 ?_; rfl, hp2.conv (by omega) fun k z => ?_⟩ (by refine sS3 @ctrV_int @e13 @u13 ?_; omega)
          unfold mmP
          rw [hgd, List.take_length]
          constructor
          · rintro (⟨q, h3, h4, h5⟩ | ⟨_, h3⟩)
            · by_cases e : q = n
              · subst e; rw [hgd] at h5; exact .inr ⟨h4, h5⟩
              · exact .inl ⟨q, by omega, h4, h5⟩
            · simp at h3
          · rintro (⟨q, h3, h4, h5⟩ | ⟨h3, h4⟩)
            · exact .inl ⟨q, by omega, h4, h5⟩
            · exact .inl ⟨n, by omega, h3, by rw [hgd]; exact h4⟩
    · obtain rfl : n = N := by omega
      refine sS1 @e3 ?_
      obtain ⟨us', fp, tab', t1, t2, t3, t4, t5, t6, t7, t8⟩ := hpt.tree n (Nat.le_refl _)
      rw [List.take_of_length_le (by rw [hpt.len]; exact Nat.le_refl _)] at t1 t3
      have hne : ∀ p ∈ fp, p.1 ≠ b3 := fun p hp e => by
        obtain ⟨k, u, _, h2, h3⟩ := t5 p hp
        exact (hpt.rows k u h2).1 (by rw [h3, e])
      have hul := t1.len
      refine hR _ _ ⟨.fs (some (b3, 0)) n n true 1 (us'.drop 0), (b3, us) :: (fp ++ []), tab', .sl t1 .nil, ?_, by simp [flat], fun q hq => ?_, ?_, by rw [hNe]; exact t6, fun k hk => ?_⟩
      · rw [List.append_nil]
        exact (t2.snoc1 hpt.new hpt.at3 hne).perm (List.perm_append_comm)
      · rw [List.append_nil] at hq
        rcases List.mem_cons.1 hq with rfl | h1
        · exact t3
        · exact t4 q h1
      · exact Fr.lsC (us := us') (.inr ⟨_, _, _, _, _, by rw [List.drop_zero], by rw [hul, hpt.len, Nat.mul_one]⟩) t7
      · rw [hNe]; exact t8 k hk
theorem tabF_8 {s : SysS} (hs : SysOk s) : ∀ r ∈ tabF s, r.length ≤ 8 ∧ ∀ x ∈ r, 0 ≤ x ∧ x < ((tabF s).length : Int) := by
  intro r hr
  refine ⟨?_, (tabF_in hs r hr).2⟩
  obtain ⟨n, hn, rfl⟩ := List.mem_map.1 hr
  simp only [rowF, List.length_map]
  exact nextF_len hs _
end Go.M2

namespace Go.M2
open Go.Proofs
variable {M : MH}
end Go.M2

namespace Go.M2
open Go.Proofs
variable {M : MH}
end Go.M2

namespace Go.M2
open Go.Proofs
variable {M : MH}
def boB (xs ys : List Int) (i : Nat) : Bool := inL xs i && inL ys i
noncomputable def boF (xs ys : List Int) : List Int := if setB 400 xs = true ∧ setB 400 ys = true then selL 400 (boB xs ys) else []
theorem mem_boF {xs ys : List Int} (h1 : SetOk 400 xs) (h2 : SetOk 400 ys) {x : Int} : x ∈ boF xs ys ↔ x ∈ xs ∧ x ∈ ys := by
  unfold boF
  rw [if_pos ⟨setB_iff.2 h1, setB_iff.2 h2⟩, mem_selL]
  constructor
  · rintro ⟨i, hi, hp, rfl⟩
    simpa [boB, inL] using hp
  · rintro ⟨q1, q2⟩
    have := h1.in x q1
    refine ⟨x.toNat, by omega, ?_, by omega⟩
    simp only [boB, inL, Int.toNat_of_nonneg this.1, Bool.and_eq_true, decide_eq_true_eq]
    exact ⟨q1, q2⟩
end Go.M2

namespace Go.M2
open Go.Proofs
def EV {α : Type} (E : α → List V → Prop) : Heap → α → List AV → Prop := fun H x cs => ∃ vs : List V, erl vs = cs ∧ okL H vs ∧ E x vs
theorem erl_len : ∀ l : List V, (erl l).length = l.length
  | [] => rfl
  | v :: t => by simp only [erl, List.length_cons, erl_len t]
theorem erl_app : ∀ a b : List V, erl (a ++ b) = erl a ++ erl b
  | [], b => rfl
  | v :: t, b => by simp only [List.cons_append, erl, erl_app t b]
theorem okL_app {H : Heap} : ∀ {a b : List V}, okL H a → okL H b → okL H (a ++ b)
  | [], b, _, h => h
  | v :: t, b, h, k => by
    simp only [List.cons_append, okL] at h ⊢
    exact ⟨h.1, okL_app h.2 k⟩
theorem lift_cells {α : Type} {E : α → List V → Prop} {H : Heap} {b sz : Nat} : ∀ {xs : List α} {o : Nat}, (∀ i (h : i < xs.length), ∃ cs, cs.length = sz ∧ Rd H b (o + i * sz) cs ∧ EV E H xs[i] cs) →
    ∃ vs : List V, vs.length = xs.length * sz ∧ Rd H b o (erl vs) ∧ okL H vs ∧ ∀ i (h : i < xs.length), E xs[i] ((vs.drop (i * sz)).take sz)
  | [], o, _ => ⟨[], by simp, Rd.nil _ _ _, by simp [okL], fun i h => by simp at h⟩
  | x :: t, o, h => by
    obtain ⟨cs, h1, h2, us, h3, h4, h5⟩ := h 0 (by simp)
    obtain ⟨vs, k1, k2, k3, k4⟩ := lift_cells (xs := t) (o := o + sz) (E := E) (H := H) (b := b) (sz := sz) (fun i hi => by
      obtain ⟨cs, q1, q2, q3⟩ := h (i + 1) (by simp; omega)
      exact ⟨cs, q1, by rw [show o + sz + i * sz = o + (i + 1) * sz by rw [Nat.succ_mul]; omega]; exact q2, by simpa using q3⟩)
    have hu : us.length = sz := by rw [← erl_len, h3]; exact h1
    refine ⟨us ++ vs, by simp [hu, k1, Nat.succ_mul]; omega, ?_, okL_app h4 k3, fun i hi => ?_⟩
    · intro i y hy
      rw [erl_app] at hy
      by_cases hlt : i < (erl us).length
      · rw [List.getElem?_append_left hlt, h3] at hy
        have := h2 i y hy
        simpa using this
      · rw [List.getElem?_append_right (by omega)] at hy
        have e1 : (erl us).length = sz := by rw [erl_len]; exact hu
        rw [e1] at hy hlt
        have := k2 (i - sz) y hy
        rwa [show o + sz + (i - sz) = o + i by omega] at this
    · cases i with
      | zero => simpa [List.take_left' hu] using h5
      | succ i =>
        have := k4 i (by simpa using hi)
        have e2 : (us ++ vs).drop ((i + 1) * sz) = vs.drop (i * sz) := by
          rw [show (i + 1) * sz = us.length + i * sz by rw [Nat.succ_mul, hu]; omega, List.drop_append]
          simp
        rw [e2]
        simpa using this
theorem lift_slice {α : Type} {E : α → List V → Prop} {H : Heap} {sz : Nat} {v : AV} {xs : List α} (h : InS sz (EV E) H v xs) : ∃ v', er v' = v ∧ okV H v' ∧ In (Lc sz E) v' xs := by
  rcases h with ⟨A, c, ex, k, rfl, h⟩ | ⟨rfl, rfl⟩
  · obtain ⟨vs, h1, h2, h3, h4⟩ := lift_cells h
    exact ⟨.fs A xs.length c ex k vs, rfl, by simp only [okV]; exact ⟨h2, h3⟩, .inl (.inr ⟨A, c, ex, k, vs, rfl, by omega, fun i hi => h4 i hi⟩)⟩
  · exact ⟨.sc .emp, rfl, by simp [okV], .inr ⟨rfl, rfl⟩⟩
def E1 {α : Type} (E : α → V → Prop) : α → List V → Prop := fun a cs => ∃ u, cs = [u] ∧ E a u
theorem lc1_ls {α : Type} {E : α → V → Prop} {v : V} {ys : List α} (h : Lc 1 (E1 E) v ys) : Ls E v ys := by
  rcases h with h | ⟨A, c, ex, k, xs, rfl, hl, h⟩
  · exact .inl h
  · refine .inr ⟨A, c, ex, k, xs, rfl, by omega, fun i hi => ?_⟩
    obtain ⟨u, h1, h2⟩ := h i hi
    have h3 : xs[i]? = some u := by
      have := congrArg (fun l => l[0]?) h1
      simpa [atN, List.getElem?_take, List.getElem?_drop] using this
    have h4 : at1 (.fs A ys.length c ex k xs) i = u := by
      simp [at1, List.getD_eq_getElem?_getD, h3]
    rw [h4]; exact h2
section
open Go.ChangeShapes Go.WideShapes Go.ChangeAt Go.RowKit
variable {HH : Type} {enc : TypeId × Value → HH} {P : Program} {W : World} {t e : TypeId} {fuel : Nat} {cs : List Value} {x : DataW HH × List MemPlace}
def LiftE {α : Type} (W : World) (E : α → List V → Prop) (a : α) (cs : List Value) : Prop := ∃ vs, erl vs = cs.map (avC W.heap.size) ∧ okL (heap0 W) vs ∧ E a vs
theorem in_list {α : Type} {E : α → List V → Prop} {good : α → Prop} {sz : Nat} (ht : P.underlying t = some (.slice e)) (hsz : P.cellsOf e = sz) (h0 : 0 < sz)
    (he : ∀ n cs x, DataW.trod enc P W 0 (fun _ => true) true n e cs = some x → ∃ a, LiftE W E a cs ∧ good a)
    (h : DataW.trod enc P W 0 (fun _ => true) true fuel t cs = some x) : ∃ xs : List α, LiftE W (E1 (fun (ys : List α) u => In (Lc sz E) u ys)) xs cs ∧ (xs.length ≤ 9223372036854775807 ∧ ∀ a ∈ xs, good a) := by
  obtain ⟨v, xs, rfl, h1, h2, h3⟩ := in_slice (E := EV E) (good := good) ht hsz h0 (fun n cs x hx => by
    obtain ⟨a, ⟨vs, h1, h2, h3⟩, h4⟩ := he n cs x hx
    exact ⟨a, ⟨vs, h1, h2, h3⟩, h4⟩) h
  obtain ⟨u, k1, k2, k3⟩ := lift_slice h1
  exact ⟨xs, ⟨[u], by simp [erl, k1], by simp only [okL]; exact ⟨k2, trivial⟩, u, rfl, k3⟩, h3, h2⟩
theorem in_list1 {α : Type} {E : α → V → Prop} {good : α → Prop} (ht : P.underlying t = some (.slice e)) (hsz : P.cellsOf e = 1)
    (he : ∀ n cs x, DataW.trod enc P W 0 (fun _ => true) true n e cs = some x → ∃ a, LiftE W (E1 E) a cs ∧ good a)
    (h : DataW.trod enc P W 0 (fun _ => true) true fuel t cs = some x) : ∃ xs : List α, LiftE W (E1 (fun (ys : List α) u => In (Ls E) u ys)) xs cs ∧ (xs.length ≤ 9223372036854775807 ∧ ∀ a ∈ xs, good a) := by
  obtain ⟨xs, ⟨vs, h1, h2, u, rfl, h3⟩, h4⟩ := in_list ht hsz (by omega) he h
  exact ⟨xs, ⟨[u], h1, h2, u, rfl, h3.imp lc1_ls id⟩, h4⟩
theorem LiftE.one {α : Type} {E : α → V → Prop} {a : α} {c : Value} (h : LiftE W (E1 E) a [c]) : ∃ u, er u = avC W.heap.size c ∧ okV (heap0 W) u ∧ E a u := by
  obtain ⟨vs, h1, h2, u, rfl, h3⟩ := h
  simp only [erl, List.map_cons, List.map_nil, List.cons.injEq, and_true] at h1
  simp only [okL] at h2
  exact ⟨u, h1, h2.1, h3⟩
end
theorem calls_of_vcall {P : Program} {f : FuncId} {vs : List Value} {vv : List V} {W : World} (h : VCall P f vv (fun _ => none) (fun r M' => (fun _ => none) = M' ∧ r = .sc (.bool true)))
    (he : vv.map er = vs.map (avT W.heap.size)) (ho : okL (heap0 W) vv) : Calls P f vs.toArray W (fun e w' => e = .returned (.bool true) ∧ Go.RowKit.Below W.heap.size W w') := by
  refine calls_of_acall ?_
  rw [← he]
  refine (h (heap0 W) (heap0 W) ⟨rfl, fun b _ => .inr rfl, fun b l hb => by cases hb⟩ ho).mono ?_
  rintro a H' ⟨r, M', F', rfl, _, _, _, _, rfl⟩
  rfl
end Go.M2

namespace Go.M2
open Go.Proofs
open Go.ChangeShapes Go.WideShapes Go.ChangeAt Go.RowKit
variable {HH : Type} {enc : TypeId × Value → HH} {W : World} {fuel : Nat} {cs : List Value} {x : DataW HH × List MemPlace}
end Go.M2

namespace Go.M2
open Go.Proofs
open Go.ChangeShapes Go.WideShapes Go.ChangeAt Go.RowKit
variable {M : MH}
variable {HH : Type} {enc : TypeId × Value → HH} {W : World} {fuel : Nat} {cs : List Value} {x : DataW HH × List MemPlace}
end Go.M2

namespace Go.M2
open Go.Proofs
variable {M : MH}
theorem Gr.out {M0 Mb M Mr : MH} {v : V} {us : List V} {fp g : List (Nat × List V)} (h : Gr 1 Mb M v us) (hm : Mem M0 Mb fp) (k : Mem M Mr g) : ∃ Mb', Gr 1 Mb' Mr v us ∧ Mem M0 Mb' (fp ++ g) := by
  have key : Sub Mb (fun i => if blkV v = some i then none else Mr i) := fun i l hi => by
    have hne : blkV v ≠ some i := fun e => by rw [h.new i e] at hi; cases hi
    simp only [hne, if_false]; exact k.sub _ _ (h.sub _ _ hi)
  refine ⟨fun i => if blkV v = some i then none else Mr i, ⟨fun i l hi => ?_, fun b hb => by simp [hb], h.own.sub k.sub⟩, hm.add ⟨key, fun p hp => h.sub.none (k.new p hp), k.nd, fun p hp => ?_⟩⟩
  · have hi : (if blkV v = some i then none else Mr i) = some l := hi
    split at hi
    · cases hi
    · exact hi
  · have hne : blkV v ≠ some p.1 := fun e => by
      have h1 := k.new p hp
      rcases h.own with ⟨rfl, q, rfl⟩ | ⟨b', n, ex, rfl, h2, _⟩
      · simp [blkV] at e
      · simp [blkV] at e; subst e; rw [h1] at h2; cases h2
    simp only [hne, if_false]; exact k.at_ p hp
def RT (M0 M : MH) (v : V) (rows : List (List Int)) : Prop :=
  ∃ us us' fp Mb, Gr 1 Mb M v us ∧ Mem M0 Mb fp ∧ Tr us us' fp ∧ flatL us ∧ (∀ q ∈ fp, flatL q.2) ∧ us.all oneV = true ∧ Cs isL us' rows
section
variable {M0 M1 M2 : MH} {v u : V} {rows : List (List Int)} {ys : List Int}
theorem RT.sub (h : RT M0 M1 v rows) : Sub M0 M1 := by
  obtain ⟨us, us', fp, Mb, hg, hm, _⟩ := h
  exact hm.sub.trans hg.sub
theorem RT.nil {k : Nat} (h : Sub M0 M1) : RT M0 M1 (.sc (.sl none 0 0 true k)) [] := ⟨[], [], [], M1, .nil (Sub.refl _), .nil h, .nil, by simp [flatL], fun q hq => (by cases hq), rfl, .nil⟩
theorem RT.len (h : RT M0 M1 v rows) : lenF (er v) = some (.int .i64 (rows.length : Int)) := by
  obtain ⟨us, us', fp, Mb, hg, hm, ht, _, _, _, hc⟩ := h
  rw [hg.len1, ← hc.1, ht.len]
theorem RT.one (h : RT M0 M1 v rows) : One v := by
  obtain ⟨us, us', fp, Mb, hg, _⟩ := h
  exact hg.one
theorem RT.more (h : RT M0 M1 v rows) (hs : Sub M1 M2) : RT M0 M2 v rows := by
  obtain ⟨us, us', fp, Mb, hg, hm, h⟩ := h
  obtain ⟨Mb', g1, m1⟩ := hg.out hm (Mem.nil hs)
  rw [List.append_nil] at m1
  exact ⟨us, us', fp, Mb', g1, m1, h⟩
theorem RT.base {Mz : MH} (h : RT M0 M1 v rows) (hs : Sub Mz M0) : RT Mz M1 v rows := by
  obtain ⟨us, us', fp, Mb, hg, hm, h⟩ := h
  exact ⟨us, us', fp, Mb, hg, hm.base hs, h⟩
theorem RT.tree (h : RT M0 M1 v rows) : ∃ v' fp, Tr [v] [v'] fp ∧ Mem M0 M1 fp ∧ flat v ∧ (∀ q ∈ fp, flatL q.2) ∧ LII v' rows := by
  obtain ⟨us, us', fp, Mb, hg, hm, ht, hf, hff, _, hc⟩ := h
  rcases hg.own with ⟨rfl, k, rfl⟩ | ⟨b, n, ex, rfl, hb, hl⟩
  · cases ht
    have : rows = [] := List.eq_nil_of_length_eq_zero hc.1.symm
    subst this
    exact ⟨_, [], .refl _, .nil (hm.sub.trans hg.sub), by simp [flat], fun q hq => (by cases hq), .nil⟩
  · have hnew : Mb b = none := hg.new b rfl
    refine ⟨.fs (some (b, 0)) n n ex 1 (us'.drop 0), (b, us) :: (fp ++ []), .sl ht .nil, ?_, by simp [flat], fun q hq => ?_, ?_⟩
    · have k : Mem Mb M1 [(b, us)] := ⟨hg.sub, fun p hp => by simp at hp; subst hp; exact hnew, by simp [Nd2], fun p hp => by simp at hp; subst hp; exact hb⟩
      rw [List.append_nil]
      exact (hm.add k).perm List.perm_append_comm
    · simp only [List.append_nil, List.mem_cons] at hq
      rcases hq with rfl | h1
      · exact hf
      · exact hff q h1
    · have := ht.len
      exact Fr.lsC (us := us') (.inr ⟨_, _, _, _, _, by rw [List.drop_zero], by omega⟩) hc
theorem RT.dn (h : RT M0 M1 v rows) : Dn M0 M1 v (fun u => LII u rows) := h.tree
theorem RT.row (h : RT M0 M1 v rows) {i : Nat} (hi : i < rows.length) : ∃ (us : List V) (u u' : V) (g : List (Nat × List V)), (∀ {k : IntKind} {a : Int}, 0 ≤ a → a < (rows.length : Int) → iaddrV 1 v (.int k a) = some (.sc (.ptr (some (oB v, a.toNat))))) ∧ M1 (oB v) = some us ∧ us[i]? = some u ∧ One u ∧ Tr [u] [u'] g ∧ Nd2 g ∧ (∀ p ∈ g, M1 p.1 = some p.2) ∧ (∀ p ∈ g, M0 p.1 = none) ∧ LI u' rows[i] := by
  obtain ⟨us, us', fp, Mb, hg, hm, ht, hf, hff, ho, hc⟩ := h
  have hul : us.length = rows.length := by rw [← ht.len]; exact hc.1
  have hiu : i < us.length := by omega
  have hsp : us = us.take i ++ (us[i] :: us.drop (i + 1)) := by rw [← List.drop_eq_getElem_cons hiu, List.take_append_drop]
  rw [hsp] at ht
  obtain ⟨a', b', f1, f2, rfl, rfl, t1, t2⟩ := Tr.split (a := us.take i) (b := us[i] :: us.drop (i + 1)) (b' := []) ht
  obtain ⟨x', r', g1, g2, rfl, rfl, t3, t4⟩ := t2.uncons
  have hal : a'.length = i := by rw [t1.len, List.length_take]; omega
  have hmg : Mem M0 Mb g1 := hm.right.left
  have h4 := hc.2 i hi
  rw [List.getElem?_append_right (by omega), hal, Nat.sub_self] at h4
  obtain ⟨w, h5, h6⟩ := h4
  simp only [List.getElem?_cons_zero, Option.some.injEq] at h5
  subst h5
  have o1 := List.all_eq_true.1 ho _ (List.getElem_mem hiu)
  have fl := flatL_all.1 hf _ (List.getElem_mem hiu)
  refine ⟨us, us[i], x', g1, fun h0 h1 => hg.own.iaddr h0 (by rw [hul]; exact h1), hg.at (by omega), List.getElem?_eq_getElem hiu, ⟨o1, ?_⟩, t3, hmg.nd, fun p hp => hg.sub _ _ (hmg.at_ p hp), hmg.new, h6⟩
  rcases t3.inv1 with ⟨h1, h2⟩ | ⟨b, o, n, c, ex, k, cs, cs', g, h0, _⟩ | ⟨a, a', _, h0⟩ | ⟨a, a', _, h0⟩
  · simp only [List.cons.injEq, and_true] at h1
    rw [← h1]; exact h6.one.2
  · rw [h0]; rfl
  · rw [h0] at o1; exact absurd o1 (by simp [oneV, er, oneA])
  · rw [h0] at o1; exact absurd o1 (by simp [oneV, er, oneA])
theorem RT.snoc {s' : V} {M' : MH} {us us' : List V} {fp g : List (Nat × List V)} {u' : V} {Mb' : MH} (h1 : Gr 1 Mb' M' s' (us ++ [u])) (m1 : Mem M0 Mb' (fp ++ g)) (ht : Tr us us' fp) (htu : Tr [u] [u'] g) (hf : flatL us) (hfu : flat u) (hff : ∀ q ∈ fp, flatL q.2) (hfg : ∀ q ∈ g, flatL q.2)
    (ho : us.all oneV = true) (hou : oneV u = true) (hc : Cs isL us' rows) (hu : LI u' ys) : RT M0 M' s' (rows ++ [ys]) := by
  refine ⟨us ++ [u], us' ++ [u'], fp ++ g, Mb', h1, m1, ht.append htu, ?_, ?_, by simp [ho, hou], hc.snoc (x := ys) hu⟩
  · exact flatL_all.2 fun w hw => by
      rcases List.mem_append.1 hw with h2 | h2
      · exact flatL_all.1 hf w h2
      · rw [List.mem_singleton] at h2; subst h2; exact hfu
  · intro w hw
    rcases List.mem_append.1 hw with h2 | h2
    · exact hff w h2
    · exact hfg w h2
end
end Go.M2

namespace Go.M2
open Go.Proofs
variable {M : MH}
end Go.M2

namespace Go.M2
open Go.Proofs
variable {M : MH}
end Go.M2

namespace Go.M2
open Go.Proofs
variable {M : MH}
theorem Tr.one1 {u u' : V} {g : List (Nat × List V)} (h : Tr [u] [u'] g) (h' : One u') : One u := by
  obtain ⟨h1, h2⟩ := h'
  rcases h.inv1 with ⟨h3, _⟩ | ⟨b, o, n, c, ex, k, cs, cs', g, rfl, _⟩ | ⟨a, a', h3, _⟩ | ⟨a, a', h3, _⟩
  · simp only [List.cons.injEq, and_true] at h3
    rw [← h3]; exact ⟨h1, h2⟩
  · exact ⟨rfl, rfl⟩
  · simp only [List.cons.injEq, and_true] at h3
    rw [h3] at h1; exact absurd h1 (by simp [oneV, er, oneA])
  · simp only [List.cons.injEq, and_true] at h3
    rw [h3] at h1; exact absurd h1 (by simp [oneV, er, oneA])
def RdI (M : MH) (v : V) (xs : List Int) : Prop := ∃ v' g, Tr [v] [v'] g ∧ Nd2 g ∧ (∀ p ∈ g, M p.1 = some p.2) ∧ LI v' xs
theorem RdI.of {v : V} {xs : List Int} (h : LI v xs) : RdI M v xs := ⟨v, [], .refl _, List.nodup_nil, fun p hp => (by cases hp), h⟩
theorem RdI.more {M' : MH} {v : V} {xs : List Int} (h : RdI M v xs) (hs : Sub M M') : RdI M' v xs := by
  obtain ⟨v', g, h1, h2, h3, h4⟩ := h
  exact ⟨v', g, h1, h2, fun p hp => hs _ _ (h3 p hp), h4⟩
theorem RdI.one {v : V} {xs : List Int} (h : RdI M v xs) : One v := by
  obtain ⟨v', g, h1, h2, h3, h4⟩ := h
  exact h1.one1 h4.one
theorem Dn.rdI {M0 : MH} {v : V} {xs : List Int} (h : Dn M0 M v (fun u => LI u xs)) : RdI M v xs := by
  obtain ⟨v', g, h1, h2, h3, h4, h5⟩ := h
  exact ⟨v', g, h1, h2.nd, h2.at_, h5⟩
theorem RdI.len {v : V} {xs : List Int} (h : RdI M v xs) : lenF (er v) = some (.int .i64 (xs.length : Int)) := by
  obtain ⟨v', g, h1, h2, h3, h4⟩ := h
  have hl := h4.len
  rcases h1.inv1 with ⟨h5, _⟩ | ⟨b, o, n, c, ex, k, cs, cs', g, rfl, h5, _⟩ | ⟨a, a', h5, rfl⟩ | ⟨a, a', h5, rfl⟩
  · simp only [List.cons.injEq, and_true] at h5
    rw [← h5]; exact hl
  · simp only [List.cons.injEq, and_true] at h5
    rw [h5] at hl; exact hl
  · simp only [List.cons.injEq, and_true] at h5
    rw [h5] at hl; simp [er, lenF] at hl
  · simp only [List.cons.injEq, and_true] at h5
    rw [h5] at hl; simp [er, lenF] at hl
theorem RT.rdI {M0 M1 : MH} {v u : V} {us : List V} {rows : List (List Int)} (h : RT M0 M1 v rows) {i : Nat} (hi : i < rows.length) (hm : M1 (oB v) = some us) (hu : us[i]? = some u) : RdI M1 u rows[i] := by
  obtain ⟨us2, u2, u', g, _, h1, h2, _, h3, h4, h5, _, h6⟩ := h.row hi
  rw [hm] at h1; cases h1
  rw [hu] at h2; cases h2
  exact ⟨u', g, h3, h4, h5, h6⟩
theorem RT.cell {M0 M1 : MH} {v : V} {rows : List (List Int)} (h : RT M0 M1 v rows) (hl : 0 < rows.length) : ∃ us, M1 (oB v) = some us ∧ us.length = rows.length ∧ ∀ i (h : i < rows.length), ∃ u, us[i]? = some u ∧ RdI M1 u rows[i] := by
  have h0 := h
  obtain ⟨us, us', fp, Mb, hg, hm, ht, hf, hff, ho, hc⟩ := h0
  have hul : us.length = rows.length := by rw [← ht.len]; exact hc.1
  have hat : M1 (oB v) = some us := hg.at (by omega)
  exact ⟨us, hat, hul, fun i hi => ⟨us[i]'(by omega), List.getElem?_eq_getElem (by omega), h.rdI hi hat (List.getElem?_eq_getElem (by omega))⟩⟩
theorem RT.iaddr {M0 M1 : MH} {v : V} {rows : List (List Int)} (h : RT M0 M1 v rows) {k : IntKind} {a : Int} (h0 : 0 ≤ a) (h1 : a < (rows.length : Int)) : iaddrV 1 v (.int k a) = some (.sc (.ptr (some (oB v, a.toNat)))) := by
  obtain ⟨us, us', fp, Mb, hg, hm, ht, hf, hff, ho, hc⟩ := h
  have hul : us.length = rows.length := by rw [← ht.len]; exact hc.1
  exact hg.own.iaddr h0 (by rw [hul]; exact h1)
end Go.M2

namespace Go.M2
open Go.Proofs
variable {M : MH}
def FrStep (s : SysS) (p f : List Int) : Prop := SetOk (sizeF s.vars) f ∧ (∀ x ∈ p, x ∈ f) ∧ (∀ x ∈ nextN s p, x ∈ f)
def FrOk (s : SysS) (fs : List (List Int)) : Prop := SysOk s ∧ 1 ≤ fs.length ∧ fs.length ≤ 30 ∧ fs[0]? = some [firstN s] ∧ ∀ i (h : i + 1 < fs.length), FrStep s fs[i] fs[i + 1]
noncomputable def frB (s : SysS) (fs : List (List Int)) : Bool := @decide (FrOk s fs) (Classical.propDecidable _)
end Go.M2

namespace Go.M2
open Go.Proofs
variable {M : MH}
end Go.M2

namespace Go.M2
open Go.Proofs
variable {M : MH}
theorem t_wcInts {v w : V} {xs ys : List Int} (hv : LI v xs) (hw : LI w ys) (hl : xs.length ≤ 1048576) : VCall Tryz.prog n_laws_wcInts [v, w] M (fun r M' => M = M' ∧ r = .sc (.bool (decide (xs = ys)))) := by
  refine VCall.pure fun R hR => v_laws_wcInts rfl ?_
  refine sS2 @hv.len @hw.len ?_
  refine cond_dec (fun h => ?_) (fun h => ?_)
  · refine sS0 ?_
    refine hR _ _ (Sub.refl _) (by rw [decide_eq_false]; intro e; rw [e] at h; exact h rfl)
  · have hlen : xs.length = ys.length := by omega
    refine sS1 @hv.len ?_
    refine loop_k (fun e M' => M' = M ∧ ∃ i : Nat, i ≤ xs.length ∧ e 1 = w ∧ e 12 = v ∧ e 13 = .sc (.int .i64 xs.length) ∧ e 14 = .sc (.int .i64 (i : Int)) ∧ ∀ j (h1 : j < xs.length) (h2 : j < ys.length), j < i → xs[j] = ys[j]) (fun e _ => ctrV xs.length (e 14)) ?_ ?_
    · exact ⟨rfl, 0, by omega, sE0, sE0, sE0, sE0, fun j _ _ h => by omega⟩
    · rintro e _ ⟨rfl, i, hi, q1, q12, q13, q14, hj⟩ K hK
      refine sS4 @q1 @q12 @q13 @q14 ?_
      refine cond_dec (fun h2 => ?_) (fun h2 => ?_)
      · have hi' : i < xs.length := by omega
        have hi2 : i < ys.length := by omega
        simp (maxSteps := 2000000) (disch := first | omega | assumption | exact idP rfl | exact idP (bL rfl)) only [go_sem, reduceIte, Nat.reduceEqDiff, wpV_kd, wpV_tH, q1, q12, q13, q14, hv.iaddr, hv.at hi', hw.iaddr, hw.at hi2]
        refine cond_dec (fun h3 => ?_) (fun h3 => ?_)
        · refine sS0 ?_
          refine hR _ _ (Sub.refl _) (by rw [decide_eq_false]; intro e; subst e; exact h3 rfl)
        · refine sS4 @q1 @q12 @q13 @q14 ?_
          refine hK _ _ ⟨rfl, i + 1, by omega, sE0, sE0, sE0, sE0, fun j h4 h5 h6 => ?_⟩ (by refine sS2 @ctrV_int @q14 ?_; omega)
          by_cases e : j = i
          · subst e; omega
          · exact hj j h4 h5 (by omega)
      · refine sS0 ?_
        refine hR _ _ (Sub.refl _) (by rw [decide_eq_true]; exact List.ext_getElem hlen fun j h4 h5 => hj j h4 h5 (by omega))
theorem t_wcHas {v : V} {xs : List Int} {n : Int} (hv : LI v xs) (hl : xs.length ≤ 1048576) : VCall Tryz.prog n_laws_wcHas [v, .sc (.int .i64 n)] M (fun r M' => M = M' ∧ r = .sc (.bool (decide (n ∈ xs)))) := by
  refine VCall.pure fun R hR => v_laws_wcHas rfl ?_
  refine sS1 @hv.len ?_
  refine loop_k (fun e M' => M' = M ∧ ∃ i : Nat, i ≤ xs.length ∧ e 1 = .sc (.int .i64 n) ∧ e 7 = v ∧ e 8 = .sc (.int .i64 xs.length) ∧ e 9 = .sc (.int .i64 (i : Int)) ∧ ∀ j (h1 : j < xs.length), j < i → xs[j] ≠ n) (fun e _ => ctrV xs.length (e 9)) ?_ ?_
  · exact ⟨rfl, 0, by omega, sE0, sE0, sE0, sE0, fun j _ h => by omega⟩
  · rintro e _ ⟨rfl, i, hi, q1, q7, q8, q9, hj⟩ K hK
    refine sS4 @q1 @q7 @q8 @q9 ?_
    refine cond_dec (fun h2 => ?_) (fun h2 => ?_)
    · have hi' : i < xs.length := by omega
      simp (maxSteps := 2000000) (disch := first | omega | assumption | exact idP rfl | exact idP (bL rfl)) only [go_sem, reduceIte, Nat.reduceEqDiff, wpV_kd, wpV_tH, q1, q7, q8, q9, hv.iaddr, hv.at hi']
      refine cond_dec (fun h3 => ?_) (fun h3 => ?_)
      · refine sS0 ?_
        exact hR _ _ (Sub.refl _) (by rw [decide_eq_true]; rw [← h3]; exact List.getElem_mem hi')
      · refine sS4 @q1 @q7 @q8 @q9 ?_
        refine hK _ _ ⟨rfl, i + 1, by omega, sE0, sE0, sE0, sE0, fun j h4 h6 => ?_⟩ (by refine sS2 @ctrV_int @q9 ?_; omega)
        by_cases e : j = i
        · subst e; exact h3
        · exact hj j h4 (by omega)
    · refine sS0 ?_
      refine hR _ _ (Sub.refl _) (by rw [decide_eq_false]; intro hm; obtain ⟨j, h4, h5⟩ := List.getElem_of_mem hm; exact hj j h4 (by omega) h5)
theorem t_impSizeOf {v : V} {s : SysS} (hv : isSys s v) (hz : SysSz s) : VCall Tryz.prog n_impl_SizeOf [v] M (fun r M' => M = M' ∧ r = .sc (.int .i64 (sizeB s))) := by
  refine VCall.pure fun R hR => v_impl_SizeOf rfl ?_
  have hv0 := hv
  obtain ⟨a, b, rfl, ha, hb⟩ := hv
  (repeat' (first | ((with_reducible first | refine cond_dec (fun h => ?_) (fun h => ?_) | refine guardK_dec (fun h => ?_) (fun h => ?_) | refine guardD3_dec (fun h => ?_) (fun h => ?_)) <;> first | (exfalso; omega) | (simp (maxSteps := 2000000) (disch := first | omega | assumption | exact idP rfl | exact idP (bL rfl)) only [go_sem, reduceIte, Nat.reduceEqDiff, wpV_kd, wpV_tH, h]) | skip) | ((with_reducible first | refine cond_split (fun h => ?_) (fun h => ?_) | refine guardK_split (fun h => ?_) (fun h => ?_) | refine guardD3_split (fun h => ?_) (fun h => ?_)) <;> ((try simp only [Bool.not_eq_true', Bool.not_eq_false'] at h); first | (simp (maxSteps := 2000000) (disch := first | omega | assumption | exact idP rfl | exact idP (bL rfl)) only [go_sem, reduceIte, Nat.reduceEqDiff, wpV_kd, wpV_tH, h]) | skip)) | ((with_reducible refine (t_impSystemValid hv0 hz).mono ?_); rintro _ _ ⟨rfl, rfl⟩) | (with_reducible intro bk hbk; try have hnk := (fresh_set hbk).1) | (simp (maxSteps := 2000000) (disch := first | omega | assumption | exact idP rfl | exact idP (bL rfl)) only [go_sem, reduceIte, Nat.reduceEqDiff, wpV_kd, wpV_tH])))
  · exact hR _ _ (sB) (by simp [sizeB, h])
  · have hs := (sysB_iff s).1 h
    refine (t_impSize ha hs.vars hs.v5).mono ?_
    rintro _ _ ⟨rfl, rfl⟩
    refine sS0 ?_
    exact hR _ _ (sB) (by simp [sizeB, h])
theorem t_SetBoth1 {x y : Bool} : VCall Tryz.prog n_impl_SetBoth_1 [.sc (.bool x), .sc (.bool y)] M (fun r M' => M = M' ∧ r = .sc (.bool (x && y))) := by
  refine VCall.pure fun R hR => v_impl_SetBoth_1 rfl ?_
  cases x <;> (repeat' (first | ((with_reducible first | refine cond_dec (fun h => ?_) (fun h => ?_) | refine guardK_dec (fun h => ?_) (fun h => ?_) | refine guardD3_dec (fun h => ?_) (fun h => ?_)) <;> first | (exfalso; omega) | (simp (maxSteps := 2000000) (disch := first | omega | assumption | exact idP rfl | exact idP (bL rfl)) only [go_sem, reduceIte, Nat.reduceEqDiff, wpV_kd, wpV_tH, h]) | skip) | ((with_reducible first | refine cond_split (fun h => ?_) (fun h => ?_) | refine guardK_split (fun h => ?_) (fun h => ?_) | refine guardD3_split (fun h => ?_) (fun h => ?_)) <;> ((try simp only [Bool.not_eq_true', Bool.not_eq_false'] at h); first | (simp (maxSteps := 2000000) (disch := first | omega | assumption | exact idP rfl | exact idP (bL rfl)) only [go_sem, reduceIte, Nat.reduceEqDiff, wpV_kd, wpV_tH, h]) | skip)) | (with_reducible intro bk hbk; try have hnk := (fresh_set hbk).1) | (simp (maxSteps := 2000000) (disch := first | omega | assumption | exact idP rfl | exact idP (bL rfl)) only [go_sem, reduceIte, Nat.reduceEqDiff, wpV_kd, wpV_tH])))
  all_goals exact hR _ _ (sB) rfl
theorem t_impSetBoth {v w : V} {xs ys : List Int} (hv : LI v xs) (hw : LI w ys) (hl : xs.length ≤ 1048576) (hl2 : ys.length ≤ 1048576) : VCall Tryz.prog n_impl_SetBoth [v, w] M (fun r M' => M = M' ∧ LI r (boF xs ys)) := by
  have key : VCall Tryz.prog n_impl_setOf [v, w, .fn n_impl_SetBoth_1 []] M (fun r M' => M = M' ∧ LI r (boF xs ys)) := by
    refine VCall.froz fun R hP hG => v_impl_setOf rfl ?_
    (repeat' (first | ((with_reducible first | refine cond_dec (fun h => ?_) (fun h => ?_) | refine guardK_dec (fun h => ?_) (fun h => ?_) | refine guardD3_dec (fun h => ?_) (fun h => ?_)) <;> first | (exfalso; omega) | (simp (maxSteps := 2000000) (disch := first | omega | assumption | exact idP rfl | exact idP (bL rfl)) only [go_sem, reduceIte, Nat.reduceEqDiff, wpV_kd, wpV_tH, h]) | skip) | ((with_reducible first | refine cond_split (fun h => ?_) (fun h => ?_) | refine guardK_split (fun h => ?_) (fun h => ?_) | refine guardD3_split (fun h => ?_) (fun h => ?_)) <;> ((try simp only [Bool.not_eq_true', Bool.not_eq_false'] at h); first | (simp (maxSteps := 2000000) (disch := first | omega | assumption | exact idP rfl | exact idP (bL rfl)) only [go_sem, reduceIte, Nat.reduceEqDiff, wpV_kd, wpV_tH, h]) | skip)) | ((with_reducible refine (t_setOk hv hl ⟨by omega, by omega⟩).mono ?_); rintro _ _ ⟨rfl, rfl⟩) | ((with_reducible refine (t_setOk hw hl2 ⟨by omega, by omega⟩).mono ?_); rintro _ _ ⟨rfl, rfl⟩) | (with_reducible intro bk hbk; try have hnk := (fresh_set hbk).1) | (simp (maxSteps := 2000000) (disch := first | omega | assumption | exact idP rfl | exact idP (bL rfl)) only [go_sem, reduceIte, Nat.reduceEqDiff, wpV_kd, wpV_tH])))
    · exact hP _ _ (Sub.refl _) (by unfold boF; rw [if_neg (by rw [h]; simp)]; exact .nil)
    · exact hP _ _ (Sub.refl _) (by unfold boF; rw [if_neg (by rw [h]; simp)]; exact .nil)
    · rename_i h1
      have hok1 := setB_iff.1 h1
      have hok2 := setB_iff.1 h
      refine (VCall.fr1 (t_marks (n := 400) hv (by omega) hl fun x hx => hok1.in x hx)).mono ?_
      rintro m1 _ ⟨rfl, hm1⟩
      refine sS0 ?_
      refine (VCall.fr1 (t_marks (n := 400) hw (by omega) hl2 fun x hx => hok2.in x hx)).mono ?_
      rintro m2 _ ⟨rfl, hm2⟩
      refine sS0 ?_
      refine mks3 (by omega) (by simp [mostCells]) (by simp [mostCells]) ?_
      intro b9 hb9
      have hl1 := hm1.lb
      have hl2' := hm2.lb
      have e400 : (400 : Int).toNat = 400 := rfl
      simp (maxSteps := 2000000) (disch := first | omega | assumption | exact idP rfl | exact idP (bL rfl)) only [go_sem, reduceIte, Nat.reduceEqDiff, wpV_kd, wpV_tH, e400, zeros_vb', mkL_none]
      refine loop_k (fun e M' => ∃ i : Nat, i ≤ 400 ∧ e 2 = .fn n_impl_SetBoth_1 [] ∧ e 7 = m1 ∧ e 8 = m2 ∧ e 9 = .sc (.sl (some (b9, 0)) 400 400 true 1) ∧ e 25 = .sc (.int .i64 400) ∧ e 26 = .sc (.int .i64 (i : Int)) ∧ Gr 1 M M' (.sc (.sl (some (b9, 0)) 400 400 true 1)) ((mkL 400 fun j => decide (j < i) && boB xs ys j).map vb)) (fun e _ => ctrV 400 (e 26)) ?_ ?_
      · refine ⟨0, by omega, sE0, sE0, sE0, sE0, sE0, sE0, ?_⟩
        have := Gr.new' (sz := 1) (n := 400) (ex := true) (l := (mkL 400 fun _ => false).map vb) (Sub.refl M) hb9 (by rw [len_vb', mkL_len])
        rw [mkL_ext (q := fun _ => false) (fun j hj => by simp)]
        exact this
      · rintro e M2 ⟨i, hi, q2, q7, q8, q9, q25, q26, hg⟩ K hK
        refine sS6 @q2 @q7 @q8 @q9 @q25 @q26 ?_
        refine cond_dec (fun h5 => ?_) (fun h5 => ?_)
        · have hi' : i < 400 := by omega
          have g1 : ∀ {zs : List Int}, i < (mkL 400 (inL zs)).length := by intro zs; rw [mkL_len]; omega
          have a1 := hl1.at (i := i) g1
          have a2 := hl2'.at (i := i) g1
          rw [mkL_get] at a1 a2
          have i1 : ∀ {k : IntKind} {a : Int}, 0 ≤ a → a < 400 → iaddrV 1 m1 (.int k a) = some (.pf (hdB m1) (hdO m1 + a.toNat * 1) [at1 m1 a.toNat]) := fun x y => hl1.iaddr x (by rw [mkL_len]; exact y)
          have i2 : ∀ {k : IntKind} {a : Int}, 0 ≤ a → a < 400 → iaddrV 1 m2 (.int k a) = some (.pf (hdB m2) (hdO m2 + a.toNat * 1) [at1 m2 a.toNat]) := fun x y => hl2'.iaddr x (by rw [mkL_len]; exact y)
          simp (maxSteps := 2000000) (disch := first | omega | assumption | exact idP rfl | exact idP (bL rfl)) only [go_sem, reduceIte, Nat.reduceEqDiff, wpV_kd, wpV_tH, q2, q7, q8, q9, q25, q26, i1, i2, a1, a2]
          refine t_SetBoth1.mono ?_
          rintro _ _ ⟨rfl, rfl⟩
          have hb92 := hg.get.1
          have hso : i < ((mkL 400 fun j => decide (j < i) && boB xs ys j).map vb).length := by rw [len_vb', mkL_len]; omega
          refine sS7 @q2 @q7 @q8 @q9 @q25 @q26 @hb92 ?_
          refine hK _ _ ⟨i + 1, by omega, sE0, sE0, sE0, sE0, sE0, sE0, ?_⟩ (by refine sS2 @ctrV_int @q26 ?_; omega)
          have := hg.set (l' := (mkL 400 fun j => decide (j < i + 1) && boB xs ys j).map vb) (by rw [len_vb', len_vb', mkL_len, mkL_len])
          rw [set_vb', mkL_setB (q := fun j => decide (j < i + 1) && boB xs ys j)]
          · exact this
          · intro j hj
            by_cases e : j = i
            · subst e; simp [boB]
            · rw [if_neg e]
              congr 1
              apply decide_eq_decide.2
              omega
        · obtain rfl : i = 400 := by omega
          refine sS1 @q9 ?_
          refine (VCall.give0 hg fun u M3 hu hs2 => (t_listOf hu.lb (by omega)).mono fun r M' hr => hr.base hs2).mono ?_
          rintro r M3 hr
          refine sS0 ?_
          refine hG _ _ _ _ hr fun u hu => ?_
          unfold boF
          rw [if_pos ⟨h1, h⟩]
          have := hu.li
          rw [selL_ext (q := boB xs ys) (fun j hj => by simp [hj])] at this
          exact this
  refine VCall.pure fun R hR => v_impl_SetBoth rfl ?_
  refine sS0 ?_
  refine key.mono ?_
  rintro r _ ⟨rfl, hr⟩
  refine sS0 ?_
  exact hR _ _ (Sub.refl _) hr
end Go.M2

namespace Go.M2
open Go.Proofs
variable {M : MH}
inductive Bk (tab : List (List Int)) (st : Nat → Prop) : Nat → Prop
  | base {i : Nat} : st i → Bk tab st i
  | step {i : Nat} {x : Int} : x ∈ tab.getD i [] → Bk tab st x.toNat → Bk tab st i
def TurnOf (tab tab' : List (List Int)) : Prop := tab'.length = tab.length ∧ ∀ (k : Nat) (x : Int), x ∈ tab'.getD k [] ↔ k < tab.length ∧ ∃ q : Nat, q < tab.length ∧ x = (q : Int) ∧ (k : Int) ∈ tab.getD q []
def TabIn (tab : List (List Int)) : Prop := ∀ (i : Nat), ∀ x ∈ tab.getD i [], 0 ≤ x ∧ x < (tab.length : Int)
section
variable {tab tab' : List (List Int)} {st : Nat → Prop} {i : Nat}
theorem getD_lt {i : Nat} {x : Int} (h : x ∈ tab.getD i []) : i < tab.length := by
  rcases Nat.lt_or_ge i tab.length with h1 | h1
  · exact h1
  · simp [List.getD, List.getElem?_eq_none h1] at h
theorem turn_in (ht : TurnOf tab tab') : TabIn tab' := fun i x hx => by
  obtain ⟨_, q, h2, rfl, _⟩ := (ht.2 i x).1 hx
  rw [ht.1]; omega
theorem Rch.trans {a b c : Nat} (h1 : Rch tab (fun i => i = a) b) (h2 : Rch tab (fun i => i = b) c) : Rch tab (fun i => i = a) c := by
  induction h2 with
  | base h => rw [h]; exact h1
  | step _ hx ih => exact .step ih hx
end
def tuF (tab : List (List Int)) : List (List Int) := (List.range tab.length).map fun n : Nat => selL tab.length fun m => decide ((n : Int) ∈ tab.getD m [])
theorem tuF_len (tab : List (List Int)) : (tuF tab).length = tab.length := by simp [tuF]
theorem tuF_get {tab : List (List Int)} {n : Nat} (h : n < (tuF tab).length) : (tuF tab)[n] = selL tab.length fun m => decide ((n : Int) ∈ tab.getD m []) := by simp [tuF]
theorem tuF_turn (tab : List (List Int)) : TurnOf tab (tuF tab) := by
  refine ⟨tuF_len tab, fun k x => ?_⟩
  rcases Nat.lt_or_ge k tab.length with h | h
  · have hk : k < (tuF tab).length := by rw [tuF_len]; exact h
    have e : (tuF tab).getD k [] = (tuF tab)[k] := by simp [List.getD, hk]
    rw [e, tuF_get, mem_selL]
    simp only [decide_eq_true_eq, h, true_and]
    exact ⟨fun ⟨q, h1, h2, h3⟩ => ⟨q, h1, h3.symm, h2⟩, fun ⟨q, h1, h3, h2⟩ => ⟨q, h1, h2, h3.symm⟩⟩
  · have e : (tuF tab).getD k [] = [] := by simp [List.getD, List.getElem?_eq_none (show (tuF tab).length ≤ k by rw [tuF_len]; exact h)]
    rw [e]
    simp
    omega
theorem past_turn {tab tab' : List (List Int)} (h : isPast tab tab') : TurnOf tab tab' := by
  obtain ⟨h1, h2⟩ := h
  refine ⟨h1, fun k x => ?_⟩
  rcases Nat.lt_or_ge k tab.length with hk | hk
  · have hk' : k < tab'.length := by omega
    have e : tab'.getD k [] = tab'[k] := by simp [List.getD, hk']
    rw [e, (h2 k hk').2 x]
    unfold mmP
    simp only [hk, true_and, List.take_zero, List.not_mem_nil, and_false, or_false]
  · have e : tab'.getD k [] = [] := by simp [List.getD, List.getElem?_eq_none (show tab'.length ≤ k by omega)]
    rw [e]
    simp
    omega
theorem tabF_TabIn {s : SysS} (hs : SysOk s) : TabIn (tabF s) := fun i x hx => by
  have h1 := getD_lt hx
  have e : (tabF s).getD i [] = (tabF s)[i] := by simp [List.getD, h1]
  rw [e] at hx
  exact (tabF_in hs _ (List.getElem_mem h1)).2 x hx
end Go.M2

namespace Go.M2
open Go.Proofs
variable {M : MH}
theorem selL_snoc {n : Nat} {p : Nat → Bool} (h : p n = true) : selL (n + 1) p = selL n p ++ [(n : Int)] := by rw [selL_succ, if_pos h]
theorem selL_skip {n : Nat} {p : Nat → Bool} (h : p n = false) : selL (n + 1) p = selL n p := by rw [selL_succ, if_neg (by rw [h]; simp)]
theorem t_l5Turned {v : V} {tab : List (List Int)} (hv : LII v tab) (hN : tab.length ≤ 1048576) (htl : ∀ r ∈ tab, r.length ≤ 1048576) :
    VCall Tryz.prog n_spec_l5Turned [v] M (fun r M' => ∃ us, Gr 1 M M' r us ∧ Cs isL us (tuF tab)) := by
  refine VCall.plain fun R hR => v_spec_l5Turned rfl ?_
  have htul := tuF_len tab
  refine sS0 ?_
  intro b3 hb3
  refine loop_k (fun e M' => ∃ (n : Nat) (us : List V), n ≤ tab.length ∧ e 0 = v ∧ e 4 = .sc (.int .i64 (n : Int)) ∧ Gr 1 M M' (e 3) us ∧ Cs isL us ((tuF tab).take n)) (fun e _ => ctrV tab.length (e 4)) ?_ ?_
  · exact ⟨0, [], by omega, sE0, sE0, by refine sS0 ?_; exact Gr.new' (Sub.refl _) hb3 rfl, .nil⟩
  · rintro e M1 ⟨n, us, hn, q0, q4, hg, hc⟩ K hK
    have hul := hc.1
    rw [List.length_take, htul] at hul
    refine sS3 @q0 @q4 @hv.len ?_
    refine cond_dec (fun h => ?_) (fun h => ?_)
    · have hn' : n < tab.length := by omega
      refine sS2 @q0 @q4 ?_
      intro b5 hb5
      refine loop_k (fun e' M' => ∃ i : Nat, i ≤ tab.length ∧ e' 0 = v ∧ e' 3 = e 3 ∧ e' 4 = .sc (.int .i64 (n : Int)) ∧ e' 6 = .sc (.int .i64 (i : Int)) ∧ Gr 1 M1 M' (e' 5) ((selL i fun m => decide ((n : Int) ∈ tab.getD m [])).map vi)) (fun e' _ => ctrV tab.length (e' 6)) ?_ ?_
      · exact ⟨0, by omega, sE1 @q0, sE0, sE1 @q4, sE0, by refine sS0 ?_; exact Gr.new' (Sub.refl _) hb5 rfl⟩
      · rintro e' M2 ⟨i, hi, f0, f3, f4, f6, hg2⟩ K2 hK2
        have hsl : (selL i fun m => decide ((n : Int) ∈ tab.getD m [])).length ≤ i := selL_len
        refine sS5 @f0 @f3 @f4 @f6 @hv.len ?_
        refine cond_dec (fun h2 => ?_) (fun h2 => ?_)
        · have hi' : i < tab.length := by omega
          have hgd : tab.getD i [] = tab[i] := by simp [List.getD, hi']
          refine sS5 @f0 @f3 @f4 @f6 @hv.iaddr ?_
          refine (t_l2Has (hv.elt hi') (htl _ (List.getElem_mem hi'))).mono ?_
          rintro _ _ ⟨rfl, rfl⟩
          refine sS0 ?_
          refine cond_dec (fun h3 => ?_) (fun h3 => ?_)
          · refine sS4 @f0 @f3 @f4 @f6 ?_
            intro bt hbt
            refine app_int hg2 hbt (by omega) (by omega) ?_
            intro s' M' hg' _
            refine sS0 ?_
            refine hK2 _ _ ⟨i + 1, by omega, sE0, sE0, sE0, sE0, ?_⟩ (by refine sS2 @ctrV_int @f6 ?_; omega)
            refine sS0 ?_
            rw [selL_snoc (by rw [hgd]; simpa using h3)]
            exact hg'
          · refine sS4 @f0 @f3 @f4 @f6 ?_
            refine hK2 _ _ ⟨i + 1, by omega, sE0, sE0, sE0, sE0, ?_⟩ (by refine sS2 @ctrV_int @f6 ?_; omega)
            refine sS0 ?_
            rw [selL_skip (by rw [hgd]; simpa using h3)]
            exact hg2
        · obtain rfl : i = tab.length := by omega
          have ho := hg2.one
          have ho1 := ho.1
          refine sS5 @f0 @f3 @f4 ho.1 ho.2 ?_
          intro bt hbt
          refine app_row hg hg2 hbt (by omega) (by omega) ?_
          intro s' M' u hg' hu
          refine sS0 ?_
          refine hK _ _ ⟨n + 1, _, by omega, sE0, sE0, by refine sS0 ?_; exact hg', ?_⟩ (by refine sS2 @ctrV_int @q4 ?_; omega)
          rw [take_snoc (by rw [htul]; exact hn'), tuF_get]
          exact hc.snoc hu.li
    · obtain rfl : n = tab.length := by omega
      rw [List.take_of_length_le (by rw [htul]; exact Nat.le_refl _)] at hc
      refine sS0 ?_
      exact hR _ _ ⟨us, hg, hc⟩
theorem f_l5Turned {v : V} {tab : List (List Int)} (hv : LII v tab) (hN : tab.length ≤ 1048576) (htl : ∀ r ∈ tab, r.length ≤ 1048576) : VCall Tryz.prog n_spec_l5Turned [v] M (fun r M' => M = M' ∧ LII r (tuF tab)) :=
  (VCall.fr (t_l5Turned hv hN htl) fun _ _ _ h => h).mono fun r M' ⟨h, c, hf, hc⟩ => ⟨h, hf.lsC hc⟩
theorem Rch.none {tab : List (List Int)} {st : Nat → Prop} (h : ∀ i, ¬ st i) {i : Nat} : ¬ Rch tab st i := fun hr => by
  induction hr with
  | base h1 => exact h _ h1
  | step _ _ ih => exact ih
end Go.M2

namespace Go.M2
open Go.Proofs
variable {M : MH}
theorem turn_at {tab tab' : List (List Int)} (ht : TurnOf tab tab') : ∀ r ∈ tab', ∀ x ∈ r, 0 ≤ x ∧ x < (tab'.length : Int) := fun r hr x hx => by
  obtain ⟨k, hk, rfl⟩ := List.getElem_of_mem hr
  exact turn_in ht k x (by simpa [List.getD, hk] using hx)
theorem f_pasts {v : V} {s : SysS} (hv : LII v (tabF s)) (hs : SysOk s) : VCall Tryz.prog n_impl_pasts [v] M (fun r M' => M = M' ∧ ∃ tab', LII r tab' ∧ isPast (tabF s) tab') :=
  VCall.frT ((o_pasts hv (by have := tabF_len s; have := hs.sz; omega) (tabF_8 hs)).mono fun r M' ⟨us', fp, tab', q1, q2, q3, q4, q5, q6⟩ => ⟨us', fp, q1, q2, q3, q4, tab', q5, q6⟩)
theorem past_len {s : SysS} {tab' : List (List Int)} (hs : SysOk s) (hp : isPast (tabF s) tab') : ∀ r ∈ tab', r.length ≤ 1048576 := fun r hr => by
  obtain ⟨k, hk, rfl⟩ := List.getElem_of_mem hr
  have := (hp.2 k hk).1
  have := tabF_len s
  have := hs.sz
  omega
theorem setV_ok {s : SysS} {xs : List Int} (h : setV s xs = true) : SetOk 400 xs := by
  obtain ⟨hs, hset⟩ := setV_iff.1 h
  exact hset.mono hs.sz.2
end Go.M2

namespace Go.M2
open Go.Proofs
variable {M : MH}
section
variable {tab : List (List Int)} {i j k : Nat}
end
end Go.M2

namespace Go.M2
open Go.Proofs
variable {M : MH}
end Go.M2

namespace Go.M2
open Go.Proofs
variable {M : MH}
theorem setV_one {s : SysS} {i : Nat} (hs : SysOk s) (hi : i < (tabF s).length) : setV s [(i : Int)] = true := by
  refine setV_iff.2 ⟨hs, fun j hj _ => ?_⟩
  have htl := tabF_len s
  have := hs.sz
  obtain rfl : j = 0 := by simp at hj; exact hj
  exact ⟨by simp; omega, fun h => by simp at h⟩
end Go.M2

namespace Go.M2
open Go.Proofs
variable {M : MH}
inductive Wk (tab : List (List Int)) : Nat → Nat → Nat → Prop
  | zero {k i : Nat} : Wk tab k i i
  | step {k i j : Nat} {x : Int} : x ∈ tab.getD i [] → Wk tab k x.toNat j → Wk tab (k + 1) i j
def mIt (tab : List (List Int)) (m : Nat → Bool) : Nat → Nat → Bool
  | 0 => m
  | k + 1 => fun i => mIt tab m k i || aheadB tab (mIt tab m k) i
section
variable {tab tab' : List (List Int)} {m : Nat → Bool}
theorem Wk.mono {k i j : Nat} (h : Wk tab k i j) : Wk tab (k + 1) i j := by
  induction h with
  | zero => exact .zero
  | step h1 _ ih => exact .step h1 ih
theorem mIt_iff : ∀ {k i : Nat}, mIt tab m k i = true ↔ ∃ j, Wk tab k i j ∧ m j = true
  | 0, i => ⟨fun h => ⟨i, .zero, h⟩, fun ⟨j, h1, h2⟩ => by cases h1; exact h2⟩
  | k + 1, i => by
    unfold mIt
    rw [Bool.or_eq_true]
    unfold aheadB
    rw [List.any_eq_true]
    constructor
    · rintro (h | ⟨x, h1, h2⟩)
      · obtain ⟨j, h3, h4⟩ := mIt_iff.1 h
        exact ⟨j, h3.mono, h4⟩
      · obtain ⟨j, h3, h4⟩ := mIt_iff.1 h2
        exact ⟨j, .step h1 h3, h4⟩
    · rintro ⟨j, h1, h2⟩
      cases h1 with
      | zero => exact .inl (mIt_iff.2 ⟨i, .zero, h2⟩)
      | step h3 h4 => exact .inr ⟨_, h3, mIt_iff.2 ⟨j, h4, h2⟩⟩
theorem Wk.snoc {k i j : Nat} {x : Int} (h : Wk tab k i j) (hx : x ∈ tab.getD j []) : Wk tab (k + 1) i x.toNat := by
  induction h with
  | zero => exact .step hx .zero
  | step h1 _ ih => exact .step h1 (ih hx)
theorem turn_symm (ht : TurnOf tab tab') (hin : TabIn tab) : TurnOf tab' tab := by
  refine ⟨ht.1.symm, fun k x => ⟨fun hx => ?_, ?_⟩⟩
  · have h1 := hin k x hx
    have h2 := getD_lt hx
    refine ⟨by rw [ht.1]; exact h2, x.toNat, by rw [ht.1]; omega, by omega, ?_⟩
    exact (ht.2 x.toNat k).2 ⟨by omega, k, h2, rfl, by rw [Int.toNat_of_nonneg h1.1]; exact hx⟩
  · rintro ⟨_, q, _, rfl, h⟩
    obtain ⟨_, r, _, h1, h2⟩ := (ht.2 q k).1 h
    have : k = r := by omega
    subst this; exact h2
theorem Wk.turn (ht : TurnOf tab tab') {k i j : Nat} (h : Wk tab' k i j) : Wk tab k j i := by
  induction h with
  | zero => exact .zero
  | @step k i j x h1 _ ih =>
    obtain ⟨_, q, _, rfl, h2⟩ := (ht.2 i x).1 h1
    have := Wk.snoc ih h2
    simpa using this
theorem mIt_turn (ht : TurnOf tab tab') (hin : TabIn tab) {k n : Nat} : mIt tab m k n = true ↔ ∃ j, mIt tab' (inL [(n : Int)]) k j = true ∧ m j = true := by
  rw [mIt_iff]
  constructor
  · rintro ⟨j, h1, h2⟩
    exact ⟨j, mIt_iff.2 ⟨n, Wk.turn (turn_symm ht hin) h1, by simp [inL]⟩, h2⟩
  · rintro ⟨j, h1, h2⟩
    obtain ⟨q, h3, h4⟩ := mIt_iff.1 h1
    have : q = n := by simp [inL] at h4; omega
    subst this
    exact ⟨j, Wk.turn ht h3, h2⟩
theorem turn_beh (ht : TurnOf tab tab') {N i : Nat} (hN : tab.length = N) (hi : i < N) : behB tab (selL N m) i = aheadB tab' m i := by
  unfold behB aheadB
  rw [Bool.eq_iff_iff, List.any_eq_true, List.any_eq_true]
  constructor
  · rintro ⟨x, h1, h2⟩
    obtain ⟨q, h3, h4, rfl⟩ := mem_selL.1 h1
    exact ⟨(q : Int), (ht.2 i q).2 ⟨by omega, q, by omega, rfl, by simpa using h2⟩, by simpa using h4⟩
  · rintro ⟨x, h1, h2⟩
    obtain ⟨_, q, h3, rfl, h4⟩ := (ht.2 i x).1 h1
    exact ⟨(q : Int), mem_selL.2 ⟨q, by omega, by simpa using h2, rfl⟩, by simpa using h4⟩
theorem ahead_ext (hin : TabIn tab) {m m' : Nat → Bool} (h : ∀ i, i < tab.length → m i = m' i) (i : Nat) : aheadB tab m i = aheadB tab m' i := by
  unfold aheadB
  rw [Bool.eq_iff_iff, List.any_eq_true, List.any_eq_true]
  constructor
  · rintro ⟨x, h1, h2⟩
    have := hin i x h1
    exact ⟨x, h1, by rw [← h _ (by omega)]; exact h2⟩
  · rintro ⟨x, h1, h2⟩
    have := hin i x h1
    exact ⟨x, h1, by rw [h _ (by omega)]; exact h2⟩
theorem mIt_still (hin : TabIn tab) {j : Nat} (h : ∀ i, i < tab.length → mIt tab m (j + 1) i = mIt tab m j i) : ∀ {d i : Nat}, i < tab.length → mIt tab m (j + d) i = mIt tab m j i
  | 0, i, _ => rfl
  | d + 1, i, hi => by
    show (mIt tab m (j + d) i || aheadB tab (mIt tab m (j + d)) i) = mIt tab m j i
    rw [ahead_ext hin (fun q hq => mIt_still hin h (d := d) hq), mIt_still hin h (d := d) hi]
    exact h i hi
end
noncomputable def backS (s : SysS) (xs : List Int) (k : Int) : List Int := if setV s xs = true ∧ 0 ≤ k ∧ k ≤ 400 then selL (tabF s).length (mIt (tabF s) (inL xs) k.toNat) else []
noncomputable def aheadS (s : SysS) (xs : List Int) (k : Int) : List Int := if setV s xs = true ∧ 0 ≤ k ∧ k ≤ 400 then selL (tabF s).length (mIt (tuF (tabF s)) (inL xs) k.toNat) else []
theorem withinS_len {s : SysS} {xs : List Int} {k : Int} : (backS s xs k).length ≤ 400 ∧ (aheadS s xs k).length ≤ 400 := by
  unfold backS aheadS
  split
  · rename_i h
    have := (setV_iff.1 h.1).1.sz
    have htl := tabF_len s
    exact ⟨Nat.le_trans selL_len (by omega), Nat.le_trans selL_len (by omega)⟩
  · simp
end Go.M2

namespace Go.M2
open Go.Proofs
variable {M : MH}
theorem f_listOfO {w : V} {n : Nat} {p : Nat → Bool} {M0 : MH} (hw : Gr 1 M0 M w ((mkL n p).map vb)) (hn : n ≤ 1048576) : VCall Tryz.prog n_impl_listOf [w] M (fun r M' => M = M' ∧ LI r (selL n p)) :=
  (VCall.fr1 ((VCall.lendG (a1 := []) (a2 := []) hw.own (flatL_vi _) fun u M' hu => t_listOf hu.lb hn).mono fun r M' h => h.1)).mono fun r M' ⟨h1, h2⟩ => ⟨h1, h2.li⟩
theorem f_over {v w : V} {tab : List (List Int)} {xs : List Int} (hv : LII v tab) (hw : LI w xs) (hn : tab.length ≤ 1048576) (hl : xs.length ≤ 1048576) (hin : ∀ x ∈ xs, 0 ≤ x ∧ x < (tab.length : Int))
    (htl : ∀ r ∈ tab, r.length ≤ 1048576 ∧ ∀ x ∈ r, 0 ≤ x ∧ x < (tab.length : Int)) :
    VCall Tryz.prog n_impl_over [v, w] M (fun r M' => M = M' ∧ LI r (selL tab.length (behB tab xs))) :=
  (VCall.fr1 (o_over hv hw hn hl hin htl)).mono fun r M' ⟨h1, h2⟩ => ⟨h1, h2.li⟩
theorem selL_in {n : Nat} {p : Nat → Bool} : ∀ x ∈ selL n p, 0 ≤ x ∧ x < (n : Int) := fun x hx => by
  obtain ⟨i, hi, _, rfl⟩ := mem_selL.1 hx
  omega
theorem t_within {v w : V} {tab tab' : List (List Int)} {xs : List Int} {k : Nat} (hv : LII v tab) (hw : LI w xs) (ht : TurnOf tab tab') (hN : tab.length ≤ 1048576) (hl : xs.length ≤ 1048576)
    (hin : ∀ x ∈ xs, 0 ≤ x ∧ x < (tab.length : Int)) (htl : ∀ r ∈ tab, r.length ≤ 1048576 ∧ ∀ x ∈ r, 0 ≤ x ∧ x < (tab.length : Int)) (hk : k ≤ 400) :
    VCall Tryz.prog n_impl_within [v, w, .sc (.int .i64 (k : Int))] M (fun r M' => Gr 1 M M' r ((mkL tab.length (mIt tab' (inL xs) k)).map vb)) := by
  refine VCall.plain fun R hR => v_impl_within rfl ?_
  have hin' := turn_in ht
  have hlt := ht.1
  obtain ⟨N, hNe⟩ : ∃ N, tab.length = N := ⟨_, rfl⟩
  refine sS1 @hv.len ?_
  refine (t_marks hw hN hl hin).mono ?_
  rintro out M1 hout
  refine sS0 ?_
  refine loop_k (fun e M' => ∃ j : Nat, j ≤ k ∧ e 0 = v ∧ e 7 = out ∧ e 16 = .sc (.int .i64 (k : Int)) ∧ e 17 = .sc (.int .i64 (j : Int)) ∧ Gr 1 M M' out ((mkL tab.length (mIt tab' (inL xs) j)).map vb)) (fun e _ => ctrV k (e 17)) ?_ ?_
  · exact ⟨0, by omega, sE0, sE0, sE0, sE0, hout⟩
  · rintro e M2 ⟨j, hj, q0, q7, q16, q17, hg2⟩ K hK
    refine sS4 @q0 @q7 @q16 @q17 ?_
    refine cond_dec (fun h => ?_) (fun h => ?_)
    · have hj' : j < k := by omega
      generalize hm : mIt tab' (inL xs) j = m at *
      refine sS4 @q0 @q7 @q16 @q17 ?_
      refine (f_listOfO hg2 hN).mono ?_
      rintro l _ ⟨rfl, hl1⟩
      refine sS4 @q0 @q7 @q16 @q17 ?_
      refine (f_over hv hl1 hN (Nat.le_trans selL_len hN) selL_in htl).mono ?_
      rintro nx _ ⟨rfl, hnx⟩
      rw [selL_ext fun i hi => turn_beh (m := m) ht rfl hi] at hnx
      have hnl : (selL tab.length (aheadB tab' m)).length ≤ 1048576 := Nat.le_trans selL_len hN
      have hni := selL_in (n := tab.length) (p := aheadB tab' m)
      have hnm : ∀ i : Nat, i < tab.length → decide ((i : Int) ∈ selL tab.length (aheadB tab' m)) = aheadB tab' m i := fun i hi => inL_selL hi
      generalize selL tab.length (aheadB tab' m) = ys at *
      refine sS5 @q0 @q7 @q16 @q17 @hnx.len ?_
      refine loop_k (fun e' M' => ∃ (q : Nat) (c : Bool), q ≤ ys.length ∧ e' 0 = v ∧ e' 7 = out ∧ e' 9 = .sc (.bool c) ∧ e' 16 = .sc (.int .i64 (k : Int)) ∧ e' 17 = .sc (.int .i64 (j : Int)) ∧ e' 23 = nx ∧ e' 24 = .sc (.int .i64 ys.length) ∧ e' 25 = .sc (.int .i64 (q : Int)) ∧ Gr 1 M M' out ((mkL tab.length fun i => m i || decide ((i : Int) ∈ ys.take q)).map vb) ∧ (c = false → ∀ x ∈ ys.take q, m x.toNat = true)) (fun e' _ => ctrV ys.length (e' 25)) ?_ ?_
      · refine ⟨0, false, by omega, sE1 @q0, sE1 @q7, sE0, sE1 @q16, sE1 @q17, sE0, sE0, sE0, ?_, fun _ x hx => by simp at hx⟩
        rw [mkL_ext (q := m) fun i _ => by simp]
        exact hg2
      · rintro e' M3 ⟨q, c, hq, f0, f7, f9, f16, f17, f23, f24, f25, hg3, hc⟩ K2 hK2
        refine sS8 @f0 @f7 @f9 @f16 @f17 @f23 @f24 @f25 ?_
        refine cond_dec (fun h3 => ?_) (fun h3 => ?_)
        · have hq' : q < ys.length := by omega
          obtain ⟨y, hy⟩ : ∃ y, ys[q] = y := ⟨_, rfl⟩
          have hyi := hni y (by rw [← hy]; exact List.getElem_mem hq')
          have ha := hnx.at hq'
          rw [hy] at ha
          have hL : ∀ {f : Nat → Bool}, ((mkL tab.length f).map vb).length = tab.length := by intro f; rw [len_vb', mkL_len]
          have hia : ∀ {z : IntKind} {a : Int}, 0 ≤ a → a < (tab.length : Int) → iaddrV 1 out (.int z a) = some (.sc (.ptr (some (oB out, a.toNat)))) := fun q1 q2 => hg3.own.iaddr q1 (by rw [hL]; exact q2)
          have hm3 := hg3.at (by rw [hL]; omega)
          have hgi : ((mkL tab.length fun i => m i || decide ((i : Int) ∈ ys.take q)).map vb)[y.toNat]? = some (.sc (.bool (m y.toNat || decide (y ∈ ys.take q)))) := by
            rw [List.getElem?_map, List.getElem?_eq_getElem (by rw [mkL_len]; omega), mkL_get, Int.toNat_of_nonneg hyi.1]; rfl
          have hso : y.toNat < ((mkL tab.length fun i => m i || decide ((i : Int) ∈ ys.take q)).map vb).length := by rw [hL]; omega
          have fin : ∀ (c' : Bool), (c' = false → c = false ∧ (m y.toNat || decide (y ∈ ys.take q)) = true) →
              Gr 1 M (M3.set (oB out) (((mkL tab.length fun i => m i || decide ((i : Int) ∈ ys.take q)).map vb).set y.toNat (.sc (.bool true)))) out ((mkL tab.length fun i => m i || decide ((i : Int) ∈ ys.take (q + 1))).map vb) ∧ (c' = false → ∀ x ∈ ys.take (q + 1), m x.toNat = true) := fun c' hc' => by
            refine ⟨?_, fun h4 x hx => ?_⟩
            · rw [set_vb', mkL_set (q := fun i => m i || decide ((i : Int) ∈ ys.take (q + 1))) fun i hi => ?_]
              · exact hg3.setO (by rw [hL]; omega) (by rw [hL, hL])
              · rw [take_snoc hq', hy, Bool.or_assoc]
                congr 1
                rw [Bool.eq_iff_iff]
                simp only [decide_eq_true_eq, List.mem_append, List.mem_singleton, Bool.or_eq_true]
                constructor
                · rintro (h | h)
                  · exact .inl h
                  · exact .inr (by omega)
                · rintro (h | h)
                  · exact .inl h
                  · exact .inr (by omega)
            · obtain ⟨h5, h6⟩ := hc' h4
              rw [take_snoc hq', hy, List.mem_append, List.mem_singleton] at hx
              rcases hx with hx | rfl
              · exact hc h5 x hx
              · rw [Bool.or_eq_true, decide_eq_true_eq] at h6
                rcases h6 with h6 | h6
                · exact h6
                · exact hc h5 _ h6
          cases c with
          | true =>
            obtain ⟨g1, g2⟩ := fin true (fun h => by cases h)
            simp (maxSteps := 2000000) (disch := first | omega | assumption | exact idP rfl | exact idP (bL rfl)) only [go_sem, reduceIte, Nat.reduceEqDiff, wpV_kd, wpV_tH, f0, f7, f9, f16, f17, f23, f24, f25, hnx.iaddr, ha, hia, hm3, hso]
            exact hK2 _ _ ⟨q + 1, true, by omega, sE0, sE0, sE0, sE0, sE0, sE0, sE0, sE0, g1, g2⟩ (by refine sS2 @ctrV_int @f25 ?_; omega)
          | false =>
            generalize hbv : (m y.toNat || decide (y ∈ ys.take q)) = bv at *
            obtain ⟨g1, g2⟩ := fin (!bv) (fun h => ⟨rfl, by simpa using h⟩)
            simp (maxSteps := 2000000) (disch := first | omega | assumption | exact idP rfl | exact idP (bL rfl)) only [go_sem, reduceIte, Nat.reduceEqDiff, wpV_kd, wpV_tH, f0, f7, f9, f16, f17, f23, f24, f25, hnx.iaddr, ha, hia, hm3, hgi, hso]
            exact hK2 _ _ ⟨q + 1, !bv, by omega, sE0, sE0, sE0, sE0, sE0, sE0, sE0, sE0, g1, g2⟩ (by refine sS2 @ctrV_int @f25 ?_; omega)
        · obtain rfl : q = ys.length := by omega
          rw [List.take_length] at hg3 hc
          have hgn : (mkL tab.length fun i => m i || decide ((i : Int) ∈ ys)) = mkL tab.length (mIt tab' (inL xs) (j + 1)) := mkL_ext fun i hi => by
            show _ = (mIt tab' (inL xs) j i || aheadB tab' (mIt tab' (inL xs) j) i)
            rw [hm, hnm i hi]
          rw [hgn] at hg3
          cases c with
          | true =>
            refine sS5 @f0 @f7 @f9 @f16 @f17 ?_
            exact hK _ _ ⟨j + 1, by omega, sE1 @f0, sE1 @f7, sE1 @f16, sE1 @f17, hg3⟩ (by refine sS3 @ctrV_int @q17 @f17 ?_; omega)
          | false =>
            refine sS5 @f0 @f7 @f9 @f16 @f17 ?_
            have hst : ∀ i, i < tab'.length → mIt tab' (inL xs) (j + 1) i = mIt tab' (inL xs) j i := fun i hi => by
              show (mIt tab' (inL xs) j i || aheadB tab' (mIt tab' (inL xs) j) i) = mIt tab' (inL xs) j i
              rw [hm, ← hnm i (by omega)]
              cases hmi : m i with
              | true => rfl
              | false =>
                have : ¬ (i : Int) ∈ ys := fun h => by have := hc rfl _ h; simp [hmi] at this
                simp [this]
            refine hR _ _ ?_
            rw [mkL_ext (q := mIt tab' (inL xs) (j + 1)) fun i hi => ?_]
            · exact hg3
            · have h9 := mIt_still hin' hst (d := k - j) (i := i) (by omega)
              rw [show j + (k - j) = k by omega] at h9
              rw [h9, hst i (by omega)]
    · obtain rfl : j = k := by omega
      refine sS1 @q7 ?_
      exact hR _ _ hg2
theorem isPast_rows {s : SysS} {tab' : List (List Int)} (hs : SysOk s) (hpp : isPast (tabF s) tab') : ∀ r ∈ tab', r.length ≤ 1048576 ∧ ∀ x ∈ r, 0 ≤ x ∧ x < (tab'.length : Int) := fun r hr => ⟨past_len hs hpp r hr, turn_at (past_turn hpp) r hr⟩
theorem tuF_rows {tab : List (List Int)} (h : tab.length ≤ 1048576) : ∀ r ∈ tuF tab, r.length ≤ 1048576 ∧ ∀ x ∈ r, 0 ≤ x ∧ x < ((tuF tab).length : Int) := fun r hr => ⟨by
    obtain ⟨k, hk, rfl⟩ := List.getElem_of_mem hr
    rw [tuF_get]
    exact Nat.le_trans selL_len h, turn_at (tuF_turn tab) r hr⟩
theorem f_listOf1 {w : V} {n : Nat} {p : Nat → Bool} {M0 : MH} (hw : Gr 1 M0 M w ((mkL n p).map vb)) (hn : n ≤ 1048576) : VCall Tryz.prog n_impl_listOf [w] M (fun r M' => M0 = M' ∧ LI r (selL n p)) := by
  refine (VCall.frG (sz := 1) (q := fun B l => M0 = B ∧ l = (selL n p).map vi) (VCall.give0 hw fun u M2 hu hs2 => (t_listOf hu.lb hn).mono fun r M' hr => ⟨_, _, hr.base hs2, rfl, rfl⟩)).mono ?_
  rintro r M' ⟨l, hf, rfl, rfl⟩
  exact ⟨rfl, hf.li⟩
theorem t_withinOf {v w : V} {s : SysS} {xs : List Int} {k : Int} {bk : Bool} (hv : isSys s v) (hz : SysSz s) (hw : LI w xs) (hl : xs.length ≤ 1048576) :
    VCall Tryz.prog n_impl_withinOf [v, w, .sc (.int .i64 k), .sc (.bool bk)] M (fun r M' => M = M' ∧ LI r (if bk = true then backS s xs k else aheadS s xs k)) := by
  refine VCall.pure fun R hR => v_impl_withinOf rfl ?_
  have hv0 := hv
  obtain ⟨a, b, rfl, ha, hb⟩ := hv
  refine sS0 ?_
  intro b4 hb4
  refine (t_impSetValid hv0 hz hw hl).mono ?_
  rintro _ _ ⟨rfl, rfl⟩
  have no : (setV s xs = true → ¬ (0 ≤ k ∧ k ≤ 400)) → LI nil1 (if bk = true then backS s xs k else aheadS s xs k) := fun h => by
    have h1 : ¬ (setV s xs = true ∧ 0 ≤ k ∧ k ≤ 400) := fun ⟨h2, h3⟩ => h h2 h3
    unfold backS aheadS
    rw [if_neg h1, if_neg h1]
    split <;> exact .nil
  cases hsv : setV s xs with
  | false =>
    refine sS1 @hsv ?_
    exact hR _ _ (sB) (no (by rw [hsv]; intro h; cases h))
  | true =>
    refine sS1 @hsv ?_
    refine t_in.mono ?_
    rintro _ _ ⟨rfl, rfl⟩
    refine sS0 ?_
    refine cond_split (fun h => ?_) (fun h => ?_)
    · refine sS0 ?_
      exact hR _ _ (sB) (no fun _ hh => by simp at h; omega)
    · have hk : 0 ≤ k ∧ k ≤ 400 := by simpa using h
      obtain ⟨hs, hset⟩ := setV_iff.1 hsv
      have hsz := hs.sz
      have htl := tabF_len s
      have hin2 : ∀ x ∈ xs, 0 ≤ x ∧ x < ((tabF s).length : Int) := by rw [show ((tabF s).length : Int) = sizeF s.vars by omega]; exact hset.in
      obtain ⟨n, rfl⟩ : ∃ n : Nat, k = (n : Int) := ⟨k.toNat, by omega⟩
      refine sS0 ?_
      refine (f_nexts hv0 hs).mono ?_
      rintro t _ ⟨rfl, ht⟩
      have hM0 : Sub M (M.set b4 [a, b]) := (Sub.refl M).set' hb4
      cases bk with
      | true =>
        refine sS0 ?_
        refine (f_pasts ht hs).mono ?_
        rintro p _ ⟨rfl, tab', hp, hpp⟩
        have hpl := hpp.1
        refine sS0 ?_
        refine (t_within hp hw (turn_symm (past_turn hpp) (tabF_TabIn hs)) (by omega) hl (by rw [hpl]; exact hin2) (isPast_rows hs hpp) (by omega)).mono ?_
        rintro q M2 hq
        rw [hpl] at hq
        refine sS0 ?_
        refine (f_listOf1 hq (by omega)).mono ?_
        rintro r _ ⟨rfl, hr⟩
        refine sS0 ?_
        refine hR _ _ hM0 ?_
        rw [if_pos rfl]
        unfold backS
        rw [if_pos ⟨hsv, hk⟩]
        exact hr
      | false =>
        refine sS0 ?_
        refine (t_within ht hw (tuF_turn _) (by omega) hl hin2 (tabF_in hs) (by omega)).mono ?_
        rintro q M2 hq
        refine sS0 ?_
        refine (f_listOf1 hq (by omega)).mono ?_
        rintro r _ ⟨rfl, hr⟩
        refine sS0 ?_
        refine hR _ _ hM0 ?_
        rw [if_neg (by simp)]
        unfold aheadS
        rw [if_pos ⟨hsv, hk⟩]
        exact hr
theorem t_impBackWithin {v w : V} {s : SysS} {xs : List Int} {k : Int} (hv : isSys s v) (hz : SysSz s) (hw : LI w xs) (hl : xs.length ≤ 1048576) : VCall Tryz.prog n_impl_BackWithin [v, w, .sc (.int .i64 k)] M (fun r M' => M = M' ∧ LI r (backS s xs k)) := by
  refine VCall.pure fun R hR => v_impl_BackWithin rfl ?_
  have hv0 := hv
  obtain ⟨a, b, rfl, ha, hb⟩ := hv
  refine sS0 ?_
  intro b4 hb4
  refine (t_withinOf hv0 hz hw hl).mono ?_
  rintro r _ ⟨rfl, hr⟩
  refine sS0 ?_
  exact hR _ _ (sB) hr
theorem t_impAheadWithin {v w : V} {s : SysS} {xs : List Int} {k : Int} (hv : isSys s v) (hz : SysSz s) (hw : LI w xs) (hl : xs.length ≤ 1048576) : VCall Tryz.prog n_impl_AheadWithin [v, w, .sc (.int .i64 k)] M (fun r M' => M = M' ∧ LI r (aheadS s xs k)) := by
  refine VCall.pure fun R hR => v_impl_AheadWithin rfl ?_
  have hv0 := hv
  obtain ⟨a, b, rfl, ha, hb⟩ := hv
  refine sS0 ?_
  intro b4 hb4
  refine (t_withinOf hv0 hz hw hl).mono ?_
  rintro r _ ⟨rfl, hr⟩
  refine sS0 ?_
  exact hR _ _ (sB) hr
theorem t_l19Steps {k : Int} : VCall Tryz.prog n_spec_l19Steps [.sc (.int .i64 k)] M (fun r M' => M = M' ∧ r = .sc (.bool (decide (0 ≤ k ∧ k ≤ 400)))) := by
  refine VCall.pure fun R hR => v_spec_l19Steps rfl ?_
  refine sS0 ?_
  refine t_l1In.mono ?_
  rintro _ _ ⟨rfl, rfl⟩
  refine sS0 ?_
  exact hR _ _ (Sub.refl _) rfl
theorem f_l4AheadO {v w : V} {tab : List (List Int)} {m : Nat → Bool} {M0 : MH} (hv : LII v tab) (hw : Gr 1 M0 M w ((mkL tab.length m).map vb)) (hn : tab.length ≤ 1048576)
    (htl : ∀ r ∈ tab, r.length ≤ 1048576 ∧ ∀ x ∈ r, 0 ≤ x ∧ x < (tab.length : Int)) :
    VCall Tryz.prog n_spec_l4Ahead [v, w] M (fun r M' => M = M' ∧ LB r (mkL tab.length (aheadB tab m))) :=
  (VCall.fr1 ((VCall.lendG (a1 := [v]) (a2 := []) hw.own (flatL_vb _) fun u M' hu => g_l4Ahead hv hu.lb hn htl).mono fun r M' h => h.1)).mono fun r M' ⟨h1, h2⟩ => ⟨h1, h2.lb⟩
theorem f_l4List1 {w : V} {n : Nat} {p : Nat → Bool} {M0 : MH} (hw : Gr 1 M0 M w ((mkL n p).map vb)) (hn : n ≤ 1048576) : VCall Tryz.prog n_spec_l4List [w] M (fun r M' => M0 = M' ∧ LI r (selL n p)) := by
  refine (VCall.frG (sz := 1) (q := fun B l => M0 = B ∧ l = (selL n p).map vi) (VCall.give0 hw fun u M2 hu hs2 => (t_l4List hu.lb hn).mono fun r M' hr => ⟨_, _, hr.base hs2, rfl, rfl⟩)).mono ?_
  rintro r M' ⟨l, hf, rfl, rfl⟩
  exact ⟨rfl, hf.li⟩
theorem t_l19Back {v w : V} {tab : List (List Int)} {xs : List Int} {k : Nat} (hv : LII v tab) (hw : LI w xs) (hN : tab.length ≤ 1048576) (hl : xs.length ≤ 1048576)
    (hin : ∀ x ∈ xs, 0 ≤ x ∧ x < (tab.length : Int)) (htl : ∀ r ∈ tab, r.length ≤ 1048576 ∧ ∀ x ∈ r, 0 ≤ x ∧ x < (tab.length : Int)) (hk : k ≤ 400) :
    VCall Tryz.prog n_spec_l19Back [v, w, .sc (.int .i64 (k : Int))] M (fun r M' => M = M' ∧ LI r (selL tab.length (mIt tab (inL xs) k))) := by
  refine VCall.pure fun R hR => v_spec_l19Back rfl ?_
  refine sS1 @hv.len ?_
  refine (t_l4Marks hw hN hl hin).mono ?_
  rintro out M1 hout
  refine sS0 ?_
  refine loop_k (fun e M' => ∃ j : Nat, j ≤ k ∧ e 0 = v ∧ e 2 = .sc (.int .i64 (k : Int)) ∧ e 7 = out ∧ e 8 = .sc (.int .i64 (j : Int)) ∧ Gr 1 M M' out ((mkL tab.length (mIt tab (inL xs) j)).map vb)) (fun e _ => ctrV k (e 8)) ?_ ?_
  · exact ⟨0, by omega, sE0, sE0, sE0, sE0, hout⟩
  · rintro e M2 ⟨j, hj, q0, q2, q7, q8, hg2⟩ K hK
    refine sS4 @q0 @q2 @q7 @q8 ?_
    refine cond_dec (fun h => ?_) (fun h => ?_)
    · have hj' : j < k := by omega
      refine sS4 @q0 @q2 @q7 @q8 ?_
      refine (f_l4AheadO hv hg2 hN htl).mono ?_
      rintro l _ ⟨rfl, hl1⟩
      refine sS4 @q0 @q2 @q7 @q8 ?_
      generalize hm : mIt tab (inL xs) j = m at *
      refine loop_k (fun e' M' => ∃ q : Nat, q ≤ tab.length ∧ e' 0 = v ∧ e' 2 = .sc (.int .i64 (k : Int)) ∧ e' 7 = out ∧ e' 8 = .sc (.int .i64 (j : Int)) ∧ e' 9 = l ∧ e' 10 = .sc (.int .i64 (q : Int)) ∧ Gr 1 M M' out ((mkL tab.length fun i => m i || (decide (i < q) && aheadB tab m i)).map vb)) (fun e' _ => ctrV tab.length (e' 10)) ?_ ?_
      · refine ⟨0, by omega, sE1 @q0, sE1 @q2, sE1 @q7, sE1 @q8, sE0, sE0, ?_⟩
        rw [mkL_ext (q := m) fun i _ => by simp]
        exact hg2
      · rintro e' M3 ⟨q, hq, f0, f2, f7, f8, f9, f10, hg3⟩ K2 hK2
        have hll := hl1.len
        rw [mkL_len] at hll
        refine sS7 @f0 @f2 @f7 @f8 @f9 @f10 @hll ?_
        refine cond_dec (fun h3 => ?_) (fun h3 => ?_)
        · have hq' : q < tab.length := by omega
          have ha := hl1.at (i := q) (by rw [mkL_len]; exact hq')
          rw [mkL_get] at ha
          have i2 : ∀ {z : IntKind} {a : Int}, 0 ≤ a → a < (tab.length : Int) → iaddrV 1 l (.int z a) = some (.pf (hdB l) (hdO l + a.toNat * 1) [at1 l a.toNat]) := fun x y => hl1.iaddr x (by rw [mkL_len]; exact y)
          have hL : ∀ {f : Nat → Bool}, ((mkL tab.length f).map vb).length = tab.length := by intro f; rw [len_vb', mkL_len]
          have hia : ∀ {z : IntKind} {a : Int}, 0 ≤ a → a < (tab.length : Int) → iaddrV 1 out (.int z a) = some (.sc (.ptr (some (oB out, a.toNat)))) := fun q1 q2 => hg3.own.iaddr q1 (by rw [hL]; exact q2)
          have hm3 := hg3.at (by rw [hL]; omega)
          have hgi : ((mkL tab.length fun i => m i || (decide (i < q) && aheadB tab m i)).map vb)[q]? = some (.sc (.bool (m q))) := by
            rw [List.getElem?_map, List.getElem?_eq_getElem (by rw [mkL_len]; omega), mkL_get]; simp [vb]
          have hso : q < ((mkL tab.length fun i => m i || (decide (i < q) && aheadB tab m i)).map vb).length := by rw [hL]; omega
          have fin : ∀ c : Bool, c = (m q || aheadB tab m q) → Gr 1 M (M3.set (oB out) (((mkL tab.length fun i => m i || (decide (i < q) && aheadB tab m i)).map vb).set q (.sc (.bool c)))) out ((mkL tab.length fun i => m i || (decide (i < q + 1) && aheadB tab m i)).map vb) := fun c hc => by
            rw [set_vb', mkL_setB (q := fun i => m i || (decide (i < q + 1) && aheadB tab m i)) fun i hi => ?_]
            · exact hg3.setO (by rw [hL]; omega) (by rw [hL, hL])
            · by_cases e : i = q
              · subst e; rw [if_pos rfl, hc]; simp
              · rw [if_neg e]
                congr 2
                exact decide_eq_decide.2 (by omega)
          cases hmq : m q with
          | true =>
            have := fin true (by rw [hmq]; rfl)
            simp (maxSteps := 2000000) (disch := first | omega | assumption | exact idP rfl | exact idP (bL rfl)) only [go_sem, reduceIte, Nat.reduceEqDiff, wpV_kd, wpV_tH, f0, f2, f7, f8, f9, f10, hia, hm3, hgi, hmq, hso]
            exact hK2 _ _ ⟨q + 1, by omega, sE0, sE0, sE0, sE0, sE0, sE0, this⟩ (by refine sS2 @ctrV_int @f10 ?_; omega)
          | false =>
            have := fin (aheadB tab m q) (by rw [hmq]; rfl)
            simp (maxSteps := 2000000) (disch := first | omega | assumption | exact idP rfl | exact idP (bL rfl)) only [go_sem, reduceIte, Nat.reduceEqDiff, wpV_kd, wpV_tH, f0, f2, f7, f8, f9, f10, hia, hm3, hgi, hmq, i2, ha, hso]
            exact hK2 _ _ ⟨q + 1, by omega, sE0, sE0, sE0, sE0, sE0, sE0, this⟩ (by refine sS2 @ctrV_int @f10 ?_; omega)
        · obtain rfl : q = tab.length := by omega
          refine sS4 @f0 @f2 @f7 @f8 ?_
          refine hK _ _ ⟨j + 1, by omega, sE1 @f0, sE1 @f2, sE1 @f7, sE1 @f8, ?_⟩ (by refine sS3 @ctrV_int @q8 @f8 ?_; omega)
          rw [mkL_ext (q := mIt tab (inL xs) (j + 1)) fun i hi => ?_] at hg3
          · exact hg3
          · show _ = (mIt tab (inL xs) j i || aheadB tab (mIt tab (inL xs) j) i)
            rw [hm]
            simp [hi]
    · obtain rfl : j = k := by omega
      refine sS1 @q7 ?_
      refine (f_l4List1 hg2 hN).mono ?_
      rintro r _ ⟨rfl, hr⟩
      refine sS0 ?_
      exact hR _ _ (Sub.refl _) hr
theorem t_specBackWithin {v w : V} {s : SysS} {xs : List Int} {k : Int} (hv : isSys s v) (hw : LI w xs) (hl : xs.length ≤ 1048576) : VCall Tryz.prog n_spec_BackWithin [v, w, .sc (.int .i64 k)] M (fun r M' => M = M' ∧ LI r (backS s xs k)) := by
  refine VCall.pure fun R hR => v_spec_BackWithin rfl ?_
  have hv0 := hv
  obtain ⟨a, b, rfl, ha, hb⟩ := hv
  have no : (setV s xs = true → ¬ (0 ≤ k ∧ k ≤ 400)) → LI nil1 (backS s xs k) := fun h => by
    unfold backS
    rw [if_neg fun ⟨h2, h3⟩ => h h2 h3]
    exact .nil
  refine sS0 ?_
  intro b4 hb4
  refine (t_specSetValid hv0 hw hl).mono ?_
  rintro _ _ ⟨rfl, rfl⟩
  cases hsv : setV s xs with
  | false =>
    refine sS1 @hsv ?_
    exact hR _ _ (sB) (no (by rw [hsv]; intro h; cases h))
  | true =>
    refine sS1 @hsv ?_
    refine t_l19Steps.mono ?_
    rintro _ _ ⟨rfl, rfl⟩
    refine sS0 ?_
    refine cond_split (fun h => ?_) (fun h => ?_)
    · refine sS0 ?_
      exact hR _ _ (sB) (no fun _ hh => by simp at h; omega)
    · have hk : 0 ≤ k ∧ k ≤ 400 := by simpa using h
      obtain ⟨hs, hset⟩ := setV_iff.1 hsv
      have hsz := hs.sz
      have htl := tabF_len s
      have hin2 : ∀ x ∈ xs, 0 ≤ x ∧ x < ((tabF s).length : Int) := by rw [show ((tabF s).length : Int) = sizeF s.vars by omega]; exact hset.in
      obtain ⟨n, rfl⟩ : ∃ n : Nat, k = (n : Int) := ⟨k.toNat, by omega⟩
      refine sS0 ?_
      refine (f_l4Steps hv0 hs).mono ?_
      rintro t _ ⟨rfl, ht⟩
      refine sS0 ?_
      refine (t_l19Back ht hw (by omega) hl hin2 (tabF_in hs) (by omega)).mono ?_
      rintro r _ ⟨rfl, hr⟩
      refine sS0 ?_
      refine hR _ _ (sB) ?_
      unfold backS
      rw [if_pos ⟨hsv, hk⟩]
      exact hr
theorem t_specAheadWithin {v w : V} {s : SysS} {xs : List Int} {k : Int} (hv : isSys s v) (hw : LI w xs) (hl : xs.length ≤ 1048576) : VCall Tryz.prog n_spec_AheadWithin [v, w, .sc (.int .i64 k)] M (fun r M' => M = M' ∧ LI r (aheadS s xs k)) := by
  refine VCall.pure fun R hR => v_spec_AheadWithin rfl ?_
  have hv0 := hv
  obtain ⟨a, b, rfl, ha, hb⟩ := hv
  have no : (setV s xs = true → ¬ (0 ≤ k ∧ k ≤ 400)) → LI nil1 (aheadS s xs k) := fun h => by
    unfold aheadS
    rw [if_neg fun ⟨h2, h3⟩ => h h2 h3]
    exact .nil
  refine sS0 ?_
  intro b4 hb4
  refine (t_specSetValid hv0 hw hl).mono ?_
  rintro _ _ ⟨rfl, rfl⟩
  cases hsv : setV s xs with
  | false =>
    refine sS1 @hsv ?_
    exact hR _ _ (sB) (no (by rw [hsv]; intro h; cases h))
  | true =>
    refine sS1 @hsv ?_
    refine t_l19Steps.mono ?_
    rintro _ _ ⟨rfl, rfl⟩
    refine sS0 ?_
    refine cond_split (fun h => ?_) (fun h => ?_)
    · refine sS0 ?_
      exact hR _ _ (sB) (no fun _ hh => by simp at h; omega)
    · have hk : 0 ≤ k ∧ k ≤ 400 := by simpa using h
      obtain ⟨hs, hset⟩ := setV_iff.1 hsv
      have hsz := hs.sz
      have htl := tabF_len s
      have hin2 : ∀ x ∈ xs, 0 ≤ x ∧ x < ((tabF s).length : Int) := by rw [show ((tabF s).length : Int) = sizeF s.vars by omega]; exact hset.in
      obtain ⟨n, rfl⟩ : ∃ n : Nat, k = (n : Int) := ⟨k.toNat, by omega⟩
      refine sS0 ?_
      refine (f_l4Steps hv0 hs).mono ?_
      rintro t _ ⟨rfl, ht⟩
      refine sS0 ?_
      refine (f_l5Turned ht (by omega) (fun r hr => (tabF_in hs r hr).1)).mono ?_
      rintro p _ ⟨rfl, hp⟩
      have hpl := tuF_len (tabF s)
      refine sS0 ?_
      refine (t_l19Back hp hw (by omega) hl (by rw [hpl]; exact hin2) (tuF_rows (by omega)) (by omega)).mono ?_
      rintro r _ ⟨rfl, hr⟩
      rw [hpl] at hr
      refine sS0 ?_
      refine hR _ _ (sB) ?_
      unfold aheadS
      rw [if_pos ⟨hsv, hk⟩]
      exact hr
end Go.M2

namespace Go.M2
open Go.Proofs
variable {M : MH}
theorem f_ahead1 {v w : V} {s : SysS} {x k : Int} {M0 : MH} (hs : isSys s v) (hz : SysSz s) (hg : Gr 1 M0 M w ([x].map vi)) : VCall Tryz.prog n_impl_AheadWithin [v, w, .sc (.int .i64 k)] M (fun r M' => Sub M0 M' ∧ LI r (aheadS s [x] k)) :=
  VCall.give1 hg fun u M2 hu hs2 => (t_impAheadWithin hs hz hu.li (by simp)).mono fun r M' ⟨h1, h2⟩ => ⟨by rw [← h1]; exact hs2, h2⟩
theorem back_ahead {s : SysS} {xs : List Int} {k : Int} {n : Nat} (h : setV s xs = true) (hk : 0 ≤ k ∧ k ≤ 400) (hn : n < (tabF s).length) : decide ((n : Int) ∈ backS s xs k) = decide (0 < (boF (aheadS s [(n : Int)] k) xs).length) := by
  obtain ⟨hs, hset⟩ := setV_iff.1 h
  have hsz := hs.sz
  have htl := tabF_len s
  have hok : SetOk 400 (aheadS s [(n : Int)] k) := by
    unfold aheadS
    rw [if_pos ⟨setV_one hs hn, hk⟩]
    exact (selL_ok _).mono (by omega)
  rw [Bool.eq_iff_iff, decide_eq_true_eq, decide_eq_true_eq, List.length_pos_iff_exists_mem]
  have e1 : (n : Int) ∈ backS s xs k ↔ mIt (tabF s) (inL xs) k.toNat n = true := by
    unfold backS
    rw [if_pos ⟨h, hk⟩, mem_selL]
    constructor
    · rintro ⟨i, h1, h2, h3⟩
      obtain rfl : i = n := by omega
      exact h2
    · intro h2
      exact ⟨n, hn, h2, rfl⟩
  rw [e1, mIt_turn (tuF_turn (tabF s)) (tabF_TabIn hs)]
  constructor
  · rintro ⟨j, h1, h2⟩
    have h2' : (j : Int) ∈ xs := by simpa [inL] using h2
    refine ⟨(j : Int), (mem_boF hok (setV_ok h)).2 ⟨?_, h2'⟩⟩
    unfold aheadS
    rw [if_pos ⟨setV_one hs hn, hk⟩, mem_selL]
    have := hset.in _ h2'
    exact ⟨j, by omega, h1, rfl⟩
  · rintro ⟨x, hx⟩
    obtain ⟨h1, h2⟩ := (mem_boF hok (setV_ok h)).1 hx
    unfold aheadS at h1
    rw [if_pos ⟨setV_one hs hn, hk⟩, mem_selL] at h1
    obtain ⟨j, h3, h4, rfl⟩ := h1
    exact ⟨j, h4, by simpa [inL] using h2⟩
theorem sizeB_ok {s : SysS} (hs : SysOk s) : sizeB s = ((tabF s).length : Int) := by
  unfold sizeB
  rw [if_pos ((sysB_iff s).2 hs)]
  have := hs.sz
  have := tabF_len s
  omega
theorem law_BackAhead {v : V} {xs : List Int} (hv : XU v xs) (hx : LenOk xs) (hc : CapOk v) :
    VCall Tryz.prog n_laws_FnBackAhead [v] M (fun r M' => M = M' ∧ r = .sc (.bool true)) := by
  refine VCall.pure fun R hR => v_laws_FnBackAhead rfl ?_
  unfold LenOk at hx
  have hlen := hv.len fun _ _ h => h.len
  (repeat' (first | ((with_reducible first | refine cond_dec (fun h => ?_) (fun h => ?_) | refine guardK_dec (fun h => ?_) (fun h => ?_) | refine guardD3_dec (fun h => ?_) (fun h => ?_)) <;> first | (exfalso; omega) | (simp (maxSteps := 2000000) (disch := first | omega | assumption | exact idP rfl | exact idP (bL rfl)) only [go_sem, reduceIte, Nat.reduceEqDiff, wpV_kd, wpV_tH, h, hlen]) | skip) | ((with_reducible first | refine cond_split (fun h => ?_) (fun h => ?_) | refine guardK_split (fun h => ?_) (fun h => ?_) | refine guardD3_split (fun h => ?_) (fun h => ?_)) <;> ((try simp only [Bool.not_eq_true', Bool.not_eq_false'] at h); first | (simp (maxSteps := 2000000) (disch := first | omega | assumption | exact idP rfl | exact idP (bL rfl)) only [go_sem, reduceIte, Nat.reduceEqDiff, wpV_kd, wpV_tH, h, hlen]) | skip)) | (with_reducible intro bk hbk; try have hnk := (fresh_set hbk).1) | (simp (maxSteps := 2000000) (disch := first | omega | assumption | exact idP rfl | exact idP (bL rfl)) only [go_sem, reduceIte, Nat.reduceEqDiff, wpV_kd, wpV_tH, hlen])))
  · exact hR _ _ (sB) rfl
  · refine (t_DrawBackWithin hv hc (by omega)).mono ?_
    rintro _ _ ⟨rfl, sv, xv, s, ys, k, rfl, hs, hd, hx, hnn, hyl, hk1, hk2⟩
    have hs0 := hs
    obtain ⟨a, b, rfl, o1, o2⟩ := hs.two
    refine sS2 @o1 @o2 ?_
    intro b3 hb3
    have hyl' : ys.length ≤ 1048576 := by omega
    have hwl := withinS_len (s := s) (xs := ys) (k := k)
    have h3 : (M.set b3 [a, b]) b3 = some [a, b] := set_same
    have hsub : Sub M (M.set b3 [a, b]) := (Sub.refl M).set' hb3
    refine (t_impBackWithin hs0 hd.sz hx hyl').mono ?_
    rintro r1 _ ⟨rfl, hr1⟩
    refine sS0 ?_
    refine (t_impAheadWithin hs0 hd.sz hx hyl').mono ?_
    rintro r2 _ ⟨rfl, hr2⟩
    refine sS0 ?_
    refine (t_specBackWithin hs0 hx hyl').mono ?_
    rintro q1 _ ⟨rfl, hq1⟩
    refine sS0 ?_
    refine (t_wcInts hr1 hq1 (by omega)).mono ?_
    rintro _ _ ⟨rfl, rfl⟩
    have e1 : decide (backS s ys k = backS s ys k) = true := by simp
    refine sS1 @e1 ?_
    refine (t_specAheadWithin hs0 hx hyl').mono ?_
    rintro q2 _ ⟨rfl, hq2⟩
    refine sS0 ?_
    refine (t_wcInts hr2 hq2 (by omega)).mono ?_
    rintro _ _ ⟨rfl, rfl⟩
    have e2 : decide (aheadS s ys k = aheadS s ys k) = true := by simp
    refine sS1 @e2 ?_
    refine (t_impSetValid hs0 hd.sz hx hyl').mono ?_
    rintro _ _ ⟨rfl, rfl⟩
    refine sS0 ?_
    refine (t_specSetValid hs0 hx hyl').mono ?_
    rintro _ _ ⟨rfl, rfl⟩
    generalize M.set b3 [a, b] = M1 at *
    simp (maxSteps := 2000000) (disch := first | omega | assumption | exact idP rfl | exact idP (bL rfl)) only [go_sem, reduceIte, Nat.reduceEqDiff, wpV_kd, wpV_tH, beq_self_eq_true, Bool.not_true]
    refine loop_k (fun e M' => ∃ i : Nat, (i : Int) ≤ 400 ∧ e 3 = .sc (.ptr (some (b3, 0))) ∧ e 4 = xv ∧ e 5 = .sc (.int .i64 k) ∧ e 6 = r1 ∧ e 8 = .sc (.int .i64 (i : Int)) ∧ Sub M1 M') (fun e _ => ctrV 400 (e 8)) ?_ ?_
    · exact ⟨0, by omega, sE0, sE0, sE0, sE0, sE0, Sub.refl _⟩
    · rintro e M2 ⟨i, hi, q3, q4, q5, q6, q8, hs2⟩ K hK
      have h32 := hs2 _ _ h3
      have hsub2 := hsub.trans hs2
      refine sS5 @q3 @q4 @q5 @q6 @q8 ?_
      refine sS3 @h32 @o1 @o2 ?_
      refine (t_impSizeOf hs0 hd.sz).mono ?_
      rintro _ _ ⟨rfl, rfl⟩
      cases hb : decide ((i : Int) < sizeB s) with
      | false =>
        refine sS1 @hb ?_
        exact hR _ _ hsub2 rfl
      | true =>
        refine sS9 @hb @q3 @q4 @q5 @q6 @q8 @h32 @o1 @o2 ?_
        refine (t_impSetValid hs0 hd.sz hx hyl').mono ?_
        rintro _ _ ⟨rfl, rfl⟩
        cases hsv : setV s ys with
        | false =>
          refine sS1 @hsv ?_
          exact hR _ _ hsub2 rfl
        | true =>
          cases hk0 : decide (0 ≤ k) with
          | false =>
            refine sS3 @hsv @q5 @hk0 ?_
            exact hR _ _ hsub2 rfl
          | true =>
            cases hk4 : decide (k ≤ 400) with
            | false =>
              refine sS4 @hsv @q5 @hk0 @hk4 ?_
              exact hR _ _ hsub2 rfl
            | true =>
              rw [decide_eq_true_eq] at hb hk0 hk4
              obtain ⟨hsok, hset⟩ := setV_iff.1 hsv
              rw [sizeB_ok hsok] at hb
              have htl := tabF_len s
              have hsz := hsok.sz
              have d0 : decide (0 ≤ k) = true := by simp; omega
              have d4 : decide (k ≤ 400) = true := by simp; omega
              simp (maxSteps := 2000000) (disch := first | omega | assumption | exact idP rfl | exact idP (bL rfl)) only [go_sem, reduceIte, Nat.reduceEqDiff, wpV_kd, wpV_tH, hsv, q3, q4, q5, q6, q8, d0, d4, h32, o1, o2]
              refine (t_wcHas hr1 (by omega)).mono ?_
              rintro _ _ ⟨rfl, rfl⟩
              refine sS8 @q3 @q4 @q5 @q6 @q8 @h32 @o1 @o2 ?_
              intro bl hbl
              refine (f_ahead1 hs0 hd.sz (Gr.new' (Sub.refl M2) hbl rfl)).mono ?_
              rintro g M3 ⟨s3, hg⟩
              have hal := (withinS_len (s := s) (xs := [(i : Int)]) (k := k)).2
              refine sS5 @q3 @q4 @q5 @q6 @q8 ?_
              refine (t_impSetBoth hg hx (by omega) hyl').mono ?_
              rintro w _ ⟨rfl, hw⟩
              have hbl : (boF (aheadS s [(i : Int)] k) ys).length ≤ 400 := by
                unfold boF
                split
                · exact selL_len
                · simp
              have e9 := back_ahead hsv (k := k) (n := i) ⟨hk0, hk4⟩ (by omega)
              have e8 : decide ((0 : Int) < ((boF (aheadS s [(i : Int)] k) ys).length : Int)) = decide (0 < (boF (aheadS s [(i : Int)] k) ys).length) := decide_eq_decide.2 (by omega)
              simp (maxSteps := 2000000) (disch := first | omega | assumption | exact idP rfl | exact idP (bL rfl)) only [go_sem, reduceIte, Nat.reduceEqDiff, wpV_kd, wpV_tH, hw.len, q3, q4, q5, q6, q8, e9, e8, beq_self_eq_true, Bool.not_true]
              exact hK _ _ ⟨i + 1, by omega, sE0, sE0, sE0, sE0, sE0, hs2.trans s3⟩ (by refine sS2 @ctrV_int @q8 ?_; omega)
end Go.M2

namespace Go.M2
open Go.Proofs
open Go.ChangeShapes Go.WideShapes Go.ChangeAt Go.RowKit
variable {HH : Type} {enc : TypeId × Value → HH} {P : Program} {W : World} {t e : TypeId} {fuel : Nat} {cs : List Value} {x : DataW HH × List MemPlace}
theorem in_u8 (ht : P.underlying t = some (.int .u8)) (h : DataW.trod enc P W 0 (fun _ => true) true fuel t cs = some x) : ∃ n, LiftE W (E1 isU) n cs ∧ True := by
  obtain ⟨n, rfl, _, h3⟩ := DataW.trod_int ht h
  have h4 : IntKind.u8.min ≤ n ∧ n ≤ IntKind.u8.max := by simpa [Lit.wf] using h3
  have e1 : IntKind.u8.min = 0 := by decide
  have e2 : IntKind.u8.max = 255 := by decide
  exact ⟨n, ⟨[.sc (.int .u8 n)], rfl, by simp [okL, okV], _, rfl, rfl, by omega, by omega⟩, trivial⟩
theorem avC_cap {N : Nat} {u : V} {v : Value} (h : er u = avC N v) : CapOk u := by
  cases u <;> try trivial
  rename_i A n c ex k l
  simp only [er] at h
  unfold avC at h
  show n ≤ c
  split at h <;> try cases h
  · split at h
    · rename_i h1
      cases h
      exact h1.2.2
    · split at h <;> cases h
  · exact Nat.le_refl _
theorem up_bytes (ht : P.underlying t = some (.slice e)) (he : P.underlying e = some (.int .u8)) (hsz : P.cellsOf e = 1) {v : Value} (hv : ∀ a, v ≠ .agg a) (h : DataW.trod enc P W 0 (fun _ => true) true fuel t v.cells.toList = some x) :
    ∃ ns : List Int, (∃ u, er u = avT W.heap.size v ∧ okV (heap0 W) u ∧ XU u ns ∧ CapOk u) ∧ ns.length ≤ 9223372036854775807 := by
  obtain ⟨ns, e, g, _⟩ := in_list1 (E := isU) (good := fun _ => True) ht hsz (fun n cs x h => in_u8 he h) h
  have hc : v.cells.toList = [v] := by
    cases v <;> first | rfl | exact absurd rfl (hv _)
  rw [hc] at e
  obtain ⟨u, p, q, r⟩ := e.one
  refine ⟨ns, ⟨u, ?_, q, r, avC_cap p⟩, g⟩
  rw [p]
  unfold avT
  split
  · rename_i a; exact absurd rfl (hv a)
  · rfl
end Go.M2
