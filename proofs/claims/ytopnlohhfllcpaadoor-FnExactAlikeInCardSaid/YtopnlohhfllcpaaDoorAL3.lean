/- M3, part F: lists that are read, lists that are owned; calls. -/
import Derived.Test.YtopnlohhfllcpaaDoorAL2
import Derived.Test.YtopnlohhfllcpaaDoorProg
import Derived.KernelRfl
set_option linter.unusedVariables false
set_option linter.unusedSimpArgs false
set_option maxRecDepth 10000
set_option maxHeartbeats 4000000
namespace Go.M2
def at1 : V → Nat → V
  | .fs _ _ _ _ _ xs, i => xs.getD i (.sc .junk)
  | _, _ => .sc .junk
def atN (sz : Nat) : V → Nat → List V
  | .fs _ _ _ _ _ xs, i => (xs.drop (i * sz)).take sz
  | _, _ => []
def hdB : V → Nat
  | .fs A _ _ _ _ _ => A.b
  | _ => 0
def hdO : V → Nat
  | .fs A _ _ _ _ _ => A.o
  | _ => 0
def Ls {α : Type} (E : α → V → Prop) (v : V) (ys : List α) : Prop :=
  (ys = [] ∧ ∃ k, v = .sc (.sl none 0 0 true k)) ∨ ∃ A c ex k xs, v = .fs A ys.length c ex k xs ∧ ys.length ≤ xs.length ∧ ∀ i (h : i < ys.length), E ys[i] (at1 v i)
def Lc {α : Type} (sz : Nat) (E : α → List V → Prop) (v : V) (ys : List α) : Prop :=
  (ys = [] ∧ ∃ k, v = .sc (.sl none 0 0 true k)) ∨ ∃ A c ex k xs, v = .fs A ys.length c ex k xs ∧ ys.length * sz ≤ xs.length ∧ ∀ i (h : i < ys.length), E ys[i] (atN sz v i)
def isI (n : Int) (u : V) : Prop := u = .sc (.int .i64 n)
def isB (b : Bool) (u : V) : Prop := u = .sc (.bool b)
abbrev LI : V → List Int → Prop := Ls isI
abbrev LB : V → List Bool → Prop := Ls isB
abbrev LII : V → List (List Int) → Prop := Ls (fun ys u => LI u ys)
def vi (n : Int) : V := .sc (.int .i64 n)
def vb (b : Bool) : V := .sc (.bool b)
section
variable {α : Type} {E : α → V → Prop} {E2 : α → List V → Prop} {v : V} {ys : List α} {M : MH} {sz : Nat}
theorem Ls.len (h : Ls E v ys) : lenF (er v) = .some (.int .i64 (ys.length : Int)) := by
  rcases h with ⟨rfl, k, rfl⟩ | ⟨A, c, ex, k, xs, rfl, _⟩
  · simp [er, lenF]
  · simp [er, lenF]
theorem Lc.len (h : Lc sz E2 v ys) : lenF (er v) = .some (.int .i64 (ys.length : Int)) := by
  rcases h with ⟨rfl, k, rfl⟩ | ⟨A, c, ex, k, xs, rfl, _⟩
  · simp [er, lenF]
  · simp [er, lenF]
theorem Ls.lenS (h : Ls E v ys) : lenS v = .some ys.length := by
  rcases h with ⟨rfl, k, rfl⟩ | ⟨A, c, ex, k, xs, rfl, _⟩ <;> rfl
theorem Lc.lenS (h : Lc sz E2 v ys) : lenS v = .some ys.length := by
  rcases h with ⟨rfl, k, rfl⟩ | ⟨A, c, ex, k, xs, rfl, _⟩ <;> rfl
theorem Ls.one (h : Ls E v ys) : oneV v = true ∧ cellsV v = .some [v] := by
  rcases h with ⟨rfl, k, rfl⟩ | ⟨A, c, ex, k, xs, rfl, _⟩ <;> simp [oneV, er, oneA, cellsV]
theorem Lc.one (h : Lc sz E2 v ys) : oneV v = true ∧ cellsV v = .some [v] := by
  rcases h with ⟨rfl, k, rfl⟩ | ⟨A, c, ex, k, xs, rfl, _⟩ <;> simp [oneV, er, oneA, cellsV]
theorem Ls.elt (h : Ls E v ys) {i : Nat} (hi : i < ys.length) : E ys[i] (at1 v i) := by
  rcases h with ⟨rfl, k, rfl⟩ | ⟨A, c, ex, k, xs, rfl, _, h2⟩
  · simp at hi
  · exact h2 i hi
theorem Lc.elt (h : Lc sz E2 v ys) {i : Nat} (hi : i < ys.length) : E2 ys[i] (atN sz v i) := by
  rcases h with ⟨rfl, k, rfl⟩ | ⟨A, c, ex, k, xs, rfl, _, h2⟩
  · simp at hi
  · exact h2 i hi
theorem Ls.iaddr (h : Ls E v ys) {k : IntKind} {a : Int} (h0 : 0 ≤ a) (h1 : a < (ys.length : Int)) : iaddrV 1 v (.int k a) = .some (.pf (hdB v) (hdO v + a.toNat * 1) [at1 v a.toNat]) := by
  rcases h with ⟨rfl, _, rfl⟩ | ⟨A, c, ex, kk, xs, rfl, h2, _⟩
  · simp at h1; omega
  · simp only [iaddrV]
    rw [if_pos ⟨h0, h1⟩]
    have : a.toNat < xs.length := by omega
    simp only [hdB, hdO, at1, Nat.mul_one, Option.some.injEq, V.pf.injEq, true_and]
    rw [List.drop_eq_getElem_cons this, List.take_succ_cons, List.take_zero]
    simp [List.getD, this]
theorem Lc.iaddr (h : Lc sz E2 v ys) {k : IntKind} {a : Int} (h0 : 0 ≤ a) (h1 : a < (ys.length : Int)) : iaddrV sz v (.int k a) = .some (.pf (hdB v) (hdO v + a.toNat * sz) (atN sz v a.toNat)) := by
  rcases h with ⟨rfl, _, rfl⟩ | ⟨A, c, ex, kk, xs, rfl, h2, _⟩
  · simp at h1; omega
  · simp only [iaddrV]
    rw [if_pos ⟨h0, h1⟩]
    rfl
def cellsL (v : V) (n : Nat) : List V := match v with
  | .fs _ _ _ _ _ xs => xs.take n
  | _ => []
theorem Ls.cells (h : Ls E v ys) : cellsS (ys.length * 1) v M = .some (cellsL v ys.length) ∧ (cellsL v ys.length).length = ys.length ∧ ∀ i (hi : i < ys.length), ∃ u, (cellsL v ys.length)[i]? = .some u ∧ E ys[i] u := by
  rcases h with ⟨rfl, k, rfl⟩ | ⟨A, c, ex, k, xs, rfl, h1, h2⟩
  · exact ⟨by simp [cellsS, cellsL], rfl, fun i hi => by simp at hi⟩
  · refine ⟨?_, by simp [cellsL]; omega, fun i hi => ⟨_, ?_, h2 i hi⟩⟩
    · simp only [cellsS, Nat.mul_one, cellsL]
      split
      · rename_i h0; simp [h0]
      · first | rfl | rw [if_pos h1]
    · have : i < xs.length := by omega
      simp [cellsL, at1, List.getD, this, hi]
theorem Lc.cells (h : Lc sz E2 v ys) : cellsS (ys.length * sz) v M = .some (cellsL v (ys.length * sz)) ∧ (cellsL v (ys.length * sz)).length = ys.length * sz ∧ ∀ i (hi : i < ys.length), E2 ys[i] (((cellsL v (ys.length * sz)).drop (i * sz)).take sz) := by
  rcases h with ⟨rfl, k, rfl⟩ | ⟨A, c, ex, k, xs, rfl, h1, h2⟩
  · exact ⟨by simp [cellsS, cellsL], by simp [cellsL], fun i hi => by simp at hi⟩
  · refine ⟨?_, by simp [cellsL]; omega, fun i hi => ?_⟩
    · simp only [cellsS, cellsL]
      split
      · rename_i h0; simp [h0]
      · first | rfl | rw [if_pos h1]
    · have := h2 i hi
      simp only [atN] at this
      simp only [cellsL]
      rw [List.drop_take, List.take_take, Nat.min_eq_left]
      · exact this
      · have : (i + 1) * sz ≤ ys.length * sz := Nat.mul_le_mul_right _ hi
        rw [Nat.add_mul] at this
        omega
theorem Ls.mk {xs : List V} {A : AA} {n c k : Nat} {ex : Bool} (hn : n = ys.length) (hl : ys.length ≤ xs.length) (h : ∀ i (h : i < ys.length), ∃ u, xs[i]? = .some u ∧ E ys[i] u) : Ls E (.fs A n c ex k xs) ys := by
  subst hn
  refine .inr ⟨A, c, ex, k, xs, rfl, hl, fun i hi => ?_⟩
  obtain ⟨u, h1, h2⟩ := h i hi
  simpa [at1, List.getD, h1] using h2
theorem Ls.nil {k : Nat} : Ls E (.sc (.sl none 0 0 true k)) [] := .inl ⟨rfl, k, rfl⟩
theorem Lc.nil {k : Nat} : Lc sz E2 (.sc (.sl none 0 0 true k)) [] := .inl ⟨rfl, k, rfl⟩
theorem Ls.mono {E' : α → V → Prop} (h : Ls E v ys) (hm : ∀ y ∈ ys, ∀ u, E y u → E' y u) : Ls E' v ys := by
  rcases h with h | ⟨A, c, ex, k, xs, rfl, h1, h2⟩
  · exact .inl h
  · exact .inr ⟨A, c, ex, k, xs, rfl, h1, fun i hi => hm _ (List.getElem_mem _) _ (h2 i hi)⟩
end
theorem LI.at {v : V} {ys : List Int} (h : LI v ys) {i : Nat} (hi : i < ys.length) : at1 v i = .sc (.int .i64 ys[i]) := h.elt hi
theorem LB.at {v : V} {ys : List Bool} (h : LB v ys) {i : Nat} (hi : i < ys.length) : at1 v i = .sc (.bool ys[i]) := h.elt hi
theorem LI.cells {v : V} {ys : List Int} {M : MH} (h : LI v ys) : cellsS (ys.length * 1) v M = .some (ys.map vi) := by
  obtain ⟨h1, h2, h3⟩ := Ls.cells (M := M) h
  rw [h1]
  congr 1
  apply List.ext_getElem?
  intro i
  by_cases hi : i < ys.length
  · obtain ⟨u, h4, h5⟩ := h3 i hi
    rw [h4, h5]; simp [hi, vi]
  · rw [List.getElem?_eq_none (by omega), List.getElem?_eq_none (by simp; omega)]
def blkV : V → Option Nat
  | .sc (.sl (some (b, _)) _ _ _ _) => some b
  | .sc (.ptr (some (b, _))) => some b
  | _ => none
def Ow (sz : Nat) (M : MH) (v : V) (l : List V) : Prop :=
  (l = [] ∧ ∃ k, v = .sc (.sl none 0 0 true k)) ∨ ∃ b n ex, v = .sc (.sl (some (b, 0)) n n ex sz) ∧ M b = .some l ∧ l.length = n * sz
structure Gr (sz : Nat) (M0 M : MH) (v : V) (l : List V) : Prop where
  sub : Sub M0 M
  new : ∀ b, blkV v = .some b → M0 b = none
  own : Ow sz M v l
def Oth (M M' : MH) (s s' : V) : Prop := ∀ b l, M b = .some l → blkV s ≠ some b → M' b = .some l ∧ blkV s' ≠ some b
def Fr (sz : Nat) (v : V) (l : List V) : Prop := (l = [] ∧ ∃ k, v = .sc (.sl none 0 0 true k)) ∨ ∃ p n c ex k, v = .fs (some p) n c ex k l ∧ l.length = n * sz
theorem Gr.nil {sz k : Nat} {M0 M : MH} (h : Sub M0 M) : Gr sz M0 M (.sc (.sl none 0 0 true k)) [] := ⟨h, fun b h => (by simp [blkV] at h), .inl ⟨rfl, k, rfl⟩⟩
theorem Gr.mk' {sz n b : Nat} {ex : Bool} {M0 M : MH} {l : List V} (hs : Sub M0 M) (hb : M0 b = none) (hl : l.length = n * sz) (hm : M b = .some l) : Gr sz M0 M (.sc (.sl (some (b, 0)) n n ex sz)) l :=
  ⟨hs, fun b' h => by simp [blkV] at h; subst h; exact hb, .inr ⟨b, n, ex, rfl, hm, hl⟩⟩
theorem Gr.new' {sz n b : Nat} {ex : Bool} {M0 M : MH} {l : List V} (hs : Sub M0 M) (hb : M b = none) (hl : l.length = n * sz) : Gr sz M0 (M.set b l) (.sc (.sl (some (b, 0)) n n ex sz)) l :=
  .mk' (hs.set (hs.none hb)) (hs.none hb) hl set_same
theorem Gr.get {sz n c b o k : Nat} {ex : Bool} {M0 M : MH} {l : List V} (h : Gr sz M0 M (.sc (.sl (some (b, o)) n c ex k)) l) : M b = .some l ∧ o = 0 ∧ c = n ∧ k = sz ∧ l.length = n * sz ∧ M0 b = none := by
  rcases h.own with ⟨_, _, h1⟩ | ⟨b', n', ex', h1, h2, h3⟩
  · cases h1
  · cases h1; exact ⟨h2, rfl, rfl, rfl, h3, h.new _ rfl⟩
theorem Gr.set {sz n c b o k : Nat} {ex : Bool} {M0 M : MH} {l l' : List V} (h : Gr sz M0 M (.sc (.sl (some (b, o)) n c ex k)) l) (hl : l'.length = l.length) : Gr sz M0 (M.set b l') (.sc (.sl (some (b, o)) n c ex k)) l' := by
  obtain ⟨h1, rfl, rfl, rfl, h5, h6⟩ := h.get
  exact .mk' (h.sub.set h6) h6 (hl.trans h5) set_same
theorem Ow.len {sz : Nat} {M : MH} {v : V} {l : List V} (h : Ow sz M v l) : ∃ n : Nat, lenF (er v) = .some (.int .i64 (n : Int)) ∧ lenS v = .some n ∧ l.length = n * sz ∧ oneV v = true ∧ cellsV v = .some [v] := by
  rcases h with ⟨rfl, k, rfl⟩ | ⟨b, n, ex, rfl, _, h2⟩
  · exact ⟨0, by simp [er, lenF], rfl, by simp, by simp [oneV, er, oneA], rfl⟩
  · exact ⟨n, by simp [er, lenF], rfl, h2, by simp [oneV, er, oneA], rfl⟩
theorem Ow.len1 {M : MH} {v : V} {l : List V} (h : Ow 1 M v l) : lenF (er v) = .some (.int .i64 (l.length : Int)) := by
  obtain ⟨n, h1, _, h3, _⟩ := h.len
  rw [h1, show l.length = n by omega]
theorem Gr.len1 {M0 M : MH} {v : V} {l : List V} (h : Gr 1 M0 M v l) : lenF (er v) = .some (.int .i64 (l.length : Int)) := h.own.len1
theorem Gr.one {sz : Nat} {M0 M : MH} {v : V} {l : List V} (h : Gr sz M0 M v l) : oneV v = true ∧ cellsV v = .some [v] := by
  obtain ⟨n, _, _, _, h1, h2⟩ := h.own.len
  exact ⟨h1, h2⟩
theorem Ow.sub {sz : Nat} {M M' : MH} {v : V} {l : List V} (h : Ow sz M v l) (hs : Sub M M') : Ow sz M' v l := by
  rcases h with h | ⟨b, n, ex, rfl, h1, h2⟩
  · exact .inl h
  · exact .inr ⟨b, n, ex, rfl, hs _ _ h1, h2⟩
theorem Gr.more {sz : Nat} {M0 M M' : MH} {v : V} {l : List V} (h : Gr sz M0 M v l) (hs : Sub M M') : Gr sz M0 M' v l := ⟨h.sub.trans hs, h.new, h.own.sub hs⟩
theorem Gr.oth {sz sz' : Nat} {M0 M M' : MH} {v s s' : V} {l : List V} (h : Gr sz M0 M v l) (ho : Oth M M' s s') (hne : ∀ b, blkV v = .some b → blkV s ≠ some b) (hs : Sub M0 M') :
    Gr sz M0 M' v l ∧ ∀ b, blkV v = .some b → blkV s' ≠ some b := by
  rcases h.own with ⟨rfl, k, rfl⟩ | ⟨b, n, ex, rfl, h1, h2⟩
  · exact ⟨.nil hs, fun b h => by simp [blkV] at h⟩
  · obtain ⟨q1, q2⟩ := ho b l h1 (hne b rfl)
    exact ⟨.mk' hs (h.new b rfl) h2 q1, fun b' h' => by simp [blkV] at h'; subst h'; exact q2⟩
theorem Fr.one {sz : Nat} {v : V} {l : List V} (h : Fr sz v l) : oneV v = true ∧ cellsV v = .some [v] := by
  rcases h with ⟨rfl, k, rfl⟩ | ⟨A, n, c, ex, k, rfl, _⟩ <;> simp [oneV, er, oneA, cellsV]
theorem Fr.ls {α : Type} {E : α → V → Prop} {v : V} {l : List V} {ys : List α} (h : Fr 1 v l) (hl : l.length = ys.length) (he : ∀ i (h : i < ys.length), ∃ u, l[i]? = .some u ∧ E ys[i] u) : Ls E v ys := by
  rcases h with ⟨rfl, k, rfl⟩ | ⟨A, n, c, ex, k, rfl, h1⟩
  · have : ys = [] := List.eq_nil_of_length_eq_zero (by simpa using hl.symm)
    subst this
    exact .nil
  · exact .mk (by omega) (by omega) he
theorem Fr.some {sz : Nat} {v : V} {l : List V} (h : Fr sz v l) (hl : 0 < l.length) : isNilF .sl (er v) = Option.some false := by
  rcases h with ⟨rfl, k, rfl⟩ | ⟨p, n, c, ex, k, rfl, _⟩
  · simp at hl
  · simp [er, isNilF]
theorem Fr.li {v : V} {ys : List Int} (h : Fr 1 v (ys.map vi)) : LI v ys := h.ls (by simp) fun i hi => ⟨vi ys[i], by simp [hi], rfl⟩
theorem Fr.lb {v : V} {ys : List Bool} (h : Fr 1 v (ys.map vb)) : LB v ys := h.ls (by simp) fun i hi => ⟨vb ys[i], by simp [hi], rfl⟩
theorem Gr.fz {sz : Nat} {M0 M : MH} {v : V} {l : List V} (h : Gr sz M0 M v l) : ∃ M1 v', Sub M1 M ∧ Fz M1 [v] M0 [v'] ∧ Fr sz v' l := by
  rcases h.own with ⟨rfl, k, rfl⟩ | ⟨b, n, ex, rfl, h1, h2⟩
  · exact ⟨M0, _, h.sub, .refl _ _, .inl ⟨rfl, k, rfl⟩⟩
  · have hb := h.new b rfl
    refine ⟨M0.set b l, .fs (some (b, 0)) n n ex sz (l.drop 0), fun i l' hi => ?_, .sl set_same (by rw [del_set hb]; exact .refl _ _) (.nil _), .inr ⟨_, _, _, _, _, rfl, h2⟩⟩
    simp only [MH.set] at hi
    split at hi
    · rename_i e; subst e; cases hi; exact h1
    · exact h.sub i l' hi
section
variable {P : Program} {f : FuncId} {args : List V} {M : MH}
theorem VCall.pure {p : V → Prop} (h : ∀ R : V → MH → Prop, (∀ r M', Sub M M' → p r → R r M') → VCall P f args M R) : VCall P f args M (fun r M' => M = M' ∧ p r) :=
  VCall.of fun R hR => h R fun r M' hs hp => hR r r M' M M hs (.refl _ _) ⟨rfl, hp⟩
theorem VCall.plain {p : V → MH → Prop} (h : ∀ R : V → MH → Prop, (∀ r M', p r M' → R r M') → VCall P f args M R) : VCall P f args M p := h _ fun _ _ h => h
theorem VCall.fr {sz : Nat} {l : V → List V → Prop} (h : VCall P f args M (fun r M' => ∃ c, Gr sz M M' r c ∧ l r c)) (hl : ∀ r r' c, l r c → l r' c) : VCall P f args M (fun r M' => M = M' ∧ ∃ c, Fr sz r c ∧ l r c) :=
  VCall.of fun R hR => h.mono fun r M' ⟨c, h1, h2⟩ => by
    obtain ⟨M1, v', q1, q2, q3⟩ := h1.fz
    exact hR r v' M' M1 M q1 q2 ⟨rfl, c, q3, hl _ _ _ h2⟩
theorem VCall.fr1 {sz : Nat} {c : List V} (h : VCall P f args M (fun r M' => Gr sz M M' r c)) : VCall P f args M (fun r M' => M = M' ∧ Fr sz r c) :=
  VCall.of fun R hR => h.mono fun r M' h1 => by
    obtain ⟨M1, v', q1, q2, q3⟩ := h1.fz
    exact hR r v' M' M1 M q1 q2 ⟨rfl, q3⟩
variable {K : V → MH → Prop} {sz by_ : Nat} {s : V} {M0 : MH} {l new : List V}
theorem gr_appW {m : Nat} (h : Gr sz M0 M s l) (hz : 0 < sz) (hn : new.length = m * sz) (ho : new.all oneV = true) (hb : (l.length + m) * by_ ≤ mostCells) (hb2 : l.length + m ≤ mostCells)
    (hk : ∀ s' M', Gr sz M0 M' s' (l ++ new) → Oth M M' s s' → K s' M') : appW sz by_ s m new M K := by
  rcases h.own with ⟨rfl, k, rfl⟩ | ⟨b, n, ex, rfl, h1, h2⟩
  · simp only [appW]
    by_cases hm : m = 0
    · subst hm
      rw [if_pos rfl]
      have : new = [] := List.eq_nil_of_length_eq_zero (by simpa using hn)
      subst this
      exact hk _ _ (.nil h.sub) fun b l h1 h2 => ⟨h1, h2⟩
    · rw [if_neg hm, if_neg (by omega)]
      refine ⟨by simpa using hb, by simpa using hb2, ?_⟩
      simp only [if_true, cellsS, Nat.zero_mul]
      intro b hfb
      refine hk _ _ (Gr.new' h.sub hfb (by simpa using hn)) fun b' l' h1 h2 => ?_
      have hne : b' ≠ b := fun e => by subst e; rw [hfb] at h1; cases h1
      exact ⟨by rw [set_ne hne]; exact h1, by simp [blkV]; exact fun e => hne e.symm⟩
  · simp only [appW]
    have hln : n ≤ l.length := by rw [h2]; exact Nat.le_mul_of_pos_right n hz
    by_cases hm : m = 0
    · subst hm
      rw [if_pos rfl]
      have : new = [] := List.eq_nil_of_length_eq_zero (by simpa using hn)
      subst this
      exact hk _ _ (by simpa using h) fun b l h1 h2 => ⟨h1, h2⟩
    · rw [if_neg hm, if_neg (by omega)]
      refine ⟨Nat.le_trans (Nat.mul_le_mul_right _ (by omega)) hb, by omega, ?_⟩
      have hlen : (l ++ new).length = (n + m) * sz := by rw [List.length_append, h2, hn, Nat.add_mul]
      have hfb := h.new b rfl
      cases ex with
      | true =>
        simp only [if_true]
        have hc : cellsS (n * sz) (.sc (.sl (some (b, 0)) n n true sz)) M = .some l := by
          simp only [cellsS]
          split
          · rename_i h0
            have : l = [] := List.eq_nil_of_length_eq_zero (by omega)
            rw [this]
          · simp only [h1, cells?_some, Nat.zero_add, List.drop_zero]
            rw [if_pos (by omega), List.take_of_length_le (by omega)]
        rw [hc]
        intro b' hb'
        refine hk _ _ (Gr.new' h.sub hb' hlen) fun i l' q1 q2 => ?_
        have hne : i ≠ b' := fun e => by subst e; rw [hb'] at q1; cases q1
        exact ⟨by rw [set_ne hne]; exact q1, by simp [blkV]; exact fun e => hne e.symm⟩
      | false =>
        simp only [Bool.false_eq_true, if_false, h1]
        refine ⟨trivial, ho, by omega, fun b' hb' => ?_⟩
        have e : (List.drop 0 l).take (n * sz) ++ new = l ++ new := by rw [List.drop_zero, List.take_of_length_le (by omega)]
        rw [e]
        have hsub : Sub M0 (M.del b) := h.sub.del hfb
        have hnb : b' ≠ b := fun e => by subst e; rw [h1] at hb'; cases hb'
        refine hk _ _ (Gr.new' hsub (by rw [del_ne hnb]; exact hb') hlen) fun i l' q1 q2 => ?_
        have hne : i ≠ b' := fun e => by subst e; rw [hb'] at q1; cases q1
        have hib : i ≠ b := fun e => by subst e; exact q2 rfl
        exact ⟨by rw [set_ne hne, del_ne hib]; exact q1, by simp [blkV]; exact fun e => hne e.symm⟩
theorem gr_app1 {bt c k : Nat} {ex : Bool} (h : Gr sz M0 M s l) (hz : 0 < sz) (hbt : M bt = none) (hn : new.length = sz) (ho : new.all oneV = true) (hb : (l.length + 1) * by_ ≤ mostCells) (hb2 : l.length + 1 ≤ mostCells)
    (hk : ∀ s' M', Gr sz M0 M' s' (l ++ new) → Oth M M' s s' → K s' M') : appV sz by_ s (.sc (.sl (some (bt, 0)) 1 c ex k)) (M.set bt new) K := by
  have hc : cellsS (1 * sz) (.sc (.sl (some (bt, 0)) 1 c ex k)) (M.set bt new) = .some new := by
    simp only [cellsS, Nat.one_mul, set_same, cells?_some, Nat.zero_add, List.drop_zero]
    rw [if_neg (by omega), if_pos (by omega), List.take_of_length_le (by omega)]
  simp only [appV, lenS, hc]
  have hs : Sub M (M.set bt new) := (Sub.refl M).set hbt
  refine ⟨_, _, .refl _ _, gr_appW (h.more hs) hz (by omega) ho hb hb2 fun s' M' q1 q2 => hk s' M' q1 fun b l' h1 h2 => q2 b l' (hs _ _ h1) h2⟩
theorem mks3 {z : List AV} {n : Int} (h0 : 0 ≤ n) (h1 : n.toNat * by_ ≤ mostCells) (h2 : n.toNat ≤ mostCells)
    (hk : ∀ b, M b = none → K (.sc (.sl (some (b, 0)) n.toNat n.toNat true z.length)) (M.set b ((zeros z n.toNat).map .sc))) : mksV z by_ (.int .i64 n) M K := ⟨h0, h1, h2, hk⟩
end
def ctrV (n : Nat) (v : V) : Nat := ctr n (er v)
@[go_sem] theorem ctrV_int {n : Nat} {k : IntKind} {i : Int} : ctrV n (.sc (.int k i)) = n - i.toNat := by simp [ctrV, er, ctr]
theorem zeros_rep {α : Type} (f : α → AV) (a : α) : ∀ n, (zeros [f a] n).map V.sc = (List.replicate n a).map (fun x => V.sc (f x))
  | 0 => rfl
  | n + 1 => by simp [zeros, zeros_rep f a n, List.replicate_succ]
end Go.M2

namespace Go.M2
inductive Tr : List V → List V → List (Nat × List V) → Prop
  | nil : Tr [] [] []
  | keep {l l' : List V} {fp : List (Nat × List V)} (v : V) : Tr l l' fp → Tr (v :: l) (v :: l') fp
  | sl {cs cs' l l' : List V} {fp1 fp2 : List (Nat × List V)} {b o n c k : Nat} {ex : Bool} : Tr cs cs' fp1 → Tr l l' fp2 →
      Tr (.sc (.sl (some (b, o)) n c ex k) :: l) (.fs (some (b, o)) n c ex k (cs'.drop o) :: l') ((b, cs) :: (fp1 ++ fp2))
  | agg {a a' l l' : List V} {fp1 fp2 : List (Nat × List V)} : Tr a a' fp1 → Tr l l' fp2 → Tr (.agg a :: l) (.agg a' :: l') (fp1 ++ fp2)
  | tup {a a' l l' : List V} {fp1 fp2 : List (Nat × List V)} : Tr a a' fp1 → Tr l l' fp2 → Tr (.tup a :: l) (.tup a' :: l') (fp1 ++ fp2)
theorem Tr.refl : ∀ l, Tr l l []
  | [] => .nil
  | v :: t => .keep v (Tr.refl t)
theorem Tr.append {a a' b b' : List V} {f g : List (Nat × List V)} (h : Tr a a' f) (k : Tr b b' g) : Tr (a ++ b) (a' ++ b') (f ++ g) := by
  induction h with
  | nil => exact k
  | keep v _ ih => exact .keep v ih
  | sl h1 _ _ ih => simpa [List.append_assoc] using Tr.sl h1 ih
  | agg h1 _ _ ih => simpa [List.append_assoc] using Tr.agg h1 ih
  | tup h1 _ _ ih => simpa [List.append_assoc] using Tr.tup h1 ih
theorem Tr.len {a a' : List V} {f : List (Nat × List V)} (h : Tr a a' f) : a'.length = a.length := by
  induction h <;> simp_all
theorem Tr.split {b b' : List V} : ∀ {a l' : List V} {f : List (Nat × List V)}, Tr (a ++ b) l' f → ∃ a' b' f1 f2, l' = a' ++ b' ∧ f = f1 ++ f2 ∧ Tr a a' f1 ∧ Tr b b' f2
  | [], l', f, h => ⟨[], l', [], f, rfl, rfl, .nil, h⟩
  | x :: t, l', f, h => by
    rw [List.cons_append] at h
    cases h with
    | keep v h1 =>
      obtain ⟨a', b', f1, f2, rfl, rfl, h2, h3⟩ := Tr.split (b' := b') h1
      exact ⟨_, _, _, _, rfl, rfl, .keep _ h2, h3⟩
    | sl h0 h1 =>
      obtain ⟨a', b', f1, f2, rfl, rfl, h2, h3⟩ := Tr.split (b' := b') h1
      exact ⟨_ :: a', _, _, _, rfl, by simp [List.append_assoc], .sl h0 h2, h3⟩
    | agg h0 h1 =>
      obtain ⟨a', b', f1, f2, rfl, rfl, h2, h3⟩ := Tr.split (b' := b') h1
      exact ⟨_ :: a', _, _, _, rfl, by simp [List.append_assoc], .agg h0 h2, h3⟩
    | tup h0 h1 =>
      obtain ⟨a', b', f1, f2, rfl, rfl, h2, h3⟩ := Tr.split (b' := b') h1
      exact ⟨_ :: a', _, _, _, rfl, by simp [List.append_assoc], .tup h0 h2, h3⟩
def inF (fp : List (Nat × List V)) (i : Nat) : Bool := fp.any fun p => p.1 == i
theorem inF_iff {fp : List (Nat × List V)} {i : Nat} : inF fp i = true ↔ ∃ l, (i, l) ∈ fp := by
  simp only [inF, List.any_eq_true, beq_iff_eq]
  constructor
  · rintro ⟨⟨a, l⟩, h1, rfl⟩; exact ⟨l, h1⟩
  · rintro ⟨l, h⟩; exact ⟨(i, l), h, rfl⟩
def delF (M : MH) (fp : List (Nat × List V)) : MH := fun i => if inF fp i then none else M i
theorem delF_nil (M : MH) : delF M [] = M := by funext i; simp [delF, inF]
theorem delF_cons (M : MH) (b : Nat) (l : List V) (fp : List (Nat × List V)) : delF M ((b, l) :: fp) = delF (M.del b) fp := by
  funext i
  have e : inF ((b, l) :: fp) i = (b == i || inF fp i) := rfl
  simp only [delF, MH.del, e]
  by_cases h1 : i = b
  · subst h1
    rw [if_pos (by simp), if_pos rfl]
    split <;> rfl
  · rw [if_neg h1]
    have h2 : (b == i) = false := by simp; exact fun h => h1 h.symm
    rw [h2, Bool.false_or]
theorem delF_append (M : MH) (f g : List (Nat × List V)) : delF M (f ++ g) = delF (delF M f) g := by
  funext i
  simp only [delF, inF, List.any_append, Bool.or_eq_true]
  by_cases h1 : (f.any fun p => p.1 == i) = true <;> by_cases h2 : (g.any fun p => p.1 == i) = true <;> simp [h1, h2]
def Nd2 (fp : List (Nat × List V)) : Prop := (fp.map (·.1)).Nodup
theorem Nd2.append {f g : List (Nat × List V)} (h : Nd2 (f ++ g)) : Nd2 f ∧ Nd2 g ∧ ∀ p ∈ f, inF g p.1 = false := by
  unfold Nd2 at h ⊢
  rw [List.map_append, List.nodup_append] at h
  refine ⟨h.1, h.2.1, fun p hp => ?_⟩
  cases hb : inF g p.1 with
  | false => rfl
  | true =>
    obtain ⟨l, hl⟩ := inF_iff.1 hb
    exact absurd rfl (h.2.2 _ (List.mem_map_of_mem hp) _ (List.mem_map.2 ⟨_, hl, rfl⟩))
theorem Tr.fz {l l' : List V} {fp : List (Nat × List V)} (h : Tr l l' fp) : ∀ {M : MH}, (∀ p ∈ fp, M p.1 = .some p.2) → Nd2 fp → Fz M l (delF M fp) l' := by
  induction h with
  | nil => intro M _ _; rw [delF_nil]; exact .nil M
  | keep v _ ih => intro M hm hn; exact .keep v (ih hm hn)
  | @sl cs cs' l l' fp1 fp2 b o n c k ex _ _ ih1 ih2 =>
    intro M hm hn
    have h0 := hm (b, cs) (List.mem_cons_self ..)
    have hn' : ((b :: (fp1 ++ fp2).map (·.1))).Nodup := hn
    obtain ⟨n1, n2⟩ := List.nodup_cons.1 hn'
    obtain ⟨n3, n4, n5⟩ := Nd2.append (show Nd2 (fp1 ++ fp2) from n2)
    have ne : ∀ p ∈ fp1 ++ fp2, p.1 ≠ b := fun p hp e => n1 (by rw [← e]; exact List.mem_map_of_mem hp)
    rw [delF_cons, delF_append]
    refine .sl h0 (ih1 (fun p hp => ?_) n3) (ih2 (fun p hp => ?_) n4)
    · rw [del_ne (ne p (List.mem_append_left _ hp))]; exact hm p (List.mem_cons_of_mem _ (List.mem_append_left _ hp))
    · have h1 : inF fp1 p.1 = false := by
        cases hb : inF fp1 p.1 with
        | false => rfl
        | true =>
          obtain ⟨l2, hl⟩ := inF_iff.1 hb
          have := n5 _ hl
          have h2 : inF fp2 p.1 = true := inF_iff.2 ⟨p.2, hp⟩
          simp only at this
          rw [h2] at this; cases this
      simp only [delF, h1, Bool.false_eq_true, if_false]
      rw [del_ne (ne p (List.mem_append_right _ hp))]; exact hm p (List.mem_cons_of_mem _ (List.mem_append_right _ hp))
  | @agg a a' l l' fp1 fp2 _ _ ih1 ih2 =>
    intro M hm hn
    obtain ⟨n3, n4, n5⟩ := Nd2.append hn
    rw [delF_append]
    refine .agg (ih1 (fun p hp => hm p (List.mem_append_left _ hp)) n3) (ih2 (fun p hp => ?_) n4)
    have h1 : inF fp1 p.1 = false := by
      cases hb : inF fp1 p.1 with
      | false => rfl
      | true =>
        obtain ⟨l2, hl⟩ := inF_iff.1 hb
        have := n5 _ hl
        have h2 : inF fp2 p.1 = true := inF_iff.2 ⟨p.2, hp⟩
        simp only at this
        rw [h2] at this; cases this
    simp only [delF, h1, Bool.false_eq_true, if_false]
    exact hm p (List.mem_append_right _ hp)
  | @tup a a' l l' fp1 fp2 _ _ ih1 ih2 =>
    intro M hm hn
    obtain ⟨n3, n4, n5⟩ := Nd2.append hn
    rw [delF_append]
    refine .tup (ih1 (fun p hp => hm p (List.mem_append_left _ hp)) n3) (ih2 (fun p hp => ?_) n4)
    have h1 : inF fp1 p.1 = false := by
      cases hb : inF fp1 p.1 with
      | false => rfl
      | true =>
        obtain ⟨l2, hl⟩ := inF_iff.1 hb
        have := n5 _ hl
        have h2 : inF fp2 p.1 = true := inF_iff.2 ⟨p.2, hp⟩
        simp only at this
        rw [h2] at this; cases this
    simp only [delF, h1, Bool.false_eq_true, if_false]
    exact hm p (List.mem_append_right _ hp)
structure Mem (M0 M : MH) (fp : List (Nat × List V)) : Prop where
  sub : Sub M0 M
  new : ∀ p ∈ fp, M0 p.1 = none
  nd : Nd2 fp
  at_ : ∀ p ∈ fp, M p.1 = .some p.2
theorem Mem.perm {M0 M : MH} {f g : List (Nat × List V)} (h : Mem M0 M f) (hp : f.Perm g) : Mem M0 M g :=
  ⟨h.sub, fun p hm => h.new p (hp.mem_iff.2 hm), (hp.map _).nodup_iff.1 h.nd, fun p hm => h.at_ p (hp.mem_iff.2 hm)⟩
theorem Mem.nil {M0 M : MH} (h : Sub M0 M) : Mem M0 M [] := ⟨h, fun p hp => (by cases hp), List.nodup_nil, fun p hp => (by cases hp)⟩
theorem Mem.left {M0 M : MH} {f g : List (Nat × List V)} (h : Mem M0 M (f ++ g)) : Mem M0 M f :=
  ⟨h.sub, fun p hp => h.new p (List.mem_append_left _ hp), (Nd2.append h.nd).1, fun p hp => h.at_ p (List.mem_append_left _ hp)⟩
theorem Mem.right {M0 M : MH} {f g : List (Nat × List V)} (h : Mem M0 M (f ++ g)) : Mem M0 M g :=
  ⟨h.sub, fun p hp => h.new p (List.mem_append_right _ hp), (Nd2.append h.nd).2.1, fun p hp => h.at_ p (List.mem_append_right _ hp)⟩
theorem Mem.more {M0 M M' : MH} {f : List (Nat × List V)} (h : Mem M0 M f) (hs : Sub M M') : Mem M0 M' f :=
  ⟨h.sub.trans hs, h.new, h.nd, fun p hp => hs _ _ (h.at_ p hp)⟩
theorem Mem.add {M0 M M' : MH} {f g : List (Nat × List V)} (h : Mem M0 M f) (k : Mem M M' g) : Mem M0 M' (f ++ g) := by
  refine ⟨h.sub.trans k.sub, fun p hp => ?_, ?_, fun p hp => ?_⟩
  · rcases List.mem_append.1 hp with h1 | h1
    · exact h.new p h1
    · exact h.sub.none (k.new p h1)
  · unfold Nd2
    rw [List.map_append, List.nodup_append]
    refine ⟨h.nd, k.nd, fun a ha b hb e => ?_⟩
    obtain ⟨p, hp, rfl⟩ := List.mem_map.1 ha
    obtain ⟨q, hq, rfl⟩ := List.mem_map.1 hb
    have h1 := h.at_ p hp
    have h2 := k.new q hq
    rw [e, h2] at h1; cases h1
  · rcases List.mem_append.1 hp with h1 | h1
    · exact k.sub _ _ (h.at_ p h1)
    · exact k.at_ p h1
theorem Mem.new1 {M0 M : MH} {b : Nat} {l : List V} {f : List (Nat × List V)} (h : Mem M0 M f) (hb : M b = none) : Mem M0 (M.set b l) ((b, l) :: f) := by
  have h1 : Mem M (M.set b l) [(b, l)] := ⟨(Sub.refl M).set hb, fun p hp => by simp at hp; subst hp; exact hb, by simp [Nd2], fun p hp => by simp at hp; subst hp; exact set_same⟩
  exact (h.add h1).perm (List.perm_append_comm)
theorem Mem.upd {M0 M : MH} {b : Nat} {l l' : List V} {f : List (Nat × List V)} (h : Mem M0 M ((b, l) :: f)) : Mem M0 (M.set b l') ((b, l') :: f) := by
  have hb := h.new (b, l) (List.mem_cons_self ..)
  have hn : (b :: f.map (·.1)).Nodup := h.nd
  obtain ⟨n1, n2⟩ := List.nodup_cons.1 hn
  refine ⟨h.sub.set hb, fun p hp => ?_, hn, fun p hp => ?_⟩
  · rcases List.mem_cons.1 hp with rfl | h1
    · exact hb
    · exact h.new p (List.mem_cons_of_mem _ h1)
  · rcases List.mem_cons.1 hp with rfl | h1
    · exact set_same
    · rw [set_ne (fun e => n1 (by rw [← e]; exact List.mem_map_of_mem h1))]
      exact h.at_ p (List.mem_cons_of_mem _ h1)
theorem Mem.ne {M0 M : MH} {b : Nat} {l : List V} {f : List (Nat × List V)} (h : Mem M0 M ((b, l) :: f)) : ∀ p ∈ f, p.1 ≠ b := by
  have hn : (b :: f.map (·.1)).Nodup := h.nd
  obtain ⟨n1, n2⟩ := List.nodup_cons.1 hn
  exact fun p hp e => n1 (by rw [← e]; exact List.mem_map_of_mem hp)
def Dn (M0 M : MH) (r : V) (p : V → Prop) : Prop := ∃ r' fp, Tr [r] [r'] fp ∧ Mem M0 M fp ∧ flat r ∧ (∀ q ∈ fp, flatL q.2) ∧ p r'
theorem Dn.mono {M0 M : MH} {r : V} {p q : V → Prop} (h : Dn M0 M r p) (hp : ∀ v, p v → q v) : Dn M0 M r q := by
  obtain ⟨r', fp, h1, h2, h3, h4, h5⟩ := h
  exact ⟨r', fp, h1, h2, h3, h4, hp _ h5⟩
theorem Dn.sub {M0 M : MH} {r : V} {p : V → Prop} (h : Dn M0 M r p) : Sub M0 M := by
  obtain ⟨r', fp, h1, h2, _⟩ := h; exact h2.sub
theorem Gr.dn {sz : Nat} {M0 M : MH} {v : V} {l : List V} {p : V → Prop} (h : Gr sz M0 M v l) (hf : flatL l) (hp : ∀ u, Fr sz u l → p u) : Dn M0 M v p := by
  rcases h.own with ⟨rfl, k, rfl⟩ | ⟨b, n, ex, rfl, h1, h2⟩
  · exact ⟨_, _, .refl _, .nil h.sub, by simp [flat], fun q hq => (by cases hq), hp _ (.inl ⟨rfl, k, rfl⟩)⟩
  · refine ⟨_, _, .sl (.refl l) .nil, ⟨h.sub, fun p hp => ?_, by simp [Nd2], fun p hp => ?_⟩, by simp [flat], fun q hq => ?_, hp _ (.inr ⟨_, _, _, _, _, rfl, by simpa using h2⟩)⟩
    · simp at hp; subst hp; exact h.new b rfl
    · simp at hp; subst hp; exact h1
    · simp at hq; subst hq; exact hf
theorem flatL_vi (l : List Int) : flatL (l.map vi) := flatL_all.2 fun v hv => by
  obtain ⟨n, _, rfl⟩ := List.mem_map.1 hv
  simp [vi, flat]
theorem Fz.keeps {M M' : MH} {l l' : List V} (h : Fz M l M' l') : ∀ {H F : Heap}, SM M H F → okL F l → erl l' = erl l ∧ Sub M' M ∧ ∃ F', Le F F' ∧ SM M' H F' ∧ okL F' l' ∧ ∀ (b : Nat) (c : List V), M b = .some c → M' b = .some c ∨ F'.blk b = .cells (erl c) true := by
  induction h with
  | nil M => intro H F hs hl; exact ⟨rfl, .refl _, F, Le.refl F, hs, hl, fun b c h => .inl h⟩
  | keep v h ih =>
    intro H F hs hl
    simp only [okL] at hl
    obtain ⟨e, s, F', h1, h2, h3, h4⟩ := ih hs hl.2
    exact ⟨by simp [erl, e], s, F', h1, h2, by simp only [okL]; exact ⟨okV.mono h1 hl.1, h3⟩, h4⟩
  | @sl M M1 M2 cs cs' l l' b o n c k ex hb h1 h2 ih1 ih2 =>
    intro H F hs hl
    simp only [okL] at hl
    obtain ⟨F1, f1, f2, f3, f4, f5⟩ := hs.freeze hb
    obtain ⟨e1, s1, F2, g1, g2, g3, g4⟩ := ih1 f2 f4
    obtain ⟨e2, s2, F3, k1, k2, k3, k4⟩ := ih2 g2 (okL.mono (f1.trans g1) hl.2)
    have hbs : b < F1.size := by rw [f2.size]; exact (hs.own _ _ hb).1
    have keep : ∀ i c', i < F2.size → F2.blk i = .cells c' true → F3.blk i = .cells c' true := fun i c' hi h => k1.cells hi h
    have sz1 : ∀ (i : Nat) (c' : List V), M i = .some c' → i < F1.size ∧ i < F2.size := fun i c' hi => by
      have h0 := (hs.own _ _ hi).1
      rw [← f2.size] at h0
      exact ⟨h0, Nat.lt_of_lt_of_le h0 g1.1⟩
    refine ⟨by simp [erl, er, e2], (s2.trans s1).trans fun i c' hi => ?_, F3, (f1.trans g1).trans k1, k2, ?_, fun i c' hi => ?_⟩
    · simp only [MH.del] at hi
      split at hi
      · cases hi
      · exact hi
    · simp only [okL, okV, AA.b_some, AA.o_some]
      refine ⟨⟨?_, okL.mono k1 (g3.drop o)⟩, k3⟩
      intro i x hi
      rw [erl_drop, e1, List.getElem?_drop] at hi
      have := (f3.le (g1.trans k1)) (o + i) x hi
      simpa using this
    · by_cases hib : i = b
      · subst hib
        rw [hb] at hi; cases hi
        exact .inr (keep _ _ (sz1 _ _ hb).2 (g1.cells hbs f5))
      · have hd : M.del b i = .some c' := by rw [del_ne hib]; exact hi
        rcases g4 i c' hd with h5 | h5
        · exact k4 i c' h5
        · exact .inr (keep _ _ (sz1 _ _ hi).2 h5)
  | slN h ih =>
    intro H F hs hl
    simp only [okL] at hl
    obtain ⟨e, s, F', h1, h2, h3, h4⟩ := ih hs hl.2
    exact ⟨by simp [erl, er, e], s, F', h1, h2, by simp only [okL, okV, erl]; exact ⟨⟨Rd.nil _ _ _, trivial⟩, h3⟩, h4⟩
  | agg h1 h2 ih1 ih2 =>
    intro H F hs hl
    simp only [okL, okV] at hl
    obtain ⟨e1, s1, F1, g1, g2, g3, g4⟩ := ih1 hs hl.1
    obtain ⟨e2, s2, F2, k1, k2, k3, k4⟩ := ih2 g2 (okL.mono g1 hl.2)
    refine ⟨by simp [erl, er, e1, e2], s2.trans s1, F2, g1.trans k1, k2, by simp only [okL, okV]; exact ⟨okL.mono k1 g3, k3⟩, fun i c hi => ?_⟩
    rcases g4 i c hi with h5 | h5
    · exact k4 i c h5
    · exact .inr (k1.cells (by have := (hs.own _ _ hi).1; rw [g2.size]; exact this) h5)
  | tup h1 h2 ih1 ih2 =>
    intro H F hs hl
    simp only [okL, okV] at hl
    obtain ⟨e1, s1, F1, g1, g2, g3, g4⟩ := ih1 hs hl.1
    obtain ⟨e2, s2, F2, k1, k2, k3, k4⟩ := ih2 g2 (okL.mono g1 hl.2)
    refine ⟨by simp [erl, er, e1, e2], s2.trans s1, F2, g1.trans k1, k2, by simp only [okL, okV]; exact ⟨okL.mono k1 g3, k3⟩, fun i c hi => ?_⟩
    rcases g4 i c hi with h5 | h5
    · exact k4 i c h5
    · exact .inr (k1.cells (by have := (hs.own _ _ hi).1; rw [g2.size]; exact this) h5)
section
variable {P : Program} {f : FuncId} {args args' : List V} {M : MH} {R R' : V → MH → Prop} {fp : List (Nat × List V)}
def backF (M M' : MH) (fp : List (Nat × List V)) : MH := fun i => if inF fp i then M i else M' i
theorem VCall.lendT (ht : Tr args args' fp) (hm : ∀ p ∈ fp, M p.1 = .some p.2) (hn : Nd2 fp) (h : VCall P f args' (delF M fp) R')
    (hr : ∀ r M', (∀ p ∈ fp, M' p.1 = none) → R' r M' → flat r ∧ (∀ (i : Nat) (l' : List V), M' i = .some l' → delF M fp i = .some l' ∨ flatL l') ∧ R r (backF M M' fp)) : VCall P f args M R := by
  intro H F hs hok
  obtain ⟨e, s1, F1, f1, f2, f3, f4⟩ := (ht.fz hm hn).keeps hs hok
  have := h H F1 f2 f3
  rw [← erl_map, e, erl_map] at this
  refine this.mono ?_
  rintro a H' ⟨r, M', F', rfl, k1, k2, k3, k4⟩
  have hF1 : ∀ p ∈ fp, F1.blk p.1 = .cells (erl p.2) true := fun p hp => by
    rcases f4 p.1 p.2 (hm p hp) with h1 | h1
    · simp only [delF, inF_iff.2 ⟨p.2, hp⟩, if_true] at h1; cases h1
    · exact h1
  have hsz : ∀ p ∈ fp, p.1 < F1.size := fun p hp => by rw [f2.size]; exact (hs.own _ _ (hm p hp)).1
  have hF' : ∀ p ∈ fp, F'.blk p.1 = .cells (erl p.2) true := fun p hp => k2.cells (hsz p hp) (hF1 p hp)
  have hnone : ∀ p ∈ fp, M' p.1 = none := fun p hp => by
    cases hb : M' p.1 with
    | none => rfl
    | some l2 => have := (k3.all hb).2; rw [hF' p hp] at this; cases this
  obtain ⟨q1, q2, q3⟩ := hr r M' hnone k4
  let F'' : Heap := ⟨F'.size, fun i => if inF fp i then .dead else F'.blk i⟩
  have hLe : Le F F'' := by
    refine ⟨(f1.trans k2).1, fun i hi => ?_⟩
    by_cases hin : inF fp i = true
    · obtain ⟨l, hl⟩ := inF_iff.1 hin
      exact .inl (hs.own _ _ (hm _ hl)).2.2.1
    · rcases (f1.trans k2).2 i hi with h1 | h1
      · exact .inl h1
      · refine .inr ?_
        simp only [F'', hin, Bool.false_eq_true, if_false]; exact h1
  refine ⟨r, backF M M' fp, F'', rfl, q1.ok, hLe, ⟨k3.size, fun i hi => ?_, fun i l hi => ?_, fun i es hi => ?_⟩, q3⟩
  · simp only [F'']
    split
    · exact .inl rfl
    · exact k3.le i hi
  · simp only [backF] at hi
    split at hi
    · rename_i hin
      obtain ⟨l0, hl0⟩ := inF_iff.1 hin
      have h1 := hm _ hl0
      simp only at h1
      rw [h1] at hi; cases hi
      have hb : i < H'.size := by
        have h2 := hsz _ hl0
        have h3 := k2.1
        rw [k3.size] at h3
        simp only at h2; omega
      refine ⟨hb, ?_, by simp only [F'', hin, if_true], okL.mono hLe (hs.ok h1)⟩
      have h4 := hF' _ hl0
      simp only at h4
      rcases k3.le i hb with h2 | h2
      · rw [h4] at h2; cases h2
      · rw [← h2]; exact h4
    · rename_i hin
      obtain ⟨p1, p2, p3, p4⟩ := k3.own i l hi
      refine ⟨p1, p2, by simp only [F'', hin, Bool.false_eq_true, if_false]; exact p3, ?_⟩
      rcases q2 i l hi with h1 | h1
      · simp only [delF, hin, Bool.false_eq_true, if_false] at h1
        exact okL.mono hLe (hs.ok h1)
      · exact h1.ok
  · simp only [backF] at hi
    split at hi
    · rename_i hin
      obtain ⟨l0, hl0⟩ := inF_iff.1 hin
      have h1 := hm _ hl0
      simp only at h1
      rw [h1] at hi; cases hi
    · rename_i hin
      obtain ⟨p1, p2, p3⟩ := k3.map i es hi
      exact ⟨p1, p2, by simp only [F'', hin, Bool.false_eq_true, if_false]; exact p3⟩
theorem VCall.lendP {p : V → Prop} (ht : Tr args args' fp) (hm : ∀ p ∈ fp, M p.1 = .some p.2) (hn : Nd2 fp) (hp : ∀ r, p r → flat r) (h : ∀ M', VCall P f args' M' (fun r M'' => M' = M'' ∧ p r)) : VCall P f args M (fun r M' => M = M' ∧ p r) := by
  refine VCall.lendT ht hm hn (h _) ?_
  rintro r M' hnone ⟨rfl, hpr⟩
  refine ⟨hp r hpr, fun i l hi => .inl hi, ?_, hpr⟩
  funext i
  simp only [backF, delF]
  split
  · rfl
  · rfl
theorem VCall.lendD {p : V → Prop} (ht : Tr args args' fp) (hm : ∀ p ∈ fp, M p.1 = .some p.2) (hn : Nd2 fp) (h : ∀ M', VCall P f args' M' (fun r M'' => Dn M' M'' r p)) : VCall P f args M (fun r M' => Dn M M' r p) := by
  refine VCall.lendT ht hm hn (R' := fun r M'' => ∃ r' g, Tr [r] [r'] g ∧ Mem (delF M fp) M'' g ∧ flat r ∧ (∀ q ∈ g, flatL q.2) ∧ p r' ∧ ∀ (i : Nat) (l : Cell), M'' i = .some l → delF M fp i = .some l ∨ ∃ l' : List V, l = l' ∧ (i, l') ∈ g)
    (VCall.of fun R hR => (h _).mono fun r M' => ?_) ?_
  · rintro ⟨r', g, h1, h2, h3, h4, h5⟩
    refine hR r r M' (fun i => if inF g i then M' i else delF M fp i) _ (fun i l hi => ?_) (.refl _ _) ⟨r', g, h1, ⟨fun i l hi => ?_, h2.new, h2.nd, fun q hq => ?_⟩, h3, h4, h5, fun i l hi => ?_⟩
    · have hi : (if inF g i = true then M' i else delF M fp i) = .some l := hi
      split at hi
      · exact hi
      · exact h2.sub _ _ hi
    · show (if inF g i = true then M' i else delF M fp i) = .some l
      split
      · exact h2.sub _ _ hi
      · exact hi
    · show (if inF g q.1 = true then M' q.1 else delF M fp q.1) = .some q.2
      rw [if_pos (inF_iff.2 ⟨q.2, hq⟩)]
      exact h2.at_ q hq
    · have hi : (if inF g i = true then M' i else delF M fp i) = .some l := hi
      split at hi
      · rename_i hin
        obtain ⟨l2, hl2⟩ := inF_iff.1 hin
        have := h2.at_ _ hl2
        simp only at this
        rw [this] at hi; cases hi
        exact .inr ⟨_, rfl, hl2⟩
      · exact .inl hi
  · rintro r M' hnone ⟨r', g, h1, h2, h3, h4, h5, h6⟩
    have hg : ∀ q ∈ g, inF fp q.1 = false := fun q hq => by
      cases hb : inF fp q.1 with
      | false => rfl
      | true =>
        obtain ⟨l, hl⟩ := inF_iff.1 hb
        have e1 := hnone _ hl
        have e2 := h2.at_ q hq
        simp only at e1
        rw [e1] at e2; cases e2
    refine ⟨h3, fun i l hi => ?_, r', g, h1, ⟨fun i l hi => ?_, fun q hq => ?_, h2.nd, fun q hq => ?_⟩, h3, h4, h5⟩
    · rcases h6 i l hi with h7 | h7
      · exact .inl h7
      · obtain ⟨l', e, h7⟩ := h7
        cases e
        exact .inr (h4 _ h7)
    · simp only [backF]
      split
      · exact hi
      · rename_i hin
        exact h2.sub i l (by simp only [delF, hin, Bool.false_eq_true, if_false]; exact hi)
    · have := h2.new q hq
      simp only [delF, hg q hq, Bool.false_eq_true, if_false] at this
      exact this
    · simp only [backF, hg q hq, Bool.false_eq_true, if_false]
      exact h2.at_ q hq
theorem VCall.frT {p : V → Prop} (h : VCall P f args M (fun r M' => Dn M M' r p)) : VCall P f args M (fun r M' => M = M' ∧ p r) :=
  VCall.of fun R hR => h.mono fun r M' => by
    rintro ⟨r', g, h1, h2, h3, h4, h5⟩
    let M1 : MH := fun i => if inF g i then M' i else M i
    have e : delF M1 g = M := by
      funext i
      simp only [delF, M1]
      split
      · rename_i hin
        obtain ⟨l, hl⟩ := inF_iff.1 hin
        exact (h2.new _ hl).symm
      · rfl
    have hz := h1.fz (M := M1) (fun q hq => by simp only [M1]; rw [if_pos (inF_iff.2 ⟨q.2, hq⟩)]; exact h2.at_ q hq) h2.nd
    rw [e] at hz
    refine hR r r' M' M1 M (fun i l hi => ?_) hz ⟨rfl, h5⟩
    simp only [M1] at hi
    split at hi
    · exact hi
    · exact h2.sub _ _ hi
end
end Go.M2

namespace Go.M2
theorem upd_isRw {H : Heap} {b : Nat} {l l' : List AV} (hb : b < H.size) (h : H.blk b = .cells l true) (i : Nat) : (H.upd b (.cells l' true)).isRw i = H.isRw i := by
  unfold Heap.isRw
  rw [upd_size]
  by_cases e : i = b
  · subst e; rw [upd_blk_same', h]
  · rw [upd_blk_ne e]
theorem HI.recell {w0 w : World} {ρ : Nat → BI} {H : Heap} (hi : HI w0 ρ H w) {b : Nat} {l l' : List AV} (hb : b < H.size) (h : H.blk b = .cells l true) (hl : l'.length ≤ (ρ b).sz)
    (hc : ∀ (j : Nat) (x : AV), l'[j]? = .some x → l[j]? = .some x ∨ x = AV.junk) : HI w0 ρ (H.upd b (.cells l' true)) w := by
  obtain ⟨o1, o2, cs, t, o3, o4⟩ := hi.own b l hb h
  refine ⟨hi.below, hi.bound, fun i c hi' hc' => ?_, fun i c r hi' hc' => ?_, fun i c r hi' hc' j x hx => ?_, fun i c hi' hc' => ?_, fun i es hi' hc' => ?_, fun i i' h1 h2 hne hr => ?_, hi.tab⟩
  · by_cases e : i = b
    · subst e; rw [upd_blk_same'] at hc'; cases hc'
    · rw [upd_blk_ne e] at hc'; exact hi.ro i c hi' hc'
  · by_cases e : i = b
    · subst e; rw [upd_blk_same'] at hc'; cases hc'; exact hi.rw i l true hb h
    · rw [upd_blk_ne e] at hc'; exact hi.rw i c r hi' hc'
  · by_cases e : i = b
    · subst e
      rw [upd_blk_same'] at hc'
      cases hc'
      rcases hc j x hx with h1 | h1
      · exact hi.cell i l true hb h j x h1
      · subst h1
        have hj : j < l'.length := (List.getElem?_eq_some_iff.1 hx).1
        refine ⟨cs[(ρ i).off + j]'(by omega), ?_, .junk _⟩
        simp [World.cell?, o3]
    · rw [upd_blk_ne e] at hc'; exact hi.cell i c r hi' hc' j x hx
  · by_cases e : i = b
    · subst e
      rw [upd_blk_same'] at hc'
      cases hc'
      exact ⟨o1, hl, cs, t, o3, o4⟩
    · rw [upd_blk_ne e] at hc'; exact hi.own i c hi' hc'
  · by_cases e : i = b
    · subst e; rw [upd_blk_same'] at hc'; cases hc'
    · rw [upd_blk_ne e] at hc'; exact hi.map i es hi' hc'
  · rw [upd_isRw hb h] at hr
    rcases hi.inj i i' h1 h2 hne hr with h3 | h3
    · by_cases e : i' = b
      · subst e; rw [h] at h3; cases h3
      · exact .inl (by rw [upd_blk_ne e]; exact h3)
    · exact .inr h3
theorem VRL.mid {N : Nat} {ρ : Nat → BI} {a1 a2 : List AV} {x : AV} {vs : List Value} (h : VRL N ρ (a1 ++ x :: a2) vs) : ∃ v, vs[a1.length]? = .some v ∧ VR N ρ x v ∧ ∀ y, VR N ρ y v → VRL N ρ (a1 ++ y :: a2) vs := by
  have hl : a1.length < vs.length := by have := h.1; simp at this; omega
  refine ⟨vs[a1.length], by simp [hl], h.2 a1.length _ _ (by simp) (by simp [hl]), fun y hy => ⟨by have := h.1; simpa using this, fun i z v hz hv => ?_⟩⟩
  by_cases e : i = a1.length
  · subst e
    simp at hz
    subst hz
    have : v = vs[a1.length] := by simpa [hl] using hv.symm
    rw [this]; exact hy
  · refine h.2 i z v ?_ hv
    rw [List.getElem?_append] at hz ⊢
    split
    · rename_i hlt; rw [if_pos hlt] at hz; exact hz
    · rename_i hlt
      rw [if_neg hlt] at hz
      obtain ⟨k, hk⟩ : ∃ k, i - a1.length = k + 1 := ⟨i - a1.length - 1, by omega⟩
      rw [hk] at hz ⊢
      simpa using hz
section
variable {P : Program} {f : FuncId}
theorem ACall.openCap {a1 a2 : List AV} {H : Heap} {R : AV → Heap → Prop} {b o n c k : Nat} {l : List AV} (hb : H.rwCells b = .some l)
    (h : ∀ c', c ≤ c' → ACall P f (a1 ++ .sl (some (b, o)) n c' true k :: a2) (H.upd b (.cells (l ++ List.replicate (o + c' * k - l.length) .junk) true)) R) :
    ACall P f (a1 ++ .sl (some (b, o)) n c false k :: a2) H R := by
  refine ⟨(h c (Nat.le_refl _)).1, fun w0 ρ w vs hi hvs => ?_⟩
  obtain ⟨hbs, hblk⟩ := Heap.rwCells_blk hb
  obtain ⟨v, hv, hx, hy⟩ := hvs.mid
  have hrw : (ρ b).rw = true := hi.rw b l true hbs hblk
  obtain ⟨o1, o2, _⟩ := hi.own b l hbs hblk
  generalize hq : (AV.sl (some (b, o)) n c false k) = q at hx
  cases hx <;> cases hq
  rename_i c' h1 h2 h3 h4 h5
  have hin := h5 hrw
  have hH := hi.recell (l' := l ++ List.replicate (o + c' * k - l.length) .junk) hbs hblk (by simp; omega) (fun j x hj => by
    rw [List.getElem?_append] at hj
    split at hj
    · exact .inl hj
    · rw [List.getElem?_replicate] at hj
      split at hj
      · cases hj; exact .inr rfl
      · cases hj)
  refine ((h c' h2).2 w0 ρ w vs hH (hy _ (.sl b o n c' true k c' h1 (by omega) (Nat.le_refl _) (fun _ => rfl) h5))).mono ?_
  rintro e w' ⟨r, H', ρ', v', q1, q2, q3, q4, q5⟩
  refine ⟨r, H', ρ', v', q1, q2, ⟨q3.size, q3.agree, q3.wsize, fun i hi' hn => q3.keep i hi' fun b' hb' hr => hn b' hb' (by rwa [upd_isRw hbs hblk] at hr), fun b' hb' hr => ?_, q3.mono⟩, q4, q5⟩
  rcases q3.img b' hb' hr with h6 | ⟨b0, h6, h7, h8⟩
  · exact .inl h6
  · exact .inr ⟨b0, h6, by rwa [upd_isRw hbs hblk] at h7, h8⟩
theorem ACall.closeCap {args : List AV} {H : Heap} {R : AV → Heap → Prop}
    (h : ACall P f args H (fun r H' => R r H' ∨ ∃ b n c k l ex, r = .sl (some (b, 0)) n c ex k ∧ n ≤ c ∧ H'.rwCells b = .some l ∧ n * k ≤ l.length ∧ R (.sl (some (b, 0)) n n false k) (H'.upd b (.cells (l.take (n * k)) true)))) : ACall P f args H R := by
  refine ⟨h.1, fun w0 ρ w vs hi hvs => (h.2 w0 ρ w vs hi hvs).mono ?_⟩
  rintro e w' ⟨r, H', ρ', v, rfl, q2, q3, q4, q5 | ⟨b, n, c, k, l, ex, rfl, h1, h2, h3, h4⟩⟩
  · exact ⟨r, H', ρ', v, rfl, q2, q3, q4, q5⟩
  · obtain ⟨hbs, hblk⟩ := Heap.rwCells_blk h2
    obtain ⟨o1, o2, _⟩ := q4.own b l hbs hblk
    have hH := q4.recell (l' := l.take (n * k)) hbs hblk (by simp; omega) (fun j x hj => by
      rw [List.getElem?_take] at hj
      split at hj
      · exact .inl hj
      · cases hj)
    refine ⟨_, H'.upd b (.cells (l.take (n * k)) true), ρ', v, rfl, ?_, ⟨q3.size, q3.agree, q3.wsize, q3.keep, fun b' hb' hr => q3.img b' hb' (by rwa [upd_isRw hbs hblk] at hr), q3.mono⟩, hH, h4⟩
    generalize hq : (AV.sl (some (b, 0)) n c ex k) = q at q2
    cases q2 <;> cases hq
    rename_i c' g1 g2 g3 g4 g5
    exact .sl b 0 n n false k c' g1 (Nat.le_refl _) (by omega) (fun h => nomatch h) g5
theorem VCall.openCap {a1 a2 : List V} {M : MH} {R : V → MH → Prop} {b o n c k : Nat} {l : List V} (hb : M b = .some l)
    (h : ∀ c', c ≤ c' → VCall P f (a1 ++ .sc (.sl (some (b, o)) n c' true k) :: a2) (M.set b (l ++ List.replicate (o + c' * k - l.length) (.sc .junk))) R) :
    VCall P f (a1 ++ .sc (.sl (some (b, o)) n c false k) :: a2) M R := by
  intro H F hs hok
  have e : ∀ c' ex, (a1 ++ V.sc (.sl (some (b, o)) n c' ex k) :: a2).map er = a1.map er ++ .sl (some (b, o)) n c' ex k :: a2.map er := fun c' ex => by simp [er]
  rw [e]
  refine ACall.openCap (hs.rw hb) fun c' hc => ?_
  have e2 : erl l ++ List.replicate (o + c' * k - (erl l).length) AV.junk = erl (l ++ List.replicate (o + c' * k - l.length) (.sc .junk)) := by
    rw [erl_append, erl_length, erl_map (List.replicate _ _), List.map_replicate]; simp [er]
  rw [e2]
  have hj : okL F (List.replicate (o + c' * k - l.length) (V.sc .junk)) := okL_all.2 fun v hv => by rw [(List.mem_replicate.1 hv).2]; simp [okV]
  have := h c' hc _ F (hs.upd hb ((hs.ok hb).append hj)) (okL_all.2 fun v hv => by
    rcases List.mem_append.1 hv with h1 | h1
    · exact okL_all.1 hok v (List.mem_append_left _ h1)
    · rcases List.mem_cons.1 h1 with rfl | h1
      · simp [okV]
      · exact okL_all.1 hok v (List.mem_append_right _ (List.mem_cons_of_mem _ h1)))
  rw [e] at this
  exact this
theorem VCall.closeCap {args : List V} {M : MH} {R : V → MH → Prop}
    (h : VCall P f args M (fun r M' => R r M' ∨ ∃ (b n c k : Nat) (l : List V) (ex : Bool), r = .sc (.sl (some (b, 0)) n c ex k) ∧ n ≤ c ∧ M' b = .some l ∧ n * k ≤ l.length ∧ R (.sc (.sl (some (b, 0)) n n false k)) (M'.set b (l.take (n * k))))) : VCall P f args M R := by
  intro H F hs hok
  refine ACall.closeCap ((h H F hs hok).mono ?_)
  rintro a H' ⟨r, M', F', rfl, q1, q2, q3, q4 | ⟨b, n, c, k, l, ex, rfl, h1, h2, h3, h4⟩⟩
  · exact .inl ⟨r, M', F', rfl, q1, q2, q3, q4⟩
  · refine .inr ⟨b, n, c, k, erl l, ex, by simp [er], h1, q3.rw h2, by rw [erl_length]; exact h3, _, M'.set b (l.take (n * k)), F', by simp [er], by simp [okV], q2, ?_, h4⟩
    rw [← erl_take]
    exact q3.upd h2 ((q3.ok h2).take _)
end
end Go.M2

namespace Go.M2
section
variable {P : Program} {f : FuncId} {args : List V} {M : MH}
theorem VCall.froz {p : V → Prop} (h : ∀ R : V → MH → Prop, (∀ r M', Sub M M' → p r → R r M') → (∀ r M' sz l, Gr sz M M' r l → (∀ u, Fr sz u l → p u) → R r M') → VCall P f args M R) : VCall P f args M (fun r M' => M = M' ∧ p r) :=
  VCall.of fun R hR => h R (fun r M' hs hp => hR r r M' M M hs (.refl _ _) ⟨rfl, hp⟩) fun r M' sz l hg hp => by
    obtain ⟨M1, v', q1, q2, q3⟩ := hg.fz
    exact hR r v' M' M1 M q1 q2 ⟨rfl, hp _ q3⟩
variable {v a b c : V} {rest : List V} {sz : Nat} {l : List V} {p : V → Prop}
theorem VCall.give0 {M0 : MH} {R : V → MH → Prop} (hg : Gr sz M0 M v l) (h : ∀ u M2, Fr sz u l → Sub M0 M2 → VCall P f (u :: rest) M2 R) : VCall P f (v :: rest) M R := by
  rcases hg.own with ⟨rfl, k, rfl⟩ | ⟨b, n, ex, rfl, h1, h2⟩
  · exact h _ _ (.inl ⟨rfl, k, rfl⟩) hg.sub
  · exact VCall.give (.sl h1 (.refl _ _) (.refl _ _)) (h _ _ (.inr ⟨_, _, _, _, _, rfl, by simpa using h2⟩) (hg.sub.del (hg.new b rfl)))
theorem flat_eq {u : AV} : ∀ r, r = V.sc u → flat r := fun r h => by subst h; simp [flat]
end
def oB (v : V) : Nat := (blkV v).getD 0
theorem Ow.at {sz : Nat} {M : MH} {v : V} {l : List V} (h : Ow sz M v l) (h0 : 0 < l.length) : M (oB v) = .some l := by
  rcases h with ⟨rfl, k, rfl⟩ | ⟨b, n, ex, rfl, h1, h2⟩
  · simp at h0
  · exact h1
theorem Ow.iaddr {M : MH} {v : V} {l : List V} (h : Ow 1 M v l) {k : IntKind} {a : Int} (h0 : 0 ≤ a) (h1 : a < (l.length : Int)) : iaddrV 1 v (.int k a) = .some (.sc (.ptr (some (oB v, a.toNat)))) := by
  rcases h with ⟨rfl, _, rfl⟩ | ⟨b, n, ex, rfl, h2, h3⟩
  · simp at h1; omega
  · simp only [iaddrV]
    rw [if_pos ⟨h0, by omega⟩]
    simp [oB, blkV]
theorem Gr.at {sz : Nat} {M0 M : MH} {v : V} {l : List V} (h : Gr sz M0 M v l) (h0 : 0 < l.length) : M (oB v) = .some l := h.own.at h0
theorem nth_vi {xs : List Int} {i : Nat} (h : i < xs.length) : (xs.map vi)[i]? = .some (.sc (.int .i64 xs[i])) := by simp [h, vi]
theorem set_vi {xs : List Int} {i : Nat} {n : Int} : (xs.map vi).set i (.sc (.int .i64 n)) = (xs.set i n).map vi := by simp [List.map_set, vi]
theorem len_vi {xs : List Int} : (xs.map vi).length = xs.length := by simp
theorem app_vi {xs : List Int} {n : Int} : xs.map vi ++ [.sc (.int .i64 n)] = (xs ++ [n]).map vi := by simp [vi]
theorem zeros_vi (n : Nat) : (zeros [.int .i64 0] n).map V.sc = (List.replicate n (0 : Int)).map vi := zeros_rep (fun x : Int => AV.int .i64 x) 0 n
theorem zeros_vb (n : Nat) : (zeros [.bool false] n).map V.sc = (List.replicate n false).map vb := zeros_rep (fun x : Bool => AV.bool x) false n
section
variable {M0 M : MH} {s : V} {K : V → MH → Prop}
theorem app_int {by_ bt c k : Nat} {ex : Bool} {xs : List Int} {n : Int} (h : Gr 1 M0 M s (xs.map vi)) (hbt : M bt = none) (hb : xs.length + 1 ≤ 68719476736) (hby : by_ ≤ 16)
    (hk : ∀ s' M', Gr 1 M0 M' s' ((xs ++ [n]).map vi) → Oth M M' s s' → K s' M') : appV 1 by_ s (.sc (.sl (some (bt, 0)) 1 c ex k)) (M.set bt [.sc (.int .i64 n)]) K := by
  refine gr_app1 h (by omega) hbt rfl (by simp [oneV, er, oneA]) ?_ (by simp [mostCells]; omega) fun s' M' h1 h2 => hk s' M' (by rwa [app_vi] at h1) h2
  have : ((xs.map vi).length + 1) * by_ ≤ ((xs.map vi).length + 1) * 16 := Nat.mul_le_mul_left _ hby
  simp [mostCells] at this ⊢; omega
end
section
variable {M0 M : MH} {s : V} {K : V → MH → Prop}
theorem app_val {by_ bt c k : Nat} {ex : Bool} {us : List V} {u : V} (h : Gr 1 M0 M s us) (hbt : M bt = none) (hu : oneV u = true) (hb : us.length + 1 ≤ 34359738368) (hby : by_ ≤ 32)
    (hk : ∀ s' M', Gr 1 M0 M' s' (us ++ [u]) → Oth M M' s s' → K s' M') : appV 1 by_ s (.sc (.sl (some (bt, 0)) 1 c ex k)) (M.set bt [u]) K := by
  refine gr_app1 h (by omega) hbt rfl (by simp [hu]) ?_ (by simp [mostCells]; omega) hk
  have : (us.length + 1) * by_ ≤ (us.length + 1) * 32 := Nat.mul_le_mul_left _ hby
  simp [mostCells]; omega
end
theorem Gr.base {sz : Nat} {M0 M1 M : MH} {v : V} {l : List V} (h : Gr sz M1 M v l) (hs : Sub M0 M1) : Gr sz M0 M v l := ⟨hs.trans h.sub, fun b hb => hs.none (h.new b hb), h.own⟩
theorem Gr.ne {sz sz' : Nat} {M0 M1 M : MH} {v w : V} {l r : List V} (h : Gr sz M0 M1 v l) (k : Gr sz' M1 M w r) : ∀ b, blkV w = .some b → blkV v ≠ some b := by
  intro b hb hv
  have h1 := k.new b hb
  rcases h.own with ⟨rfl, q, rfl⟩ | ⟨b', n, ex, rfl, h2, _⟩
  · simp [blkV] at hv
  · simp [blkV] at hv; subst hv; rw [h1] at h2; cases h2
def Cs {α : Type} (E : α → V → Prop) (us : List V) (xs : List α) : Prop := us.length = xs.length ∧ ∀ i (h : i < xs.length), ∃ u, us[i]? = .some u ∧ E xs[i] u
theorem Cs.nil {α : Type} {E : α → V → Prop} : Cs E [] ([] : List α) := ⟨rfl, fun i h => by simp at h⟩
theorem Cs.snoc {α : Type} {E : α → V → Prop} {us : List V} {xs : List α} {u : V} {x : α} (h : Cs E us xs) (hu : E x u) : Cs E (us ++ [u]) (xs ++ [x]) := by
  refine ⟨by simp [h.1], fun i hi => ?_⟩
  by_cases hlt : i < xs.length
  · obtain ⟨w, h1, h2⟩ := h.2 i hlt
    exact ⟨w, by rw [List.getElem?_append_left (by rw [h.1]; exact hlt)]; exact h1, by rw [List.getElem_append_left hlt]; exact h2⟩
  · have hi2 : i = xs.length := by simp at hi; omega
    subst hi2
    exact ⟨u, by rw [List.getElem?_append_right (by rw [h.1]; exact Nat.le_refl _)]; simp [h.1], by simpa using hu⟩
theorem Fr.lsC {α : Type} {E : α → V → Prop} {v : V} {us : List V} {xs : List α} (h : Fr 1 v us) (hc : Cs E us xs) : Ls E v xs := h.ls hc.1 hc.2
theorem take_snoc {α : Type} {xs : List α} {i : Nat} (h : i < xs.length) : xs.take (i + 1) = xs.take i ++ [xs[i]] := List.take_succ_eq_append_getElem h
end Go.M2

namespace Go.M2
abbrev KL := List (GOp × Option (List Nat))
def kT (f : Unit → KL) : IR := .kops (f ())
def tH (f : Unit → IR) : IR := f ()
def sQ : List IR → IR
  | [] => .skip
  | [a] => a
  | a :: b :: t => .seq a (sQ (b :: t))
def oF (f : Nat → GOp) (n : Nat) : List GOp := (List.range n).map f
@[go_sem] def kA (d : Nat) (o : IOp) : GOp × Option (List Nat) := (⟨some d, o, none⟩, none)
@[go_sem] def kB (d : Nat) (o : IOp) (l : List Nat) : GOp × Option (List Nat) := (⟨some d, o, none⟩, some l)
@[go_sem] def cI (n : Int) : X := .c (.int .i64 n)
def oN : Option (List Nat) := none
def oS (l : List Nat) : Option (List Nat) := some l
section
variable {P : Program} {Q : PostV} {e : EnvV} {M : MH} {i n : Nat}
@[go_sem] theorem wpV_kT {f : Unit → KL} : wpV P (kT f) Q e M = wpKV P (f ()) (Q .normal) e M := idE rfl
theorem wpV_tH {f : Unit → IR} : wpV P (tH f) Q e M = wpV P (f ()) Q e M := idE rfl
@[go_sem] theorem wpV_sQ1 {a : IR} : wpV P (sQ [a]) Q e M = wpV P a Q e M := idE rfl
@[go_sem] theorem wpV_sQ2 {a b : IR} {t : List IR} : wpV P (sQ (a :: b :: t)) Q e M = wpV P a (thenQV (wpV P (sQ (b :: t)) Q) Q) e M := idE rfl
@[go_sem] theorem wpV_cond {c : X} {a b : IR} : wpV P (.cond c a b) Q e M = condVW P c a b Q e M := idE rfl
@[go_sem] theorem wpV_block {a : IR} : wpV P (.block i a) Q e M = wpV P a (blockQV i Q) e M := idE rfl
def kdK (Q : PostV) (k : List Nat) : EnvV → MH → Prop := fun e' M' => Q .normal (keepV k e') M'
@[go_sem] theorem kdK_go {k : List Nat} : kdK Q k e M = Q .normal (keepV k e) M := idE rfl
theorem wpV_kd {l : List GOp} {s : List (Nat × List Nat)} {k : List Nat} : wpV P (.kd l s k) Q e M = wpDV P l s (kdK Q k) e M := idE rfl
@[go_sem] theorem gAt_oF {f : Nat → GOp} (h : i < n) : gAt (oF f n) i = f i := by
  simp [gAt, oF, List.getD, h]
end
theorem sS0 {P Q : Prop} (k : Q) (h : P = Q := by simp (maxSteps := 2000000) (disch := first | omega | assumption | exact idP rfl | exact idP (bL rfl)) only [go_sem, reduceIte, Nat.reduceEqDiff, wpV_kd, wpV_tH]; exact rfl) : P := h.mpr k
theorem sT0 {P : Prop} (h : P := by simp (maxSteps := 2000000) (disch := first | omega | assumption | exact idP rfl | exact idP (bL rfl)) only [go_sem, reduceIte, Nat.reduceEqDiff, wpV_kd, wpV_tH]) : P := h
theorem sS1 {P Q A1 : Prop} (a : A1) (k : Q) (h : A1 → P = Q := by intro a; simp (maxSteps := 2000000) (disch := first | omega | assumption | exact idP rfl | exact idP (bL rfl)) only [go_sem, reduceIte, Nat.reduceEqDiff, wpV_kd, wpV_tH, a]; exact rfl) : P := (h a).mpr k
theorem sT1 {P A1 : Prop} (a : A1) (h : A1 → P := by intro a; simp (maxSteps := 2000000) (disch := first | omega | assumption | exact idP rfl | exact idP (bL rfl)) only [go_sem, reduceIte, Nat.reduceEqDiff, wpV_kd, wpV_tH, a]) : P := (h a)
theorem sS2 {P Q A1 B1 : Prop} (a : A1) (b : B1) (k : Q) (h : A1 → B1 → P = Q := by intro a b; simp (maxSteps := 2000000) (disch := first | omega | assumption | exact idP rfl | exact idP (bL rfl)) only [go_sem, reduceIte, Nat.reduceEqDiff, wpV_kd, wpV_tH, a, b]; exact rfl) : P := (h a b).mpr k
theorem sS3 {P Q A1 B1 C1 : Prop} (a : A1) (b : B1) (c : C1) (k : Q) (h : A1 → B1 → C1 → P = Q := by intro a b c; simp (maxSteps := 2000000) (disch := first | omega | assumption | exact idP rfl | exact idP (bL rfl)) only [go_sem, reduceIte, Nat.reduceEqDiff, wpV_kd, wpV_tH, a, b, c]; exact rfl) : P := (h a b c).mpr k
theorem sS4 {P Q A1 B1 C1 D1 : Prop} (a : A1) (b : B1) (c : C1) (d : D1) (k : Q) (h : A1 → B1 → C1 → D1 → P = Q := by intro a b c d; simp (maxSteps := 2000000) (disch := first | omega | assumption | exact idP rfl | exact idP (bL rfl)) only [go_sem, reduceIte, Nat.reduceEqDiff, wpV_kd, wpV_tH, a, b, c, d]; exact rfl) : P := (h a b c d).mpr k
theorem sS5 {P Q A1 B1 C1 D1 E1 : Prop} (a : A1) (b : B1) (c : C1) (d : D1) (e : E1) (k : Q) (h : A1 → B1 → C1 → D1 → E1 → P = Q := by intro a b c d e; simp (maxSteps := 2000000) (disch := first | omega | assumption | exact idP rfl | exact idP (bL rfl)) only [go_sem, reduceIte, Nat.reduceEqDiff, wpV_kd, wpV_tH, a, b, c, d, e]; exact rfl) : P := (h a b c d e).mpr k
theorem sS6 {P Q A1 B1 C1 D1 E1 F1 : Prop} (a : A1) (b : B1) (c : C1) (d : D1) (e : E1) (f : F1) (k : Q) (h : A1 → B1 → C1 → D1 → E1 → F1 → P = Q := by intro a b c d e f; simp (maxSteps := 2000000) (disch := first | omega | assumption | exact idP rfl | exact idP (bL rfl)) only [go_sem, reduceIte, Nat.reduceEqDiff, wpV_kd, wpV_tH, a, b, c, d, e, f]; exact rfl) : P := (h a b c d e f).mpr k
theorem sS8 {P Q A1 B1 C1 D1 E1 F1 G1 I1 : Prop} (a : A1) (b : B1) (c : C1) (d : D1) (e : E1) (f : F1) (g : G1) (i : I1) (k : Q) (h : A1 → B1 → C1 → D1 → E1 → F1 → G1 → I1 → P = Q := by intro a b c d e f g i; simp (maxSteps := 2000000) (disch := first | omega | assumption | exact idP rfl | exact idP (bL rfl)) only [go_sem, reduceIte, Nat.reduceEqDiff, wpV_kd, wpV_tH, a, b, c, d, e, f, g, i]; exact rfl) : P := (h a b c d e f g i).mpr k
theorem sB {P : Prop} (h : P := by (repeat (first | exact Sub.refl _ | assumption | (refine Sub.set' ?_ (by assumption))))) : P := h
end Go.M2

namespace Go.M2
structure TermS where
  op : Int
  n : Int
  a : Int
  b : Int
structure VarS where
  low : Int
  high : Int
  first : Int
structure RuleS where
  when_ : List TermS
  sets : List Int
  terms : List (List TermS)
structure SysS where
  vars : List VarS
  rules : List RuleS
def ix (l : List Int) (i : Int) : Int := l.getD i.toNat 0
theorem ix_eq {l : List Int} {i : Int} (h0 : 0 ≤ i) (h1 : i < (l.length : Int)) : ∃ h : i.toNat < l.length, ix l i = l[i.toNat] := by
  have h : i.toNat < l.length := by omega
  exact ⟨h, by simp [ix, List.getD, h]⟩
def wantK (op : Int) : Int := if 7 ≤ op then 2 else 1
def kind1 (vars : Int) (t : TermS) (ks : List Int) : Int :=
  if t.op = 0 then (if -9999 ≤ t.n ∧ t.n ≤ 9999 ∧ t.a = 0 ∧ t.b = 0 then 1 else 0)
  else if t.op = 1 then (if 0 ≤ t.n ∧ t.n < vars ∧ t.a = 0 ∧ t.b = 0 then 1 else 0)
  else if 2 ≤ t.op ∧ t.op ≤ 9 ∧ t.n = 0 ∧ (0 ≤ t.a ∧ t.a < (ks.length : Int)) ∧ (0 ≤ t.b ∧ t.b < (ks.length : Int)) ∧ ix ks t.a = wantK t.op ∧ ix ks t.b = wantK t.op ∧ (t.op = 7 → t.a = t.b) then (if 5 ≤ t.op then 2 else 1)
  else 0
def kindsGo (vars : Int) : List TermS → List Int → Option (List Int)
  | [], ks => some ks
  | t :: r, ks => if kind1 vars t ks = 0 then none else kindsGo vars r (ks ++ [kind1 vars t ks])
def kindsF (vars : Int) (l : List TermS) : Option (List Int) := if 0 ≤ vars ∧ vars ≤ 5 ∧ 1 ≤ l.length ∧ l.length ≤ 40 then kindsGo vars l [] else none
theorem kindsGo_append {vars : Int} : ∀ (a b : List TermS) (ks : List Int), kindsGo vars (a ++ b) ks = (kindsGo vars a ks).bind (kindsGo vars b)
  | [], b, ks => rfl
  | t :: r, b, ks => by
    simp only [List.cons_append, kindsGo]
    split
    · rfl
    · exact kindsGo_append r b _
theorem kindsGo_len {vars : Int} : ∀ {a : List TermS} {ks r : List Int}, kindsGo vars a ks = some r → r.length = ks.length + a.length ∧ r.take ks.length = ks
  | [], ks, r, h => by simp [kindsGo] at h; subst h; simp
  | t :: a, ks, r, h => by
    simp only [kindsGo] at h
    split at h
    · cases h
    · obtain ⟨h1, h2⟩ := kindsGo_len h
      simp at h1 h2
      refine ⟨by simp; omega, ?_⟩
      have := congrArg (List.take ks.length) h2
      rw [List.take_take] at this
      simpa [Nat.min_eq_left (Nat.le_succ _)] using this
theorem kindsGo_at {vars : Int} {l : List TermS} {ks : List Int} (h : kindsGo vars l [] = some ks) : ks.length = l.length ∧ ∀ i (hi : i < l.length) (hk : i < ks.length), kind1 vars l[i] (ks.take i) = ks[i] ∧ ks[i] ≠ 0 := by
  have hl := (kindsGo_len h).1
  simp at hl
  refine ⟨hl, fun i hi hk => ?_⟩
  have h1 : kindsGo vars (l.take (i + 1) ++ l.drop (i + 1)) [] = some ks := by rw [List.take_append_drop]; exact h
  rw [kindsGo_append] at h1
  cases h2 : kindsGo vars (l.take (i + 1)) [] with
  | none => rw [h2] at h1; cases h1
  | some ks1 =>
    rw [h2] at h1
    have h3 := kindsGo_len (show kindsGo vars (l.drop (i + 1)) ks1 = some ks from h1)
    have h4 := kindsGo_len h2
    simp at h4
    rw [List.take_succ_eq_append_getElem hi, kindsGo_append] at h2
    cases h5 : kindsGo vars (l.take i) [] with
    | none => rw [h5] at h2; cases h2
    | some ks0 =>
      rw [h5] at h2
      simp only [Option.bind_some, kindsGo] at h2
      split at h2
      · cases h2
      · rename_i h6
        cases h2
        have h7 := (kindsGo_len h5).1
        simp at h7
        have h8 : ks0.length = i := by omega
        have h9 : ks.take (i + 1) = ks0 ++ [kind1 vars l[i] ks0] := by
          have := h3.2
          rw [List.length_append] at this
          simpa [h8] using this
        have h10 : ks.take i = ks0 := by
          have := congrArg (List.take i) h9
          rw [List.take_take, Nat.min_eq_left (Nat.le_succ _)] at this
          rw [this, List.take_append_of_le_length (by omega), List.take_of_length_le (by omega)]
        have h11 : ks[i] = kind1 vars l[i] ks0 := by
          have : (ks.take (i + 1))[i]? = some ks[i] := by rw [List.getElem?_take]; simp [hk]
          rw [h9, List.getElem?_append_right (by omega)] at this
          simp [h8] at this
          exact this.symm
        rw [h10, h11]
        exact ⟨rfl, h6⟩
def heldF (n : Int) : Int := if 9999 < n then 9999 else if n < -9999 then -9999 else n
def do1 (op a b : Int) : Int :=
  if op = 2 then heldF (a + b) else if op = 3 then heldF (a - b) else if op = 4 then heldF (a * b) else
  if op = 5 then (if a < b then 1 else 0) else if op = 6 then (if a = b then 1 else 0) else if op = 7 then 1 - a else
  if op = 8 then min a b else max a b
def val1 (state : List Int) (t : TermS) (vs : List Int) : Int := if t.op = 0 then t.n else if t.op = 1 then ix state t.n else do1 t.op (ix vs t.a) (ix vs t.b)
def valsF (state : List Int) (l : List TermS) : List Int := l.foldl (fun vs t => vs ++ [val1 state t vs]) []
theorem valsF_snoc (state : List Int) (l : List TermS) (t : TermS) : valsF state (l ++ [t]) = valsF state l ++ [val1 state t (valsF state l)] := by
  simp [valsF, List.foldl_append]
theorem valsF_len (state : List Int) (l : List TermS) : (valsF state l).length = l.length := by
  have : ∀ (l : List TermS) (vs : List Int), (l.foldl (fun vs t => vs ++ [val1 state t vs]) vs).length = vs.length + l.length := by
    intro l
    induction l with
    | nil => intro vs; simp
    | cons t l ih => intro vs; simp only [List.foldl_cons, ih]; simp; omega
  simpa [valsF] using this l []
def stOk (state : List Int) : Prop := ∀ x ∈ state, -9999 ≤ x ∧ x ≤ 9999
theorem heldF_in (n : Int) : -9999 ≤ heldF n ∧ heldF n ≤ 9999 := by unfold heldF; split <;> (try split) <;> omega
theorem vals_ok {state : List Int} {vars : Int} (hs : stOk state) (hv : vars ≤ (state.length : Int)) : ∀ (n : Nat) {l : List TermS} {ks : List Int}, l.length = n → kindsGo vars l [] = some ks → ∀ i (hi : i < (valsF state l).length) (hk : i < ks.length),
    -9999 ≤ (valsF state l)[i] ∧ (valsF state l)[i] ≤ 9999 ∧ (ks[i] = 2 → 0 ≤ (valsF state l)[i] ∧ (valsF state l)[i] ≤ 1) := by
  intro n
  induction n with
  | zero => intro l ks hl hk i hi; rw [valsF_len] at hi; omega
  | succ n ih =>
    intro l ks hl hk i hi hik
    obtain ⟨l0, t, rfl⟩ : ∃ l0 t, l = l0 ++ [t] := by
      refine ⟨l.dropLast, l.getLast (by intro e; subst e; simp at hl), ?_⟩
      exact (List.dropLast_concat_getLast _).symm
    have hl0 : l0.length = n := by simp at hl; exact hl
    rw [kindsGo_append] at hk
    cases h0 : kindsGo vars l0 [] with
    | none => rw [h0] at hk; cases hk
    | some ks0 =>
      rw [h0] at hk
      simp only [Option.bind_some, kindsGo] at hk
      split at hk
      · cases hk
      · rename_i hne
        cases hk
        have hk0 := (kindsGo_len h0).1
        simp at hk0
        have hlen := valsF_len state l0
        have IH := ih hl0 h0
        have get : ∀ j (hj : j < l0.length), (valsF state (l0 ++ [t]))[j]'(by rw [valsF_len]; simp; omega) = (valsF state l0)[j]'(by omega) := by
          intro j hj
          simp only [valsF_snoc]
          rw [List.getElem_append_left]
        by_cases hi2 : i < l0.length
        · rw [get i hi2, List.getElem_append_left (by omega)]
          exact IH i (by omega) (by omega)
        · have hieq : i = l0.length := by rw [valsF_len] at hi; simp at hi; omega
          subst hieq
          have e1 : (valsF state (l0 ++ [t]))[l0.length]'hi = val1 state t (valsF state l0) := by
            simp only [valsF_snoc]
            rw [List.getElem_append_right (by omega)]
            simp [hlen]
          have e2 : (ks0 ++ [kind1 vars t ks0])[l0.length]'hik = kind1 vars t ks0 := by
            rw [List.getElem_append_right (by omega)]
            simp [hk0]
          rw [e1, e2]
          clear e1 e2 get
          unfold kind1 at hne ⊢
          unfold val1
          by_cases c0 : t.op = 0
          · rw [if_pos c0] at hne ⊢
            rw [if_pos c0]
            split at hne
            · rename_i hc; rw [if_pos hc]; exact ⟨hc.1, hc.2.1, fun h => by omega⟩
            · exact absurd rfl hne
          · rw [if_neg c0] at hne ⊢
            rw [if_neg c0]
            by_cases c1 : t.op = 1
            · rw [if_pos c1] at hne ⊢
              rw [if_pos c1]
              split at hne
              · rename_i hc; rw [if_pos hc]
                obtain ⟨hh, e⟩ := ix_eq (l := state) hc.1 (by omega)
                rw [e]
                have := hs _ (List.getElem_mem hh)
                exact ⟨this.1, this.2, fun h => by omega⟩
              · exact absurd rfl hne
            · rw [if_neg c1] at hne ⊢
              rw [if_neg c1]
              split at hne
              · rename_i hc
                rw [if_pos hc]
                obtain ⟨q1, q2, q3, q4, q5, q6, q7, q8⟩ := hc
                obtain ⟨ha, ea⟩ := ix_eq (l := valsF state l0) (i := t.a) q4.1 (by omega)
                obtain ⟨hb, eb⟩ := ix_eq (l := valsF state l0) (i := t.b) q5.1 (by omega)
                obtain ⟨ha', ea'⟩ := ix_eq (l := ks0) (i := t.a) q4.1 q4.2
                obtain ⟨hb', eb'⟩ := ix_eq (l := ks0) (i := t.b) q5.1 q5.2
                have A := IH t.a.toNat ha ha'
                have B := IH t.b.toNat hb hb'
                rw [← ea, ← ea'] at A
                rw [← eb, ← eb'] at B
                rw [q6] at A
                rw [q7] at B
                generalize ix (valsF state l0) t.a = x at *
                generalize ix (valsF state l0) t.b = y at *
                unfold do1
                by_cases d2 : t.op = 2
                · rw [if_pos d2]; have := heldF_in (x + y); refine ⟨this.1, this.2, fun h => ?_⟩; rw [if_neg (by omega)] at h; omega
                · rw [if_neg d2]
                  by_cases d3 : t.op = 3
                  · rw [if_pos d3]; have := heldF_in (x - y); refine ⟨this.1, this.2, fun h => ?_⟩; rw [if_neg (by omega)] at h; omega
                  · rw [if_neg d3]
                    by_cases d4 : t.op = 4
                    · rw [if_pos d4]; have := heldF_in (x * y); refine ⟨this.1, this.2, fun h => ?_⟩; rw [if_neg (by omega)] at h; omega
                    · rw [if_neg d4]
                      by_cases d5 : t.op = 5
                      · rw [if_pos d5]; split <;> omega
                      · rw [if_neg d5]
                        by_cases d6 : t.op = 6
                        · rw [if_pos d6]; split <;> omega
                        · rw [if_neg d6]
                          have h7 : (7 : Int) ≤ t.op := by omega
                          unfold wantK at A B
                          rw [if_pos h7] at A B
                          have A2 := A.2.2 rfl
                          have B2 := B.2.2 rfl
                          by_cases d7 : t.op = 7
                          · rw [if_pos d7]; omega
                          · rw [if_neg d7]; split <;> omega
              · exact absurd rfl hne
def kindIs (vars kind : Int) (ts : List TermS) : Bool := match kindsF vars ts with
  | some ks => ks.getLastD 0 == kind
  | none => false
def VarOk (v : VarS) : Prop := (-9999 ≤ v.low ∧ v.low ≤ 9999) ∧ (v.low ≤ v.high ∧ v.high ≤ 9999) ∧ v.high - v.low < 20 ∧ (v.low ≤ v.first ∧ v.first ≤ v.high)
instance (v : VarS) : Decidable (VarOk v) := by unfold VarOk; infer_instance
def SetsOk (vars : Int) (r : RuleS) : Prop := ∀ i (h : i < r.sets.length), (0 ≤ r.sets[i] ∧ r.sets[i] < vars) ∧ (∀ h0 : 0 < i, r.sets[i - 1]'(by omega) < r.sets[i]) ∧ (∀ h2 : i < r.terms.length, kindIs vars 1 r.terms[i] = true)
def RuleOk (vars : Int) (r : RuleS) : Prop := kindIs vars 2 r.when_ = true ∧ r.sets.length = r.terms.length ∧ SetsOk vars r
def sizeF (vs : List VarS) : Int := vs.foldl (fun n v => n * (v.high - v.low + 1)) 1
structure SysOk (s : SysS) : Prop where
  v1 : 1 ≤ s.vars.length
  v5 : s.vars.length ≤ 5
  r8 : s.rules.length ≤ 8
  vars : ∀ v ∈ s.vars, VarOk v
  rules : ∀ r ∈ s.rules, RuleOk (s.vars.length : Int) r
  size : sizeF s.vars ≤ 400
theorem sizeF_snoc (vs : List VarS) (v : VarS) : sizeF (vs ++ [v]) = sizeF vs * (v.high - v.low + 1) := by simp [sizeF, List.foldl_append]
theorem sizeF_bd : ∀ (n : Nat) (vs : List VarS), vs.length = n → (∀ v ∈ vs, VarOk v) → 1 ≤ sizeF vs ∧ sizeF vs ≤ 20 ^ vs.length := by
  intro n
  induction n with
  | zero => intro vs h _; have : vs = [] := List.eq_nil_of_length_eq_zero h; subst this; simp [sizeF]
  | succ n ih =>
    intro vs h hv
    obtain ⟨l0, t, rfl⟩ : ∃ l0 t, vs = l0 ++ [t] := ⟨vs.dropLast, vs.getLast (by intro e; subst e; simp at h), (List.dropLast_concat_getLast _).symm⟩
    have h0 := ih l0 (by simp at h; exact h) (fun v hv' => hv v (List.mem_append_left _ hv'))
    have ht := hv t (List.mem_append_right _ (List.mem_singleton.2 rfl))
    unfold VarOk at ht
    rw [sizeF_snoc, List.length_append, List.length_singleton, Int.pow_succ]
    generalize sizeF l0 = x at *
    generalize (20 : Int) ^ l0.length = y at *
    refine ⟨?_, ?_⟩
    · have : 1 * 1 ≤ x * (t.high - t.low + 1) := Int.mul_le_mul h0.1 (by omega) (by omega) (by omega)
      omega
    · exact Int.mul_le_mul h0.2 (by omega) (by omega) (by omega)
theorem sizeF_take_bd {vs : List VarS} (h5 : vs.length ≤ 5) {i : Nat} (h : ∀ j (hj : j < vs.length), j < i → VarOk vs[j]) : 1 ≤ sizeF (vs.take i) ∧ sizeF (vs.take i) ≤ 3200000 := by
  have h1 := sizeF_bd _ (vs.take i) rfl (fun v hv => by
    obtain ⟨j, hj, rfl⟩ := List.getElem_of_mem hv
    simp at hj
    rw [List.getElem_take]
    exact h j (by omega) (by omega))
  refine ⟨h1.1, Int.le_trans h1.2 ?_⟩
  have h2 : (vs.take i).length ≤ 5 := by simp; omega
  have : ∀ m : Nat, m ≤ 5 → (20 : Int) ^ m ≤ 3200000 := by
    intro m hm
    match m, hm with
    | 0, _ => decide
    | 1, _ => decide
    | 2, _ => decide
    | 3, _ => decide
    | 4, _ => decide
    | 5, _ => decide
  exact this _ h2
end Go.M2

namespace Go.M2
def StIn (vars : List VarS) (st : List Int) : Prop := st.length = vars.length ∧ ∀ i (h : i < vars.length) (h2 : i < st.length), vars[i].low ≤ st[i] ∧ st[i] ≤ vars[i].high
theorem StIn.ok {s : SysS} (hs : SysOk s) {st : List Int} (h : StIn s.vars st) : stOk st := by
  intro x hx
  obtain ⟨i, hi, rfl⟩ := List.getElem_of_mem hx
  have h1 := h.2 i (by rw [← h.1]; exact hi) hi
  have h2 := hs.vars _ (List.getElem_mem (by rw [← h.1]; exact hi : i < s.vars.length))
  unfold VarOk at h2
  omega
end Go.M2

namespace Go.M2
open Go.Proofs
variable {M : MH} {vs : List V} {RV : V → MH → Prop}
theorem mixed : Tryd.prog.follows .mixedOrders = true := by kernel_rfl
def n_laws_szIntS : Nat := 58
def n_laws_szIntSS : Nat := 29
def n_laws_szGraph : Nat := 8
def n_laws_toIntS : Nat := 61
def n_laws_toIntSS : Nat := 31
def n_laws_toGraph : Nat := 10
def n_spec_l1In : Nat := 45
def n_spec_l6Are : Nat := 73
def n_spec_l20Letters : Nat := 56
def n_spec_GraphValid : Nat := 27
def n_spec_l2Same : Nat := 59
def n_spec_l4List : Nat := 53
def n_spec_l25Class : Nat := 74
def n_spec_l25Round : Nat := 60
def n_spec_l25Rounds : Nat := 30
def n_spec_AlikeIn : Nat := 9
def n_impl_in : Nat := 40
def n_slices_IndexFunc_Sint_int : Nat := 67
def n_slices_ContainsFunc_Sint_int : Nat := 42
def n_impl_bitsValid_1 : Nat := 88
def n_impl_bitsValid : Nat := 72
def n_impl_letterOk : Nat := 54
def n_impl_setOk : Nat := 55
def n_impl_GraphValid : Nat := 26
def n_math_bits_Len32 : Nat := 86
def n_math_bits_Len64 : Nat := 87
def n_math_bits_Len : Nat := 71
def n_cmp_isNaN_int : Nat := 95
def n_cmp_Less_int : Nat := 83
def n_slices_insertionSortOrdered_int : Nat := 77
def n_slices_siftDownOrdered_int : Nat := 90
def n_slices_heapSortOrdered_int : Nat := 78
def n_slices_nextPowerOfTwo : Nat := 91
def n_slices_xorshift_Next : Nat := 92
def n_slices_breakPatternsOrdered_int : Nat := 79
def n_slices_order2Ordered_int : Nat := 100
def n_slices_medianOrdered_int : Nat := 94
def n_slices_medianAdjacentOrdered_int : Nat := 93
def n_slices_choosePivotOrdered_int : Nat := 80
def n_slices_reverseRangeOrdered_int : Nat := 81
def n_slices_partialInsertionSortOrdered_int : Nat := 82
def n_slices_partitionEqualOrdered_int : Nat := 84
def n_slices_partitionOrdered_int : Nat := 85
def n_slices_pdqsortOrdered_int : Nat := 70
def n_slices_Sort_Sint_int : Nat := 49
def n_internal_strconv_FormatInt : Nat := 89
def n_internal_strconv_Itoa : Nat := 75
def n_strconv_Itoa : Nat := 63
def n_impl_numbersText : Nat := 62
def n_slices_Compact_Sint_int : Nat := 50
def n_slices_Equal_Sint_int : Nat := 41
def n_impl_alike : Nat := 33
def n_impl_clone_int : Nat := 32
def n_impl_AlikeIn : Nat := 11
def n_laws_eqIntS : Nat := 12
def n_laws_eqIntSS : Nat := 34
def n_laws_eqGraph : Nat := 13
def n_laws_markIntS : Nat := 15
def n_laws_markIntSS : Nat := 35
def n_laws_markGraph : Nat := 14
def n_laws_heldIntS : Nat := 16
def n_laws_FnExactAlikeIn : Nat := 3
@[go_sem] def l58_0 (_ : Unit) : KL := [kB 4 (.mv (cI 0)) [0, 1]]
@[go_sem] def l58_1 (_ : Unit) : KL := [kA 5 (.mv (.t 1)),
  kA 6 (.mv (.t 0)),
  kA 7 (.len (.t 6)),
  kA 8 (.bin .sub (.t 5) (.t 7)),
  kB 1 (.mv (.t 8)) [1]]
@[go_sem] def l58_2 (_ : Unit) : KL := [kA 9 (.mv (.t 1)),
  kB 10 (.bin .lss (.t 9) (cI 0)) [1, 10]]
@[go_sem] def l58_3 (_ : Unit) : KL := [kB 4 (.mv (.c (.int .i64 (-1)))) [4]]
@[go_sem] def s58_4 (_ : Unit) : IR := (sQ [(kT l58_3), .ret])
@[go_sem] def s58_5 (_ : Unit) : IR := (sQ [(kT l58_2), (.cond (.t 10) (tH s58_4) .skip)])
@[go_sem] def l58_6 (_ : Unit) : KL := [kA 11 (.mv (.t 1)),
  kB 4 (.mv (.t 11)) [4]]
@[go_sem] def s58_7 (_ : Unit) : IR := (sQ [(kT l58_0), (kT l58_1), (tH s58_5), (kT l58_6), .ret])
theorem c58 : compFn Tryd.prog [(0, [], [oS [0, 1]]), (1, [], [oN, oN, oN, oN, oS [1]]), (2, [], [oN, oS [1, 10]]), (3, [], [oS [4]]), (4, [], [oN, oS [4]])] Tryd.f58 = some ⟨2, 12, [.t 4], (tH s58_7)⟩ := by kernel_rfl
theorem v_laws_szIntS (hl : vs.length = 2) (h : wpV Tryd.prog (tH s58_7) (postV [.t 4] RV) (envV vs) M) : VCall Tryd.prog n_laws_szIntS vs M RV :=
  vcall_of_wp (fun _ _ _ hl h => acall_of_wp mixed Tryd.func58 c58 (by kernel_rfl) hl h) hl h
@[go_sem] def l29_0 (_ : Unit) : KL := [kB 4 (.mv (cI 0)) [0, 1]]
@[go_sem] def l29_1 (_ : Unit) : KL := [kA 6 (.mv (.t 1)),
  kA 7 (.mv (.t 0)),
  kA 8 (.len (.t 7)),
  kA 9 (.bin .sub (.t 6) (.t 8)),
  kB 1 (.mv (.t 9)) [0, 1]]
@[go_sem] def l29_2 (_ : Unit) : KL := [kA 10 (.mv (.t 1)),
  kB 11 (.bin .lss (.t 10) (cI 0)) [0, 1, 11]]
@[go_sem] def l29_3 (_ : Unit) : KL := [kB 4 (.mv (.c (.int .i64 (-1)))) [4]]
@[go_sem] def s29_4 (_ : Unit) : IR := (sQ [(kT l29_3), .ret])
@[go_sem] def s29_5 (_ : Unit) : IR := (sQ [(kT l29_2), (.cond (.t 11) (tH s29_4) .skip)])
@[go_sem] def l29_6 (_ : Unit) : KL := [kB 5 (.mv (cI 0)) [0, 1, 5]]
@[go_sem] def l29_7 (_ : Unit) : KL := [kA 12 (.mv (.t 5)),
  kA 13 (.mv (.t 0)),
  kA 14 (.len (.t 13)),
  kB 15 (.bin .lss (.t 12) (.t 14)) [0, 1, 5, 15]]
@[go_sem] def s29_8 (_ : Unit) : IR := (sQ [(kT l29_7), (.cond (.t 15) .skip (.exit 0))])
@[go_sem] def l29_9 (_ : Unit) : KL := [kA 18 (.mv (.t 0)),
  kA 19 (.mv (.t 5)),
  kA 20 (.iaddr (.t 18) (.t 19) 1),
  kA 21 (.load (.t 20) 1 false),
  kB 22 (.mv (.t 1)) [0, 5, 21, 22],
  kA 23 (.call (n_laws_szIntS) [(.t 21), (.t 22)]),
  kB 1 (.mv (.t 23)) [0, 1, 5]]
@[go_sem] def l29_10 (_ : Unit) : KL := [kA 24 (.mv (.t 1)),
  kB 25 (.bin .lss (.t 24) (cI 0)) [0, 1, 5, 25]]
@[go_sem] def l29_11 (_ : Unit) : KL := [kB 4 (.mv (.c (.int .i64 (-1)))) [4]]
@[go_sem] def s29_12 (_ : Unit) : IR := (sQ [(kT l29_11), .ret])
@[go_sem] def s29_13 (_ : Unit) : IR := (sQ [(kT l29_9), (kT l29_10), (.cond (.t 25) (tH s29_12) .skip)])
@[go_sem] def s29_14 (_ : Unit) : IR := (.block 1 (tH s29_13))
@[go_sem] def l29_15 (_ : Unit) : KL := [kA 16 (.mv (.t 5)),
  kA 17 (.bin .add (.t 16) (cI 1)),
  kB 5 (.mv (.t 17)) [0, 1, 5]]
@[go_sem] def s29_16 (_ : Unit) : IR := (sQ [(tH s29_8), (tH s29_14), (kT l29_15)])
@[go_sem] def s29_17 (_ : Unit) : IR := (.loop (tH s29_16))
@[go_sem] def s29_18 (_ : Unit) : IR := (.block 0 (tH s29_17))
@[go_sem] def s29_19 (_ : Unit) : IR := (sQ [(kT l29_6), (tH s29_18)])
@[go_sem] def l29_20 (_ : Unit) : KL := [kA 26 (.mv (.t 1)),
  kB 4 (.mv (.t 26)) [4]]
@[go_sem] def s29_21 (_ : Unit) : IR := (sQ [(kT l29_0), (kT l29_1), (tH s29_5), (tH s29_19), (kT l29_20), .ret])
theorem c29 : compFn Tryd.prog [(0, [], [oS [0, 1]]), (1, [], [oN, oN, oN, oN, oS [0, 1]]), (2, [], [oN, oS [0, 1, 11]]), (3, [], [oS [4]]), (4, [], [oS [0, 1, 5]]), (5, [], [oN, oN, oN, oS [0, 1, 5, 15]]), (7, [], [oN, oN, oN, oN, oS [0, 5, 21, 22], oN, oS [0, 1, 5]]), (8, [], [oN, oS [0, 1, 5, 25]]), (9, [], [oS [4]]), (6, [], [oN, oN, oS [0, 1, 5]]), (10, [], [oN, oS [4]])] Tryd.f29 = some ⟨2, 27, [.t 4], (tH s29_21)⟩ := by kernel_rfl
theorem v_laws_szIntSS (hl : vs.length = 2) (h : wpV Tryd.prog (tH s29_21) (postV [.t 4] RV) (envV vs) M) : VCall Tryd.prog n_laws_szIntSS vs M RV :=
  vcall_of_wp (fun _ _ _ hl h => acall_of_wp mixed Tryd.func29 c29 (by kernel_rfl) hl h) hl h
@[go_sem] def l8_0 (_ : Unit) : KL := [kA 2 (.box (.t 0)),
  kB 4 (.mv (cI 0)) [1, 2]]
@[go_sem] def l8_1 (_ : Unit) : KL := [kA 5 (.faddr (.t 2) 0),
  kA 6 (.load (.t 5) 1 false),
  kA 7 (.mv (.t 1)),
  kA 8 (.call (n_laws_szIntSS) [(.t 6), (.t 7)]),
  kB 1 (.mv (.t 8)) [1, 2]]
@[go_sem] def l8_2 (_ : Unit) : KL := [kA 9 (.mv (.t 1)),
  kB 10 (.bin .lss (.t 9) (cI 0)) [1, 2, 10]]
@[go_sem] def l8_3 (_ : Unit) : KL := [kB 4 (.mv (.c (.int .i64 (-1)))) [4]]
@[go_sem] def s8_4 (_ : Unit) : IR := (sQ [(kT l8_3), .ret])
@[go_sem] def s8_5 (_ : Unit) : IR := (sQ [(kT l8_2), (.cond (.t 10) (tH s8_4) .skip)])
@[go_sem] def l8_6 (_ : Unit) : KL := [kA 11 (.faddr (.t 2) 2),
  kA 12 (.load (.t 11) 1 false),
  kA 13 (.mv (.t 1)),
  kA 14 (.call (n_laws_szIntSS) [(.t 12), (.t 13)]),
  kB 1 (.mv (.t 14)) [1]]
@[go_sem] def l8_7 (_ : Unit) : KL := [kA 15 (.mv (.t 1)),
  kB 16 (.bin .lss (.t 15) (cI 0)) [1, 16]]
@[go_sem] def l8_8 (_ : Unit) : KL := [kB 4 (.mv (.c (.int .i64 (-1)))) [4]]
@[go_sem] def s8_9 (_ : Unit) : IR := (sQ [(kT l8_8), .ret])
@[go_sem] def s8_10 (_ : Unit) : IR := (sQ [(kT l8_7), (.cond (.t 16) (tH s8_9) .skip)])
@[go_sem] def l8_11 (_ : Unit) : KL := [kA 17 (.mv (.t 1)),
  kB 4 (.mv (.t 17)) [4]]
@[go_sem] def s8_12 (_ : Unit) : IR := (sQ [(kT l8_0), (kT l8_1), (tH s8_5), (kT l8_6), (tH s8_10), (kT l8_11), .ret])
theorem c8 : compFn Tryd.prog [(0, [], [oN, oS [1, 2]]), (1, [], [oN, oN, oN, oN, oS [1, 2]]), (2, [], [oN, oS [1, 2, 10]]), (3, [], [oS [4]]), (4, [], [oN, oN, oN, oN, oS [1]]), (5, [], [oN, oS [1, 16]]), (6, [], [oS [4]]), (7, [], [oN, oS [4]])] Tryd.f8 = some ⟨2, 18, [.t 4], (tH s8_12)⟩ := by kernel_rfl
theorem v_laws_szGraph (hl : vs.length = 2) (h : wpV Tryd.prog (tH s8_12) (postV [.t 4] RV) (envV vs) M) : VCall Tryd.prog n_laws_szGraph vs M RV :=
  vcall_of_wp (fun _ _ _ hl h => acall_of_wp mixed Tryd.func8 c8 (by kernel_rfl) hl h) hl h
@[go_sem] def l61_0 (_ : Unit) : KL := [kB 2 (.mv (.c (.sl none 0 0 true 0))) [0]]
@[go_sem] def l61_1 (_ : Unit) : KL := [kA 5 (.mv (.t 0)),
  kA 6 (.len (.t 5)),
  kA 7 (.mks [(.int .i64 0)] 8 (.t 6)),
  kB 3 (.mv (.t 7)) [0, 3]]
@[go_sem] def l61_2 (_ : Unit) : KL := [kB 4 (.mv (cI 0)) [0, 3, 4]]
@[go_sem] def l61_3 (_ : Unit) : KL := [kA 8 (.mv (.t 4)),
  kA 9 (.mv (.t 0)),
  kA 10 (.len (.t 9)),
  kB 11 (.bin .lss (.t 8) (.t 10)) [0, 3, 4, 11]]
@[go_sem] def s61_4 (_ : Unit) : IR := (sQ [(kT l61_3), (.cond (.t 11) .skip (.exit 0))])
@[go_sem] def l61_5 (_ : Unit) : KL := [kA 14 (.mv (.t 3)),
  kA 15 (.mv (.t 4)),
  kA 16 (.mv (.t 0)),
  kA 17 (.mv (.t 4)),
  kB 18 (.iaddr (.t 16) (.t 17) 1) [0, 3, 4, 14, 15, 18],
  kA 19 (.load (.t 18) 1 false),
  kA 20 (.iaddr (.t 14) (.t 15) 1),
  (⟨none, .store (.t 20) 1 (.t 19), none⟩, (some [0, 3, 4]))]
@[go_sem] def s61_6 (_ : Unit) : IR := (.block 1 (kT l61_5))
@[go_sem] def l61_7 (_ : Unit) : KL := [kA 12 (.mv (.t 4)),
  kA 13 (.bin .add (.t 12) (cI 1)),
  kB 4 (.mv (.t 13)) [0, 3, 4]]
@[go_sem] def s61_8 (_ : Unit) : IR := (sQ [(tH s61_4), (tH s61_6), (kT l61_7)])
@[go_sem] def s61_9 (_ : Unit) : IR := (.loop (tH s61_8))
@[go_sem] def s61_10 (_ : Unit) : IR := (.block 0 (tH s61_9))
@[go_sem] def s61_11 (_ : Unit) : IR := (sQ [(kT l61_2), (tH s61_10)])
@[go_sem] def l61_12 (_ : Unit) : KL := [kA 21 (.mv (.t 3)),
  kB 2 (.mv (.t 21)) [2]]
@[go_sem] def s61_13 (_ : Unit) : IR := (sQ [(kT l61_0), (kT l61_1), (tH s61_11), (kT l61_12), .ret])
theorem c61 : compFn Tryd.prog [(0, [], [oS [0]]), (1, [], [oN, oN, oN, oS [0, 3]]), (2, [], [oS [0, 3, 4]]), (3, [], [oN, oN, oN, oS [0, 3, 4, 11]]), (5, [], [oN, oN, oN, oN, oS [0, 3, 4, 14, 15, 18], oN, oN, oS [0, 3, 4]]), (4, [], [oN, oN, oS [0, 3, 4]]), (6, [], [oN, oS [2]])] Tryd.f61 = some ⟨1, 22, [.t 2], (tH s61_13)⟩ := by kernel_rfl
theorem v_laws_toIntS (hl : vs.length = 1) (h : wpV Tryd.prog (tH s61_13) (postV [.t 2] RV) (envV vs) M) : VCall Tryd.prog n_laws_toIntS vs M RV :=
  vcall_of_wp (fun _ _ _ hl h => acall_of_wp mixed Tryd.func61 c61 (by kernel_rfl) hl h) hl h
@[go_sem] def l31_0 (_ : Unit) : KL := [kB 2 (.mv (.c (.sl none 0 0 true 0))) [0]]
@[go_sem] def l31_1 (_ : Unit) : KL := [kA 5 (.mv (.t 0)),
  kA 6 (.len (.t 5)),
  kA 7 (.mks [(.sl none 0 0 true 0)] 24 (.t 6)),
  kB 3 (.mv (.t 7)) [0, 3]]
@[go_sem] def l31_2 (_ : Unit) : KL := [kB 4 (.mv (cI 0)) [0, 3, 4]]
@[go_sem] def l31_3 (_ : Unit) : KL := [kA 8 (.mv (.t 4)),
  kA 9 (.mv (.t 0)),
  kA 10 (.len (.t 9)),
  kB 11 (.bin .lss (.t 8) (.t 10)) [0, 3, 4, 11]]
@[go_sem] def s31_4 (_ : Unit) : IR := (sQ [(kT l31_3), (.cond (.t 11) .skip (.exit 0))])
@[go_sem] def l31_5 (_ : Unit) : KL := [kA 14 (.mv (.t 3)),
  kA 15 (.mv (.t 4)),
  kA 16 (.mv (.t 0)),
  kA 17 (.mv (.t 4)),
  kB 18 (.iaddr (.t 16) (.t 17) 1) [0, 3, 4, 14, 15, 18],
  kA 19 (.load (.t 18) 1 false),
  kA 20 (.call (n_laws_toIntS) [(.t 19)]),
  kA 21 (.iaddr (.t 14) (.t 15) 1),
  (⟨none, .store (.t 21) 1 (.t 20), none⟩, (some [0, 3, 4]))]
@[go_sem] def s31_6 (_ : Unit) : IR := (.block 1 (kT l31_5))
@[go_sem] def l31_7 (_ : Unit) : KL := [kA 12 (.mv (.t 4)),
  kA 13 (.bin .add (.t 12) (cI 1)),
  kB 4 (.mv (.t 13)) [0, 3, 4]]
@[go_sem] def s31_8 (_ : Unit) : IR := (sQ [(tH s31_4), (tH s31_6), (kT l31_7)])
@[go_sem] def s31_9 (_ : Unit) : IR := (.loop (tH s31_8))
@[go_sem] def s31_10 (_ : Unit) : IR := (.block 0 (tH s31_9))
@[go_sem] def s31_11 (_ : Unit) : IR := (sQ [(kT l31_2), (tH s31_10)])
@[go_sem] def l31_12 (_ : Unit) : KL := [kA 22 (.mv (.t 3)),
  kB 2 (.mv (.t 22)) [2]]
@[go_sem] def s31_13 (_ : Unit) : IR := (sQ [(kT l31_0), (kT l31_1), (tH s31_11), (kT l31_12), .ret])
theorem c31 : compFn Tryd.prog [(0, [], [oS [0]]), (1, [], [oN, oN, oN, oS [0, 3]]), (2, [], [oS [0, 3, 4]]), (3, [], [oN, oN, oN, oS [0, 3, 4, 11]]), (5, [], [oN, oN, oN, oN, oS [0, 3, 4, 14, 15, 18], oN, oN, oN, oS [0, 3, 4]]), (4, [], [oN, oN, oS [0, 3, 4]]), (6, [], [oN, oS [2]])] Tryd.f31 = some ⟨1, 23, [.t 2], (tH s31_13)⟩ := by kernel_rfl
theorem v_laws_toIntSS (hl : vs.length = 1) (h : wpV Tryd.prog (tH s31_13) (postV [.t 2] RV) (envV vs) M) : VCall Tryd.prog n_laws_toIntSS vs M RV :=
  vcall_of_wp (fun _ _ _ hl h => acall_of_wp mixed Tryd.func31 c31 (by kernel_rfl) hl h) hl h
@[go_sem] def l10_0 (_ : Unit) : KL := [kA 1 (.box (.t 0)),
  kB 2 (.alloc [(.sl none 0 0 true 0), (.int .i64 0), (.sl none 0 0 true 0)]) [1, 2]]
@[go_sem] def l10_1 (_ : Unit) : KL := [kB 3 (.alloc [(.sl none 0 0 true 0), (.int .i64 0), (.sl none 0 0 true 0)]) [1, 2, 3]]
@[go_sem] def l10_2 (_ : Unit) : KL := [kA 4 (.faddr (.t 1) 0),
  kA 5 (.load (.t 4) 1 false),
  kA 6 (.call (n_laws_toIntSS) [(.t 5)]),
  kA 7 (.faddr (.t 3) 0),
  (⟨none, .store (.t 7) 1 (.t 6), none⟩, (some [1, 2, 3]))]
@[go_sem] def l10_3 (_ : Unit) : KL := [kA 8 (.faddr (.t 1) 1),
  kA 9 (.load (.t 8) 1 false),
  kA 10 (.faddr (.t 3) 1),
  (⟨none, .store (.t 10) 1 (.t 9), none⟩, (some [1, 2, 3]))]
@[go_sem] def l10_4 (_ : Unit) : KL := [kA 11 (.faddr (.t 1) 2),
  kA 12 (.load (.t 11) 1 false),
  kA 13 (.call (n_laws_toIntSS) [(.t 12)]),
  kA 14 (.faddr (.t 3) 2),
  (⟨none, .store (.t 14) 1 (.t 13), none⟩, (some [2, 3]))]
@[go_sem] def l10_5 (_ : Unit) : KL := [kA 15 (.load (.t 3) 3 true),
  (⟨none, .store (.t 2) 3 (.t 15), none⟩, (some [2]))]
@[go_sem] def s10_6 (_ : Unit) : IR := (sQ [(kT l10_0), (kT l10_1), (kT l10_2), (kT l10_3), (kT l10_4), (kT l10_5), .ret])
theorem c10 : compFn Tryd.prog [(0, [], [oN, oS [1, 2]]), (1, [], [oS [1, 2, 3]]), (2, [], [oN, oN, oN, oN, oS [1, 2, 3]]), (3, [], [oN, oN, oN, oS [1, 2, 3]]), (4, [], [oN, oN, oN, oN, oS [2, 3]]), (5, [], [oN, oS [2]])] Tryd.f10 = some ⟨1, 16, [.c 2 3 true], (tH s10_6)⟩ := by kernel_rfl
theorem v_laws_toGraph (hl : vs.length = 1) (h : wpV Tryd.prog (tH s10_6) (postV [.c 2 3 true] RV) (envV vs) M) : VCall Tryd.prog n_laws_toGraph vs M RV :=
  vcall_of_wp (fun _ _ _ hl h => acall_of_wp mixed Tryd.func10 c10 (by kernel_rfl) hl h) hl h
@[go_sem] def l45_0 (_ : Unit) : KL := [kB 6 (.mv (.c (.bool false))) [0, 1, 2]]
@[go_sem] def l45_1 (_ : Unit) : KL := [kA 7 (.mv (.t 0)),
  kA 8 (.mv (.t 1)),
  kA 9 (.bin .geq (.t 7) (.t 8)),
  kA 10 (.mv (.t 9)),
  (⟨(some 11), .mv (.t 0), (some (10, true))⟩, (some [2, 10, 11])),
  (⟨(some 12), .mv (.t 2), (some (10, true))⟩, none),
  (⟨(some 13), .bin .leq (.t 11) (.t 12), (some (10, true))⟩, none),
  kA 14 (.pick (.t 10) (.t 13) (.c (.bool false))),
  kB 6 (.mv (.t 14)) [6]]
@[go_sem] def s45_2 (_ : Unit) : IR := (sQ [(kT l45_0), (kT l45_1), .ret])
theorem c45 : compFn Tryd.prog [(0, [], [oS [0, 1, 2]]), (1, [], [oN, oN, oN, oN, oS [2, 10, 11], oN, oN, oN, oS [6]])] Tryd.f45 = some ⟨3, 15, [.t 6], (tH s45_2)⟩ := by kernel_rfl
theorem v_spec_l1In (hl : vs.length = 3) (h : wpV Tryd.prog (tH s45_2) (postV [.t 6] RV) (envV vs) M) : VCall Tryd.prog n_spec_l1In vs M RV :=
  vcall_of_wp (fun _ _ _ hl h => acall_of_wp mixed Tryd.func45 c45 (by kernel_rfl) hl h) hl h
@[go_sem] def l73_0 (_ : Unit) : KL := [kB 2 (.mv (.c (.bool false))) [0]]
@[go_sem] def l73_1 (_ : Unit) : KL := [kB 3 (.mv (cI 0)) [0, 3]]
@[go_sem] def l73_2 (_ : Unit) : KL := [kA 4 (.mv (.t 3)),
  kA 5 (.mv (.t 0)),
  kA 6 (.len (.t 5)),
  kB 7 (.bin .lss (.t 4) (.t 6)) [0, 3, 7]]
@[go_sem] def s73_3 (_ : Unit) : IR := (sQ [(kT l73_2), (.cond (.t 7) .skip (.exit 0))])
@[go_sem] def l73_4 (_ : Unit) : KL := [kA 10 (.mv (.t 0)),
  kA 11 (.mv (.t 3)),
  kA 12 (.iaddr (.t 10) (.t 11) 1),
  kA 13 (.load (.t 12) 1 false),
  kB 14 (.call (n_spec_l1In) [(.t 13), (cI 0), (cI 1)]) [0, 3, 14],
  kB 15 (.un .not (.t 14)) [0, 3, 15]]
@[go_sem] def l73_5 (_ : Unit) : KL := [kB 2 (.mv (.c (.bool false))) [2]]
@[go_sem] def s73_6 (_ : Unit) : IR := (sQ [(kT l73_5), .ret])
@[go_sem] def s73_7 (_ : Unit) : IR := (sQ [(kT l73_4), (.cond (.t 15) (tH s73_6) .skip)])
@[go_sem] def s73_8 (_ : Unit) : IR := (.block 1 (tH s73_7))
@[go_sem] def l73_9 (_ : Unit) : KL := [kA 8 (.mv (.t 3)),
  kA 9 (.bin .add (.t 8) (cI 1)),
  kB 3 (.mv (.t 9)) [0, 3]]
@[go_sem] def s73_10 (_ : Unit) : IR := (sQ [(tH s73_3), (tH s73_8), (kT l73_9)])
@[go_sem] def s73_11 (_ : Unit) : IR := (.loop (tH s73_10))
@[go_sem] def s73_12 (_ : Unit) : IR := (.block 0 (tH s73_11))
@[go_sem] def s73_13 (_ : Unit) : IR := (sQ [(kT l73_1), (tH s73_12)])
@[go_sem] def l73_14 (_ : Unit) : KL := [kB 2 (.mv (.c (.bool true))) [2]]
@[go_sem] def s73_15 (_ : Unit) : IR := (sQ [(kT l73_0), (tH s73_13), (kT l73_14), .ret])
theorem c73 : compFn Tryd.prog [(0, [], [oS [0]]), (1, [], [oS [0, 3]]), (2, [], [oN, oN, oN, oS [0, 3, 7]]), (4, [], [oN, oN, oN, oN, oS [0, 3, 14], oS [0, 3, 15]]), (5, [], [oS [2]]), (3, [], [oN, oN, oS [0, 3]]), (6, [], [oS [2]])] Tryd.f73 = some ⟨1, 16, [.t 2], (tH s73_15)⟩ := by kernel_rfl
theorem v_spec_l6Are (hl : vs.length = 1) (h : wpV Tryd.prog (tH s73_15) (postV [.t 2] RV) (envV vs) M) : VCall Tryd.prog n_spec_l6Are vs M RV :=
  vcall_of_wp (fun _ _ _ hl h => acall_of_wp mixed Tryd.func73 c73 (by kernel_rfl) hl h) hl h
@[go_sem] def l56_0 (_ : Unit) : KL := [kB 4 (.mv (.c (.bool false))) [0, 1]]
@[go_sem] def l56_1 (_ : Unit) : KL := [kB 5 (.mv (cI 0)) [0, 1, 5]]
@[go_sem] def l56_2 (_ : Unit) : KL := [kA 6 (.mv (.t 5)),
  kA 7 (.mv (.t 0)),
  kA 8 (.len (.t 7)),
  kB 9 (.bin .lss (.t 6) (.t 8)) [0, 1, 5, 9]]
@[go_sem] def s56_3 (_ : Unit) : IR := (sQ [(kT l56_2), (.cond (.t 9) .skip (.exit 0))])
@[go_sem] def l56_4 (_ : Unit) : KL := [kA 12 (.mv (.t 0)),
  kA 13 (.mv (.t 5)),
  kA 14 (.iaddr (.t 12) (.t 13) 1),
  kA 15 (.load (.t 14) 1 false),
  kB 16 (.len (.t 15)) [0, 1, 5, 16],
  kA 17 (.mv (.t 1)),
  kA 18 (.bin .neq (.t 16) (.t 17)),
  kA 19 (.mv (.t 18)),
  (⟨(some 20), .mv (.t 0), (some (19, false))⟩, none),
  (⟨(some 21), .mv (.t 5), (some (19, false))⟩, (some [0, 1, 5, 19, 20, 21])),
  (⟨(some 22), .iaddr (.t 20) (.t 21) 1, (some (19, false))⟩, none),
  (⟨(some 23), .load (.t 22) 1 false, (some (19, false))⟩, none),
  (⟨(some 24), .call (n_spec_l6Are) [(.t 23)], (some (19, false))⟩, none),
  (⟨(some 25), .un .not (.t 24), (some (19, false))⟩, none),
  kB 26 (.pick (.t 19) (.c (.bool true)) (.t 25)) [0, 1, 5, 26]]
@[go_sem] def l56_5 (_ : Unit) : KL := [kB 4 (.mv (.c (.bool false))) [4]]
@[go_sem] def s56_6 (_ : Unit) : IR := (sQ [(kT l56_5), .ret])
@[go_sem] def s56_7 (_ : Unit) : IR := (sQ [(kT l56_4), (.cond (.t 26) (tH s56_6) .skip)])
@[go_sem] def s56_8 (_ : Unit) : IR := (.block 1 (tH s56_7))
@[go_sem] def l56_9 (_ : Unit) : KL := [kA 10 (.mv (.t 5)),
  kA 11 (.bin .add (.t 10) (cI 1)),
  kB 5 (.mv (.t 11)) [0, 1, 5]]
@[go_sem] def s56_10 (_ : Unit) : IR := (sQ [(tH s56_3), (tH s56_8), (kT l56_9)])
@[go_sem] def s56_11 (_ : Unit) : IR := (.loop (tH s56_10))
@[go_sem] def s56_12 (_ : Unit) : IR := (.block 0 (tH s56_11))
@[go_sem] def s56_13 (_ : Unit) : IR := (sQ [(kT l56_1), (tH s56_12)])
@[go_sem] def l56_14 (_ : Unit) : KL := [kB 4 (.mv (.c (.bool true))) [4]]
@[go_sem] def s56_15 (_ : Unit) : IR := (sQ [(kT l56_0), (tH s56_13), (kT l56_14), .ret])
theorem c56 : compFn Tryd.prog [(0, [], [oS [0, 1]]), (1, [], [oS [0, 1, 5]]), (2, [], [oN, oN, oN, oS [0, 1, 5, 9]]), (4, [], [oN, oN, oN, oN, oS [0, 1, 5, 16], oN, oN, oN, oN, oS [0, 1, 5, 19, 20, 21], oN, oN, oN, oN, oS [0, 1, 5, 26]]), (5, [], [oS [4]]), (3, [], [oN, oN, oS [0, 1, 5]]), (6, [], [oS [4]])] Tryd.f56 = some ⟨2, 27, [.t 4], (tH s56_15)⟩ := by kernel_rfl
theorem v_spec_l20Letters (hl : vs.length = 2) (h : wpV Tryd.prog (tH s56_15) (postV [.t 4] RV) (envV vs) M) : VCall Tryd.prog n_spec_l20Letters vs M RV :=
  vcall_of_wp (fun _ _ _ hl h => acall_of_wp mixed Tryd.func56 c56 (by kernel_rfl) hl h) hl h
@[go_sem] def l27_0 (_ : Unit) : KL := [kA 2 (.box (.t 0)),
  kB 4 (.mv (.c (.bool false))) [1, 2]]
@[go_sem] def l27_1 (_ : Unit) : KL := [kA 8 (.faddr (.t 2) 0),
  kA 9 (.load (.t 8) 1 false),
  kA 10 (.len (.t 9)),
  kB 5 (.mv (.t 10)) [1, 2, 5]]
@[go_sem] def l27_2 (_ : Unit) : KL := [kA 11 (.mv (.t 1)),
  kA 12 (.call (n_spec_l1In) [(.t 11), (cI 0), (.c (.int .i64 4))]),
  kA 13 (.un .not (.t 12)),
  kA 14 (.mv (.t 13)),
  (⟨(some 15), .mv (.t 5), (some (14, false))⟩, (some [1, 2, 5, 14, 15])),
  (⟨(some 16), .call (n_spec_l1In) [(.t 15), (cI 1), (.c (.int .i64 400))], (some (14, false))⟩, none),
  (⟨(some 17), .un .not (.t 16), (some (14, false))⟩, none),
  kA 18 (.pick (.t 14) (.c (.bool true)) (.t 17)),
  kA 19 (.mv (.t 18)),
  (⟨(some 20), .faddr (.t 2) 2, (some (19, false))⟩, (some [1, 2, 5, 19, 20])),
  (⟨(some 21), .load (.t 20) 1 false, (some (19, false))⟩, none),
  (⟨(some 22), .len (.t 21), (some (19, false))⟩, none),
  (⟨(some 23), .mv (.t 5), (some (19, false))⟩, none),
  (⟨(some 24), .bin .neq (.t 22) (.t 23), (some (19, false))⟩, none),
  kB 25 (.pick (.t 19) (.c (.bool true)) (.t 24)) [1, 2, 5, 25],
  kA 26 (.mv (.t 25)),
  (⟨(some 27), .faddr (.t 2) 1, (some (26, false))⟩, none),
  (⟨(some 28), .load (.t 27) 1 false, (some (26, false))⟩, none),
  (⟨(some 29), .mv (.t 5), (some (26, false))⟩, none),
  (⟨(some 30), .bin .sub (.t 29) (cI 1), (some (26, false))⟩, (some [1, 2, 5, 26, 28, 30])),
  (⟨(some 31), .call (n_spec_l1In) [(.t 28), (cI 0), (.t 30)], (some (26, false))⟩, none),
  (⟨(some 32), .un .not (.t 31), (some (26, false))⟩, none),
  kA 33 (.pick (.t 26) (.c (.bool true)) (.t 32)),
  kA 34 (.mv (.t 33)),
  (⟨(some 35), .faddr (.t 2) 0, (some (34, false))⟩, (some [1, 2, 5, 34, 35])),
  (⟨(some 36), .load (.t 35) 1 false, (some (34, false))⟩, none),
  (⟨(some 37), .mv (.t 1), (some (34, false))⟩, none),
  (⟨(some 38), .call (n_spec_l20Letters) [(.t 36), (.t 37)], (some (34, false))⟩, none),
  (⟨(some 39), .un .not (.t 38), (some (34, false))⟩, none),
  kB 40 (.pick (.t 34) (.c (.bool true)) (.t 39)) [2, 5, 40]]
@[go_sem] def l27_3 (_ : Unit) : KL := [kB 4 (.mv (.c (.bool false))) [4]]
@[go_sem] def s27_4 (_ : Unit) : IR := (sQ [(kT l27_3), .ret])
@[go_sem] def s27_5 (_ : Unit) : IR := (sQ [(kT l27_2), (.cond (.t 40) (tH s27_4) .skip)])
@[go_sem] def l27_6 (_ : Unit) : KL := [kB 6 (.mv (cI 0)) [2, 5, 6]]
@[go_sem] def l27_7 (_ : Unit) : KL := [kA 41 (.mv (.t 6)),
  kA 42 (.mv (.t 5)),
  kB 43 (.bin .lss (.t 41) (.t 42)) [2, 5, 6, 43]]
@[go_sem] def s27_8 (_ : Unit) : IR := (sQ [(kT l27_7), (.cond (.t 43) .skip (.exit 0))])
@[go_sem] def l27_9 (_ : Unit) : KL := [kB 7 (.mv (cI 0)) [2, 5, 6, 7]]
@[go_sem] def l27_10 (_ : Unit) : KL := [kA 46 (.mv (.t 7)),
  kA 47 (.faddr (.t 2) 2),
  kA 48 (.load (.t 47) 1 false),
  kA 49 (.mv (.t 6)),
  kB 50 (.iaddr (.t 48) (.t 49) 1) [2, 5, 6, 7, 46, 50],
  kA 51 (.load (.t 50) 1 false),
  kA 52 (.len (.t 51)),
  kB 53 (.bin .lss (.t 46) (.t 52)) [2, 5, 6, 7, 53]]
@[go_sem] def s27_11 (_ : Unit) : IR := (sQ [(kT l27_10), (.cond (.t 53) .skip (.exit 2))])
@[go_sem] def l27_12 : Nat → GOp
  | 0 => ⟨(some 56), .faddr (.t 2) 2, none⟩
  | 1 => ⟨(some 57), .load (.t 56) 1 false, none⟩
  | 2 => ⟨(some 58), .mv (.t 6), none⟩
  | 3 => ⟨(some 59), .iaddr (.t 57) (.t 58) 1, none⟩
  | 4 => ⟨(some 60), .load (.t 59) 1 false, none⟩
  | 5 => ⟨(some 61), .mv (.t 7), none⟩
  | 6 => ⟨(some 62), .iaddr (.t 60) (.t 61) 1, none⟩
  | 7 => ⟨(some 63), .load (.t 62) 1 false, none⟩
  | 8 => ⟨(some 64), .mv (.t 5), none⟩
  | 9 => ⟨(some 65), .bin .sub (.t 64) (cI 1), none⟩
  | 10 => ⟨(some 66), .call (n_spec_l1In) [(.t 63), (cI 0), (.t 65)], none⟩
  | 11 => ⟨(some 67), .un .not (.t 66), none⟩
  | 12 => ⟨(some 68), .mv (.t 67), none⟩
  | 13 => ⟨(some 69), .mv (.t 7), (some (68, false))⟩
  | 14 => ⟨(some 70), .bin .gtr (.t 69) (cI 0), (some (68, false))⟩
  | 15 => ⟨(some 71), .mv (.t 70), (some (68, false))⟩
  | 16 => ⟨(some 72), .faddr (.t 2) 2, (some (71, true))⟩
  | 17 => ⟨(some 73), .load (.t 72) 1 false, (some (71, true))⟩
  | 18 => ⟨(some 74), .mv (.t 6), (some (71, true))⟩
  | 19 => ⟨(some 75), .iaddr (.t 73) (.t 74) 1, (some (71, true))⟩
  | 20 => ⟨(some 76), .load (.t 75) 1 false, (some (71, true))⟩
  | 21 => ⟨(some 77), .mv (.t 7), (some (71, true))⟩
  | 22 => ⟨(some 78), .iaddr (.t 76) (.t 77) 1, (some (71, true))⟩
  | 23 => ⟨(some 79), .load (.t 78) 1 false, (some (71, true))⟩
  | 24 => ⟨(some 80), .faddr (.t 2) 2, (some (71, true))⟩
  | 25 => ⟨(some 81), .load (.t 80) 1 false, (some (71, true))⟩
  | 26 => ⟨(some 82), .mv (.t 6), (some (71, true))⟩
  | 27 => ⟨(some 83), .iaddr (.t 81) (.t 82) 1, (some (71, true))⟩
  | 28 => ⟨(some 84), .load (.t 83) 1 false, (some (71, true))⟩
  | 29 => ⟨(some 85), .mv (.t 7), (some (71, true))⟩
  | 30 => ⟨(some 86), .bin .sub (.t 85) (cI 1), (some (71, true))⟩
  | 31 => ⟨(some 87), .iaddr (.t 84) (.t 86) 1, (some (71, true))⟩
  | 32 => ⟨(some 88), .load (.t 87) 1 false, (some (71, true))⟩
  | 33 => ⟨(some 89), .bin .leq (.t 79) (.t 88), (some (71, true))⟩
  | 34 => ⟨(some 90), .pick (.t 71) (.t 89) (.c (.bool false)), (some (68, false))⟩
  | 35 => ⟨(some 91), .pick (.t 68) (.c (.bool true)) (.t 90), none⟩
  | _ => ⟨none, .mkmap, none⟩
@[go_sem] def l27_13 (_ : Unit) : KL := [kB 4 (.mv (.c (.bool false))) [4]]
@[go_sem] def s27_14 (_ : Unit) : IR := (sQ [(kT l27_13), .ret])
@[go_sem] def s27_15 (_ : Unit) : IR := (sQ [(.kd (oF l27_12 36) [(0, []), (1, []), (2, []), (3, []), (4, []), (5, []), (6, []), (7, []), (8, []), (9, []), (10, []), (11, []), (12, []), (13, []), (14, []), (15, []), (16, []), (17, []), (18, []), (19, []), (20, []), (21, []), (22, []), (23, []), (24, []), (25, []), (26, []), (27, []), (28, []), (29, []), (30, []), (31, []), (32, []), (33, []), (34, []), (35, [])] [2, 5, 6, 7, 91]), (.cond (.t 91) (tH s27_14) .skip)])
@[go_sem] def s27_16 (_ : Unit) : IR := (.block 3 (tH s27_15))
@[go_sem] def l27_17 (_ : Unit) : KL := [kA 54 (.mv (.t 7)),
  kA 55 (.bin .add (.t 54) (cI 1)),
  kB 7 (.mv (.t 55)) [2, 5, 6, 7]]
@[go_sem] def s27_18 (_ : Unit) : IR := (sQ [(tH s27_11), (tH s27_16), (kT l27_17)])
@[go_sem] def s27_19 (_ : Unit) : IR := (.loop (tH s27_18))
@[go_sem] def s27_20 (_ : Unit) : IR := (.block 2 (tH s27_19))
@[go_sem] def s27_21 (_ : Unit) : IR := (sQ [(kT l27_9), (tH s27_20)])
@[go_sem] def l27_22 (_ : Unit) : KL := [kA 92 (.faddr (.t 2) 2),
  kA 93 (.load (.t 92) 1 false),
  kA 94 (.mv (.t 6)),
  kA 95 (.iaddr (.t 93) (.t 94) 1),
  kB 96 (.load (.t 95) 1 false) [2, 5, 6, 96],
  kA 97 (.len (.t 96)),
  kB 98 (.bin .eql (.t 97) (cI 0)) [2, 5, 6, 98]]
@[go_sem] def l27_23 (_ : Unit) : KL := [kB 4 (.mv (.c (.bool false))) [4]]
@[go_sem] def s27_24 (_ : Unit) : IR := (sQ [(kT l27_23), .ret])
@[go_sem] def s27_25 (_ : Unit) : IR := (sQ [(tH s27_21), (kT l27_22), (.cond (.t 98) (tH s27_24) .skip)])
@[go_sem] def s27_26 (_ : Unit) : IR := (.block 1 (tH s27_25))
@[go_sem] def l27_27 (_ : Unit) : KL := [kA 44 (.mv (.t 6)),
  kA 45 (.bin .add (.t 44) (cI 1)),
  kB 6 (.mv (.t 45)) [2, 5, 6]]
@[go_sem] def s27_28 (_ : Unit) : IR := (sQ [(tH s27_8), (tH s27_26), (kT l27_27)])
@[go_sem] def s27_29 (_ : Unit) : IR := (.loop (tH s27_28))
@[go_sem] def s27_30 (_ : Unit) : IR := (.block 0 (tH s27_29))
@[go_sem] def s27_31 (_ : Unit) : IR := (sQ [(kT l27_6), (tH s27_30)])
@[go_sem] def l27_32 (_ : Unit) : KL := [kB 4 (.mv (.c (.bool true))) [4]]
@[go_sem] def s27_33 (_ : Unit) : IR := (sQ [(kT l27_0), (kT l27_1), (tH s27_5), (tH s27_31), (kT l27_32), .ret])
theorem c27 : compFn Tryd.prog [(0, [], [oN, oS [1, 2]]), (1, [], [oN, oN, oN, oS [1, 2, 5]]), (2, [], [oN, oN, oN, oN, oS [1, 2, 5, 14, 15], oN, oN, oN, oN, oS [1, 2, 5, 19, 20], oN, oN, oN, oN, oS [1, 2, 5, 25], oN, oN, oN, oN, oS [1, 2, 5, 26, 28, 30], oN, oN, oN, oN, oS [1, 2, 5, 34, 35], oN, oN, oN, oN, oS [2, 5, 40]]), (3, [], [oS [4]]), (4, [], [oS [2, 5, 6]]), (5, [], [oN, oN, oS [2, 5, 6, 43]]), (7, [], [oS [2, 5, 6, 7]]), (8, [], [oN, oN, oN, oN, oS [2, 5, 6, 7, 46, 50], oN, oN, oS [2, 5, 6, 7, 53]]), (10, [(0, []), (1, []), (2, []), (3, []), (4, []), (5, []), (6, []), (7, []), (8, []), (9, []), (10, []), (11, []), (12, []), (13, []), (14, []), (15, []), (16, []), (17, []), (18, []), (19, []), (20, []), (21, []), (22, []), (23, []), (24, []), (25, []), (26, []), (27, []), (28, []), (29, []), (30, []), (31, []), (32, []), (33, []), (34, []), (35, [])], [oS [2, 5, 6, 7, 91]]), (11, [], [oS [4]]), (9, [], [oN, oN, oS [2, 5, 6, 7]]), (12, [], [oN, oN, oN, oN, oS [2, 5, 6, 96], oN, oS [2, 5, 6, 98]]), (13, [], [oS [4]]), (6, [], [oN, oN, oS [2, 5, 6]]), (14, [], [oS [4]])] Tryd.f27 = some ⟨2, 99, [.t 4], (tH s27_33)⟩ := by kernel_rfl
theorem v_spec_GraphValid (hl : vs.length = 2) (h : wpV Tryd.prog (tH s27_33) (postV [.t 4] RV) (envV vs) M) : VCall Tryd.prog n_spec_GraphValid vs M RV :=
  vcall_of_wp (fun _ _ _ hl h => acall_of_wp mixed Tryd.func27 c27 (by kernel_rfl) hl h) hl h
@[go_sem] def l59_0 (_ : Unit) : KL := [kB 4 (.mv (.c (.bool false))) [0, 1]]
@[go_sem] def l59_1 (_ : Unit) : KL := [kA 6 (.mv (.t 0)),
  kA 7 (.len (.t 6)),
  kA 8 (.mv (.t 1)),
  kA 9 (.len (.t 8)),
  kB 10 (.bin .neq (.t 7) (.t 9)) [0, 1, 10]]
@[go_sem] def l59_2 (_ : Unit) : KL := [kB 4 (.mv (.c (.bool false))) [4]]
@[go_sem] def s59_3 (_ : Unit) : IR := (sQ [(kT l59_2), .ret])
@[go_sem] def s59_4 (_ : Unit) : IR := (sQ [(kT l59_1), (.cond (.t 10) (tH s59_3) .skip)])
@[go_sem] def l59_5 (_ : Unit) : KL := [kB 5 (.mv (cI 0)) [0, 1, 5]]
@[go_sem] def l59_6 (_ : Unit) : KL := [kA 11 (.mv (.t 5)),
  kA 12 (.mv (.t 0)),
  kA 13 (.len (.t 12)),
  kB 14 (.bin .lss (.t 11) (.t 13)) [0, 1, 5, 14]]
@[go_sem] def s59_7 (_ : Unit) : IR := (sQ [(kT l59_6), (.cond (.t 14) .skip (.exit 0))])
@[go_sem] def l59_8 : Nat → GOp
  | 0 => ⟨(some 17), .mv (.t 0), none⟩
  | 1 => ⟨(some 18), .mv (.t 5), none⟩
  | 2 => ⟨(some 19), .iaddr (.t 17) (.t 18) 1, none⟩
  | 3 => ⟨(some 20), .load (.t 19) 1 false, none⟩
  | 4 => ⟨(some 21), .mv (.t 1), none⟩
  | 5 => ⟨(some 22), .mv (.t 5), none⟩
  | 6 => ⟨(some 23), .iaddr (.t 21) (.t 22) 1, none⟩
  | 7 => ⟨(some 24), .load (.t 23) 1 false, none⟩
  | 8 => ⟨(some 25), .bin .neq (.t 20) (.t 24), none⟩
  | _ => ⟨none, .mkmap, none⟩
@[go_sem] def l59_9 (_ : Unit) : KL := [kB 4 (.mv (.c (.bool false))) [4]]
@[go_sem] def s59_10 (_ : Unit) : IR := (sQ [(kT l59_9), .ret])
@[go_sem] def s59_11 (_ : Unit) : IR := (sQ [(.kd (oF l59_8 9) [(0, []), (1, []), (2, []), (3, []), (4, []), (5, []), (6, []), (7, []), (8, [])] [0, 1, 5, 25]), (.cond (.t 25) (tH s59_10) .skip)])
@[go_sem] def s59_12 (_ : Unit) : IR := (.block 1 (tH s59_11))
@[go_sem] def l59_13 (_ : Unit) : KL := [kA 15 (.mv (.t 5)),
  kA 16 (.bin .add (.t 15) (cI 1)),
  kB 5 (.mv (.t 16)) [0, 1, 5]]
@[go_sem] def s59_14 (_ : Unit) : IR := (sQ [(tH s59_7), (tH s59_12), (kT l59_13)])
@[go_sem] def s59_15 (_ : Unit) : IR := (.loop (tH s59_14))
@[go_sem] def s59_16 (_ : Unit) : IR := (.block 0 (tH s59_15))
@[go_sem] def s59_17 (_ : Unit) : IR := (sQ [(kT l59_5), (tH s59_16)])
@[go_sem] def l59_18 (_ : Unit) : KL := [kB 4 (.mv (.c (.bool true))) [4]]
@[go_sem] def s59_19 (_ : Unit) : IR := (sQ [(kT l59_0), (tH s59_4), (tH s59_17), (kT l59_18), .ret])
theorem c59 : compFn Tryd.prog [(0, [], [oS [0, 1]]), (1, [], [oN, oN, oN, oN, oS [0, 1, 10]]), (2, [], [oS [4]]), (3, [], [oS [0, 1, 5]]), (4, [], [oN, oN, oN, oS [0, 1, 5, 14]]), (6, [(0, []), (1, []), (2, []), (3, []), (4, []), (5, []), (6, []), (7, []), (8, [])], [oS [0, 1, 5, 25]]), (7, [], [oS [4]]), (5, [], [oN, oN, oS [0, 1, 5]]), (8, [], [oS [4]])] Tryd.f59 = some ⟨2, 26, [.t 4], (tH s59_19)⟩ := by kernel_rfl
theorem v_spec_l2Same (hl : vs.length = 2) (h : wpV Tryd.prog (tH s59_19) (postV [.t 4] RV) (envV vs) M) : VCall Tryd.prog n_spec_l2Same vs M RV :=
  vcall_of_wp (fun _ _ _ hl h => acall_of_wp mixed Tryd.func59 c59 (by kernel_rfl) hl h) hl h
@[go_sem] def l53_0 (_ : Unit) : KL := [kB 2 (.mv (.c (.sl none 0 0 true 0))) [0]]
@[go_sem] def l53_1 (_ : Unit) : KL := [kA 5 (.bslc 1 0 [(.int .i64 0)] []),
  kB 3 (.mv (.t 5)) [0, 3]]
@[go_sem] def l53_2 (_ : Unit) : KL := [kB 4 (.mv (cI 0)) [0, 3, 4]]
@[go_sem] def l53_3 (_ : Unit) : KL := [kA 6 (.mv (.t 4)),
  kA 7 (.mv (.t 0)),
  kA 8 (.len (.t 7)),
  kB 9 (.bin .lss (.t 6) (.t 8)) [0, 3, 4, 9]]
@[go_sem] def s53_4 (_ : Unit) : IR := (sQ [(kT l53_3), (.cond (.t 9) .skip (.exit 0))])
@[go_sem] def l53_5 (_ : Unit) : KL := [kA 12 (.mv (.t 0)),
  kA 13 (.mv (.t 4)),
  kA 14 (.iaddr (.t 12) (.t 13) 1),
  kB 15 (.load (.t 14) 1 false) [0, 3, 4, 15]]
@[go_sem] def l53_6 (_ : Unit) : KL := [kA 16 (.mv (.t 3)),
  kA 17 (.mv (.t 4)),
  kA 18 (.bslc 1 1 [(.int .i64 0)] [(0, (.t 17))]),
  kA 19 (.app 1 8 (.t 16) (.t 18)),
  kB 3 (.mv (.t 19)) [0, 3, 4]]
@[go_sem] def s53_7 (_ : Unit) : IR := (sQ [(kT l53_5), (.cond (.t 15) (kT l53_6) .skip)])
@[go_sem] def s53_8 (_ : Unit) : IR := (.block 1 (tH s53_7))
@[go_sem] def l53_9 (_ : Unit) : KL := [kA 10 (.mv (.t 4)),
  kA 11 (.bin .add (.t 10) (cI 1)),
  kB 4 (.mv (.t 11)) [0, 3, 4]]
@[go_sem] def s53_10 (_ : Unit) : IR := (sQ [(tH s53_4), (tH s53_8), (kT l53_9)])
@[go_sem] def s53_11 (_ : Unit) : IR := (.loop (tH s53_10))
@[go_sem] def s53_12 (_ : Unit) : IR := (.block 0 (tH s53_11))
@[go_sem] def s53_13 (_ : Unit) : IR := (sQ [(kT l53_2), (tH s53_12)])
@[go_sem] def l53_14 (_ : Unit) : KL := [kA 20 (.mv (.t 3)),
  kB 2 (.mv (.t 20)) [2]]
@[go_sem] def s53_15 (_ : Unit) : IR := (sQ [(kT l53_0), (kT l53_1), (tH s53_13), (kT l53_14), .ret])
theorem c53 : compFn Tryd.prog [(0, [], [oS [0]]), (1, [], [oN, oS [0, 3]]), (2, [], [oS [0, 3, 4]]), (3, [], [oN, oN, oN, oS [0, 3, 4, 9]]), (5, [], [oN, oN, oN, oS [0, 3, 4, 15]]), (6, [], [oN, oN, oN, oN, oS [0, 3, 4]]), (4, [], [oN, oN, oS [0, 3, 4]]), (7, [], [oN, oS [2]])] Tryd.f53 = some ⟨1, 21, [.t 2], (tH s53_15)⟩ := by kernel_rfl
theorem v_spec_l4List (hl : vs.length = 1) (h : wpV Tryd.prog (tH s53_15) (postV [.t 2] RV) (envV vs) M) : VCall Tryd.prog n_spec_l4List vs M RV :=
  vcall_of_wp (fun _ _ _ hl h => acall_of_wp mixed Tryd.func53 c53 (by kernel_rfl) hl h) hl h
@[go_sem] def l74_0 (_ : Unit) : KL := [kA 3 (.box (.t 0)),
  kB 6 (.mv (.c (.sl none 0 0 true 0))) [1, 2, 3]]
@[go_sem] def l74_1 (_ : Unit) : KL := [kA 9 (.mv (.t 1)),
  kA 10 (.len (.t 9)),
  kA 11 (.mks [(.bool false)] 1 (.t 10)),
  kB 7 (.mv (.t 11)) [1, 2, 3, 7]]
@[go_sem] def l74_2 (_ : Unit) : KL := [kB 8 (.mv (cI 0)) [1, 2, 3, 7, 8]]
@[go_sem] def l74_3 (_ : Unit) : KL := [kA 12 (.mv (.t 8)),
  kA 13 (.faddr (.t 3) 2),
  kA 14 (.load (.t 13) 1 false),
  kA 15 (.mv (.t 2)),
  kB 16 (.iaddr (.t 14) (.t 15) 1) [1, 2, 3, 7, 8, 12, 16],
  kA 17 (.load (.t 16) 1 false),
  kA 18 (.len (.t 17)),
  kB 19 (.bin .lss (.t 12) (.t 18)) [1, 2, 3, 7, 8, 19]]
@[go_sem] def s74_4 (_ : Unit) : IR := (sQ [(kT l74_3), (.cond (.t 19) .skip (.exit 0))])
@[go_sem] def l74_5 (_ : Unit) : KL := [kA 22 (.mv (.t 7)),
  kA 23 (.mv (.t 1)),
  kA 24 (.faddr (.t 3) 2),
  kA 25 (.load (.t 24) 1 false),
  kB 26 (.mv (.t 2)) [1, 2, 3, 7, 8, 22, 23, 25, 26],
  kA 27 (.iaddr (.t 25) (.t 26) 1),
  kA 28 (.load (.t 27) 1 false),
  kA 29 (.mv (.t 8)),
  kA 30 (.iaddr (.t 28) (.t 29) 1),
  kB 31 (.load (.t 30) 1 false) [1, 2, 3, 7, 8, 22, 23, 31],
  kA 32 (.iaddr (.t 23) (.t 31) 1),
  kA 33 (.load (.t 32) 1 false),
  kA 34 (.iaddr (.t 22) (.t 33) 1),
  (⟨none, .store (.t 34) 1 (.c (.bool true)), none⟩, (some [1, 2, 3, 7, 8]))]
@[go_sem] def s74_6 (_ : Unit) : IR := (.block 1 (kT l74_5))
@[go_sem] def l74_7 (_ : Unit) : KL := [kA 20 (.mv (.t 8)),
  kA 21 (.bin .add (.t 20) (cI 1)),
  kB 8 (.mv (.t 21)) [1, 2, 3, 7, 8]]
@[go_sem] def s74_8 (_ : Unit) : IR := (sQ [(tH s74_4), (tH s74_6), (kT l74_7)])
@[go_sem] def s74_9 (_ : Unit) : IR := (.loop (tH s74_8))
@[go_sem] def s74_10 (_ : Unit) : IR := (.block 0 (tH s74_9))
@[go_sem] def s74_11 (_ : Unit) : IR := (sQ [(kT l74_2), (tH s74_10)])
@[go_sem] def l74_12 (_ : Unit) : KL := [kA 35 (.mv (.t 7)),
  kA 36 (.call (n_spec_l4List) [(.t 35)]),
  kB 6 (.mv (.t 36)) [6]]
@[go_sem] def s74_13 (_ : Unit) : IR := (sQ [(kT l74_0), (kT l74_1), (tH s74_11), (kT l74_12), .ret])
theorem c74 : compFn Tryd.prog [(0, [], [oN, oS [1, 2, 3]]), (1, [], [oN, oN, oN, oS [1, 2, 3, 7]]), (2, [], [oS [1, 2, 3, 7, 8]]), (3, [], [oN, oN, oN, oN, oS [1, 2, 3, 7, 8, 12, 16], oN, oN, oS [1, 2, 3, 7, 8, 19]]), (5, [], [oN, oN, oN, oN, oS [1, 2, 3, 7, 8, 22, 23, 25, 26], oN, oN, oN, oN, oS [1, 2, 3, 7, 8, 22, 23, 31], oN, oN, oN, oS [1, 2, 3, 7, 8]]), (4, [], [oN, oN, oS [1, 2, 3, 7, 8]]), (6, [], [oN, oN, oS [6]])] Tryd.f74 = some ⟨3, 37, [.t 6], (tH s74_13)⟩ := by kernel_rfl
theorem v_spec_l25Class (hl : vs.length = 3) (h : wpV Tryd.prog (tH s74_13) (postV [.t 6] RV) (envV vs) M) : VCall Tryd.prog n_spec_l25Class vs M RV :=
  vcall_of_wp (fun _ _ _ hl h => acall_of_wp mixed Tryd.func74 c74 (by kernel_rfl) hl h) hl h
@[go_sem] def l60_0 (_ : Unit) : KL := [kA 2 (.box (.t 0)),
  kB 4 (.mv (.c (.sl none 0 0 true 0))) [1, 2]]
@[go_sem] def l60_1 (_ : Unit) : KL := [kA 11 (.bslc 1 0 [(.sl none 0 0 true 0)] []),
  kB 5 (.mv (.t 11)) [1, 2, 5]]
@[go_sem] def l60_2 (_ : Unit) : KL := [kB 6 (.mv (cI 0)) [1, 2, 5, 6]]
@[go_sem] def l60_3 (_ : Unit) : KL := [kA 12 (.mv (.t 6)),
  kA 13 (.mv (.t 1)),
  kA 14 (.len (.t 13)),
  kB 15 (.bin .lss (.t 12) (.t 14)) [1, 2, 5, 6, 15]]
@[go_sem] def s60_4 (_ : Unit) : IR := (sQ [(kT l60_3), (.cond (.t 15) .skip (.exit 0))])
@[go_sem] def l60_5 (_ : Unit) : KL := [kA 18 (.mv (.t 5)),
  kA 19 (.load (.t 2) 3 true),
  kA 20 (.mv (.t 1)),
  kA 21 (.mv (.t 6)),
  kB 22 (.call (n_spec_l25Class) [(.t 19), (.t 20), (.t 21)]) [1, 2, 6, 18, 22],
  kA 23 (.bslc 1 1 [(.sl none 0 0 true 0)] [(0, (.t 22))]),
  kA 24 (.app 1 24 (.t 18) (.t 23)),
  kB 5 (.mv (.t 24)) [1, 2, 5, 6]]
@[go_sem] def s60_6 (_ : Unit) : IR := (.block 1 (kT l60_5))
@[go_sem] def l60_7 (_ : Unit) : KL := [kA 16 (.mv (.t 6)),
  kA 17 (.bin .add (.t 16) (cI 1)),
  kB 6 (.mv (.t 17)) [1, 2, 5, 6]]
@[go_sem] def s60_8 (_ : Unit) : IR := (sQ [(tH s60_4), (tH s60_6), (kT l60_7)])
@[go_sem] def s60_9 (_ : Unit) : IR := (.loop (tH s60_8))
@[go_sem] def s60_10 (_ : Unit) : IR := (.block 0 (tH s60_9))
@[go_sem] def s60_11 (_ : Unit) : IR := (sQ [(kT l60_2), (tH s60_10)])
@[go_sem] def l60_12 (_ : Unit) : KL := [kA 25 (.bslc 1 0 [(.int .i64 0)] []),
  kB 7 (.mv (.t 25)) [1, 5, 7]]
@[go_sem] def l60_13 (_ : Unit) : KL := [kB 8 (.mv (cI 0)) [1, 5, 7, 8]]
@[go_sem] def l60_14 (_ : Unit) : KL := [kA 26 (.mv (.t 8)),
  kA 27 (.mv (.t 1)),
  kA 28 (.len (.t 27)),
  kB 29 (.bin .lss (.t 26) (.t 28)) [1, 5, 7, 8, 29]]
@[go_sem] def s60_15 (_ : Unit) : IR := (sQ [(kT l60_14), (.cond (.t 29) .skip (.exit 2))])
@[go_sem] def l60_16 (_ : Unit) : KL := [kA 32 (.mv (.t 8)),
  kB 9 (.mv (.t 32)) [1, 5, 7, 8, 9]]
@[go_sem] def l60_17 (_ : Unit) : KL := [kA 33 (.mv (.t 8)),
  kA 34 (.bin .sub (.t 33) (cI 1)),
  kB 10 (.mv (.t 34)) [1, 5, 7, 8, 9, 10]]
@[go_sem] def l60_18 (_ : Unit) : KL := [kA 35 (.mv (.t 10)),
  kB 36 (.bin .geq (.t 35) (cI 0)) [1, 5, 7, 8, 9, 10, 36]]
@[go_sem] def s60_19 (_ : Unit) : IR := (sQ [(kT l60_18), (.cond (.t 36) .skip (.exit 4))])
@[go_sem] def l60_20 : Nat → GOp
  | 0 => ⟨(some 39), .mv (.t 1), none⟩
  | 1 => ⟨(some 40), .mv (.t 10), none⟩
  | 2 => ⟨(some 41), .iaddr (.t 39) (.t 40) 1, none⟩
  | 3 => ⟨(some 42), .load (.t 41) 1 false, none⟩
  | 4 => ⟨(some 43), .mv (.t 1), none⟩
  | 5 => ⟨(some 44), .mv (.t 8), none⟩
  | 6 => ⟨(some 45), .iaddr (.t 43) (.t 44) 1, none⟩
  | 7 => ⟨(some 46), .load (.t 45) 1 false, none⟩
  | 8 => ⟨(some 47), .bin .eql (.t 42) (.t 46), none⟩
  | 9 => ⟨(some 48), .mv (.t 47), none⟩
  | 10 => ⟨(some 49), .mv (.t 5), (some (48, true))⟩
  | 11 => ⟨(some 50), .mv (.t 10), (some (48, true))⟩
  | 12 => ⟨(some 51), .iaddr (.t 49) (.t 50) 1, (some (48, true))⟩
  | 13 => ⟨(some 52), .load (.t 51) 1 false, (some (48, true))⟩
  | 14 => ⟨(some 53), .mv (.t 5), (some (48, true))⟩
  | 15 => ⟨(some 54), .mv (.t 8), (some (48, true))⟩
  | 16 => ⟨(some 55), .iaddr (.t 53) (.t 54) 1, (some (48, true))⟩
  | 17 => ⟨(some 56), .load (.t 55) 1 false, (some (48, true))⟩
  | 18 => ⟨(some 57), .call (n_spec_l2Same) [(.t 52), (.t 56)], (some (48, true))⟩
  | 19 => ⟨(some 58), .pick (.t 48) (.t 57) (.c (.bool false)), none⟩
  | _ => ⟨none, .mkmap, none⟩
@[go_sem] def l60_21 (_ : Unit) : KL := [kA 59 (.mv (.t 10)),
  kB 9 (.mv (.t 59)) [1, 5, 7, 8, 9, 10]]
@[go_sem] def s60_22 (_ : Unit) : IR := (sQ [(.kd (oF l60_20 20) [(0, []), (1, []), (2, []), (3, []), (4, []), (5, []), (6, []), (7, []), (8, []), (9, []), (10, []), (11, []), (12, []), (13, []), (14, []), (15, []), (16, []), (17, []), (18, []), (19, [])] [1, 5, 7, 8, 9, 10, 58]), (.cond (.t 58) (kT l60_21) .skip)])
@[go_sem] def s60_23 (_ : Unit) : IR := (.block 5 (tH s60_22))
@[go_sem] def l60_24 (_ : Unit) : KL := [kA 37 (.mv (.t 10)),
  kA 38 (.bin .sub (.t 37) (cI 1)),
  kB 10 (.mv (.t 38)) [1, 5, 7, 8, 9, 10]]
@[go_sem] def s60_25 (_ : Unit) : IR := (sQ [(tH s60_19), (tH s60_23), (kT l60_24)])
@[go_sem] def s60_26 (_ : Unit) : IR := (.loop (tH s60_25))
@[go_sem] def s60_27 (_ : Unit) : IR := (.block 4 (tH s60_26))
@[go_sem] def s60_28 (_ : Unit) : IR := (sQ [(kT l60_17), (tH s60_27)])
@[go_sem] def l60_29 (_ : Unit) : KL := [kA 60 (.mv (.t 7)),
  kA 61 (.mv (.t 9)),
  kA 62 (.bslc 1 1 [(.int .i64 0)] [(0, (.t 61))]),
  kA 63 (.app 1 8 (.t 60) (.t 62)),
  kB 7 (.mv (.t 63)) [1, 5, 7, 8]]
@[go_sem] def s60_30 (_ : Unit) : IR := (sQ [(kT l60_16), (tH s60_28), (kT l60_29)])
@[go_sem] def s60_31 (_ : Unit) : IR := (.block 3 (tH s60_30))
@[go_sem] def l60_32 (_ : Unit) : KL := [kA 30 (.mv (.t 8)),
  kA 31 (.bin .add (.t 30) (cI 1)),
  kB 8 (.mv (.t 31)) [1, 5, 7, 8]]
@[go_sem] def s60_33 (_ : Unit) : IR := (sQ [(tH s60_15), (tH s60_31), (kT l60_32)])
@[go_sem] def s60_34 (_ : Unit) : IR := (.loop (tH s60_33))
@[go_sem] def s60_35 (_ : Unit) : IR := (.block 2 (tH s60_34))
@[go_sem] def s60_36 (_ : Unit) : IR := (sQ [(kT l60_13), (tH s60_35)])
@[go_sem] def l60_37 (_ : Unit) : KL := [kA 64 (.mv (.t 7)),
  kB 4 (.mv (.t 64)) [4]]
@[go_sem] def s60_38 (_ : Unit) : IR := (sQ [(kT l60_0), (kT l60_1), (tH s60_11), (kT l60_12), (tH s60_36), (kT l60_37), .ret])
theorem c60 : compFn Tryd.prog [(0, [], [oN, oS [1, 2]]), (1, [], [oN, oS [1, 2, 5]]), (2, [], [oS [1, 2, 5, 6]]), (3, [], [oN, oN, oN, oS [1, 2, 5, 6, 15]]), (5, [], [oN, oN, oN, oN, oS [1, 2, 6, 18, 22], oN, oN, oS [1, 2, 5, 6]]), (4, [], [oN, oN, oS [1, 2, 5, 6]]), (6, [], [oN, oS [1, 5, 7]]), (7, [], [oS [1, 5, 7, 8]]), (8, [], [oN, oN, oN, oS [1, 5, 7, 8, 29]]), (10, [], [oN, oS [1, 5, 7, 8, 9]]), (11, [], [oN, oN, oS [1, 5, 7, 8, 9, 10]]), (12, [], [oN, oS [1, 5, 7, 8, 9, 10, 36]]), (14, [(0, []), (1, []), (2, []), (3, []), (4, []), (5, []), (6, []), (7, []), (8, []), (9, []), (10, []), (11, []), (12, []), (13, []), (14, []), (15, []), (16, []), (17, []), (18, []), (19, [])], [oS [1, 5, 7, 8, 9, 10, 58]]), (15, [], [oN, oS [1, 5, 7, 8, 9, 10]]), (13, [], [oN, oN, oS [1, 5, 7, 8, 9, 10]]), (16, [], [oN, oN, oN, oN, oS [1, 5, 7, 8]]), (9, [], [oN, oN, oS [1, 5, 7, 8]]), (17, [], [oN, oS [4]])] Tryd.f60 = some ⟨2, 65, [.t 4], (tH s60_38)⟩ := by kernel_rfl
theorem v_spec_l25Round (hl : vs.length = 2) (h : wpV Tryd.prog (tH s60_38) (postV [.t 4] RV) (envV vs) M) : VCall Tryd.prog n_spec_l25Round vs M RV :=
  vcall_of_wp (fun _ _ _ hl h => acall_of_wp mixed Tryd.func60 c60 (by kernel_rfl) hl h) hl h
@[go_sem] def l30_0 (_ : Unit) : KL := [kA 1 (.box (.t 0)),
  kB 2 (.mv (.c (.sl none 0 0 true 0))) [1]]
@[go_sem] def l30_1 (_ : Unit) : KL := [kA 10 (.bslc 1 0 [(.int .i64 0)] []),
  kB 3 (.mv (.t 10)) [1, 3]]
@[go_sem] def l30_2 (_ : Unit) : KL := [kB 4 (.mv (cI 0)) [1, 3, 4]]
@[go_sem] def l30_3 (_ : Unit) : KL := [kA 11 (.mv (.t 4)),
  kA 12 (.faddr (.t 1) 0),
  kA 13 (.load (.t 12) 1 false),
  kA 14 (.len (.t 13)),
  kB 15 (.bin .lss (.t 11) (.t 14)) [1, 3, 4, 15]]
@[go_sem] def s30_4 (_ : Unit) : IR := (sQ [(kT l30_3), (.cond (.t 15) .skip (.exit 0))])
@[go_sem] def l30_5 (_ : Unit) : KL := [kA 18 (.mv (.t 4)),
  kB 5 (.mv (.t 18)) [1, 3, 4, 5]]
@[go_sem] def l30_6 (_ : Unit) : KL := [kA 19 (.mv (.t 4)),
  kA 20 (.bin .sub (.t 19) (cI 1)),
  kB 6 (.mv (.t 20)) [1, 3, 4, 5, 6]]
@[go_sem] def l30_7 (_ : Unit) : KL := [kA 21 (.mv (.t 6)),
  kB 22 (.bin .geq (.t 21) (cI 0)) [1, 3, 4, 5, 6, 22]]
@[go_sem] def s30_8 (_ : Unit) : IR := (sQ [(kT l30_7), (.cond (.t 22) .skip (.exit 2))])
@[go_sem] def l30_9 : Nat → GOp
  | 0 => ⟨(some 25), .faddr (.t 1) 0, none⟩
  | 1 => ⟨(some 26), .load (.t 25) 1 false, none⟩
  | 2 => ⟨(some 27), .mv (.t 6), none⟩
  | 3 => ⟨(some 28), .iaddr (.t 26) (.t 27) 1, none⟩
  | 4 => ⟨(some 29), .load (.t 28) 1 false, none⟩
  | 5 => ⟨(some 30), .faddr (.t 1) 0, none⟩
  | 6 => ⟨(some 31), .load (.t 30) 1 false, none⟩
  | 7 => ⟨(some 32), .mv (.t 4), none⟩
  | 8 => ⟨(some 33), .iaddr (.t 31) (.t 32) 1, none⟩
  | 9 => ⟨(some 34), .load (.t 33) 1 false, none⟩
  | 10 => ⟨(some 35), .call (n_spec_l2Same) [(.t 29), (.t 34)], none⟩
  | _ => ⟨none, .mkmap, none⟩
@[go_sem] def l30_10 (_ : Unit) : KL := [kA 36 (.mv (.t 6)),
  kB 5 (.mv (.t 36)) [1, 3, 4, 5, 6]]
@[go_sem] def s30_11 (_ : Unit) : IR := (sQ [(.kd (oF l30_9 11) [(0, []), (1, []), (2, []), (3, []), (4, []), (5, []), (6, []), (7, []), (8, []), (9, []), (10, [])] [1, 3, 4, 5, 6, 35]), (.cond (.t 35) (kT l30_10) .skip)])
@[go_sem] def s30_12 (_ : Unit) : IR := (.block 3 (tH s30_11))
@[go_sem] def l30_13 (_ : Unit) : KL := [kA 23 (.mv (.t 6)),
  kA 24 (.bin .sub (.t 23) (cI 1)),
  kB 6 (.mv (.t 24)) [1, 3, 4, 5, 6]]
@[go_sem] def s30_14 (_ : Unit) : IR := (sQ [(tH s30_8), (tH s30_12), (kT l30_13)])
@[go_sem] def s30_15 (_ : Unit) : IR := (.loop (tH s30_14))
@[go_sem] def s30_16 (_ : Unit) : IR := (.block 2 (tH s30_15))
@[go_sem] def s30_17 (_ : Unit) : IR := (sQ [(kT l30_6), (tH s30_16)])
@[go_sem] def l30_18 (_ : Unit) : KL := [kA 37 (.mv (.t 3)),
  kA 38 (.mv (.t 5)),
  kA 39 (.bslc 1 1 [(.int .i64 0)] [(0, (.t 38))]),
  kA 40 (.app 1 8 (.t 37) (.t 39)),
  kB 3 (.mv (.t 40)) [1, 3, 4]]
@[go_sem] def s30_19 (_ : Unit) : IR := (sQ [(kT l30_5), (tH s30_17), (kT l30_18)])
@[go_sem] def s30_20 (_ : Unit) : IR := (.block 1 (tH s30_19))
@[go_sem] def l30_21 (_ : Unit) : KL := [kA 16 (.mv (.t 4)),
  kA 17 (.bin .add (.t 16) (cI 1)),
  kB 4 (.mv (.t 17)) [1, 3, 4]]
@[go_sem] def s30_22 (_ : Unit) : IR := (sQ [(tH s30_4), (tH s30_20), (kT l30_21)])
@[go_sem] def s30_23 (_ : Unit) : IR := (.loop (tH s30_22))
@[go_sem] def s30_24 (_ : Unit) : IR := (.block 0 (tH s30_23))
@[go_sem] def s30_25 (_ : Unit) : IR := (sQ [(kT l30_2), (tH s30_24)])
@[go_sem] def l30_26 (_ : Unit) : KL := [kA 41 (.mv (.t 3)),
  kA 42 (.bslc 1 1 [(.sl none 0 0 true 0)] [(0, (.t 41))]),
  kB 7 (.mv (.t 42)) [1, 7]]
@[go_sem] def l30_27 (_ : Unit) : KL := [kB 8 (.mv (.c (.bool true))) [1, 7, 8]]
@[go_sem] def l30_28 (_ : Unit) : KL := [kB 43 (.mv (.t 8)) [1, 7, 43]]
@[go_sem] def s30_29 (_ : Unit) : IR := (sQ [(kT l30_28), (.cond (.t 43) .skip (.exit 4))])
@[go_sem] def l30_30 : Nat → GOp
  | 0 => ⟨(some 44), .load (.t 1) 3 true, none⟩
  | 1 => ⟨(some 45), .mv (.t 7), none⟩
  | 2 => ⟨(some 46), .mv (.t 7), none⟩
  | 3 => ⟨(some 47), .len (.t 46), none⟩
  | 4 => ⟨(some 48), .bin .sub (.t 47) (cI 1), none⟩
  | 5 => ⟨(some 49), .iaddr (.t 45) (.t 48) 1, none⟩
  | 6 => ⟨(some 50), .load (.t 49) 1 false, none⟩
  | 7 => ⟨(some 51), .call (n_spec_l25Round) [(.t 44), (.t 50)], none⟩
  | 8 => ⟨(some 9), .mv (.t 51), none⟩
  | _ => ⟨none, .mkmap, none⟩
@[go_sem] def l30_31 (_ : Unit) : KL := [kA 52 (.mv (.t 9)),
  kA 53 (.mv (.t 7)),
  kA 54 (.mv (.t 7)),
  kA 55 (.len (.t 54)),
  kB 56 (.bin .sub (.t 55) (cI 1)) [1, 7, 9, 52, 53, 56],
  kA 57 (.iaddr (.t 53) (.t 56) 1),
  kA 58 (.load (.t 57) 1 false),
  kA 59 (.call (n_spec_l2Same) [(.t 52), (.t 58)]),
  kA 60 (.un .not (.t 59)),
  kB 8 (.mv (.t 60)) [1, 7, 8, 9]]
@[go_sem] def l30_32 (_ : Unit) : KL := [kB 61 (.mv (.t 8)) [1, 7, 8, 9, 61]]
@[go_sem] def l30_33 (_ : Unit) : KL := [kA 62 (.mv (.t 7)),
  kA 63 (.mv (.t 9)),
  kA 64 (.bslc 1 1 [(.sl none 0 0 true 0)] [(0, (.t 63))]),
  kA 65 (.app 1 24 (.t 62) (.t 64)),
  kB 7 (.mv (.t 65)) [1, 7, 8]]
@[go_sem] def s30_34 (_ : Unit) : IR := (sQ [(.kd (oF l30_30 9) [(0, []), (1, []), (2, []), (3, []), (4, []), (5, []), (6, []), (7, []), (8, [])] [1, 7, 9]), (kT l30_31), (kT l30_32), (.cond (.t 61) (kT l30_33) .skip)])
@[go_sem] def s30_35 (_ : Unit) : IR := (.block 5 (tH s30_34))
@[go_sem] def s30_36 (_ : Unit) : IR := (sQ [(tH s30_29), (tH s30_35)])
@[go_sem] def s30_37 (_ : Unit) : IR := (.loop (tH s30_36))
@[go_sem] def s30_38 (_ : Unit) : IR := (.block 4 (tH s30_37))
@[go_sem] def s30_39 (_ : Unit) : IR := (sQ [(kT l30_27), (tH s30_38)])
@[go_sem] def l30_40 (_ : Unit) : KL := [kA 66 (.mv (.t 7)),
  kB 2 (.mv (.t 66)) [2]]
@[go_sem] def s30_41 (_ : Unit) : IR := (sQ [(kT l30_0), (kT l30_1), (tH s30_25), (kT l30_26), (tH s30_39), (kT l30_40), .ret])
theorem c30 : compFn Tryd.prog [(0, [], [oN, oS [1]]), (1, [], [oN, oS [1, 3]]), (2, [], [oS [1, 3, 4]]), (3, [], [oN, oN, oN, oN, oS [1, 3, 4, 15]]), (5, [], [oN, oS [1, 3, 4, 5]]), (6, [], [oN, oN, oS [1, 3, 4, 5, 6]]), (7, [], [oN, oS [1, 3, 4, 5, 6, 22]]), (9, [(0, []), (1, []), (2, []), (3, []), (4, []), (5, []), (6, []), (7, []), (8, []), (9, []), (10, [])], [oS [1, 3, 4, 5, 6, 35]]), (10, [], [oN, oS [1, 3, 4, 5, 6]]), (8, [], [oN, oN, oS [1, 3, 4, 5, 6]]), (11, [], [oN, oN, oN, oN, oS [1, 3, 4]]), (4, [], [oN, oN, oS [1, 3, 4]]), (12, [], [oN, oN, oS [1, 7]]), (13, [], [oS [1, 7, 8]]), (14, [], [oS [1, 7, 43]]), (15, [(0, []), (1, []), (2, []), (3, []), (4, []), (5, []), (6, []), (7, []), (8, [])], [oS [1, 7, 9]]), (16, [], [oN, oN, oN, oN, oS [1, 7, 9, 52, 53, 56], oN, oN, oN, oN, oS [1, 7, 8, 9]]), (17, [], [oS [1, 7, 8, 9, 61]]), (18, [], [oN, oN, oN, oN, oS [1, 7, 8]]), (19, [], [oN, oS [2]])] Tryd.f30 = some ⟨1, 67, [.t 2], (tH s30_41)⟩ := by kernel_rfl
theorem v_spec_l25Rounds (hl : vs.length = 1) (h : wpV Tryd.prog (tH s30_41) (postV [.t 2] RV) (envV vs) M) : VCall Tryd.prog n_spec_l25Rounds vs M RV :=
  vcall_of_wp (fun _ _ _ hl h => acall_of_wp mixed Tryd.func30 c30 (by kernel_rfl) hl h) hl h
@[go_sem] def l9_0 (_ : Unit) : KL := [kA 2 (.box (.t 0)),
  kB 4 (.mv (.c (.sl none 0 0 true 0))) [1, 2]]
@[go_sem] def l9_1 (_ : Unit) : KL := [kA 6 (.load (.t 2) 3 true),
  kA 7 (.mv (.t 1)),
  kA 8 (.call (n_spec_GraphValid) [(.t 6), (.t 7)]),
  kB 9 (.un .not (.t 8)) [2, 9]]
@[go_sem] def l9_2 (_ : Unit) : KL := [kB 4 (.mv (.c (.sl none 0 0 true 0))) [4]]
@[go_sem] def s9_3 (_ : Unit) : IR := (sQ [(kT l9_2), .ret])
@[go_sem] def s9_4 (_ : Unit) : IR := (sQ [(kT l9_1), (.cond (.t 9) (tH s9_3) .skip)])
@[go_sem] def l9_5 (_ : Unit) : KL := [kA 10 (.load (.t 2) 3 true),
  kA 11 (.call (n_spec_l25Rounds) [(.t 10)]),
  kB 5 (.mv (.t 11)) [5]]
@[go_sem] def l9_6 (_ : Unit) : KL := [kA 12 (.mv (.t 5)),
  kA 13 (.mv (.t 5)),
  kA 14 (.len (.t 13)),
  kA 15 (.bin .sub (.t 14) (cI 1)),
  kB 16 (.iaddr (.t 12) (.t 15) 1) [16],
  kA 17 (.load (.t 16) 1 false),
  kB 4 (.mv (.t 17)) [4]]
@[go_sem] def s9_7 (_ : Unit) : IR := (sQ [(kT l9_0), (tH s9_4), (kT l9_5), (kT l9_6), .ret])
theorem c9 : compFn Tryd.prog [(0, [], [oN, oS [1, 2]]), (1, [], [oN, oN, oN, oS [2, 9]]), (2, [], [oS [4]]), (3, [], [oN, oN, oS [5]]), (4, [], [oN, oN, oN, oN, oS [16], oN, oS [4]])] Tryd.f9 = some ⟨2, 18, [.t 4], (tH s9_7)⟩ := by kernel_rfl
theorem v_spec_AlikeIn (hl : vs.length = 2) (h : wpV Tryd.prog (tH s9_7) (postV [.t 4] RV) (envV vs) M) : VCall Tryd.prog n_spec_AlikeIn vs M RV :=
  vcall_of_wp (fun _ _ _ hl h => acall_of_wp mixed Tryd.func9 c9 (by kernel_rfl) hl h) hl h
@[go_sem] def l40_0 (_ : Unit) : KL := [kB 6 (.mv (.c (.bool false))) [0, 1, 2]]
@[go_sem] def l40_1 (_ : Unit) : KL := [kA 7 (.mv (.t 0)),
  kA 8 (.mv (.t 1)),
  kA 9 (.bin .geq (.t 7) (.t 8)),
  kA 10 (.mv (.t 9)),
  (⟨(some 11), .mv (.t 0), (some (10, true))⟩, (some [2, 10, 11])),
  (⟨(some 12), .mv (.t 2), (some (10, true))⟩, none),
  (⟨(some 13), .bin .leq (.t 11) (.t 12), (some (10, true))⟩, none),
  kA 14 (.pick (.t 10) (.t 13) (.c (.bool false))),
  kB 6 (.mv (.t 14)) [6]]
@[go_sem] def s40_2 (_ : Unit) : IR := (sQ [(kT l40_0), (kT l40_1), .ret])
theorem c40 : compFn Tryd.prog [(0, [], [oS [0, 1, 2]]), (1, [], [oN, oN, oN, oN, oS [2, 10, 11], oN, oN, oN, oS [6]])] Tryd.f40 = some ⟨3, 15, [.t 6], (tH s40_2)⟩ := by kernel_rfl
theorem v_impl_in (hl : vs.length = 3) (h : wpV Tryd.prog (tH s40_2) (postV [.t 6] RV) (envV vs) M) : VCall Tryd.prog n_impl_in vs M RV :=
  vcall_of_wp (fun _ _ _ hl h => acall_of_wp mixed Tryd.func40 c40 (by kernel_rfl) hl h) hl h
@[go_sem] def l67_0 (_ : Unit) : KL := [kB 4 (.mv (cI 0)) [0, 1]]
@[go_sem] def l67_1 (_ : Unit) : KL := [kA 6 (.mv (.t 0)),
  kA 7 (.len (.t 6)),
  kB 8 (.mv (cI 0)) [0, 1, 7, 8]]
@[go_sem] def l67_2 (_ : Unit) : KL := [kB 9 (.bin .lss (.t 8) (.t 7)) [0, 1, 7, 8, 9]]
@[go_sem] def l67_3 (_ : Unit) : KL := [kA 10 (.mv (.t 8)),
  kB 5 (.mv (.t 10)) [0, 1, 5, 7, 8]]
@[go_sem] def l67_4 (_ : Unit) : KL := [kA 11 (.mv (.t 1)),
  kA 12 (.mv (.t 0)),
  kA 13 (.mv (.t 5)),
  kA 14 (.iaddr (.t 12) (.t 13) 1),
  kB 15 (.load (.t 14) 1 false) [0, 1, 5, 7, 8, 11, 15],
  kB 16 (.callv (.t 11) [(.t 15)]) [0, 1, 5, 7, 8, 16]]
@[go_sem] def l67_5 (_ : Unit) : KL := [kA 17 (.mv (.t 5)),
  kB 4 (.mv (.t 17)) [4]]
@[go_sem] def s67_6 (_ : Unit) : IR := (sQ [(kT l67_5), .ret])
@[go_sem] def s67_7 (_ : Unit) : IR := (sQ [(kT l67_3), (kT l67_4), (.cond (.t 16) (tH s67_6) .skip)])
@[go_sem] def s67_8 (_ : Unit) : IR := (.block 1 (tH s67_7))
@[go_sem] def l67_9 (_ : Unit) : KL := [kA 18 (.bin .add (.t 8) (cI 1)),
  kB 8 (.mv (.t 18)) [0, 1, 7, 8]]
@[go_sem] def s67_10 (_ : Unit) : IR := (sQ [(kT l67_2), (.cond (.t 9) .skip (.exit 0)), (tH s67_8), (kT l67_9)])
@[go_sem] def s67_11 (_ : Unit) : IR := (.loop (tH s67_10))
@[go_sem] def s67_12 (_ : Unit) : IR := (.block 0 (tH s67_11))
@[go_sem] def s67_13 (_ : Unit) : IR := (sQ [(kT l67_1), (tH s67_12)])
@[go_sem] def l67_14 (_ : Unit) : KL := [kB 4 (.mv (.c (.int .i64 (-1)))) [4]]
@[go_sem] def s67_15 (_ : Unit) : IR := (sQ [(kT l67_0), (tH s67_13), (kT l67_14), .ret])
theorem c67 : compFn Tryd.prog [(0, [], [oS [0, 1]]), (1, [], [oN, oN, oS [0, 1, 7, 8]]), (2, [], [oS [0, 1, 7, 8, 9]]), (3, [], [oN, oS [0, 1, 5, 7, 8]]), (4, [], [oN, oN, oN, oN, oS [0, 1, 5, 7, 8, 11, 15], oS [0, 1, 5, 7, 8, 16]]), (5, [], [oN, oS [4]]), (6, [], [oN, oS [0, 1, 7, 8]]), (7, [], [oS [4]])] Tryd.f67 = some ⟨2, 19, [.t 4], (tH s67_15)⟩ := by kernel_rfl
theorem v_slices_IndexFunc_Sint_int (hl : vs.length = 2) (h : wpV Tryd.prog (tH s67_15) (postV [.t 4] RV) (envV vs) M) : VCall Tryd.prog n_slices_IndexFunc_Sint_int vs M RV :=
  vcall_of_wp (fun _ _ _ hl h => acall_of_wp mixed Tryd.func67 c67 (by kernel_rfl) hl h) hl h
@[go_sem] def l42_0 (_ : Unit) : KL := [kB 4 (.mv (.c (.bool false))) [0, 1]]
@[go_sem] def l42_1 (_ : Unit) : KL := [kA 5 (.mv (.t 0)),
  kA 6 (.mv (.t 1)),
  kA 7 (.call (n_slices_IndexFunc_Sint_int) [(.t 5), (.t 6)]),
  kA 8 (.bin .geq (.t 7) (cI 0)),
  kB 4 (.mv (.t 8)) [4]]
@[go_sem] def s42_2 (_ : Unit) : IR := (sQ [(kT l42_0), (kT l42_1), .ret])
theorem c42 : compFn Tryd.prog [(0, [], [oS [0, 1]]), (1, [], [oN, oN, oN, oN, oS [4]])] Tryd.f42 = some ⟨2, 9, [.t 4], (tH s42_2)⟩ := by kernel_rfl
theorem v_slices_ContainsFunc_Sint_int (hl : vs.length = 2) (h : wpV Tryd.prog (tH s42_2) (postV [.t 4] RV) (envV vs) M) : VCall Tryd.prog n_slices_ContainsFunc_Sint_int vs M RV :=
  vcall_of_wp (fun _ _ _ hl h => acall_of_wp mixed Tryd.func42 c42 (by kernel_rfl) hl h) hl h
@[go_sem] def l88_0 (_ : Unit) : KL := [kB 2 (.mv (.c (.bool false))) [0]]
@[go_sem] def l88_1 (_ : Unit) : KL := [kA 3 (.mv (.t 0)),
  kA 4 (.call (n_impl_in) [(.t 3), (cI 0), (cI 1)]),
  kA 5 (.un .not (.t 4)),
  kB 2 (.mv (.t 5)) [2]]
@[go_sem] def s88_2 (_ : Unit) : IR := (sQ [(kT l88_0), (kT l88_1), .ret])
theorem c88 : compFn Tryd.prog [(0, [], [oS [0]]), (1, [], [oN, oN, oN, oS [2]])] Tryd.f88 = some ⟨1, 6, [.t 2], (tH s88_2)⟩ := by kernel_rfl
theorem v_impl_bitsValid_1 (hl : vs.length = 1) (h : wpV Tryd.prog (tH s88_2) (postV [.t 2] RV) (envV vs) M) : VCall Tryd.prog n_impl_bitsValid_1 vs M RV :=
  vcall_of_wp (fun _ _ _ hl h => acall_of_wp mixed Tryd.func88 c88 (by kernel_rfl) hl h) hl h
@[go_sem] def l72_0 (_ : Unit) : KL := [kB 2 (.mv (.c (.bool false))) [0]]
@[go_sem] def l72_1 (_ : Unit) : KL := [kA 3 (.mv (.t 0)),
  kA 4 (.call (n_slices_ContainsFunc_Sint_int) [(.t 3), (.c (.fn (n_impl_bitsValid_1) []))]),
  kA 5 (.un .not (.t 4)),
  kB 2 (.mv (.t 5)) [2]]
@[go_sem] def s72_2 (_ : Unit) : IR := (sQ [(kT l72_0), (kT l72_1), .ret])
theorem c72 : compFn Tryd.prog [(0, [], [oS [0]]), (1, [], [oN, oN, oN, oS [2]])] Tryd.f72 = some ⟨1, 6, [.t 2], (tH s72_2)⟩ := by kernel_rfl
theorem v_impl_bitsValid (hl : vs.length = 1) (h : wpV Tryd.prog (tH s72_2) (postV [.t 2] RV) (envV vs) M) : VCall Tryd.prog n_impl_bitsValid vs M RV :=
  vcall_of_wp (fun _ _ _ hl h => acall_of_wp mixed Tryd.func72 c72 (by kernel_rfl) hl h) hl h
@[go_sem] def l54_0 (_ : Unit) : KL := [kB 4 (.mv (.c (.bool false))) [0, 1]]
@[go_sem] def l54_1 (_ : Unit) : KL := [kA 5 (.mv (.t 0)),
  kA 6 (.len (.t 5)),
  kA 7 (.mv (.t 1)),
  kA 8 (.bin .eql (.t 6) (.t 7)),
  kB 9 (.mv (.t 8)) [0, 9],
  (⟨(some 10), .mv (.t 0), (some (9, true))⟩, none),
  (⟨(some 11), .call (n_impl_bitsValid) [(.t 10)], (some (9, true))⟩, none),
  kA 12 (.pick (.t 9) (.t 11) (.c (.bool false))),
  kB 4 (.mv (.t 12)) [4]]
@[go_sem] def s54_2 (_ : Unit) : IR := (sQ [(kT l54_0), (kT l54_1), .ret])
theorem c54 : compFn Tryd.prog [(0, [], [oS [0, 1]]), (1, [], [oN, oN, oN, oN, oS [0, 9], oN, oN, oN, oS [4]])] Tryd.f54 = some ⟨2, 13, [.t 4], (tH s54_2)⟩ := by kernel_rfl
theorem v_impl_letterOk (hl : vs.length = 2) (h : wpV Tryd.prog (tH s54_2) (postV [.t 4] RV) (envV vs) M) : VCall Tryd.prog n_impl_letterOk vs M RV :=
  vcall_of_wp (fun _ _ _ hl h => acall_of_wp mixed Tryd.func54 c54 (by kernel_rfl) hl h) hl h
@[go_sem] def l55_0 (_ : Unit) : KL := [kB 4 (.mv (.c (.bool false))) [0, 1]]
@[go_sem] def l55_1 (_ : Unit) : KL := [kA 7 (.mv (.t 0)),
  kA 8 (.len (.t 7)),
  kB 9 (.mv (cI 0)) [0, 1, 7, 8, 9]]
@[go_sem] def l55_2 (_ : Unit) : KL := [kB 10 (.bin .lss (.t 9) (.t 8)) [0, 1, 7, 8, 9, 10]]
@[go_sem] def l55_3 (_ : Unit) : KL := [kA 11 (.mv (.t 9)),
  kA 12 (.iaddr (.t 7) (.t 9) 1),
  kA 13 (.load (.t 12) 1 false),
  kA 5 (.mv (.t 11)),
  kB 6 (.mv (.t 13)) [0, 1, 5, 6, 7, 8, 9]]
@[go_sem] def l55_4 (_ : Unit) : KL := [kA 14 (.mv (.t 6)),
  kA 15 (.mv (.t 1)),
  kA 16 (.bin .sub (.t 15) (cI 1)),
  kA 17 (.call (n_impl_in) [(.t 14), (cI 0), (.t 16)]),
  kB 18 (.un .not (.t 17)) [0, 1, 5, 6, 7, 8, 9, 18],
  kA 19 (.mv (.t 18)),
  (⟨(some 20), .mv (.t 5), (some (19, false))⟩, none),
  (⟨(some 21), .bin .gtr (.t 20) (cI 0), (some (19, false))⟩, none),
  (⟨(some 22), .mv (.t 21), (some (19, false))⟩, none),
  (⟨(some 23), .mv (.t 0), (some (22, true))⟩, (some [0, 1, 5, 6, 7, 8, 9, 19, 22, 23])),
  (⟨(some 24), .mv (.t 5), (some (22, true))⟩, none),
  (⟨(some 25), .bin .sub (.t 24) (cI 1), (some (22, true))⟩, none),
  (⟨(some 26), .iaddr (.t 23) (.t 25) 1, (some (22, true))⟩, none),
  (⟨(some 27), .load (.t 26) 1 false, (some (22, true))⟩, none),
  (⟨(some 28), .mv (.t 6), (some (22, true))⟩, (some [0, 1, 7, 8, 9, 19, 22, 27, 28])),
  (⟨(some 29), .bin .geq (.t 27) (.t 28), (some (22, true))⟩, none),
  (⟨(some 30), .pick (.t 22) (.t 29) (.c (.bool false)), (some (19, false))⟩, none),
  kB 31 (.pick (.t 19) (.c (.bool true)) (.t 30)) [0, 1, 7, 8, 9, 31]]
@[go_sem] def l55_5 (_ : Unit) : KL := [kB 4 (.mv (.c (.bool false))) [4]]
@[go_sem] def s55_6 (_ : Unit) : IR := (sQ [(kT l55_5), .ret])
@[go_sem] def s55_7 (_ : Unit) : IR := (sQ [(kT l55_3), (kT l55_4), (.cond (.t 31) (tH s55_6) .skip)])
@[go_sem] def s55_8 (_ : Unit) : IR := (.block 1 (tH s55_7))
@[go_sem] def l55_9 (_ : Unit) : KL := [kA 32 (.bin .add (.t 9) (cI 1)),
  kB 9 (.mv (.t 32)) [0, 1, 7, 8, 9]]
@[go_sem] def s55_10 (_ : Unit) : IR := (sQ [(kT l55_2), (.cond (.t 10) .skip (.exit 0)), (tH s55_8), (kT l55_9)])
@[go_sem] def s55_11 (_ : Unit) : IR := (.loop (tH s55_10))
@[go_sem] def s55_12 (_ : Unit) : IR := (.block 0 (tH s55_11))
@[go_sem] def s55_13 (_ : Unit) : IR := (sQ [(kT l55_1), (tH s55_12)])
@[go_sem] def l55_14 (_ : Unit) : KL := [kB 4 (.mv (.c (.bool true))) [4]]
@[go_sem] def s55_15 (_ : Unit) : IR := (sQ [(kT l55_0), (tH s55_13), (kT l55_14), .ret])
theorem c55 : compFn Tryd.prog [(0, [], [oS [0, 1]]), (1, [], [oN, oN, oS [0, 1, 7, 8, 9]]), (2, [], [oS [0, 1, 7, 8, 9, 10]]), (3, [], [oN, oN, oN, oN, oS [0, 1, 5, 6, 7, 8, 9]]), (4, [], [oN, oN, oN, oN, oS [0, 1, 5, 6, 7, 8, 9, 18], oN, oN, oN, oN, oS [0, 1, 5, 6, 7, 8, 9, 19, 22, 23], oN, oN, oN, oN, oS [0, 1, 7, 8, 9, 19, 22, 27, 28], oN, oN, oS [0, 1, 7, 8, 9, 31]]), (5, [], [oS [4]]), (6, [], [oN, oS [0, 1, 7, 8, 9]]), (7, [], [oS [4]])] Tryd.f55 = some ⟨2, 33, [.t 4], (tH s55_15)⟩ := by kernel_rfl
theorem v_impl_setOk (hl : vs.length = 2) (h : wpV Tryd.prog (tH s55_15) (postV [.t 4] RV) (envV vs) M) : VCall Tryd.prog n_impl_setOk vs M RV :=
  vcall_of_wp (fun _ _ _ hl h => acall_of_wp mixed Tryd.func55 c55 (by kernel_rfl) hl h) hl h
@[go_sem] def l26_0 (_ : Unit) : KL := [kA 2 (.box (.t 0)),
  kB 4 (.mv (.c (.bool false))) [1, 2]]
@[go_sem] def l26_1 (_ : Unit) : KL := [kA 8 (.faddr (.t 2) 0),
  kA 9 (.load (.t 8) 1 false),
  kA 10 (.len (.t 9)),
  kB 5 (.mv (.t 10)) [1, 2, 5]]
@[go_sem] def l26_2 (_ : Unit) : KL := [kA 11 (.mv (.t 1)),
  kA 12 (.call (n_impl_in) [(.t 11), (cI 0), (.c (.int .i64 4))]),
  kA 13 (.un .not (.t 12)),
  kA 14 (.mv (.t 13)),
  (⟨(some 15), .mv (.t 5), (some (14, false))⟩, (some [1, 2, 5, 14, 15])),
  (⟨(some 16), .call (n_impl_in) [(.t 15), (cI 1), (.c (.int .i64 400))], (some (14, false))⟩, none),
  (⟨(some 17), .un .not (.t 16), (some (14, false))⟩, none),
  kA 18 (.pick (.t 14) (.c (.bool true)) (.t 17)),
  kA 19 (.mv (.t 18)),
  (⟨(some 20), .faddr (.t 2) 1, (some (19, false))⟩, (some [1, 2, 5, 19, 20])),
  (⟨(some 21), .load (.t 20) 1 false, (some (19, false))⟩, none),
  (⟨(some 22), .mv (.t 5), (some (19, false))⟩, none),
  (⟨(some 23), .bin .sub (.t 22) (cI 1), (some (19, false))⟩, none),
  (⟨(some 24), .call (n_impl_in) [(.t 21), (cI 0), (.t 23)], (some (19, false))⟩, none),
  (⟨(some 25), .un .not (.t 24), (some (19, false))⟩, (some [1, 2, 5, 19, 25])),
  kA 26 (.pick (.t 19) (.c (.bool true)) (.t 25)),
  kA 27 (.mv (.t 26)),
  (⟨(some 28), .faddr (.t 2) 2, (some (27, false))⟩, none),
  (⟨(some 29), .load (.t 28) 1 false, (some (27, false))⟩, none),
  (⟨(some 30), .len (.t 29), (some (27, false))⟩, (some [1, 2, 5, 27, 30])),
  (⟨(some 31), .mv (.t 5), (some (27, false))⟩, none),
  (⟨(some 32), .bin .neq (.t 30) (.t 31), (some (27, false))⟩, none),
  kB 33 (.pick (.t 27) (.c (.bool true)) (.t 32)) [1, 2, 5, 33]]
@[go_sem] def l26_3 (_ : Unit) : KL := [kB 4 (.mv (.c (.bool false))) [4]]
@[go_sem] def s26_4 (_ : Unit) : IR := (sQ [(kT l26_3), .ret])
@[go_sem] def s26_5 (_ : Unit) : IR := (sQ [(kT l26_2), (.cond (.t 33) (tH s26_4) .skip)])
@[go_sem] def l26_6 (_ : Unit) : KL := [kA 34 (.faddr (.t 2) 2),
  kA 35 (.load (.t 34) 1 false),
  kA 36 (.len (.t 35)),
  kB 37 (.mv (cI 0)) [1, 2, 5, 35, 36, 37]]
@[go_sem] def l26_7 (_ : Unit) : KL := [kB 38 (.bin .lss (.t 37) (.t 36)) [1, 2, 5, 35, 36, 37, 38]]
@[go_sem] def l26_8 (_ : Unit) : KL := [kA 39 (.mv (.t 37)),
  kA 40 (.iaddr (.t 35) (.t 37) 1),
  kA 41 (.load (.t 40) 1 false),
  kA 6 (.mv (.t 39)),
  kB 7 (.mv (.t 41)) [1, 2, 5, 6, 7, 35, 36, 37]]
@[go_sem] def l26_9 (_ : Unit) : KL := [kA 42 (.faddr (.t 2) 0),
  kA 43 (.load (.t 42) 1 false),
  kA 44 (.mv (.t 6)),
  kA 45 (.iaddr (.t 43) (.t 44) 1),
  kB 46 (.load (.t 45) 1 false) [1, 2, 5, 7, 35, 36, 37, 46],
  kA 47 (.mv (.t 1)),
  kA 48 (.call (n_impl_letterOk) [(.t 46), (.t 47)]),
  kA 49 (.un .not (.t 48)),
  kA 50 (.mv (.t 49)),
  (⟨(some 51), .mv (.t 7), (some (50, false))⟩, (some [1, 2, 5, 7, 35, 36, 37, 50, 51])),
  (⟨(some 52), .len (.t 51), (some (50, false))⟩, none),
  (⟨(some 53), .bin .eql (.t 52) (cI 0), (some (50, false))⟩, none),
  kA 54 (.pick (.t 50) (.c (.bool true)) (.t 53)),
  kA 55 (.mv (.t 54)),
  (⟨(some 56), .mv (.t 7), (some (55, false))⟩, (some [1, 2, 5, 35, 36, 37, 55, 56])),
  (⟨(some 57), .mv (.t 5), (some (55, false))⟩, none),
  (⟨(some 58), .call (n_impl_setOk) [(.t 56), (.t 57)], (some (55, false))⟩, none),
  (⟨(some 59), .un .not (.t 58), (some (55, false))⟩, none),
  kB 60 (.pick (.t 55) (.c (.bool true)) (.t 59)) [1, 2, 5, 35, 36, 37, 60]]
@[go_sem] def l26_10 (_ : Unit) : KL := [kB 4 (.mv (.c (.bool false))) [4]]
@[go_sem] def s26_11 (_ : Unit) : IR := (sQ [(kT l26_10), .ret])
@[go_sem] def s26_12 (_ : Unit) : IR := (sQ [(kT l26_8), (kT l26_9), (.cond (.t 60) (tH s26_11) .skip)])
@[go_sem] def s26_13 (_ : Unit) : IR := (.block 1 (tH s26_12))
@[go_sem] def l26_14 (_ : Unit) : KL := [kA 61 (.bin .add (.t 37) (cI 1)),
  kB 37 (.mv (.t 61)) [1, 2, 5, 35, 36, 37]]
@[go_sem] def s26_15 (_ : Unit) : IR := (sQ [(kT l26_7), (.cond (.t 38) .skip (.exit 0)), (tH s26_13), (kT l26_14)])
@[go_sem] def s26_16 (_ : Unit) : IR := (.loop (tH s26_15))
@[go_sem] def s26_17 (_ : Unit) : IR := (.block 0 (tH s26_16))
@[go_sem] def s26_18 (_ : Unit) : IR := (sQ [(kT l26_6), (tH s26_17)])
@[go_sem] def l26_19 (_ : Unit) : KL := [kB 4 (.mv (.c (.bool true))) [4]]
@[go_sem] def s26_20 (_ : Unit) : IR := (sQ [(kT l26_0), (kT l26_1), (tH s26_5), (tH s26_18), (kT l26_19), .ret])
theorem c26 : compFn Tryd.prog [(0, [], [oN, oS [1, 2]]), (1, [], [oN, oN, oN, oS [1, 2, 5]]), (2, [], [oN, oN, oN, oN, oS [1, 2, 5, 14, 15], oN, oN, oN, oN, oS [1, 2, 5, 19, 20], oN, oN, oN, oN, oS [1, 2, 5, 19, 25], oN, oN, oN, oN, oS [1, 2, 5, 27, 30], oN, oN, oS [1, 2, 5, 33]]), (3, [], [oS [4]]), (4, [], [oN, oN, oN, oS [1, 2, 5, 35, 36, 37]]), (5, [], [oS [1, 2, 5, 35, 36, 37, 38]]), (6, [], [oN, oN, oN, oN, oS [1, 2, 5, 6, 7, 35, 36, 37]]), (7, [], [oN, oN, oN, oN, oS [1, 2, 5, 7, 35, 36, 37, 46], oN, oN, oN, oN, oS [1, 2, 5, 7, 35, 36, 37, 50, 51], oN, oN, oN, oN, oS [1, 2, 5, 35, 36, 37, 55, 56], oN, oN, oN, oS [1, 2, 5, 35, 36, 37, 60]]), (8, [], [oS [4]]), (9, [], [oN, oS [1, 2, 5, 35, 36, 37]]), (10, [], [oS [4]])] Tryd.f26 = some ⟨2, 62, [.t 4], (tH s26_20)⟩ := by kernel_rfl
theorem v_impl_GraphValid (hl : vs.length = 2) (h : wpV Tryd.prog (tH s26_20) (postV [.t 4] RV) (envV vs) M) : VCall Tryd.prog n_impl_GraphValid vs M RV :=
  vcall_of_wp (fun _ _ _ hl h => acall_of_wp mixed Tryd.func26 c26 (by kernel_rfl) hl h) hl h
@[go_sem] def l86_0 (_ : Unit) : KL := [kB 2 (.mv (cI 0)) [0, 2]]
@[go_sem] def l86_1 (_ : Unit) : KL := [kA 3 (.mv (.t 0)),
  kB 4 (.bin .geq (.t 3) (.c (.int .u32 65536))) [0, 2, 4]]
@[go_sem] def l86_2 (_ : Unit) : KL := [kA 5 (.mv (.t 0)),
  kA 6 (.bin .shr (.t 5) (.c (.int .u64 16))),
  kB 0 (.mv (.t 6)) [0]]
@[go_sem] def l86_3 (_ : Unit) : KL := [kB 2 (.mv (.c (.int .i64 16))) [0, 2]]
@[go_sem] def s86_4 (_ : Unit) : IR := (sQ [(kT l86_2), (kT l86_3)])
@[go_sem] def s86_5 (_ : Unit) : IR := (sQ [(kT l86_1), (.cond (.t 4) (tH s86_4) .skip)])
@[go_sem] def l86_6 (_ : Unit) : KL := [kA 7 (.mv (.t 0)),
  kB 8 (.bin .geq (.t 7) (.c (.int .u32 256))) [0, 2, 8]]
@[go_sem] def l86_7 (_ : Unit) : KL := [kA 9 (.mv (.t 0)),
  kA 10 (.bin .shr (.t 9) (.c (.int .u64 8))),
  kB 0 (.mv (.t 10)) [0, 2]]
@[go_sem] def l86_8 (_ : Unit) : KL := [kA 11 (.mv (.t 2)),
  kA 12 (.bin .add (.t 11) (.c (.int .i64 8))),
  kB 2 (.mv (.t 12)) [0, 2]]
@[go_sem] def s86_9 (_ : Unit) : IR := (sQ [(kT l86_7), (kT l86_8)])
@[go_sem] def s86_10 (_ : Unit) : IR := (sQ [(kT l86_6), (.cond (.t 8) (tH s86_9) .skip)])
@[go_sem] def l86_11 (_ : Unit) : KL := [kA 13 (.mv (.t 2)),
  kA 14 (.mv (.t 0)),
  kA 15 (.cvi .u8 (.t 14)),
  kA 16 (.sidx (.c (.str ⟨#[0, 1, 2, 2, 3, 3, 3, 3, 4, 4, 4, 4, 4, 4, 4, 4, 5, 5, 5, 5, 5, 5, 5, 5, 5, 5, 5, 5, 5, 5, 5, 5, 6, 6, 6, 6, 6, 6, 6, 6, 6, 6, 6, 6, 6, 6, 6, 6, 6, 6, 6, 6, 6, 6, 6, 6, 6, 6, 6, 6, 6, 6, 6, 6, 7, 7, 7, 7, 7, 7, 7, 7, 7, 7, 7, 7, 7, 7, 7, 7, 7, 7, 7, 7, 7, 7, 7, 7, 7, 7, 7, 7, 7, 7, 7, 7, 7, 7, 7, 7, 7, 7, 7, 7, 7, 7, 7, 7, 7, 7, 7, 7, 7, 7, 7, 7, 7, 7, 7, 7, 7, 7, 7, 7, 7, 7, 7, 7, 8, 8, 8, 8, 8, 8, 8, 8, 8, 8, 8, 8, 8, 8, 8, 8, 8, 8, 8, 8, 8, 8, 8, 8, 8, 8, 8, 8, 8, 8, 8, 8, 8, 8, 8, 8, 8, 8, 8, 8, 8, 8, 8, 8, 8, 8, 8, 8, 8, 8, 8, 8, 8, 8, 8, 8, 8, 8, 8, 8, 8, 8, 8, 8, 8, 8, 8, 8, 8, 8, 8, 8, 8, 8, 8, 8, 8, 8, 8, 8, 8, 8, 8, 8, 8, 8, 8, 8, 8, 8, 8, 8, 8, 8, 8, 8, 8, 8, 8, 8, 8, 8, 8, 8, 8, 8, 8, 8, 8, 8, 8, 8, 8, 8, 8, 8, 8, 8, 8, 8, 8, 8, 8, 8, 8, 8, 8, 8]⟩)) (.t 15)),
  kB 17 (.cvi .i64 (.t 16)) [13, 17],
  kA 18 (.bin .add (.t 13) (.t 17)),
  kB 2 (.mv (.t 18)) [2]]
@[go_sem] def s86_12 (_ : Unit) : IR := (sQ [(kT l86_0), (tH s86_5), (tH s86_10), (kT l86_11), .ret])
@[go_sem] def l87_0 (_ : Unit) : KL := [kB 2 (.mv (cI 0)) [0, 2]]
@[go_sem] def l87_1 (_ : Unit) : KL := [kA 3 (.mv (.t 0)),
  kB 4 (.bin .geq (.t 3) (.c (.int .u64 4294967296))) [0, 2, 4]]
@[go_sem] def l87_2 (_ : Unit) : KL := [kA 5 (.mv (.t 0)),
  kA 6 (.bin .shr (.t 5) (.c (.int .u64 32))),
  kB 0 (.mv (.t 6)) [0]]
@[go_sem] def l87_3 (_ : Unit) : KL := [kB 2 (.mv (.c (.int .i64 32))) [0, 2]]
@[go_sem] def s87_4 (_ : Unit) : IR := (sQ [(kT l87_2), (kT l87_3)])
@[go_sem] def s87_5 (_ : Unit) : IR := (sQ [(kT l87_1), (.cond (.t 4) (tH s87_4) .skip)])
@[go_sem] def l87_6 (_ : Unit) : KL := [kA 7 (.mv (.t 0)),
  kB 8 (.bin .geq (.t 7) (.c (.int .u64 65536))) [0, 2, 8]]
@[go_sem] def l87_7 (_ : Unit) : KL := [kA 9 (.mv (.t 0)),
  kA 10 (.bin .shr (.t 9) (.c (.int .u64 16))),
  kB 0 (.mv (.t 10)) [0, 2]]
@[go_sem] def l87_8 (_ : Unit) : KL := [kA 11 (.mv (.t 2)),
  kA 12 (.bin .add (.t 11) (.c (.int .i64 16))),
  kB 2 (.mv (.t 12)) [0, 2]]
@[go_sem] def s87_9 (_ : Unit) : IR := (sQ [(kT l87_7), (kT l87_8)])
@[go_sem] def s87_10 (_ : Unit) : IR := (sQ [(kT l87_6), (.cond (.t 8) (tH s87_9) .skip)])
@[go_sem] def l87_11 (_ : Unit) : KL := [kA 13 (.mv (.t 0)),
  kB 14 (.bin .geq (.t 13) (.c (.int .u64 256))) [0, 2, 14]]
@[go_sem] def l87_12 (_ : Unit) : KL := [kA 15 (.mv (.t 0)),
  kA 16 (.bin .shr (.t 15) (.c (.int .u64 8))),
  kB 0 (.mv (.t 16)) [0, 2]]
@[go_sem] def l87_13 (_ : Unit) : KL := [kA 17 (.mv (.t 2)),
  kA 18 (.bin .add (.t 17) (.c (.int .i64 8))),
  kB 2 (.mv (.t 18)) [0, 2]]
@[go_sem] def s87_14 (_ : Unit) : IR := (sQ [(kT l87_12), (kT l87_13)])
@[go_sem] def s87_15 (_ : Unit) : IR := (sQ [(kT l87_11), (.cond (.t 14) (tH s87_14) .skip)])
@[go_sem] def l87_16 (_ : Unit) : KL := [kA 19 (.mv (.t 2)),
  kA 20 (.mv (.t 0)),
  kA 21 (.cvi .u8 (.t 20)),
  kA 22 (.sidx (.c (.str ⟨#[0, 1, 2, 2, 3, 3, 3, 3, 4, 4, 4, 4, 4, 4, 4, 4, 5, 5, 5, 5, 5, 5, 5, 5, 5, 5, 5, 5, 5, 5, 5, 5, 6, 6, 6, 6, 6, 6, 6, 6, 6, 6, 6, 6, 6, 6, 6, 6, 6, 6, 6, 6, 6, 6, 6, 6, 6, 6, 6, 6, 6, 6, 6, 6, 7, 7, 7, 7, 7, 7, 7, 7, 7, 7, 7, 7, 7, 7, 7, 7, 7, 7, 7, 7, 7, 7, 7, 7, 7, 7, 7, 7, 7, 7, 7, 7, 7, 7, 7, 7, 7, 7, 7, 7, 7, 7, 7, 7, 7, 7, 7, 7, 7, 7, 7, 7, 7, 7, 7, 7, 7, 7, 7, 7, 7, 7, 7, 7, 8, 8, 8, 8, 8, 8, 8, 8, 8, 8, 8, 8, 8, 8, 8, 8, 8, 8, 8, 8, 8, 8, 8, 8, 8, 8, 8, 8, 8, 8, 8, 8, 8, 8, 8, 8, 8, 8, 8, 8, 8, 8, 8, 8, 8, 8, 8, 8, 8, 8, 8, 8, 8, 8, 8, 8, 8, 8, 8, 8, 8, 8, 8, 8, 8, 8, 8, 8, 8, 8, 8, 8, 8, 8, 8, 8, 8, 8, 8, 8, 8, 8, 8, 8, 8, 8, 8, 8, 8, 8, 8, 8, 8, 8, 8, 8, 8, 8, 8, 8, 8, 8, 8, 8, 8, 8, 8, 8, 8, 8, 8, 8, 8, 8, 8, 8, 8, 8, 8, 8, 8, 8, 8, 8, 8, 8, 8, 8]⟩)) (.t 21)),
  kB 23 (.cvi .i64 (.t 22)) [19, 23],
  kA 24 (.bin .add (.t 19) (.t 23)),
  kB 2 (.mv (.t 24)) [2]]
@[go_sem] def s87_17 (_ : Unit) : IR := (sQ [(kT l87_0), (tH s87_5), (tH s87_10), (tH s87_15), (kT l87_16), .ret])
@[go_sem] def l71_0 (_ : Unit) : KL := [kB 2 (.mv (cI 0)) [0]]
@[go_sem] def l71_1 (_ : Unit) : KL := [kA 3 (.mv (.t 0)),
  kA 4 (.cvi .u32 (.t 3)),
  kA 5 (.call (n_math_bits_Len32) [(.t 4)]),
  kB 2 (.mv (.t 5)) [2]]
@[go_sem] def s71_2 (_ : Unit) : IR := (sQ [(kT l71_1), .ret])
@[go_sem] def l71_3 (_ : Unit) : KL := [kA 6 (.mv (.t 0)),
  kA 7 (.call (n_math_bits_Len64) [(.t 6)]),
  kB 2 (.mv (.t 7)) [2]]
@[go_sem] def s71_4 (_ : Unit) : IR := (sQ [(kT l71_0), (.cond (.c (.bool false)) (tH s71_2) .skip), (kT l71_3), .ret])
@[go_sem] def l95_0 (_ : Unit) : KL := [kB 2 (.mv (.c (.bool false))) [0]]
@[go_sem] def l95_1 (_ : Unit) : KL := [kA 3 (.mv (.t 0)),
  kA 4 (.mv (.t 0)),
  kA 5 (.bin .neq (.t 3) (.t 4)),
  kB 2 (.mv (.t 5)) [2]]
@[go_sem] def s95_2 (_ : Unit) : IR := (sQ [(kT l95_0), (kT l95_1), .ret])
@[go_sem] def l83_0 (_ : Unit) : KL := [kB 4 (.mv (.c (.bool false))) [0, 1]]
@[go_sem] def l83_1 (_ : Unit) : KL := [kA 5 (.mv (.t 0)),
  kA 6 (.call (n_cmp_isNaN_int) [(.t 5)]),
  kA 7 (.mv (.t 6)),
  (⟨(some 8), .mv (.t 1), (some (7, true))⟩, none),
  (⟨(some 9), .call (n_cmp_isNaN_int) [(.t 8)], (some (7, true))⟩, (some [0, 1, 7, 9])),
  (⟨(some 10), .un .not (.t 9), (some (7, true))⟩, none),
  kA 11 (.pick (.t 7) (.t 10) (.c (.bool false))),
  kA 12 (.mv (.t 11)),
  (⟨(some 13), .mv (.t 0), (some (12, false))⟩, none),
  (⟨(some 14), .mv (.t 1), (some (12, false))⟩, (some [12, 13, 14])),
  (⟨(some 15), .bin .lss (.t 13) (.t 14), (some (12, false))⟩, none),
  kA 16 (.pick (.t 12) (.c (.bool true)) (.t 15)),
  kB 4 (.mv (.t 16)) [4]]
@[go_sem] def s83_2 (_ : Unit) : IR := (sQ [(kT l83_0), (kT l83_1), .ret])
@[go_sem] def l77_0 (_ : Unit) : KL := [kA 8 (.mv (.t 1)),
  kA 9 (.bin .add (.t 8) (cI 1)),
  kB 6 (.mv (.t 9)) [0, 1, 2, 6]]
@[go_sem] def l77_1 (_ : Unit) : KL := [kA 10 (.mv (.t 6)),
  kA 11 (.mv (.t 2)),
  kB 12 (.bin .lss (.t 10) (.t 11)) [0, 1, 2, 6, 12]]
@[go_sem] def s77_2 (_ : Unit) : IR := (sQ [(kT l77_1), (.cond (.t 12) .skip (.exit 0))])
@[go_sem] def l77_3 (_ : Unit) : KL := [kA 15 (.mv (.t 6)),
  kB 7 (.mv (.t 15)) [0, 1, 2, 6, 7]]
@[go_sem] def l77_4 : Nat → GOp
  | 0 => ⟨(some 16), .mv (.t 7), none⟩
  | 1 => ⟨(some 17), .mv (.t 1), none⟩
  | 2 => ⟨(some 18), .bin .gtr (.t 16) (.t 17), none⟩
  | 3 => ⟨(some 19), .mv (.t 18), none⟩
  | 4 => ⟨(some 20), .mv (.t 0), (some (19, true))⟩
  | 5 => ⟨(some 21), .mv (.t 7), (some (19, true))⟩
  | 6 => ⟨(some 22), .iaddr (.t 20) (.t 21) 1, (some (19, true))⟩
  | 7 => ⟨(some 23), .load (.t 22) 1 false, (some (19, true))⟩
  | 8 => ⟨(some 24), .mv (.t 0), (some (19, true))⟩
  | 9 => ⟨(some 25), .mv (.t 7), (some (19, true))⟩
  | 10 => ⟨(some 26), .bin .sub (.t 25) (cI 1), (some (19, true))⟩
  | 11 => ⟨(some 27), .iaddr (.t 24) (.t 26) 1, (some (19, true))⟩
  | 12 => ⟨(some 28), .load (.t 27) 1 false, (some (19, true))⟩
  | 13 => ⟨(some 29), .call (n_cmp_Less_int) [(.t 23), (.t 28)], (some (19, true))⟩
  | 14 => ⟨(some 30), .pick (.t 19) (.t 29) (.c (.bool false)), none⟩
  | _ => ⟨none, .mkmap, none⟩
@[go_sem] def s77_5 (_ : Unit) : IR := (sQ [(.kd (oF l77_4 15) [(0, []), (1, []), (2, []), (3, []), (4, []), (5, []), (6, []), (7, []), (8, []), (9, []), (10, []), (11, []), (12, []), (13, []), (14, [])] [0, 1, 2, 6, 7, 30]), (.cond (.t 30) .skip (.exit 2))])
@[go_sem] def l77_6 : Nat → GOp
  | 0 => ⟨(some 33), .mv (.t 0), none⟩
  | 1 => ⟨(some 34), .mv (.t 7), none⟩
  | 2 => ⟨(some 35), .mv (.t 0), none⟩
  | 3 => ⟨(some 36), .mv (.t 7), none⟩
  | 4 => ⟨(some 37), .bin .sub (.t 36) (cI 1), none⟩
  | 5 => ⟨(some 38), .mv (.t 0), none⟩
  | 6 => ⟨(some 39), .mv (.t 7), none⟩
  | 7 => ⟨(some 40), .bin .sub (.t 39) (cI 1), none⟩
  | 8 => ⟨(some 41), .iaddr (.t 38) (.t 40) 1, none⟩
  | 9 => ⟨(some 42), .load (.t 41) 1 false, none⟩
  | 10 => ⟨(some 43), .mv (.t 0), none⟩
  | 11 => ⟨(some 44), .mv (.t 7), none⟩
  | 12 => ⟨(some 45), .iaddr (.t 43) (.t 44) 1, none⟩
  | 13 => ⟨(some 46), .load (.t 45) 1 false, none⟩
  | 14 => ⟨(some 47), .iaddr (.t 33) (.t 34) 1, none⟩
  | 15 => ⟨none, .store (.t 47) 1 (.t 42), none⟩
  | 16 => ⟨(some 48), .iaddr (.t 35) (.t 37) 1, none⟩
  | 17 => ⟨none, .store (.t 48) 1 (.t 46), none⟩
  | _ => ⟨none, .mkmap, none⟩
@[go_sem] def s77_7 (_ : Unit) : IR := (.block 3 (.kd (oF l77_6 18) [(0, []), (1, []), (2, []), (3, []), (4, []), (5, []), (6, []), (7, []), (8, []), (9, []), (10, []), (11, []), (12, []), (13, []), (14, []), (15, []), (16, []), (17, [])] [0, 1, 2, 6, 7]))
@[go_sem] def l77_8 (_ : Unit) : KL := [kA 31 (.mv (.t 7)),
  kA 32 (.bin .sub (.t 31) (cI 1)),
  kB 7 (.mv (.t 32)) [0, 1, 2, 6, 7]]
@[go_sem] def s77_9 (_ : Unit) : IR := (sQ [(tH s77_5), (tH s77_7), (kT l77_8)])
@[go_sem] def s77_10 (_ : Unit) : IR := (.loop (tH s77_9))
@[go_sem] def s77_11 (_ : Unit) : IR := (.block 2 (tH s77_10))
@[go_sem] def s77_12 (_ : Unit) : IR := (sQ [(kT l77_3), (tH s77_11)])
@[go_sem] def s77_13 (_ : Unit) : IR := (.block 1 (tH s77_12))
@[go_sem] def l77_14 (_ : Unit) : KL := [kA 13 (.mv (.t 6)),
  kA 14 (.bin .add (.t 13) (cI 1)),
  kB 6 (.mv (.t 14)) [0, 1, 2, 6]]
@[go_sem] def s77_15 (_ : Unit) : IR := (sQ [(tH s77_2), (tH s77_13), (kT l77_14)])
@[go_sem] def s77_16 (_ : Unit) : IR := (.loop (tH s77_15))
@[go_sem] def s77_17 (_ : Unit) : IR := (.block 0 (tH s77_16))
@[go_sem] def s77_18 (_ : Unit) : IR := (sQ [(kT l77_0), (tH s77_17)])
@[go_sem] def l90_0 (_ : Unit) : KL := [kA 10 (.mv (.t 1)),
  kB 8 (.mv (.t 10)) [0, 2, 3, 8]]
@[go_sem] def l90_1 (_ : Unit) : KL := [kA 11 (.mv (.t 8)),
  kA 12 (.bin .mul (.c (.int .i64 2)) (.t 11)),
  kA 13 (.bin .add (.t 12) (cI 1)),
  kB 9 (.mv (.t 13)) [0, 2, 3, 8, 9]]
@[go_sem] def l90_2 (_ : Unit) : KL := [kA 14 (.mv (.t 9)),
  kA 15 (.mv (.t 2)),
  kB 16 (.bin .geq (.t 14) (.t 15)) [0, 2, 3, 8, 9, 16]]
@[go_sem] def s90_3 (_ : Unit) : IR := (sQ [(kT l90_2), (.cond (.t 16) (.exit 0) .skip)])
@[go_sem] def l90_4 : Nat → GOp
  | 0 => ⟨(some 17), .mv (.t 9), none⟩
  | 1 => ⟨(some 18), .bin .add (.t 17) (cI 1), none⟩
  | 2 => ⟨(some 19), .mv (.t 2), none⟩
  | 3 => ⟨(some 20), .bin .lss (.t 18) (.t 19), none⟩
  | 4 => ⟨(some 21), .mv (.t 20), none⟩
  | 5 => ⟨(some 22), .mv (.t 0), (some (21, true))⟩
  | 6 => ⟨(some 23), .mv (.t 3), (some (21, true))⟩
  | 7 => ⟨(some 24), .mv (.t 9), (some (21, true))⟩
  | 8 => ⟨(some 25), .bin .add (.t 23) (.t 24), (some (21, true))⟩
  | 9 => ⟨(some 26), .iaddr (.t 22) (.t 25) 1, (some (21, true))⟩
  | 10 => ⟨(some 27), .load (.t 26) 1 false, (some (21, true))⟩
  | 11 => ⟨(some 28), .mv (.t 0), (some (21, true))⟩
  | 12 => ⟨(some 29), .mv (.t 3), (some (21, true))⟩
  | 13 => ⟨(some 30), .mv (.t 9), (some (21, true))⟩
  | 14 => ⟨(some 31), .bin .add (.t 29) (.t 30), (some (21, true))⟩
  | 15 => ⟨(some 32), .bin .add (.t 31) (cI 1), (some (21, true))⟩
  | 16 => ⟨(some 33), .iaddr (.t 28) (.t 32) 1, (some (21, true))⟩
  | 17 => ⟨(some 34), .load (.t 33) 1 false, (some (21, true))⟩
  | 18 => ⟨(some 35), .call (n_cmp_Less_int) [(.t 27), (.t 34)], (some (21, true))⟩
  | 19 => ⟨(some 36), .pick (.t 21) (.t 35) (.c (.bool false)), none⟩
  | _ => ⟨none, .mkmap, none⟩
@[go_sem] def l90_5 (_ : Unit) : KL := [kA 37 (.mv (.t 9)),
  kA 38 (.bin .add (.t 37) (cI 1)),
  kB 9 (.mv (.t 38)) [0, 2, 3, 8, 9]]
@[go_sem] def s90_6 (_ : Unit) : IR := (sQ [(.kd (oF l90_4 20) [(0, []), (1, []), (2, []), (3, []), (4, []), (5, []), (6, []), (7, []), (8, []), (9, []), (10, []), (11, []), (12, []), (13, []), (14, []), (15, []), (16, []), (17, []), (18, []), (19, [])] [0, 2, 3, 8, 9, 36]), (.cond (.t 36) (kT l90_5) .skip)])
@[go_sem] def l90_7 : Nat → GOp
  | 0 => ⟨(some 39), .mv (.t 0), none⟩
  | 1 => ⟨(some 40), .mv (.t 3), none⟩
  | 2 => ⟨(some 41), .mv (.t 8), none⟩
  | 3 => ⟨(some 42), .bin .add (.t 40) (.t 41), none⟩
  | 4 => ⟨(some 43), .iaddr (.t 39) (.t 42) 1, none⟩
  | 5 => ⟨(some 44), .load (.t 43) 1 false, none⟩
  | 6 => ⟨(some 45), .mv (.t 0), none⟩
  | 7 => ⟨(some 46), .mv (.t 3), none⟩
  | 8 => ⟨(some 47), .mv (.t 9), none⟩
  | 9 => ⟨(some 48), .bin .add (.t 46) (.t 47), none⟩
  | 10 => ⟨(some 49), .iaddr (.t 45) (.t 48) 1, none⟩
  | 11 => ⟨(some 50), .load (.t 49) 1 false, none⟩
  | 12 => ⟨(some 51), .call (n_cmp_Less_int) [(.t 44), (.t 50)], none⟩
  | 13 => ⟨(some 52), .un .not (.t 51), none⟩
  | _ => ⟨none, .mkmap, none⟩
@[go_sem] def s90_8 (_ : Unit) : IR := (sQ [(.kd (oF l90_7 14) [(0, []), (1, []), (2, []), (3, []), (4, []), (5, []), (6, []), (7, []), (8, []), (9, []), (10, []), (11, []), (12, []), (13, [])] [0, 2, 3, 8, 9, 52]), (.cond (.t 52) .ret .skip)])
@[go_sem] def l90_9 : Nat → GOp
  | 0 => ⟨(some 53), .mv (.t 0), none⟩
  | 1 => ⟨(some 54), .mv (.t 3), none⟩
  | 2 => ⟨(some 55), .mv (.t 8), none⟩
  | 3 => ⟨(some 56), .bin .add (.t 54) (.t 55), none⟩
  | 4 => ⟨(some 57), .mv (.t 0), none⟩
  | 5 => ⟨(some 58), .mv (.t 3), none⟩
  | 6 => ⟨(some 59), .mv (.t 9), none⟩
  | 7 => ⟨(some 60), .bin .add (.t 58) (.t 59), none⟩
  | 8 => ⟨(some 61), .mv (.t 0), none⟩
  | 9 => ⟨(some 62), .mv (.t 3), none⟩
  | 10 => ⟨(some 63), .mv (.t 9), none⟩
  | 11 => ⟨(some 64), .bin .add (.t 62) (.t 63), none⟩
  | 12 => ⟨(some 65), .iaddr (.t 61) (.t 64) 1, none⟩
  | 13 => ⟨(some 66), .load (.t 65) 1 false, none⟩
  | 14 => ⟨(some 67), .mv (.t 0), none⟩
  | 15 => ⟨(some 68), .mv (.t 3), none⟩
  | 16 => ⟨(some 69), .mv (.t 8), none⟩
  | 17 => ⟨(some 70), .bin .add (.t 68) (.t 69), none⟩
  | 18 => ⟨(some 71), .iaddr (.t 67) (.t 70) 1, none⟩
  | 19 => ⟨(some 72), .load (.t 71) 1 false, none⟩
  | 20 => ⟨(some 73), .iaddr (.t 53) (.t 56) 1, none⟩
  | 21 => ⟨none, .store (.t 73) 1 (.t 66), none⟩
  | 22 => ⟨(some 74), .iaddr (.t 57) (.t 60) 1, none⟩
  | 23 => ⟨none, .store (.t 74) 1 (.t 72), none⟩
  | _ => ⟨none, .mkmap, none⟩
@[go_sem] def l90_10 (_ : Unit) : KL := [kA 75 (.mv (.t 9)),
  kB 8 (.mv (.t 75)) [0, 2, 3, 8]]
@[go_sem] def s90_11 (_ : Unit) : IR := (sQ [(kT l90_1), (tH s90_3), (tH s90_6), (tH s90_8), (.kd (oF l90_9 24) [(0, []), (1, []), (2, []), (3, []), (4, []), (5, []), (6, []), (7, []), (8, []), (9, []), (10, []), (11, []), (12, []), (13, []), (14, []), (15, []), (16, []), (17, []), (18, []), (19, []), (20, []), (21, []), (22, []), (23, [])] [0, 2, 3, 9]), (kT l90_10)])
@[go_sem] def s90_12 (_ : Unit) : IR := (.block 1 (tH s90_11))
@[go_sem] def s90_13 (_ : Unit) : IR := (.loop (tH s90_12))
@[go_sem] def s90_14 (_ : Unit) : IR := (.block 0 (tH s90_13))
@[go_sem] def s90_15 (_ : Unit) : IR := (sQ [(kT l90_0), (tH s90_14)])
@[go_sem] def l78_0 (_ : Unit) : KL := [kA 11 (.mv (.t 1)),
  kB 6 (.mv (.t 11)) [0, 1, 2, 6]]
@[go_sem] def l78_1 (_ : Unit) : KL := [kB 7 (.mv (cI 0)) [0, 1, 2, 6, 7]]
@[go_sem] def l78_2 (_ : Unit) : KL := [kA 12 (.mv (.t 2)),
  kA 13 (.mv (.t 1)),
  kA 14 (.bin .sub (.t 12) (.t 13)),
  kB 8 (.mv (.t 14)) [0, 6, 7, 8]]
@[go_sem] def l78_3 (_ : Unit) : KL := [kA 15 (.mv (.t 8)),
  kA 16 (.bin .sub (.t 15) (cI 1)),
  kA 17 (.bin .quo (.t 16) (.c (.int .i64 2))),
  kB 9 (.mv (.t 17)) [0, 6, 7, 8, 9]]
@[go_sem] def l78_4 (_ : Unit) : KL := [kA 18 (.mv (.t 9)),
  kB 19 (.bin .geq (.t 18) (cI 0)) [0, 6, 7, 8, 9, 19]]
@[go_sem] def s78_5 (_ : Unit) : IR := (sQ [(kT l78_4), (.cond (.t 19) .skip (.exit 0))])
@[go_sem] def l78_6 (_ : Unit) : KL := [kA 22 (.mv (.t 0)),
  kA 23 (.mv (.t 9)),
  kA 24 (.mv (.t 8)),
  kA 25 (.mv (.t 6)),
  kB 26 (.call (n_slices_siftDownOrdered_int) [(.t 22), (.t 23), (.t 24), (.t 25)]) [0, 6, 7, 8, 9]]
@[go_sem] def s78_7 (_ : Unit) : IR := (.block 1 (kT l78_6))
@[go_sem] def l78_8 (_ : Unit) : KL := [kA 20 (.mv (.t 9)),
  kA 21 (.bin .sub (.t 20) (cI 1)),
  kB 9 (.mv (.t 21)) [0, 6, 7, 8, 9]]
@[go_sem] def s78_9 (_ : Unit) : IR := (sQ [(tH s78_5), (tH s78_7), (kT l78_8)])
@[go_sem] def s78_10 (_ : Unit) : IR := (.loop (tH s78_9))
@[go_sem] def s78_11 (_ : Unit) : IR := (.block 0 (tH s78_10))
@[go_sem] def s78_12 (_ : Unit) : IR := (sQ [(kT l78_3), (tH s78_11)])
@[go_sem] def l78_13 (_ : Unit) : KL := [kA 27 (.mv (.t 8)),
  kA 28 (.bin .sub (.t 27) (cI 1)),
  kB 10 (.mv (.t 28)) [0, 6, 7, 10]]
@[go_sem] def l78_14 (_ : Unit) : KL := [kA 29 (.mv (.t 10)),
  kB 30 (.bin .geq (.t 29) (cI 0)) [0, 6, 7, 10, 30]]
@[go_sem] def s78_15 (_ : Unit) : IR := (sQ [(kT l78_14), (.cond (.t 30) .skip (.exit 2))])
@[go_sem] def l78_16 : Nat → GOp
  | 0 => ⟨(some 33), .mv (.t 0), none⟩
  | 1 => ⟨(some 34), .mv (.t 6), none⟩
  | 2 => ⟨(some 35), .mv (.t 0), none⟩
  | 3 => ⟨(some 36), .mv (.t 6), none⟩
  | 4 => ⟨(some 37), .mv (.t 10), none⟩
  | 5 => ⟨(some 38), .bin .add (.t 36) (.t 37), none⟩
  | 6 => ⟨(some 39), .mv (.t 0), none⟩
  | 7 => ⟨(some 40), .mv (.t 6), none⟩
  | 8 => ⟨(some 41), .mv (.t 10), none⟩
  | 9 => ⟨(some 42), .bin .add (.t 40) (.t 41), none⟩
  | 10 => ⟨(some 43), .iaddr (.t 39) (.t 42) 1, none⟩
  | 11 => ⟨(some 44), .load (.t 43) 1 false, none⟩
  | 12 => ⟨(some 45), .mv (.t 0), none⟩
  | 13 => ⟨(some 46), .mv (.t 6), none⟩
  | 14 => ⟨(some 47), .iaddr (.t 45) (.t 46) 1, none⟩
  | 15 => ⟨(some 48), .load (.t 47) 1 false, none⟩
  | 16 => ⟨(some 49), .iaddr (.t 33) (.t 34) 1, none⟩
  | 17 => ⟨none, .store (.t 49) 1 (.t 44), none⟩
  | 18 => ⟨(some 50), .iaddr (.t 35) (.t 38) 1, none⟩
  | 19 => ⟨none, .store (.t 50) 1 (.t 48), none⟩
  | _ => ⟨none, .mkmap, none⟩
@[go_sem] def l78_17 (_ : Unit) : KL := [kA 51 (.mv (.t 0)),
  kA 52 (.mv (.t 7)),
  kA 53 (.mv (.t 10)),
  kA 54 (.mv (.t 6)),
  kB 55 (.call (n_slices_siftDownOrdered_int) [(.t 51), (.t 52), (.t 53), (.t 54)]) [0, 6, 7, 10]]
@[go_sem] def s78_18 (_ : Unit) : IR := (sQ [(.kd (oF l78_16 20) [(0, []), (1, []), (2, []), (3, []), (4, []), (5, []), (6, []), (7, []), (8, []), (9, []), (10, []), (11, []), (12, []), (13, []), (14, []), (15, []), (16, []), (17, []), (18, []), (19, [])] [0, 6, 7, 10]), (kT l78_17)])
@[go_sem] def s78_19 (_ : Unit) : IR := (.block 3 (tH s78_18))
@[go_sem] def l78_20 (_ : Unit) : KL := [kA 31 (.mv (.t 10)),
  kA 32 (.bin .sub (.t 31) (cI 1)),
  kB 10 (.mv (.t 32)) [0, 6, 7, 10]]
@[go_sem] def s78_21 (_ : Unit) : IR := (sQ [(tH s78_15), (tH s78_19), (kT l78_20)])
@[go_sem] def s78_22 (_ : Unit) : IR := (.loop (tH s78_21))
@[go_sem] def s78_23 (_ : Unit) : IR := (.block 2 (tH s78_22))
@[go_sem] def s78_24 (_ : Unit) : IR := (sQ [(kT l78_0), (kT l78_1), (kT l78_2), (tH s78_12), (kT l78_13), (tH s78_23)])
@[go_sem] def l91_0 (_ : Unit) : KL := [kB 2 (.mv (.c (.int .u64 0))) [0]]
@[go_sem] def l91_1 (_ : Unit) : KL := [kA 3 (.mv (.t 0)),
  kA 4 (.cvi .u64 (.t 3)),
  kA 5 (.call (n_math_bits_Len) [(.t 4)]),
  kA 6 (.bin .shl (.c (.int .u64 1)) (.t 5)),
  kB 2 (.mv (.t 6)) [2]]
@[go_sem] def s91_2 (_ : Unit) : IR := (sQ [(kT l91_0), (kT l91_1), .ret])
@[go_sem] def l92_0 (_ : Unit) : KL := [kB 2 (.mv (.c (.int .u64 0))) [0]]
@[go_sem] def l92_1 : Nat → GOp
  | 0 => ⟨(some 3), .mv (.t 0), none⟩
  | 1 => ⟨(some 4), .nilck (.t 3), none⟩
  | 2 => ⟨(some 5), .load (.t 4) 1 false, none⟩
  | 3 => ⟨(some 6), .mv (.t 0), none⟩
  | 4 => ⟨(some 7), .nilck (.t 6), none⟩
  | 5 => ⟨(some 8), .load (.t 7) 1 false, none⟩
  | 6 => ⟨(some 9), .bin .shl (.t 8) (.c (.int .u64 13)), none⟩
  | 7 => ⟨(some 10), .bin .xor (.t 5) (.t 9), none⟩
  | 8 => ⟨(some 11), .nilck (.t 3), none⟩
  | 9 => ⟨none, .store (.t 11) 1 (.t 10), none⟩
  | _ => ⟨none, .mkmap, none⟩
@[go_sem] def l92_2 : Nat → GOp
  | 0 => ⟨(some 12), .mv (.t 0), none⟩
  | 1 => ⟨(some 13), .nilck (.t 12), none⟩
  | 2 => ⟨(some 14), .load (.t 13) 1 false, none⟩
  | 3 => ⟨(some 15), .mv (.t 0), none⟩
  | 4 => ⟨(some 16), .nilck (.t 15), none⟩
  | 5 => ⟨(some 17), .load (.t 16) 1 false, none⟩
  | 6 => ⟨(some 18), .bin .shr (.t 17) (.c (.int .u64 7)), none⟩
  | 7 => ⟨(some 19), .bin .xor (.t 14) (.t 18), none⟩
  | 8 => ⟨(some 20), .nilck (.t 12), none⟩
  | 9 => ⟨none, .store (.t 20) 1 (.t 19), none⟩
  | _ => ⟨none, .mkmap, none⟩
@[go_sem] def l92_3 : Nat → GOp
  | 0 => ⟨(some 21), .mv (.t 0), none⟩
  | 1 => ⟨(some 22), .nilck (.t 21), none⟩
  | 2 => ⟨(some 23), .load (.t 22) 1 false, none⟩
  | 3 => ⟨(some 24), .mv (.t 0), none⟩
  | 4 => ⟨(some 25), .nilck (.t 24), none⟩
  | 5 => ⟨(some 26), .load (.t 25) 1 false, none⟩
  | 6 => ⟨(some 27), .bin .shl (.t 26) (.c (.int .u64 17)), none⟩
  | 7 => ⟨(some 28), .bin .xor (.t 23) (.t 27), none⟩
  | 8 => ⟨(some 29), .nilck (.t 21), none⟩
  | 9 => ⟨none, .store (.t 29) 1 (.t 28), none⟩
  | _ => ⟨none, .mkmap, none⟩
@[go_sem] def l92_4 (_ : Unit) : KL := [kA 30 (.mv (.t 0)),
  kA 31 (.nilck (.t 30)),
  kA 32 (.load (.t 31) 1 false),
  kB 2 (.mv (.t 32)) [2]]
@[go_sem] def s92_5 (_ : Unit) : IR := (sQ [(kT l92_0), (.kd (oF l92_1 10) [(0, []), (1, []), (2, []), (3, []), (4, []), (5, []), (6, []), (7, []), (8, []), (9, [])] [0]), (.kd (oF l92_2 10) [(0, []), (1, []), (2, []), (3, []), (4, []), (5, []), (6, []), (7, []), (8, []), (9, [])] [0]), (.kd (oF l92_3 10) [(0, []), (1, []), (2, []), (3, []), (4, []), (5, []), (6, []), (7, []), (8, []), (9, [])] [0]), (kT l92_4), .ret])
@[go_sem] def l79_0 (_ : Unit) : KL := [kA 11 (.mv (.t 2)),
  kA 12 (.mv (.t 1)),
  kA 13 (.bin .sub (.t 11) (.t 12)),
  kB 6 (.mv (.t 13)) [0, 1, 6]]
@[go_sem] def l79_1 (_ : Unit) : KL := [kA 14 (.mv (.t 6)),
  kB 15 (.bin .geq (.t 14) (.c (.int .i64 8))) [0, 1, 6, 15]]
@[go_sem] def l79_2 (_ : Unit) : KL := [kA 16 (.mv (.t 6)),
  kA 17 (.cvi .u64 (.t 16)),
  kA 7 (.alloc [(.int .u64 0)]),
  (⟨none, .store (.t 7) 1 (.t 17), none⟩, (some [0, 1, 6, 7]))]
@[go_sem] def l79_3 (_ : Unit) : KL := [kA 18 (.mv (.t 6)),
  kA 19 (.call (n_slices_nextPowerOfTwo) [(.t 18)]),
  kB 8 (.mv (.t 19)) [0, 1, 6, 7, 8]]
@[go_sem] def l79_4 (_ : Unit) : KL := [kA 20 (.mv (.t 1)),
  kA 21 (.mv (.t 6)),
  kA 22 (.bin .quo (.t 21) (.c (.int .i64 4))),
  kA 23 (.bin .mul (.t 22) (.c (.int .i64 2))),
  kB 24 (.bin .add (.t 20) (.t 23)) [0, 1, 6, 7, 8, 24],
  kA 25 (.bin .sub (.t 24) (cI 1)),
  kB 9 (.mv (.t 25)) [0, 1, 6, 7, 8, 9]]
@[go_sem] def l79_5 (_ : Unit) : KL := [kA 26 (.mv (.t 9)),
  kA 27 (.mv (.t 1)),
  kA 28 (.mv (.t 6)),
  kA 29 (.bin .quo (.t 28) (.c (.int .i64 4))),
  kB 30 (.bin .mul (.t 29) (.c (.int .i64 2))) [0, 1, 6, 7, 8, 9, 26, 27, 30],
  kA 31 (.bin .add (.t 27) (.t 30)),
  kA 32 (.bin .add (.t 31) (cI 1)),
  kB 33 (.bin .leq (.t 26) (.t 32)) [0, 1, 6, 7, 8, 9, 33]]
@[go_sem] def s79_6 (_ : Unit) : IR := (sQ [(kT l79_5), (.cond (.t 33) .skip (.exit 0))])
@[go_sem] def l79_7 (_ : Unit) : KL := [kA 36 (.call (n_slices_xorshift_Next) [(.t 7)]),
  kA 37 (.mv (.t 8)),
  kA 38 (.bin .sub (.t 37) (.c (.int .u64 1))),
  kA 39 (.bin .and (.t 36) (.t 38)),
  kB 40 (.cvi .i64 (.t 39)) [0, 1, 6, 7, 8, 9, 40],
  kB 10 (.mv (.t 40)) [0, 1, 6, 7, 8, 9, 10]]
@[go_sem] def l79_8 (_ : Unit) : KL := [kA 41 (.mv (.t 10)),
  kA 42 (.mv (.t 6)),
  kB 43 (.bin .geq (.t 41) (.t 42)) [0, 1, 6, 7, 8, 9, 10, 43]]
@[go_sem] def l79_9 (_ : Unit) : KL := [kA 44 (.mv (.t 10)),
  kA 45 (.mv (.t 6)),
  kA 46 (.bin .sub (.t 44) (.t 45)),
  kB 10 (.mv (.t 46)) [0, 1, 6, 7, 8, 9, 10]]
@[go_sem] def s79_10 (_ : Unit) : IR := (sQ [(kT l79_8), (.cond (.t 43) (kT l79_9) .skip)])
@[go_sem] def l79_11 : Nat → GOp
  | 0 => ⟨(some 47), .mv (.t 0), none⟩
  | 1 => ⟨(some 48), .mv (.t 9), none⟩
  | 2 => ⟨(some 49), .mv (.t 0), none⟩
  | 3 => ⟨(some 50), .mv (.t 1), none⟩
  | 4 => ⟨(some 51), .mv (.t 10), none⟩
  | 5 => ⟨(some 52), .bin .add (.t 50) (.t 51), none⟩
  | 6 => ⟨(some 53), .mv (.t 0), none⟩
  | 7 => ⟨(some 54), .mv (.t 1), none⟩
  | 8 => ⟨(some 55), .mv (.t 10), none⟩
  | 9 => ⟨(some 56), .bin .add (.t 54) (.t 55), none⟩
  | 10 => ⟨(some 57), .iaddr (.t 53) (.t 56) 1, none⟩
  | 11 => ⟨(some 58), .load (.t 57) 1 false, none⟩
  | 12 => ⟨(some 59), .mv (.t 0), none⟩
  | 13 => ⟨(some 60), .mv (.t 9), none⟩
  | 14 => ⟨(some 61), .iaddr (.t 59) (.t 60) 1, none⟩
  | 15 => ⟨(some 62), .load (.t 61) 1 false, none⟩
  | 16 => ⟨(some 63), .iaddr (.t 47) (.t 48) 1, none⟩
  | 17 => ⟨none, .store (.t 63) 1 (.t 58), none⟩
  | 18 => ⟨(some 64), .iaddr (.t 49) (.t 52) 1, none⟩
  | 19 => ⟨none, .store (.t 64) 1 (.t 62), none⟩
  | _ => ⟨none, .mkmap, none⟩
@[go_sem] def s79_12 (_ : Unit) : IR := (sQ [(kT l79_7), (tH s79_10), (.kd (oF l79_11 20) [(0, []), (1, []), (2, []), (3, []), (4, []), (5, []), (6, []), (7, []), (8, []), (9, []), (10, []), (11, []), (12, []), (13, []), (14, []), (15, []), (16, []), (17, []), (18, []), (19, [])] [0, 1, 6, 7, 8, 9])])
@[go_sem] def s79_13 (_ : Unit) : IR := (.block 1 (tH s79_12))
@[go_sem] def l79_14 (_ : Unit) : KL := [kA 34 (.mv (.t 9)),
  kA 35 (.bin .add (.t 34) (cI 1)),
  kB 9 (.mv (.t 35)) [0, 1, 6, 7, 8, 9]]
@[go_sem] def s79_15 (_ : Unit) : IR := (sQ [(tH s79_6), (tH s79_13), (kT l79_14)])
@[go_sem] def s79_16 (_ : Unit) : IR := (.loop (tH s79_15))
@[go_sem] def s79_17 (_ : Unit) : IR := (.block 0 (tH s79_16))
@[go_sem] def s79_18 (_ : Unit) : IR := (sQ [(kT l79_2), (kT l79_3), (kT l79_4), (tH s79_17)])
@[go_sem] def s79_19 (_ : Unit) : IR := (sQ [(kT l79_0), (kT l79_1), (.cond (.t 15) (tH s79_18) .skip)])
@[go_sem] def l100_0 (_ : Unit) : KL := [kA 8 (.mv (cI 0)),
  kB 9 (.mv (cI 0)) [0, 1, 2, 3]]
@[go_sem] def l100_1 : Nat → GOp
  | 0 => ⟨(some 10), .mv (.t 0), none⟩
  | 1 => ⟨(some 11), .mv (.t 2), none⟩
  | 2 => ⟨(some 12), .iaddr (.t 10) (.t 11) 1, none⟩
  | 3 => ⟨(some 13), .load (.t 12) 1 false, none⟩
  | 4 => ⟨(some 14), .mv (.t 0), none⟩
  | 5 => ⟨(some 15), .mv (.t 1), none⟩
  | 6 => ⟨(some 16), .iaddr (.t 14) (.t 15) 1, none⟩
  | 7 => ⟨(some 17), .load (.t 16) 1 false, none⟩
  | 8 => ⟨(some 18), .call (n_cmp_Less_int) [(.t 13), (.t 17)], none⟩
  | _ => ⟨none, .mkmap, none⟩
@[go_sem] def l100_2 (_ : Unit) : KL := [kA 19 (.mv (.t 3)),
  kA 20 (.nilck (.t 19)),
  kA 21 (.load (.t 20) 1 false),
  kA 22 (.bin .add (.t 21) (cI 1)),
  kB 23 (.nilck (.t 19)) [1, 2, 22, 23],
  (⟨none, .store (.t 23) 1 (.t 22), none⟩, (some [1, 2]))]
@[go_sem] def l100_3 (_ : Unit) : KL := [kA 24 (.mv (.t 2)),
  kA 25 (.mv (.t 1)),
  kA 8 (.mv (.t 24)),
  kB 9 (.mv (.t 25)) [8, 9]]
@[go_sem] def s100_4 (_ : Unit) : IR := (sQ [(kT l100_2), (kT l100_3), .ret])
@[go_sem] def s100_5 (_ : Unit) : IR := (sQ [(.kd (oF l100_1 9) [(0, []), (1, []), (2, []), (3, []), (4, []), (5, []), (6, []), (7, []), (8, [])] [1, 2, 3, 18]), (.cond (.t 18) (tH s100_4) .skip)])
@[go_sem] def l100_6 (_ : Unit) : KL := [kA 26 (.mv (.t 1)),
  kA 27 (.mv (.t 2)),
  kA 8 (.mv (.t 26)),
  kB 9 (.mv (.t 27)) [8, 9]]
@[go_sem] def s100_7 (_ : Unit) : IR := (sQ [(kT l100_0), (tH s100_5), (kT l100_6), .ret])
@[go_sem] def l94_0 (_ : Unit) : KL := [kB 10 (.mv (cI 0)) [0, 1, 2, 3, 4]]
@[go_sem] def l94_1 (_ : Unit) : KL := [kA 12 (.mv (.t 0)),
  kA 13 (.mv (.t 1)),
  kA 14 (.mv (.t 2)),
  kA 15 (.mv (.t 4)),
  kB 16 (.call (n_slices_order2Ordered_int) [(.t 12), (.t 13), (.t 14), (.t 15)]) [0, 3, 4, 16],
  kA 11 (.mv (.t 16)),
  kA 17 (.ext (.t 11) 0),
  kA 18 (.ext (.t 11) 1),
  kA 1 (.mv (.t 17)),
  kB 2 (.mv (.t 18)) [0, 1, 2, 3, 4]]
@[go_sem] def l94_2 (_ : Unit) : KL := [kA 20 (.mv (.t 0)),
  kA 21 (.mv (.t 2)),
  kA 22 (.mv (.t 3)),
  kA 23 (.mv (.t 4)),
  kB 24 (.call (n_slices_order2Ordered_int) [(.t 20), (.t 21), (.t 22), (.t 23)]) [0, 1, 4, 24],
  kA 19 (.mv (.t 24)),
  kA 25 (.ext (.t 19) 0),
  kA 26 (.ext (.t 19) 1),
  kA 2 (.mv (.t 25)),
  kB 3 (.mv (.t 26)) [0, 1, 2, 4]]
@[go_sem] def l94_3 (_ : Unit) : KL := [kA 28 (.mv (.t 0)),
  kA 29 (.mv (.t 1)),
  kA 30 (.mv (.t 2)),
  kA 31 (.mv (.t 4)),
  kB 32 (.call (n_slices_order2Ordered_int) [(.t 28), (.t 29), (.t 30), (.t 31)]) [32],
  kA 27 (.mv (.t 32)),
  kA 33 (.ext (.t 27) 0),
  kA 34 (.ext (.t 27) 1),
  kA 1 (.mv (.t 33)),
  kB 2 (.mv (.t 34)) [2]]
@[go_sem] def l94_4 (_ : Unit) : KL := [kA 35 (.mv (.t 2)),
  kB 10 (.mv (.t 35)) [10]]
@[go_sem] def s94_5 (_ : Unit) : IR := (sQ [(kT l94_0), (kT l94_1), (kT l94_2), (kT l94_3), (kT l94_4), .ret])
@[go_sem] def l93_0 (_ : Unit) : KL := [kB 6 (.mv (cI 0)) [0, 1, 2]]
@[go_sem] def l93_1 (_ : Unit) : KL := [kA 7 (.mv (.t 0)),
  kA 8 (.mv (.t 1)),
  kA 9 (.bin .sub (.t 8) (cI 1)),
  kA 10 (.mv (.t 1)),
  kB 11 (.mv (.t 1)) [2, 7, 9, 10, 11],
  kA 12 (.bin .add (.t 11) (cI 1)),
  kA 13 (.mv (.t 2)),
  kA 14 (.call (n_slices_medianOrdered_int) [(.t 7), (.t 9), (.t 10), (.t 12), (.t 13)]),
  kB 6 (.mv (.t 14)) [6]]
@[go_sem] def s93_2 (_ : Unit) : IR := (sQ [(kT l93_0), (kT l93_1), .ret])
@[go_sem] def l80_0 (_ : Unit) : KL := [kA 6 (.mv (cI 0)),
  kB 7 (.mv (cI 0)) [0, 1, 2]]
@[go_sem] def l80_1 (_ : Unit) : KL := [kA 13 (.mv (.t 2)),
  kA 14 (.mv (.t 1)),
  kA 15 (.bin .sub (.t 13) (.t 14)),
  kB 8 (.mv (.t 15)) [0, 1, 8]]
@[go_sem] def l80_2 (_ : Unit) : KL := [kB 9 (.alloc [(.int .i64 0)]) [0, 1, 8, 9]]
@[go_sem] def l80_3 (_ : Unit) : KL := [kA 16 (.mv (.t 1)),
  kA 17 (.mv (.t 8)),
  kA 18 (.bin .quo (.t 17) (.c (.int .i64 4))),
  kA 19 (.bin .mul (.t 18) (cI 1)),
  kB 20 (.bin .add (.t 16) (.t 19)) [0, 1, 8, 9, 20],
  kB 10 (.mv (.t 20)) [0, 1, 8, 9, 10]]
@[go_sem] def l80_4 (_ : Unit) : KL := [kA 21 (.mv (.t 1)),
  kA 22 (.mv (.t 8)),
  kA 23 (.bin .quo (.t 22) (.c (.int .i64 4))),
  kA 24 (.bin .mul (.t 23) (.c (.int .i64 2))),
  kB 25 (.bin .add (.t 21) (.t 24)) [0, 1, 8, 9, 10, 25],
  kB 11 (.mv (.t 25)) [0, 1, 8, 9, 10, 11]]
@[go_sem] def l80_5 (_ : Unit) : KL := [kA 26 (.mv (.t 1)),
  kA 27 (.mv (.t 8)),
  kA 28 (.bin .quo (.t 27) (.c (.int .i64 4))),
  kA 29 (.bin .mul (.t 28) (.c (.int .i64 3))),
  kB 30 (.bin .add (.t 26) (.t 29)) [0, 8, 9, 10, 11, 30],
  kB 12 (.mv (.t 30)) [0, 8, 9, 10, 11, 12]]
@[go_sem] def l80_6 (_ : Unit) : KL := [kA 31 (.mv (.t 8)),
  kB 32 (.bin .geq (.t 31) (.c (.int .i64 8))) [0, 8, 9, 10, 11, 12, 32]]
@[go_sem] def l80_7 (_ : Unit) : KL := [kA 33 (.mv (.t 8)),
  kB 34 (.bin .geq (.t 33) (.c (.int .i64 50))) [0, 9, 10, 11, 12, 34]]
@[go_sem] def l80_8 (_ : Unit) : KL := [kA 35 (.mv (.t 0)),
  kA 36 (.mv (.t 10)),
  kA 37 (.call (n_slices_medianAdjacentOrdered_int) [(.t 35), (.t 36), (.t 9)]),
  kB 10 (.mv (.t 37)) [0, 9, 10, 11, 12]]
@[go_sem] def l80_9 (_ : Unit) : KL := [kA 38 (.mv (.t 0)),
  kA 39 (.mv (.t 11)),
  kA 40 (.call (n_slices_medianAdjacentOrdered_int) [(.t 38), (.t 39), (.t 9)]),
  kB 11 (.mv (.t 40)) [0, 9, 10, 11, 12]]
@[go_sem] def l80_10 (_ : Unit) : KL := [kA 41 (.mv (.t 0)),
  kA 42 (.mv (.t 12)),
  kA 43 (.call (n_slices_medianAdjacentOrdered_int) [(.t 41), (.t 42), (.t 9)]),
  kB 12 (.mv (.t 43)) [0, 9, 10, 11, 12]]
@[go_sem] def s80_11 (_ : Unit) : IR := (sQ [(kT l80_8), (kT l80_9), (kT l80_10)])
@[go_sem] def s80_12 (_ : Unit) : IR := (sQ [(kT l80_7), (.cond (.t 34) (tH s80_11) .skip)])
@[go_sem] def l80_13 (_ : Unit) : KL := [kA 44 (.mv (.t 0)),
  kA 45 (.mv (.t 10)),
  kA 46 (.mv (.t 11)),
  kA 47 (.mv (.t 12)),
  kB 48 (.call (n_slices_medianOrdered_int) [(.t 44), (.t 45), (.t 46), (.t 47), (.t 9)]) [9, 48],
  kB 11 (.mv (.t 48)) [9, 11]]
@[go_sem] def s80_14 (_ : Unit) : IR := (sQ [(tH s80_12), (kT l80_13)])
@[go_sem] def s80_15 (_ : Unit) : IR := (sQ [(kT l80_6), (.cond (.t 32) (tH s80_14) .skip)])
@[go_sem] def l80_16 (_ : Unit) : KL := [kB 49 (.load (.t 9) 1 false) [11, 49]]
@[go_sem] def l80_17 (_ : Unit) : KL := [kA 52 (.bin .eql (.t 49) (cI 0)),
  kB 51 (.mv (.t 52)) [11, 49, 51]]
@[go_sem] def l80_18 (_ : Unit) : KL := [kA 53 (.mv (.t 11)),
  kA 6 (.mv (.t 53)),
  kB 7 (.mv (cI 1)) [6, 7]]
@[go_sem] def s80_19 (_ : Unit) : IR := (sQ [(kT l80_18), .ret])
@[go_sem] def l80_20 (_ : Unit) : KL := [kA 55 (.bin .eql (.t 49) (.c (.int .i64 12))),
  kB 54 (.mv (.t 55)) [11, 54]]
@[go_sem] def l80_21 (_ : Unit) : KL := [kA 56 (.mv (.t 11)),
  kA 6 (.mv (.t 56)),
  kB 7 (.mv (.c (.int .i64 2))) [6, 7]]
@[go_sem] def s80_22 (_ : Unit) : IR := (sQ [(kT l80_21), .ret])
@[go_sem] def l80_23 (_ : Unit) : KL := [kA 50 (.mv (.t 11)),
  kA 6 (.mv (.t 50)),
  kB 7 (.mv (cI 0)) [6, 7]]
@[go_sem] def s80_24 (_ : Unit) : IR := (sQ [(kT l80_23), .ret])
@[go_sem] def s80_25 (_ : Unit) : IR := (sQ [(kT l80_20), (.cond (.t 54) (tH s80_22) (tH s80_24))])
@[go_sem] def s80_26 (_ : Unit) : IR := (sQ [(kT l80_17), (.cond (.t 51) (tH s80_19) (tH s80_25))])
@[go_sem] def s80_27 (_ : Unit) : IR := (.block 0 (tH s80_26))
@[go_sem] def s80_28 (_ : Unit) : IR := (sQ [(kT l80_0), (kT l80_1), (kT l80_2), (kT l80_3), (kT l80_4), (kT l80_5), (tH s80_15), (kT l80_16), (tH s80_27)])
@[go_sem] def l81_0 (_ : Unit) : KL := [kA 8 (.mv (.t 1)),
  kB 6 (.mv (.t 8)) [0, 2, 6]]
@[go_sem] def l81_1 (_ : Unit) : KL := [kA 9 (.mv (.t 2)),
  kA 10 (.bin .sub (.t 9) (cI 1)),
  kB 7 (.mv (.t 10)) [0, 6, 7]]
@[go_sem] def l81_2 (_ : Unit) : KL := [kA 11 (.mv (.t 6)),
  kA 12 (.mv (.t 7)),
  kB 13 (.bin .lss (.t 11) (.t 12)) [0, 6, 7, 13]]
@[go_sem] def s81_3 (_ : Unit) : IR := (sQ [(kT l81_2), (.cond (.t 13) .skip (.exit 0))])
@[go_sem] def l81_4 : Nat → GOp
  | 0 => ⟨(some 14), .mv (.t 0), none⟩
  | 1 => ⟨(some 15), .mv (.t 6), none⟩
  | 2 => ⟨(some 16), .mv (.t 0), none⟩
  | 3 => ⟨(some 17), .mv (.t 7), none⟩
  | 4 => ⟨(some 18), .mv (.t 0), none⟩
  | 5 => ⟨(some 19), .mv (.t 7), none⟩
  | 6 => ⟨(some 20), .iaddr (.t 18) (.t 19) 1, none⟩
  | 7 => ⟨(some 21), .load (.t 20) 1 false, none⟩
  | 8 => ⟨(some 22), .mv (.t 0), none⟩
  | 9 => ⟨(some 23), .mv (.t 6), none⟩
  | 10 => ⟨(some 24), .iaddr (.t 22) (.t 23) 1, none⟩
  | 11 => ⟨(some 25), .load (.t 24) 1 false, none⟩
  | 12 => ⟨(some 26), .iaddr (.t 14) (.t 15) 1, none⟩
  | 13 => ⟨none, .store (.t 26) 1 (.t 21), none⟩
  | 14 => ⟨(some 27), .iaddr (.t 16) (.t 17) 1, none⟩
  | 15 => ⟨none, .store (.t 27) 1 (.t 25), none⟩
  | _ => ⟨none, .mkmap, none⟩
@[go_sem] def l81_5 (_ : Unit) : KL := [kA 28 (.mv (.t 6)),
  kA 29 (.bin .add (.t 28) (cI 1)),
  kB 6 (.mv (.t 29)) [0, 6, 7]]
@[go_sem] def l81_6 (_ : Unit) : KL := [kA 30 (.mv (.t 7)),
  kA 31 (.bin .sub (.t 30) (cI 1)),
  kB 7 (.mv (.t 31)) [0, 6, 7]]
@[go_sem] def s81_7 (_ : Unit) : IR := (sQ [(.kd (oF l81_4 16) [(0, []), (1, []), (2, []), (3, []), (4, []), (5, []), (6, []), (7, []), (8, []), (9, []), (10, []), (11, []), (12, []), (13, []), (14, []), (15, [])] [0, 6, 7]), (kT l81_5), (kT l81_6)])
@[go_sem] def s81_8 (_ : Unit) : IR := (.block 1 (tH s81_7))
@[go_sem] def s81_9 (_ : Unit) : IR := (sQ [(tH s81_3), (tH s81_8)])
@[go_sem] def s81_10 (_ : Unit) : IR := (.loop (tH s81_9))
@[go_sem] def s81_11 (_ : Unit) : IR := (.block 0 (tH s81_10))
@[go_sem] def s81_12 (_ : Unit) : IR := (sQ [(kT l81_0), (kT l81_1), (tH s81_11)])
@[go_sem] def l82_0 (_ : Unit) : KL := [kB 6 (.mv (.c (.bool false))) [0, 1, 2]]
@[go_sem] def l82_1 (_ : Unit) : KL := [kA 11 (.mv (.t 1)),
  kA 12 (.bin .add (.t 11) (cI 1)),
  kB 7 (.mv (.t 12)) [0, 1, 2, 7]]
@[go_sem] def l82_2 (_ : Unit) : KL := [kB 8 (.mv (cI 0)) [0, 1, 2, 7, 8]]
@[go_sem] def l82_3 (_ : Unit) : KL := [kA 13 (.mv (.t 8)),
  kB 14 (.bin .lss (.t 13) (.c (.int .i64 5))) [0, 1, 2, 7, 8, 14]]
@[go_sem] def s82_4 (_ : Unit) : IR := (sQ [(kT l82_3), (.cond (.t 14) .skip (.exit 0))])
@[go_sem] def l82_5 : Nat → GOp
  | 0 => ⟨(some 17), .mv (.t 7), none⟩
  | 1 => ⟨(some 18), .mv (.t 2), none⟩
  | 2 => ⟨(some 19), .bin .lss (.t 17) (.t 18), none⟩
  | 3 => ⟨(some 20), .mv (.t 19), none⟩
  | 4 => ⟨(some 21), .mv (.t 0), (some (20, true))⟩
  | 5 => ⟨(some 22), .mv (.t 7), (some (20, true))⟩
  | 6 => ⟨(some 23), .iaddr (.t 21) (.t 22) 1, (some (20, true))⟩
  | 7 => ⟨(some 24), .load (.t 23) 1 false, (some (20, true))⟩
  | 8 => ⟨(some 25), .mv (.t 0), (some (20, true))⟩
  | 9 => ⟨(some 26), .mv (.t 7), (some (20, true))⟩
  | 10 => ⟨(some 27), .bin .sub (.t 26) (cI 1), (some (20, true))⟩
  | 11 => ⟨(some 28), .iaddr (.t 25) (.t 27) 1, (some (20, true))⟩
  | 12 => ⟨(some 29), .load (.t 28) 1 false, (some (20, true))⟩
  | 13 => ⟨(some 30), .call (n_cmp_Less_int) [(.t 24), (.t 29)], (some (20, true))⟩
  | 14 => ⟨(some 31), .un .not (.t 30), (some (20, true))⟩
  | 15 => ⟨(some 32), .pick (.t 20) (.t 31) (.c (.bool false)), none⟩
  | _ => ⟨none, .mkmap, none⟩
@[go_sem] def s82_6 (_ : Unit) : IR := (sQ [(.kd (oF l82_5 16) [(0, []), (1, []), (2, []), (3, []), (4, []), (5, []), (6, []), (7, []), (8, []), (9, []), (10, []), (11, []), (12, []), (13, []), (14, []), (15, [])] [0, 1, 2, 7, 8, 32]), (.cond (.t 32) .skip (.exit 2))])
@[go_sem] def l82_7 (_ : Unit) : KL := [kA 33 (.mv (.t 7)),
  kA 34 (.bin .add (.t 33) (cI 1)),
  kB 7 (.mv (.t 34)) [0, 1, 2, 7, 8]]
@[go_sem] def s82_8 (_ : Unit) : IR := (.block 3 (kT l82_7))
@[go_sem] def s82_9 (_ : Unit) : IR := (sQ [(tH s82_6), (tH s82_8)])
@[go_sem] def s82_10 (_ : Unit) : IR := (.loop (tH s82_9))
@[go_sem] def s82_11 (_ : Unit) : IR := (.block 2 (tH s82_10))
@[go_sem] def l82_12 (_ : Unit) : KL := [kA 35 (.mv (.t 7)),
  kA 36 (.mv (.t 2)),
  kB 37 (.bin .eql (.t 35) (.t 36)) [0, 1, 2, 7, 8, 37]]
@[go_sem] def l82_13 (_ : Unit) : KL := [kB 6 (.mv (.c (.bool true))) [6]]
@[go_sem] def s82_14 (_ : Unit) : IR := (sQ [(kT l82_13), .ret])
@[go_sem] def s82_15 (_ : Unit) : IR := (sQ [(kT l82_12), (.cond (.t 37) (tH s82_14) .skip)])
@[go_sem] def l82_16 (_ : Unit) : KL := [kA 38 (.mv (.t 2)),
  kA 39 (.mv (.t 1)),
  kA 40 (.bin .sub (.t 38) (.t 39)),
  kB 41 (.bin .lss (.t 40) (.c (.int .i64 50))) [0, 1, 2, 7, 8, 41]]
@[go_sem] def l82_17 (_ : Unit) : KL := [kB 6 (.mv (.c (.bool false))) [6]]
@[go_sem] def s82_18 (_ : Unit) : IR := (sQ [(kT l82_17), .ret])
@[go_sem] def s82_19 (_ : Unit) : IR := (sQ [(kT l82_16), (.cond (.t 41) (tH s82_18) .skip)])
@[go_sem] def l82_20 : Nat → GOp
  | 0 => ⟨(some 42), .mv (.t 0), none⟩
  | 1 => ⟨(some 43), .mv (.t 7), none⟩
  | 2 => ⟨(some 44), .mv (.t 0), none⟩
  | 3 => ⟨(some 45), .mv (.t 7), none⟩
  | 4 => ⟨(some 46), .bin .sub (.t 45) (cI 1), none⟩
  | 5 => ⟨(some 47), .mv (.t 0), none⟩
  | 6 => ⟨(some 48), .mv (.t 7), none⟩
  | 7 => ⟨(some 49), .bin .sub (.t 48) (cI 1), none⟩
  | 8 => ⟨(some 50), .iaddr (.t 47) (.t 49) 1, none⟩
  | 9 => ⟨(some 51), .load (.t 50) 1 false, none⟩
  | 10 => ⟨(some 52), .mv (.t 0), none⟩
  | 11 => ⟨(some 53), .mv (.t 7), none⟩
  | 12 => ⟨(some 54), .iaddr (.t 52) (.t 53) 1, none⟩
  | 13 => ⟨(some 55), .load (.t 54) 1 false, none⟩
  | 14 => ⟨(some 56), .iaddr (.t 42) (.t 43) 1, none⟩
  | 15 => ⟨none, .store (.t 56) 1 (.t 51), none⟩
  | 16 => ⟨(some 57), .iaddr (.t 44) (.t 46) 1, none⟩
  | 17 => ⟨none, .store (.t 57) 1 (.t 55), none⟩
  | _ => ⟨none, .mkmap, none⟩
@[go_sem] def l82_21 (_ : Unit) : KL := [kA 58 (.mv (.t 7)),
  kA 59 (.mv (.t 1)),
  kA 60 (.bin .sub (.t 58) (.t 59)),
  kB 61 (.bin .geq (.t 60) (.c (.int .i64 2))) [0, 1, 2, 7, 8, 61]]
@[go_sem] def l82_22 (_ : Unit) : KL := [kA 62 (.mv (.t 7)),
  kA 63 (.bin .sub (.t 62) (cI 1)),
  kB 9 (.mv (.t 63)) [0, 1, 2, 7, 8, 9]]
@[go_sem] def l82_23 (_ : Unit) : KL := [kA 64 (.mv (.t 9)),
  kB 65 (.bin .geq (.t 64) (cI 1)) [0, 1, 2, 7, 8, 9, 65]]
@[go_sem] def s82_24 (_ : Unit) : IR := (sQ [(kT l82_23), (.cond (.t 65) .skip (.exit 4))])
@[go_sem] def l82_25 : Nat → GOp
  | 0 => ⟨(some 68), .mv (.t 0), none⟩
  | 1 => ⟨(some 69), .mv (.t 9), none⟩
  | 2 => ⟨(some 70), .iaddr (.t 68) (.t 69) 1, none⟩
  | 3 => ⟨(some 71), .load (.t 70) 1 false, none⟩
  | 4 => ⟨(some 72), .mv (.t 0), none⟩
  | 5 => ⟨(some 73), .mv (.t 9), none⟩
  | 6 => ⟨(some 74), .bin .sub (.t 73) (cI 1), none⟩
  | 7 => ⟨(some 75), .iaddr (.t 72) (.t 74) 1, none⟩
  | 8 => ⟨(some 76), .load (.t 75) 1 false, none⟩
  | 9 => ⟨(some 77), .call (n_cmp_Less_int) [(.t 71), (.t 76)], none⟩
  | 10 => ⟨(some 78), .un .not (.t 77), none⟩
  | _ => ⟨none, .mkmap, none⟩
@[go_sem] def s82_26 (_ : Unit) : IR := (sQ [(.kd (oF l82_25 11) [(0, []), (1, []), (2, []), (3, []), (4, []), (5, []), (6, []), (7, []), (8, []), (9, []), (10, [])] [0, 1, 2, 7, 8, 9, 78]), (.cond (.t 78) (.exit 4) .skip)])
@[go_sem] def l82_27 : Nat → GOp
  | 0 => ⟨(some 79), .mv (.t 0), none⟩
  | 1 => ⟨(some 80), .mv (.t 9), none⟩
  | 2 => ⟨(some 81), .mv (.t 0), none⟩
  | 3 => ⟨(some 82), .mv (.t 9), none⟩
  | 4 => ⟨(some 83), .bin .sub (.t 82) (cI 1), none⟩
  | 5 => ⟨(some 84), .mv (.t 0), none⟩
  | 6 => ⟨(some 85), .mv (.t 9), none⟩
  | 7 => ⟨(some 86), .bin .sub (.t 85) (cI 1), none⟩
  | 8 => ⟨(some 87), .iaddr (.t 84) (.t 86) 1, none⟩
  | 9 => ⟨(some 88), .load (.t 87) 1 false, none⟩
  | 10 => ⟨(some 89), .mv (.t 0), none⟩
  | 11 => ⟨(some 90), .mv (.t 9), none⟩
  | 12 => ⟨(some 91), .iaddr (.t 89) (.t 90) 1, none⟩
  | 13 => ⟨(some 92), .load (.t 91) 1 false, none⟩
  | 14 => ⟨(some 93), .iaddr (.t 79) (.t 80) 1, none⟩
  | 15 => ⟨none, .store (.t 93) 1 (.t 88), none⟩
  | 16 => ⟨(some 94), .iaddr (.t 81) (.t 83) 1, none⟩
  | 17 => ⟨none, .store (.t 94) 1 (.t 92), none⟩
  | _ => ⟨none, .mkmap, none⟩
@[go_sem] def s82_28 (_ : Unit) : IR := (sQ [(tH s82_26), (.kd (oF l82_27 18) [(0, []), (1, []), (2, []), (3, []), (4, []), (5, []), (6, []), (7, []), (8, []), (9, []), (10, []), (11, []), (12, []), (13, []), (14, []), (15, []), (16, []), (17, [])] [0, 1, 2, 7, 8, 9])])
@[go_sem] def s82_29 (_ : Unit) : IR := (.block 5 (tH s82_28))
@[go_sem] def l82_30 (_ : Unit) : KL := [kA 66 (.mv (.t 9)),
  kA 67 (.bin .sub (.t 66) (cI 1)),
  kB 9 (.mv (.t 67)) [0, 1, 2, 7, 8, 9]]
@[go_sem] def s82_31 (_ : Unit) : IR := (sQ [(tH s82_24), (tH s82_29), (kT l82_30)])
@[go_sem] def s82_32 (_ : Unit) : IR := (.loop (tH s82_31))
@[go_sem] def s82_33 (_ : Unit) : IR := (.block 4 (tH s82_32))
@[go_sem] def s82_34 (_ : Unit) : IR := (sQ [(kT l82_22), (tH s82_33)])
@[go_sem] def s82_35 (_ : Unit) : IR := (sQ [(kT l82_21), (.cond (.t 61) (tH s82_34) .skip)])
@[go_sem] def l82_36 (_ : Unit) : KL := [kA 95 (.mv (.t 2)),
  kA 96 (.mv (.t 7)),
  kA 97 (.bin .sub (.t 95) (.t 96)),
  kB 98 (.bin .geq (.t 97) (.c (.int .i64 2))) [0, 1, 2, 7, 8, 98]]
@[go_sem] def l82_37 (_ : Unit) : KL := [kA 99 (.mv (.t 7)),
  kA 100 (.bin .add (.t 99) (cI 1)),
  kB 10 (.mv (.t 100)) [0, 1, 2, 7, 8, 10]]
@[go_sem] def l82_38 (_ : Unit) : KL := [kA 101 (.mv (.t 10)),
  kA 102 (.mv (.t 2)),
  kB 103 (.bin .lss (.t 101) (.t 102)) [0, 1, 2, 7, 8, 10, 103]]
@[go_sem] def s82_39 (_ : Unit) : IR := (sQ [(kT l82_38), (.cond (.t 103) .skip (.exit 6))])
@[go_sem] def l82_40 : Nat → GOp
  | 0 => ⟨(some 106), .mv (.t 0), none⟩
  | 1 => ⟨(some 107), .mv (.t 10), none⟩
  | 2 => ⟨(some 108), .iaddr (.t 106) (.t 107) 1, none⟩
  | 3 => ⟨(some 109), .load (.t 108) 1 false, none⟩
  | 4 => ⟨(some 110), .mv (.t 0), none⟩
  | 5 => ⟨(some 111), .mv (.t 10), none⟩
  | 6 => ⟨(some 112), .bin .sub (.t 111) (cI 1), none⟩
  | 7 => ⟨(some 113), .iaddr (.t 110) (.t 112) 1, none⟩
  | 8 => ⟨(some 114), .load (.t 113) 1 false, none⟩
  | 9 => ⟨(some 115), .call (n_cmp_Less_int) [(.t 109), (.t 114)], none⟩
  | 10 => ⟨(some 116), .un .not (.t 115), none⟩
  | _ => ⟨none, .mkmap, none⟩
@[go_sem] def s82_41 (_ : Unit) : IR := (sQ [(.kd (oF l82_40 11) [(0, []), (1, []), (2, []), (3, []), (4, []), (5, []), (6, []), (7, []), (8, []), (9, []), (10, [])] [0, 1, 2, 7, 8, 10, 116]), (.cond (.t 116) (.exit 6) .skip)])
@[go_sem] def l82_42 : Nat → GOp
  | 0 => ⟨(some 117), .mv (.t 0), none⟩
  | 1 => ⟨(some 118), .mv (.t 10), none⟩
  | 2 => ⟨(some 119), .mv (.t 0), none⟩
  | 3 => ⟨(some 120), .mv (.t 10), none⟩
  | 4 => ⟨(some 121), .bin .sub (.t 120) (cI 1), none⟩
  | 5 => ⟨(some 122), .mv (.t 0), none⟩
  | 6 => ⟨(some 123), .mv (.t 10), none⟩
  | 7 => ⟨(some 124), .bin .sub (.t 123) (cI 1), none⟩
  | 8 => ⟨(some 125), .iaddr (.t 122) (.t 124) 1, none⟩
  | 9 => ⟨(some 126), .load (.t 125) 1 false, none⟩
  | 10 => ⟨(some 127), .mv (.t 0), none⟩
  | 11 => ⟨(some 128), .mv (.t 10), none⟩
  | 12 => ⟨(some 129), .iaddr (.t 127) (.t 128) 1, none⟩
  | 13 => ⟨(some 130), .load (.t 129) 1 false, none⟩
  | 14 => ⟨(some 131), .iaddr (.t 117) (.t 118) 1, none⟩
  | 15 => ⟨none, .store (.t 131) 1 (.t 126), none⟩
  | 16 => ⟨(some 132), .iaddr (.t 119) (.t 121) 1, none⟩
  | 17 => ⟨none, .store (.t 132) 1 (.t 130), none⟩
  | _ => ⟨none, .mkmap, none⟩
@[go_sem] def s82_43 (_ : Unit) : IR := (sQ [(tH s82_41), (.kd (oF l82_42 18) [(0, []), (1, []), (2, []), (3, []), (4, []), (5, []), (6, []), (7, []), (8, []), (9, []), (10, []), (11, []), (12, []), (13, []), (14, []), (15, []), (16, []), (17, [])] [0, 1, 2, 7, 8, 10])])
@[go_sem] def s82_44 (_ : Unit) : IR := (.block 7 (tH s82_43))
@[go_sem] def l82_45 (_ : Unit) : KL := [kA 104 (.mv (.t 10)),
  kA 105 (.bin .add (.t 104) (cI 1)),
  kB 10 (.mv (.t 105)) [0, 1, 2, 7, 8, 10]]
@[go_sem] def s82_46 (_ : Unit) : IR := (sQ [(tH s82_39), (tH s82_44), (kT l82_45)])
@[go_sem] def s82_47 (_ : Unit) : IR := (.loop (tH s82_46))
@[go_sem] def s82_48 (_ : Unit) : IR := (.block 6 (tH s82_47))
@[go_sem] def s82_49 (_ : Unit) : IR := (sQ [(kT l82_37), (tH s82_48)])
@[go_sem] def s82_50 (_ : Unit) : IR := (sQ [(tH s82_11), (tH s82_15), (tH s82_19), (.kd (oF l82_20 18) [(0, []), (1, []), (2, []), (3, []), (4, []), (5, []), (6, []), (7, []), (8, []), (9, []), (10, []), (11, []), (12, []), (13, []), (14, []), (15, []), (16, []), (17, [])] [0, 1, 2, 7, 8]), (tH s82_35), (kT l82_36), (.cond (.t 98) (tH s82_49) .skip)])
@[go_sem] def s82_51 (_ : Unit) : IR := (.block 1 (tH s82_50))
@[go_sem] def l82_52 (_ : Unit) : KL := [kA 15 (.mv (.t 8)),
  kA 16 (.bin .add (.t 15) (cI 1)),
  kB 8 (.mv (.t 16)) [0, 1, 2, 7, 8]]
@[go_sem] def s82_53 (_ : Unit) : IR := (sQ [(tH s82_4), (tH s82_51), (kT l82_52)])
@[go_sem] def s82_54 (_ : Unit) : IR := (.loop (tH s82_53))
@[go_sem] def s82_55 (_ : Unit) : IR := (.block 0 (tH s82_54))
@[go_sem] def s82_56 (_ : Unit) : IR := (sQ [(kT l82_2), (tH s82_55)])
@[go_sem] def l82_57 (_ : Unit) : KL := [kB 6 (.mv (.c (.bool false))) [6]]
@[go_sem] def s82_58 (_ : Unit) : IR := (sQ [(kT l82_0), (kT l82_1), (tH s82_56), (kT l82_57), .ret])
@[go_sem] def l84_0 (_ : Unit) : KL := [kB 8 (.mv (cI 0)) [0, 1, 2, 3]]
@[go_sem] def l84_1 : Nat → GOp
  | 0 => ⟨(some 11), .mv (.t 0), none⟩
  | 1 => ⟨(some 12), .mv (.t 1), none⟩
  | 2 => ⟨(some 13), .mv (.t 0), none⟩
  | 3 => ⟨(some 14), .mv (.t 3), none⟩
  | 4 => ⟨(some 15), .mv (.t 0), none⟩
  | 5 => ⟨(some 16), .mv (.t 3), none⟩
  | 6 => ⟨(some 17), .iaddr (.t 15) (.t 16) 1, none⟩
  | 7 => ⟨(some 18), .load (.t 17) 1 false, none⟩
  | 8 => ⟨(some 19), .mv (.t 0), none⟩
  | 9 => ⟨(some 20), .mv (.t 1), none⟩
  | 10 => ⟨(some 21), .iaddr (.t 19) (.t 20) 1, none⟩
  | 11 => ⟨(some 22), .load (.t 21) 1 false, none⟩
  | 12 => ⟨(some 23), .iaddr (.t 11) (.t 12) 1, none⟩
  | 13 => ⟨none, .store (.t 23) 1 (.t 18), none⟩
  | 14 => ⟨(some 24), .iaddr (.t 13) (.t 14) 1, none⟩
  | 15 => ⟨none, .store (.t 24) 1 (.t 22), none⟩
  | _ => ⟨none, .mkmap, none⟩
@[go_sem] def l84_2 (_ : Unit) : KL := [kA 25 (.mv (.t 1)),
  kA 26 (.bin .add (.t 25) (cI 1)),
  kA 27 (.mv (.t 2)),
  kA 28 (.bin .sub (.t 27) (cI 1)),
  kB 9 (.mv (.t 26)) [0, 1, 9, 28],
  kB 10 (.mv (.t 28)) [0, 1, 9, 10]]
@[go_sem] def l84_3 : Nat → GOp
  | 0 => ⟨(some 29), .mv (.t 9), none⟩
  | 1 => ⟨(some 30), .mv (.t 10), none⟩
  | 2 => ⟨(some 31), .bin .leq (.t 29) (.t 30), none⟩
  | 3 => ⟨(some 32), .mv (.t 31), none⟩
  | 4 => ⟨(some 33), .mv (.t 0), (some (32, true))⟩
  | 5 => ⟨(some 34), .mv (.t 1), (some (32, true))⟩
  | 6 => ⟨(some 35), .iaddr (.t 33) (.t 34) 1, (some (32, true))⟩
  | 7 => ⟨(some 36), .load (.t 35) 1 false, (some (32, true))⟩
  | 8 => ⟨(some 37), .mv (.t 0), (some (32, true))⟩
  | 9 => ⟨(some 38), .mv (.t 9), (some (32, true))⟩
  | 10 => ⟨(some 39), .iaddr (.t 37) (.t 38) 1, (some (32, true))⟩
  | 11 => ⟨(some 40), .load (.t 39) 1 false, (some (32, true))⟩
  | 12 => ⟨(some 41), .call (n_cmp_Less_int) [(.t 36), (.t 40)], (some (32, true))⟩
  | 13 => ⟨(some 42), .un .not (.t 41), (some (32, true))⟩
  | 14 => ⟨(some 43), .pick (.t 32) (.t 42) (.c (.bool false)), none⟩
  | _ => ⟨none, .mkmap, none⟩
@[go_sem] def s84_4 (_ : Unit) : IR := (sQ [(.kd (oF l84_3 15) [(0, []), (1, []), (2, []), (3, []), (4, []), (5, []), (6, []), (7, []), (8, []), (9, []), (10, []), (11, []), (12, []), (13, []), (14, [])] [0, 1, 9, 10, 43]), (.cond (.t 43) .skip (.exit 2))])
@[go_sem] def l84_5 (_ : Unit) : KL := [kA 44 (.mv (.t 9)),
  kA 45 (.bin .add (.t 44) (cI 1)),
  kB 9 (.mv (.t 45)) [0, 1, 9, 10]]
@[go_sem] def s84_6 (_ : Unit) : IR := (.block 3 (kT l84_5))
@[go_sem] def s84_7 (_ : Unit) : IR := (sQ [(tH s84_4), (tH s84_6)])
@[go_sem] def s84_8 (_ : Unit) : IR := (.loop (tH s84_7))
@[go_sem] def s84_9 (_ : Unit) : IR := (.block 2 (tH s84_8))
@[go_sem] def l84_10 : Nat → GOp
  | 0 => ⟨(some 46), .mv (.t 9), none⟩
  | 1 => ⟨(some 47), .mv (.t 10), none⟩
  | 2 => ⟨(some 48), .bin .leq (.t 46) (.t 47), none⟩
  | 3 => ⟨(some 49), .mv (.t 48), none⟩
  | 4 => ⟨(some 50), .mv (.t 0), (some (49, true))⟩
  | 5 => ⟨(some 51), .mv (.t 1), (some (49, true))⟩
  | 6 => ⟨(some 52), .iaddr (.t 50) (.t 51) 1, (some (49, true))⟩
  | 7 => ⟨(some 53), .load (.t 52) 1 false, (some (49, true))⟩
  | 8 => ⟨(some 54), .mv (.t 0), (some (49, true))⟩
  | 9 => ⟨(some 55), .mv (.t 10), (some (49, true))⟩
  | 10 => ⟨(some 56), .iaddr (.t 54) (.t 55) 1, (some (49, true))⟩
  | 11 => ⟨(some 57), .load (.t 56) 1 false, (some (49, true))⟩
  | 12 => ⟨(some 58), .call (n_cmp_Less_int) [(.t 53), (.t 57)], (some (49, true))⟩
  | 13 => ⟨(some 59), .pick (.t 49) (.t 58) (.c (.bool false)), none⟩
  | _ => ⟨none, .mkmap, none⟩
@[go_sem] def s84_11 (_ : Unit) : IR := (sQ [(.kd (oF l84_10 14) [(0, []), (1, []), (2, []), (3, []), (4, []), (5, []), (6, []), (7, []), (8, []), (9, []), (10, []), (11, []), (12, []), (13, [])] [0, 1, 9, 10, 59]), (.cond (.t 59) .skip (.exit 4))])
@[go_sem] def l84_12 (_ : Unit) : KL := [kA 60 (.mv (.t 10)),
  kA 61 (.bin .sub (.t 60) (cI 1)),
  kB 10 (.mv (.t 61)) [0, 1, 9, 10]]
@[go_sem] def s84_13 (_ : Unit) : IR := (.block 5 (kT l84_12))
@[go_sem] def s84_14 (_ : Unit) : IR := (sQ [(tH s84_11), (tH s84_13)])
@[go_sem] def s84_15 (_ : Unit) : IR := (.loop (tH s84_14))
@[go_sem] def s84_16 (_ : Unit) : IR := (.block 4 (tH s84_15))
@[go_sem] def l84_17 (_ : Unit) : KL := [kA 62 (.mv (.t 9)),
  kA 63 (.mv (.t 10)),
  kB 64 (.bin .gtr (.t 62) (.t 63)) [0, 1, 9, 10, 64]]
@[go_sem] def s84_18 (_ : Unit) : IR := (sQ [(kT l84_17), (.cond (.t 64) (.exit 0) .skip)])
@[go_sem] def l84_19 : Nat → GOp
  | 0 => ⟨(some 65), .mv (.t 0), none⟩
  | 1 => ⟨(some 66), .mv (.t 9), none⟩
  | 2 => ⟨(some 67), .mv (.t 0), none⟩
  | 3 => ⟨(some 68), .mv (.t 10), none⟩
  | 4 => ⟨(some 69), .mv (.t 0), none⟩
  | 5 => ⟨(some 70), .mv (.t 10), none⟩
  | 6 => ⟨(some 71), .iaddr (.t 69) (.t 70) 1, none⟩
  | 7 => ⟨(some 72), .load (.t 71) 1 false, none⟩
  | 8 => ⟨(some 73), .mv (.t 0), none⟩
  | 9 => ⟨(some 74), .mv (.t 9), none⟩
  | 10 => ⟨(some 75), .iaddr (.t 73) (.t 74) 1, none⟩
  | 11 => ⟨(some 76), .load (.t 75) 1 false, none⟩
  | 12 => ⟨(some 77), .iaddr (.t 65) (.t 66) 1, none⟩
  | 13 => ⟨none, .store (.t 77) 1 (.t 72), none⟩
  | 14 => ⟨(some 78), .iaddr (.t 67) (.t 68) 1, none⟩
  | 15 => ⟨none, .store (.t 78) 1 (.t 76), none⟩
  | _ => ⟨none, .mkmap, none⟩
@[go_sem] def l84_20 (_ : Unit) : KL := [kA 79 (.mv (.t 9)),
  kA 80 (.bin .add (.t 79) (cI 1)),
  kB 9 (.mv (.t 80)) [0, 1, 9, 10]]
@[go_sem] def l84_21 (_ : Unit) : KL := [kA 81 (.mv (.t 10)),
  kA 82 (.bin .sub (.t 81) (cI 1)),
  kB 10 (.mv (.t 82)) [0, 1, 9, 10]]
@[go_sem] def s84_22 (_ : Unit) : IR := (sQ [(tH s84_9), (tH s84_16), (tH s84_18), (.kd (oF l84_19 16) [(0, []), (1, []), (2, []), (3, []), (4, []), (5, []), (6, []), (7, []), (8, []), (9, []), (10, []), (11, []), (12, []), (13, []), (14, []), (15, [])] [0, 1, 9, 10]), (kT l84_20), (kT l84_21)])
@[go_sem] def s84_23 (_ : Unit) : IR := (.block 1 (tH s84_22))
@[go_sem] def s84_24 (_ : Unit) : IR := (.loop (tH s84_23))
@[go_sem] def s84_25 (_ : Unit) : IR := (.block 0 (tH s84_24))
@[go_sem] def l84_26 (_ : Unit) : KL := [kA 83 (.mv (.t 9)),
  kB 8 (.mv (.t 83)) [8]]
@[go_sem] def s84_27 (_ : Unit) : IR := (sQ [(kT l84_0), (.kd (oF l84_1 16) [(0, []), (1, []), (2, []), (3, []), (4, []), (5, []), (6, []), (7, []), (8, []), (9, []), (10, []), (11, []), (12, []), (13, []), (14, []), (15, [])] [0, 1, 2]), (kT l84_2), (tH s84_25), (kT l84_26), .ret])
@[go_sem] def l85_0 (_ : Unit) : KL := [kA 8 (.mv (cI 0)),
  kB 9 (.mv (.c (.bool false))) [0, 1, 2, 3]]
@[go_sem] def l85_1 : Nat → GOp
  | 0 => ⟨(some 12), .mv (.t 0), none⟩
  | 1 => ⟨(some 13), .mv (.t 1), none⟩
  | 2 => ⟨(some 14), .mv (.t 0), none⟩
  | 3 => ⟨(some 15), .mv (.t 3), none⟩
  | 4 => ⟨(some 16), .mv (.t 0), none⟩
  | 5 => ⟨(some 17), .mv (.t 3), none⟩
  | 6 => ⟨(some 18), .iaddr (.t 16) (.t 17) 1, none⟩
  | 7 => ⟨(some 19), .load (.t 18) 1 false, none⟩
  | 8 => ⟨(some 20), .mv (.t 0), none⟩
  | 9 => ⟨(some 21), .mv (.t 1), none⟩
  | 10 => ⟨(some 22), .iaddr (.t 20) (.t 21) 1, none⟩
  | 11 => ⟨(some 23), .load (.t 22) 1 false, none⟩
  | 12 => ⟨(some 24), .iaddr (.t 12) (.t 13) 1, none⟩
  | 13 => ⟨none, .store (.t 24) 1 (.t 19), none⟩
  | 14 => ⟨(some 25), .iaddr (.t 14) (.t 15) 1, none⟩
  | 15 => ⟨none, .store (.t 25) 1 (.t 23), none⟩
  | _ => ⟨none, .mkmap, none⟩
@[go_sem] def l85_2 (_ : Unit) : KL := [kA 26 (.mv (.t 1)),
  kA 27 (.bin .add (.t 26) (cI 1)),
  kA 28 (.mv (.t 2)),
  kA 29 (.bin .sub (.t 28) (cI 1)),
  kB 10 (.mv (.t 27)) [0, 1, 10, 29],
  kB 11 (.mv (.t 29)) [0, 1, 10, 11]]
@[go_sem] def l85_3 : Nat → GOp
  | 0 => ⟨(some 30), .mv (.t 10), none⟩
  | 1 => ⟨(some 31), .mv (.t 11), none⟩
  | 2 => ⟨(some 32), .bin .leq (.t 30) (.t 31), none⟩
  | 3 => ⟨(some 33), .mv (.t 32), none⟩
  | 4 => ⟨(some 34), .mv (.t 0), (some (33, true))⟩
  | 5 => ⟨(some 35), .mv (.t 10), (some (33, true))⟩
  | 6 => ⟨(some 36), .iaddr (.t 34) (.t 35) 1, (some (33, true))⟩
  | 7 => ⟨(some 37), .load (.t 36) 1 false, (some (33, true))⟩
  | 8 => ⟨(some 38), .mv (.t 0), (some (33, true))⟩
  | 9 => ⟨(some 39), .mv (.t 1), (some (33, true))⟩
  | 10 => ⟨(some 40), .iaddr (.t 38) (.t 39) 1, (some (33, true))⟩
  | 11 => ⟨(some 41), .load (.t 40) 1 false, (some (33, true))⟩
  | 12 => ⟨(some 42), .call (n_cmp_Less_int) [(.t 37), (.t 41)], (some (33, true))⟩
  | 13 => ⟨(some 43), .pick (.t 33) (.t 42) (.c (.bool false)), none⟩
  | _ => ⟨none, .mkmap, none⟩
@[go_sem] def s85_4 (_ : Unit) : IR := (sQ [(.kd (oF l85_3 14) [(0, []), (1, []), (2, []), (3, []), (4, []), (5, []), (6, []), (7, []), (8, []), (9, []), (10, []), (11, []), (12, []), (13, [])] [0, 1, 10, 11, 43]), (.cond (.t 43) .skip (.exit 0))])
@[go_sem] def l85_5 (_ : Unit) : KL := [kA 44 (.mv (.t 10)),
  kA 45 (.bin .add (.t 44) (cI 1)),
  kB 10 (.mv (.t 45)) [0, 1, 10, 11]]
@[go_sem] def s85_6 (_ : Unit) : IR := (.block 1 (kT l85_5))
@[go_sem] def s85_7 (_ : Unit) : IR := (sQ [(tH s85_4), (tH s85_6)])
@[go_sem] def s85_8 (_ : Unit) : IR := (.loop (tH s85_7))
@[go_sem] def s85_9 (_ : Unit) : IR := (.block 0 (tH s85_8))
@[go_sem] def l85_10 : Nat → GOp
  | 0 => ⟨(some 46), .mv (.t 10), none⟩
  | 1 => ⟨(some 47), .mv (.t 11), none⟩
  | 2 => ⟨(some 48), .bin .leq (.t 46) (.t 47), none⟩
  | 3 => ⟨(some 49), .mv (.t 48), none⟩
  | 4 => ⟨(some 50), .mv (.t 0), (some (49, true))⟩
  | 5 => ⟨(some 51), .mv (.t 11), (some (49, true))⟩
  | 6 => ⟨(some 52), .iaddr (.t 50) (.t 51) 1, (some (49, true))⟩
  | 7 => ⟨(some 53), .load (.t 52) 1 false, (some (49, true))⟩
  | 8 => ⟨(some 54), .mv (.t 0), (some (49, true))⟩
  | 9 => ⟨(some 55), .mv (.t 1), (some (49, true))⟩
  | 10 => ⟨(some 56), .iaddr (.t 54) (.t 55) 1, (some (49, true))⟩
  | 11 => ⟨(some 57), .load (.t 56) 1 false, (some (49, true))⟩
  | 12 => ⟨(some 58), .call (n_cmp_Less_int) [(.t 53), (.t 57)], (some (49, true))⟩
  | 13 => ⟨(some 59), .un .not (.t 58), (some (49, true))⟩
  | 14 => ⟨(some 60), .pick (.t 49) (.t 59) (.c (.bool false)), none⟩
  | _ => ⟨none, .mkmap, none⟩
@[go_sem] def s85_11 (_ : Unit) : IR := (sQ [(.kd (oF l85_10 15) [(0, []), (1, []), (2, []), (3, []), (4, []), (5, []), (6, []), (7, []), (8, []), (9, []), (10, []), (11, []), (12, []), (13, []), (14, [])] [0, 1, 10, 11, 60]), (.cond (.t 60) .skip (.exit 2))])
@[go_sem] def l85_12 (_ : Unit) : KL := [kA 61 (.mv (.t 11)),
  kA 62 (.bin .sub (.t 61) (cI 1)),
  kB 11 (.mv (.t 62)) [0, 1, 10, 11]]
@[go_sem] def s85_13 (_ : Unit) : IR := (.block 3 (kT l85_12))
@[go_sem] def s85_14 (_ : Unit) : IR := (sQ [(tH s85_11), (tH s85_13)])
@[go_sem] def s85_15 (_ : Unit) : IR := (.loop (tH s85_14))
@[go_sem] def s85_16 (_ : Unit) : IR := (.block 2 (tH s85_15))
@[go_sem] def l85_17 (_ : Unit) : KL := [kA 63 (.mv (.t 10)),
  kA 64 (.mv (.t 11)),
  kB 65 (.bin .gtr (.t 63) (.t 64)) [0, 1, 10, 11, 65]]
@[go_sem] def l85_18 : Nat → GOp
  | 0 => ⟨(some 66), .mv (.t 0), none⟩
  | 1 => ⟨(some 67), .mv (.t 11), none⟩
  | 2 => ⟨(some 68), .mv (.t 0), none⟩
  | 3 => ⟨(some 69), .mv (.t 1), none⟩
  | 4 => ⟨(some 70), .mv (.t 0), none⟩
  | 5 => ⟨(some 71), .mv (.t 1), none⟩
  | 6 => ⟨(some 72), .iaddr (.t 70) (.t 71) 1, none⟩
  | 7 => ⟨(some 73), .load (.t 72) 1 false, none⟩
  | 8 => ⟨(some 74), .mv (.t 0), none⟩
  | 9 => ⟨(some 75), .mv (.t 11), none⟩
  | 10 => ⟨(some 76), .iaddr (.t 74) (.t 75) 1, none⟩
  | 11 => ⟨(some 77), .load (.t 76) 1 false, none⟩
  | 12 => ⟨(some 78), .iaddr (.t 66) (.t 67) 1, none⟩
  | 13 => ⟨none, .store (.t 78) 1 (.t 73), none⟩
  | 14 => ⟨(some 79), .iaddr (.t 68) (.t 69) 1, none⟩
  | 15 => ⟨none, .store (.t 79) 1 (.t 77), none⟩
  | _ => ⟨none, .mkmap, none⟩
@[go_sem] def l85_19 (_ : Unit) : KL := [kA 80 (.mv (.t 11)),
  kA 8 (.mv (.t 80)),
  kB 9 (.mv (.c (.bool true))) [8, 9]]
@[go_sem] def s85_20 (_ : Unit) : IR := (sQ [(.kd (oF l85_18 16) [(0, []), (1, []), (2, []), (3, []), (4, []), (5, []), (6, []), (7, []), (8, []), (9, []), (10, []), (11, []), (12, []), (13, []), (14, []), (15, [])] [11]), (kT l85_19), .ret])
@[go_sem] def s85_21 (_ : Unit) : IR := (sQ [(kT l85_17), (.cond (.t 65) (tH s85_20) .skip)])
@[go_sem] def l85_22 : Nat → GOp
  | 0 => ⟨(some 81), .mv (.t 0), none⟩
  | 1 => ⟨(some 82), .mv (.t 10), none⟩
  | 2 => ⟨(some 83), .mv (.t 0), none⟩
  | 3 => ⟨(some 84), .mv (.t 11), none⟩
  | 4 => ⟨(some 85), .mv (.t 0), none⟩
  | 5 => ⟨(some 86), .mv (.t 11), none⟩
  | 6 => ⟨(some 87), .iaddr (.t 85) (.t 86) 1, none⟩
  | 7 => ⟨(some 88), .load (.t 87) 1 false, none⟩
  | 8 => ⟨(some 89), .mv (.t 0), none⟩
  | 9 => ⟨(some 90), .mv (.t 10), none⟩
  | 10 => ⟨(some 91), .iaddr (.t 89) (.t 90) 1, none⟩
  | 11 => ⟨(some 92), .load (.t 91) 1 false, none⟩
  | 12 => ⟨(some 93), .iaddr (.t 81) (.t 82) 1, none⟩
  | 13 => ⟨none, .store (.t 93) 1 (.t 88), none⟩
  | 14 => ⟨(some 94), .iaddr (.t 83) (.t 84) 1, none⟩
  | 15 => ⟨none, .store (.t 94) 1 (.t 92), none⟩
  | _ => ⟨none, .mkmap, none⟩
@[go_sem] def l85_23 (_ : Unit) : KL := [kA 95 (.mv (.t 10)),
  kA 96 (.bin .add (.t 95) (cI 1)),
  kB 10 (.mv (.t 96)) [0, 1, 10, 11]]
@[go_sem] def l85_24 (_ : Unit) : KL := [kA 97 (.mv (.t 11)),
  kA 98 (.bin .sub (.t 97) (cI 1)),
  kB 11 (.mv (.t 98)) [0, 1, 10, 11]]
@[go_sem] def l85_25 : Nat → GOp
  | 0 => ⟨(some 99), .mv (.t 10), none⟩
  | 1 => ⟨(some 100), .mv (.t 11), none⟩
  | 2 => ⟨(some 101), .bin .leq (.t 99) (.t 100), none⟩
  | 3 => ⟨(some 102), .mv (.t 101), none⟩
  | 4 => ⟨(some 103), .mv (.t 0), (some (102, true))⟩
  | 5 => ⟨(some 104), .mv (.t 10), (some (102, true))⟩
  | 6 => ⟨(some 105), .iaddr (.t 103) (.t 104) 1, (some (102, true))⟩
  | 7 => ⟨(some 106), .load (.t 105) 1 false, (some (102, true))⟩
  | 8 => ⟨(some 107), .mv (.t 0), (some (102, true))⟩
  | 9 => ⟨(some 108), .mv (.t 1), (some (102, true))⟩
  | 10 => ⟨(some 109), .iaddr (.t 107) (.t 108) 1, (some (102, true))⟩
  | 11 => ⟨(some 110), .load (.t 109) 1 false, (some (102, true))⟩
  | 12 => ⟨(some 111), .call (n_cmp_Less_int) [(.t 106), (.t 110)], (some (102, true))⟩
  | 13 => ⟨(some 112), .pick (.t 102) (.t 111) (.c (.bool false)), none⟩
  | _ => ⟨none, .mkmap, none⟩
@[go_sem] def s85_26 (_ : Unit) : IR := (sQ [(.kd (oF l85_25 14) [(0, []), (1, []), (2, []), (3, []), (4, []), (5, []), (6, []), (7, []), (8, []), (9, []), (10, []), (11, []), (12, []), (13, [])] [0, 1, 10, 11, 112]), (.cond (.t 112) .skip (.exit 6))])
@[go_sem] def l85_27 (_ : Unit) : KL := [kA 113 (.mv (.t 10)),
  kA 114 (.bin .add (.t 113) (cI 1)),
  kB 10 (.mv (.t 114)) [0, 1, 10, 11]]
@[go_sem] def s85_28 (_ : Unit) : IR := (.block 7 (kT l85_27))
@[go_sem] def s85_29 (_ : Unit) : IR := (sQ [(tH s85_26), (tH s85_28)])
@[go_sem] def s85_30 (_ : Unit) : IR := (.loop (tH s85_29))
@[go_sem] def s85_31 (_ : Unit) : IR := (.block 6 (tH s85_30))
@[go_sem] def l85_32 : Nat → GOp
  | 0 => ⟨(some 115), .mv (.t 10), none⟩
  | 1 => ⟨(some 116), .mv (.t 11), none⟩
  | 2 => ⟨(some 117), .bin .leq (.t 115) (.t 116), none⟩
  | 3 => ⟨(some 118), .mv (.t 117), none⟩
  | 4 => ⟨(some 119), .mv (.t 0), (some (118, true))⟩
  | 5 => ⟨(some 120), .mv (.t 11), (some (118, true))⟩
  | 6 => ⟨(some 121), .iaddr (.t 119) (.t 120) 1, (some (118, true))⟩
  | 7 => ⟨(some 122), .load (.t 121) 1 false, (some (118, true))⟩
  | 8 => ⟨(some 123), .mv (.t 0), (some (118, true))⟩
  | 9 => ⟨(some 124), .mv (.t 1), (some (118, true))⟩
  | 10 => ⟨(some 125), .iaddr (.t 123) (.t 124) 1, (some (118, true))⟩
  | 11 => ⟨(some 126), .load (.t 125) 1 false, (some (118, true))⟩
  | 12 => ⟨(some 127), .call (n_cmp_Less_int) [(.t 122), (.t 126)], (some (118, true))⟩
  | 13 => ⟨(some 128), .un .not (.t 127), (some (118, true))⟩
  | 14 => ⟨(some 129), .pick (.t 118) (.t 128) (.c (.bool false)), none⟩
  | _ => ⟨none, .mkmap, none⟩
@[go_sem] def s85_33 (_ : Unit) : IR := (sQ [(.kd (oF l85_32 15) [(0, []), (1, []), (2, []), (3, []), (4, []), (5, []), (6, []), (7, []), (8, []), (9, []), (10, []), (11, []), (12, []), (13, []), (14, [])] [0, 1, 10, 11, 129]), (.cond (.t 129) .skip (.exit 8))])
@[go_sem] def l85_34 (_ : Unit) : KL := [kA 130 (.mv (.t 11)),
  kA 131 (.bin .sub (.t 130) (cI 1)),
  kB 11 (.mv (.t 131)) [0, 1, 10, 11]]
@[go_sem] def s85_35 (_ : Unit) : IR := (.block 9 (kT l85_34))
@[go_sem] def s85_36 (_ : Unit) : IR := (sQ [(tH s85_33), (tH s85_35)])
@[go_sem] def s85_37 (_ : Unit) : IR := (.loop (tH s85_36))
@[go_sem] def s85_38 (_ : Unit) : IR := (.block 8 (tH s85_37))
@[go_sem] def l85_39 (_ : Unit) : KL := [kA 132 (.mv (.t 10)),
  kA 133 (.mv (.t 11)),
  kB 134 (.bin .gtr (.t 132) (.t 133)) [0, 1, 10, 11, 134]]
@[go_sem] def s85_40 (_ : Unit) : IR := (sQ [(kT l85_39), (.cond (.t 134) (.exit 4) .skip)])
@[go_sem] def l85_41 : Nat → GOp
  | 0 => ⟨(some 135), .mv (.t 0), none⟩
  | 1 => ⟨(some 136), .mv (.t 10), none⟩
  | 2 => ⟨(some 137), .mv (.t 0), none⟩
  | 3 => ⟨(some 138), .mv (.t 11), none⟩
  | 4 => ⟨(some 139), .mv (.t 0), none⟩
  | 5 => ⟨(some 140), .mv (.t 11), none⟩
  | 6 => ⟨(some 141), .iaddr (.t 139) (.t 140) 1, none⟩
  | 7 => ⟨(some 142), .load (.t 141) 1 false, none⟩
  | 8 => ⟨(some 143), .mv (.t 0), none⟩
  | 9 => ⟨(some 144), .mv (.t 10), none⟩
  | 10 => ⟨(some 145), .iaddr (.t 143) (.t 144) 1, none⟩
  | 11 => ⟨(some 146), .load (.t 145) 1 false, none⟩
  | 12 => ⟨(some 147), .iaddr (.t 135) (.t 136) 1, none⟩
  | 13 => ⟨none, .store (.t 147) 1 (.t 142), none⟩
  | 14 => ⟨(some 148), .iaddr (.t 137) (.t 138) 1, none⟩
  | 15 => ⟨none, .store (.t 148) 1 (.t 146), none⟩
  | _ => ⟨none, .mkmap, none⟩
@[go_sem] def l85_42 (_ : Unit) : KL := [kA 149 (.mv (.t 10)),
  kA 150 (.bin .add (.t 149) (cI 1)),
  kB 10 (.mv (.t 150)) [0, 1, 10, 11]]
@[go_sem] def l85_43 (_ : Unit) : KL := [kA 151 (.mv (.t 11)),
  kA 152 (.bin .sub (.t 151) (cI 1)),
  kB 11 (.mv (.t 152)) [0, 1, 10, 11]]
@[go_sem] def s85_44 (_ : Unit) : IR := (sQ [(tH s85_31), (tH s85_38), (tH s85_40), (.kd (oF l85_41 16) [(0, []), (1, []), (2, []), (3, []), (4, []), (5, []), (6, []), (7, []), (8, []), (9, []), (10, []), (11, []), (12, []), (13, []), (14, []), (15, [])] [0, 1, 10, 11]), (kT l85_42), (kT l85_43)])
@[go_sem] def s85_45 (_ : Unit) : IR := (.block 5 (tH s85_44))
@[go_sem] def s85_46 (_ : Unit) : IR := (.loop (tH s85_45))
@[go_sem] def s85_47 (_ : Unit) : IR := (.block 4 (tH s85_46))
@[go_sem] def l85_48 : Nat → GOp
  | 0 => ⟨(some 153), .mv (.t 0), none⟩
  | 1 => ⟨(some 154), .mv (.t 11), none⟩
  | 2 => ⟨(some 155), .mv (.t 0), none⟩
  | 3 => ⟨(some 156), .mv (.t 1), none⟩
  | 4 => ⟨(some 157), .mv (.t 0), none⟩
  | 5 => ⟨(some 158), .mv (.t 1), none⟩
  | 6 => ⟨(some 159), .iaddr (.t 157) (.t 158) 1, none⟩
  | 7 => ⟨(some 160), .load (.t 159) 1 false, none⟩
  | 8 => ⟨(some 161), .mv (.t 0), none⟩
  | 9 => ⟨(some 162), .mv (.t 11), none⟩
  | 10 => ⟨(some 163), .iaddr (.t 161) (.t 162) 1, none⟩
  | 11 => ⟨(some 164), .load (.t 163) 1 false, none⟩
  | 12 => ⟨(some 165), .iaddr (.t 153) (.t 154) 1, none⟩
  | 13 => ⟨none, .store (.t 165) 1 (.t 160), none⟩
  | 14 => ⟨(some 166), .iaddr (.t 155) (.t 156) 1, none⟩
  | 15 => ⟨none, .store (.t 166) 1 (.t 164), none⟩
  | _ => ⟨none, .mkmap, none⟩
@[go_sem] def l85_49 (_ : Unit) : KL := [kA 167 (.mv (.t 11)),
  kA 8 (.mv (.t 167)),
  kB 9 (.mv (.c (.bool false))) [8, 9]]
@[go_sem] def s85_50 (_ : Unit) : IR := (sQ [(kT l85_0), (.kd (oF l85_1 16) [(0, []), (1, []), (2, []), (3, []), (4, []), (5, []), (6, []), (7, []), (8, []), (9, []), (10, []), (11, []), (12, []), (13, []), (14, []), (15, [])] [0, 1, 2]), (kT l85_2), (tH s85_9), (tH s85_16), (tH s85_21), (.kd (oF l85_22 16) [(0, []), (1, []), (2, []), (3, []), (4, []), (5, []), (6, []), (7, []), (8, []), (9, []), (10, []), (11, []), (12, []), (13, []), (14, []), (15, [])] [0, 1, 10, 11]), (kT l85_23), (kT l85_24), (tH s85_47), (.kd (oF l85_48 16) [(0, []), (1, []), (2, []), (3, []), (4, []), (5, []), (6, []), (7, []), (8, []), (9, []), (10, []), (11, []), (12, []), (13, []), (14, []), (15, [])] [11]), (kT l85_49), .ret])
@[go_sem] def l70_0 (_ : Unit) : KL := [kB 8 (.mv (.c (.bool true))) [0, 1, 2, 3, 8]]
@[go_sem] def l70_1 (_ : Unit) : KL := [kB 9 (.mv (.c (.bool true))) [0, 1, 2, 3, 8, 9]]
@[go_sem] def l70_2 (_ : Unit) : KL := [kA 19 (.mv (.t 2)),
  kA 20 (.mv (.t 1)),
  kA 21 (.bin .sub (.t 19) (.t 20)),
  kB 10 (.mv (.t 21)) [0, 1, 2, 3, 8, 9, 10]]
@[go_sem] def l70_3 (_ : Unit) : KL := [kA 22 (.mv (.t 10)),
  kB 23 (.bin .leq (.t 22) (.c (.int .i64 12))) [0, 1, 2, 3, 8, 9, 10, 23]]
@[go_sem] def l70_4 (_ : Unit) : KL := [kA 24 (.mv (.t 0)),
  kA 25 (.mv (.t 1)),
  kA 26 (.mv (.t 2)),
  kB 27 (.call (n_slices_insertionSortOrdered_int) [(.t 24), (.t 25), (.t 26)]) []]
@[go_sem] def s70_5 (_ : Unit) : IR := (sQ [(kT l70_4), .ret])
@[go_sem] def s70_6 (_ : Unit) : IR := (sQ [(kT l70_3), (.cond (.t 23) (tH s70_5) .skip)])
@[go_sem] def l70_7 (_ : Unit) : KL := [kA 28 (.mv (.t 3)),
  kB 29 (.bin .eql (.t 28) (cI 0)) [0, 1, 2, 3, 8, 9, 10, 29]]
@[go_sem] def l70_8 (_ : Unit) : KL := [kA 30 (.mv (.t 0)),
  kA 31 (.mv (.t 1)),
  kA 32 (.mv (.t 2)),
  kB 33 (.call (n_slices_heapSortOrdered_int) [(.t 30), (.t 31), (.t 32)]) []]
@[go_sem] def s70_9 (_ : Unit) : IR := (sQ [(kT l70_8), .ret])
@[go_sem] def s70_10 (_ : Unit) : IR := (sQ [(kT l70_7), (.cond (.t 29) (tH s70_9) .skip)])
@[go_sem] def l70_11 (_ : Unit) : KL := [kA 34 (.mv (.t 8)),
  kB 35 (.un .not (.t 34)) [0, 1, 2, 3, 8, 9, 10, 35]]
@[go_sem] def l70_12 (_ : Unit) : KL := [kA 36 (.mv (.t 0)),
  kA 37 (.mv (.t 1)),
  kA 38 (.mv (.t 2)),
  kB 39 (.call (n_slices_breakPatternsOrdered_int) [(.t 36), (.t 37), (.t 38)]) [0, 1, 2, 3, 8, 9, 10]]
@[go_sem] def l70_13 (_ : Unit) : KL := [kA 40 (.mv (.t 3)),
  kA 41 (.bin .sub (.t 40) (cI 1)),
  kB 3 (.mv (.t 41)) [0, 1, 2, 3, 8, 9, 10]]
@[go_sem] def s70_14 (_ : Unit) : IR := (sQ [(kT l70_12), (kT l70_13)])
@[go_sem] def s70_15 (_ : Unit) : IR := (sQ [(kT l70_11), (.cond (.t 35) (tH s70_14) .skip)])
@[go_sem] def l70_16 (_ : Unit) : KL := [kA 43 (.mv (.t 0)),
  kA 44 (.mv (.t 1)),
  kA 45 (.mv (.t 2)),
  kA 46 (.call (n_slices_choosePivotOrdered_int) [(.t 43), (.t 44), (.t 45)]),
  kB 42 (.mv (.t 46)) [0, 1, 2, 3, 8, 9, 10, 42],
  kA 47 (.ext (.t 42) 0),
  kA 48 (.ext (.t 42) 1),
  kA 11 (.mv (.t 47)),
  kB 12 (.mv (.t 48)) [0, 1, 2, 3, 8, 9, 10, 11, 12]]
@[go_sem] def l70_17 (_ : Unit) : KL := [kA 49 (.mv (.t 12)),
  kB 50 (.bin .eql (.t 49) (.c (.int .i64 2))) [0, 1, 2, 3, 8, 9, 10, 11, 12, 50]]
@[go_sem] def l70_18 (_ : Unit) : KL := [kA 51 (.mv (.t 0)),
  kA 52 (.mv (.t 1)),
  kA 53 (.mv (.t 2)),
  kB 54 (.call (n_slices_reverseRangeOrdered_int) [(.t 51), (.t 52), (.t 53)]) [0, 1, 2, 3, 8, 9, 10, 11]]
@[go_sem] def l70_19 (_ : Unit) : KL := [kA 55 (.mv (.t 2)),
  kA 56 (.bin .sub (.t 55) (cI 1)),
  kA 57 (.mv (.t 11)),
  kA 58 (.mv (.t 1)),
  kB 59 (.bin .sub (.t 57) (.t 58)) [0, 1, 2, 3, 8, 9, 10, 56, 59],
  kA 60 (.bin .sub (.t 56) (.t 59)),
  kB 11 (.mv (.t 60)) [0, 1, 2, 3, 8, 9, 10, 11]]
@[go_sem] def l70_20 (_ : Unit) : KL := [kB 12 (.mv (cI 1)) [0, 1, 2, 3, 8, 9, 10, 11, 12]]
@[go_sem] def s70_21 (_ : Unit) : IR := (sQ [(kT l70_18), (kT l70_19), (kT l70_20)])
@[go_sem] def s70_22 (_ : Unit) : IR := (sQ [(kT l70_17), (.cond (.t 50) (tH s70_21) .skip)])
@[go_sem] def l70_23 (_ : Unit) : KL := [kA 61 (.mv (.t 8)),
  kA 62 (.mv (.t 61)),
  (⟨(some 63), .mv (.t 9), (some (62, true))⟩, none),
  kA 64 (.pick (.t 62) (.t 63) (.c (.bool false))),
  kB 65 (.mv (.t 64)) [0, 1, 2, 3, 8, 9, 10, 11, 12, 65],
  (⟨(some 66), .mv (.t 12), (some (65, true))⟩, none),
  (⟨(some 67), .bin .eql (.t 66) (cI 1), (some (65, true))⟩, none),
  kB 68 (.pick (.t 65) (.t 67) (.c (.bool false))) [0, 1, 2, 3, 8, 9, 10, 11, 68]]
@[go_sem] def l70_24 (_ : Unit) : KL := [kA 69 (.mv (.t 0)),
  kA 70 (.mv (.t 1)),
  kA 71 (.mv (.t 2)),
  kB 72 (.call (n_slices_partialInsertionSortOrdered_int) [(.t 69), (.t 70), (.t 71)]) [0, 1, 2, 3, 8, 9, 10, 11, 72]]
@[go_sem] def s70_25 (_ : Unit) : IR := (sQ [(kT l70_24), (.cond (.t 72) .ret .skip)])
@[go_sem] def s70_26 (_ : Unit) : IR := (sQ [(kT l70_23), (.cond (.t 68) (tH s70_25) .skip)])
@[go_sem] def l70_27 : Nat → GOp
  | 0 => ⟨(some 73), .mv (.t 1), none⟩
  | 1 => ⟨(some 74), .bin .gtr (.t 73) (cI 0), none⟩
  | 2 => ⟨(some 75), .mv (.t 74), none⟩
  | 3 => ⟨(some 76), .mv (.t 0), (some (75, true))⟩
  | 4 => ⟨(some 77), .mv (.t 1), (some (75, true))⟩
  | 5 => ⟨(some 78), .bin .sub (.t 77) (cI 1), (some (75, true))⟩
  | 6 => ⟨(some 79), .iaddr (.t 76) (.t 78) 1, (some (75, true))⟩
  | 7 => ⟨(some 80), .load (.t 79) 1 false, (some (75, true))⟩
  | 8 => ⟨(some 81), .mv (.t 0), (some (75, true))⟩
  | 9 => ⟨(some 82), .mv (.t 11), (some (75, true))⟩
  | 10 => ⟨(some 83), .iaddr (.t 81) (.t 82) 1, (some (75, true))⟩
  | 11 => ⟨(some 84), .load (.t 83) 1 false, (some (75, true))⟩
  | 12 => ⟨(some 85), .call (n_cmp_Less_int) [(.t 80), (.t 84)], (some (75, true))⟩
  | 13 => ⟨(some 86), .un .not (.t 85), (some (75, true))⟩
  | 14 => ⟨(some 87), .pick (.t 75) (.t 86) (.c (.bool false)), none⟩
  | _ => ⟨none, .mkmap, none⟩
@[go_sem] def l70_28 (_ : Unit) : KL := [kA 88 (.mv (.t 0)),
  kA 89 (.mv (.t 1)),
  kA 90 (.mv (.t 2)),
  kA 91 (.mv (.t 11)),
  kB 92 (.call (n_slices_partitionEqualOrdered_int) [(.t 88), (.t 89), (.t 90), (.t 91)]) [0, 2, 3, 8, 9, 92],
  kB 13 (.mv (.t 92)) [0, 2, 3, 8, 9, 13]]
@[go_sem] def l70_29 (_ : Unit) : KL := [kA 93 (.mv (.t 13)),
  kB 1 (.mv (.t 93)) [0, 1, 2, 3, 8, 9]]
@[go_sem] def s70_30 (_ : Unit) : IR := (sQ [(kT l70_28), (kT l70_29), (.exit 1)])
@[go_sem] def s70_31 (_ : Unit) : IR := (sQ [(.kd (oF l70_27 15) [(0, []), (1, []), (2, []), (3, []), (4, []), (5, []), (6, []), (7, []), (8, []), (9, []), (10, []), (11, []), (12, []), (13, []), (14, [])] [0, 1, 2, 3, 8, 9, 10, 11, 87]), (.cond (.t 87) (tH s70_30) .skip)])
@[go_sem] def l70_32 (_ : Unit) : KL := [kA 95 (.mv (.t 0)),
  kA 96 (.mv (.t 1)),
  kA 97 (.mv (.t 2)),
  kA 98 (.mv (.t 11)),
  kB 99 (.call (n_slices_partitionOrdered_int) [(.t 95), (.t 96), (.t 97), (.t 98)]) [0, 1, 2, 3, 10, 99],
  kA 94 (.mv (.t 99)),
  kA 100 (.ext (.t 94) 0),
  kA 101 (.ext (.t 94) 1),
  kA 14 (.mv (.t 100)),
  kB 15 (.mv (.t 101)) [0, 1, 2, 3, 10, 14, 15]]
@[go_sem] def l70_33 (_ : Unit) : KL := [kA 102 (.mv (.t 15)),
  kB 9 (.mv (.t 102)) [0, 1, 2, 3, 9, 10, 14]]
@[go_sem] def l70_34 (_ : Unit) : KL := [kA 103 (.mv (.t 14)),
  kA 104 (.mv (.t 1)),
  kA 105 (.bin .sub (.t 103) (.t 104)),
  kA 106 (.mv (.t 2)),
  kB 107 (.mv (.t 14)) [0, 1, 2, 3, 9, 10, 14, 105, 106, 107],
  kA 108 (.bin .sub (.t 106) (.t 107)),
  kA 16 (.mv (.t 105)),
  kB 17 (.mv (.t 108)) [0, 1, 2, 3, 9, 10, 14, 16, 17]]
@[go_sem] def l70_35 (_ : Unit) : KL := [kA 109 (.mv (.t 10)),
  kA 110 (.bin .quo (.t 109) (.c (.int .i64 8))),
  kB 18 (.mv (.t 110)) [0, 1, 2, 3, 9, 14, 16, 17, 18]]
@[go_sem] def l70_36 (_ : Unit) : KL := [kA 111 (.mv (.t 16)),
  kA 112 (.mv (.t 17)),
  kB 113 (.bin .lss (.t 111) (.t 112)) [0, 1, 2, 3, 9, 14, 16, 17, 18, 113]]
@[go_sem] def l70_37 (_ : Unit) : KL := [kA 114 (.mv (.t 16)),
  kA 115 (.mv (.t 18)),
  kA 116 (.bin .geq (.t 114) (.t 115)),
  kB 8 (.mv (.t 116)) [0, 1, 2, 3, 8, 9, 14]]
@[go_sem] def l70_38 (_ : Unit) : KL := [kA 117 (.mv (.t 0)),
  kA 118 (.mv (.t 1)),
  kA 119 (.mv (.t 14)),
  kA 120 (.mv (.t 3)),
  kB 121 (.call (n_slices_pdqsortOrdered_int) [(.t 117), (.t 118), (.t 119), (.t 120)]) [0, 2, 3, 8, 9, 14]]
@[go_sem] def l70_39 (_ : Unit) : KL := [kA 122 (.mv (.t 14)),
  kA 123 (.bin .add (.t 122) (cI 1)),
  kB 1 (.mv (.t 123)) [0, 1, 2, 3, 8, 9]]
@[go_sem] def s70_40 (_ : Unit) : IR := (sQ [(kT l70_37), (kT l70_38), (kT l70_39)])
@[go_sem] def l70_41 (_ : Unit) : KL := [kA 124 (.mv (.t 17)),
  kA 125 (.mv (.t 18)),
  kA 126 (.bin .geq (.t 124) (.t 125)),
  kB 8 (.mv (.t 126)) [0, 1, 2, 3, 8, 9, 14]]
@[go_sem] def l70_42 (_ : Unit) : KL := [kA 127 (.mv (.t 0)),
  kA 128 (.mv (.t 14)),
  kA 129 (.bin .add (.t 128) (cI 1)),
  kA 130 (.mv (.t 2)),
  kB 131 (.mv (.t 3)) [0, 1, 3, 8, 9, 14, 127, 129, 130, 131],
  kB 132 (.call (n_slices_pdqsortOrdered_int) [(.t 127), (.t 129), (.t 130), (.t 131)]) [0, 1, 3, 8, 9, 14]]
@[go_sem] def l70_43 (_ : Unit) : KL := [kA 133 (.mv (.t 14)),
  kB 2 (.mv (.t 133)) [0, 1, 2, 3, 8, 9]]
@[go_sem] def s70_44 (_ : Unit) : IR := (sQ [(kT l70_41), (kT l70_42), (kT l70_43)])
@[go_sem] def s70_45 (_ : Unit) : IR := (sQ [(kT l70_2), (tH s70_6), (tH s70_10), (tH s70_15), (kT l70_16), (tH s70_22), (tH s70_26), (tH s70_31), (kT l70_32), (kT l70_33), (kT l70_34), (kT l70_35), (kT l70_36), (.cond (.t 113) (tH s70_40) (tH s70_44))])
@[go_sem] def s70_46 (_ : Unit) : IR := (.block 1 (tH s70_45))
@[go_sem] def s70_47 (_ : Unit) : IR := (.loop (tH s70_46))
@[go_sem] def s70_48 (_ : Unit) : IR := (.block 0 (tH s70_47))
@[go_sem] def s70_49 (_ : Unit) : IR := (sQ [(kT l70_0), (kT l70_1), (tH s70_48)])
@[go_sem] def l49_0 (_ : Unit) : KL := [kA 3 (.mv (.t 0)),
  kA 4 (.len (.t 3)),
  kB 2 (.mv (.t 4)) [0, 2]]
@[go_sem] def l49_1 (_ : Unit) : KL := [kA 5 (.mv (.t 0)),
  kA 6 (.mv (.t 2)),
  kA 7 (.mv (.t 2)),
  kA 8 (.cvi .u64 (.t 7)),
  kB 9 (.call (n_math_bits_Len) [(.t 8)]) [5, 6, 9],
  kB 10 (.call (n_slices_pdqsortOrdered_int) [(.t 5), (cI 0), (.t 6), (.t 9)]) []]
@[go_sem] def s49_2 (_ : Unit) : IR := (sQ [(kT l49_0), (kT l49_1)])
@[go_sem] def l75_0 (_ : Unit) : KL := [kB 2 (.mv (.c (.str ⟨#[]⟩))) [0]]
@[go_sem] def l75_1 (_ : Unit) : KL := [kA 3 (.mv (.t 0)),
  kA 4 (.call (n_internal_strconv_FormatInt) [(.t 3), (.c (.int .i64 10))]),
  kB 2 (.mv (.t 4)) [2]]
@[go_sem] def s75_2 (_ : Unit) : IR := (sQ [(kT l75_0), (kT l75_1), .ret])
@[go_sem] def l63_0 (_ : Unit) : KL := [kB 2 (.mv (.c (.str ⟨#[]⟩))) [0]]
@[go_sem] def l63_1 (_ : Unit) : KL := [kA 3 (.mv (.t 0)),
  kA 4 (.call (n_internal_strconv_Itoa) [(.t 3)]),
  kB 2 (.mv (.t 4)) [2]]
@[go_sem] def s63_2 (_ : Unit) : IR := (sQ [(kT l63_0), (kT l63_1), .ret])
@[go_sem] def l62_0 (_ : Unit) : KL := [kB 2 (.mv (.c (.str ⟨#[]⟩))) [0]]
@[go_sem] def l62_1 (_ : Unit) : KL := [kB 3 (.mv (.c (.str ⟨#[]⟩))) [0, 3]]
@[go_sem] def l62_2 (_ : Unit) : KL := [kA 6 (.mv (.t 0)),
  kA 7 (.len (.t 6)),
  kB 8 (.mv (cI 0)) [3, 6, 7, 8]]
@[go_sem] def l62_3 (_ : Unit) : KL := [kB 9 (.bin .lss (.t 8) (.t 7)) [3, 6, 7, 8, 9]]
@[go_sem] def l62_4 (_ : Unit) : KL := [kA 10 (.iaddr (.t 6) (.t 8) 1),
  kA 11 (.load (.t 10) 1 false),
  kB 5 (.mv (.t 11)) [3, 5, 6, 7, 8]]
@[go_sem] def l62_5 (_ : Unit) : KL := [kA 12 (.mv (.t 3)),
  kA 13 (.mv (.t 5)),
  kA 14 (.call (n_strconv_Itoa) [(.t 13)]),
  kA 15 (.bin .add (.t 14) (.c (.str ⟨#[44]⟩))),
  kB 16 (.bin .add (.t 12) (.t 15)) [6, 7, 8, 16],
  kB 3 (.mv (.t 16)) [3, 6, 7, 8]]
@[go_sem] def s62_6 (_ : Unit) : IR := (sQ [(kT l62_4), (kT l62_5)])
@[go_sem] def s62_7 (_ : Unit) : IR := (.block 1 (tH s62_6))
@[go_sem] def l62_8 (_ : Unit) : KL := [kA 17 (.bin .add (.t 8) (cI 1)),
  kB 8 (.mv (.t 17)) [3, 6, 7, 8]]
@[go_sem] def s62_9 (_ : Unit) : IR := (sQ [(kT l62_3), (.cond (.t 9) .skip (.exit 0)), (tH s62_7), (kT l62_8)])
@[go_sem] def s62_10 (_ : Unit) : IR := (.loop (tH s62_9))
@[go_sem] def s62_11 (_ : Unit) : IR := (.block 0 (tH s62_10))
@[go_sem] def s62_12 (_ : Unit) : IR := (sQ [(kT l62_2), (tH s62_11)])
@[go_sem] def l62_13 (_ : Unit) : KL := [kA 18 (.mv (.t 3)),
  kB 2 (.mv (.t 18)) [2]]
@[go_sem] def s62_14 (_ : Unit) : IR := (sQ [(kT l62_0), (kT l62_1), (tH s62_12), (kT l62_13), .ret])
theorem c62 : compFn Tryd.prog [(0, [], [oS [0]]), (1, [], [oS [0, 3]]), (2, [], [oN, oN, oS [3, 6, 7, 8]]), (3, [], [oS [3, 6, 7, 8, 9]]), (4, [], [oN, oN, oS [3, 5, 6, 7, 8]]), (5, [], [oN, oN, oN, oN, oS [6, 7, 8, 16], oS [3, 6, 7, 8]]), (6, [], [oN, oS [3, 6, 7, 8]]), (7, [], [oN, oS [2]])] Tryd.f62 = some ⟨1, 19, [.t 2], (tH s62_14)⟩ := by kernel_rfl
theorem v_impl_numbersText (hl : vs.length = 1) (h : wpV Tryd.prog (tH s62_14) (postV [.t 2] RV) (envV vs) M) : VCall Tryd.prog n_impl_numbersText vs M RV :=
  vcall_of_wp (fun _ _ _ hl h => acall_of_wp mixed Tryd.func62 c62 (by kernel_rfl) hl h) hl h
@[go_sem] def l50_0 (_ : Unit) : KL := [kB 2 (.mv (.c (.sl none 0 0 true 0))) [0]]
@[go_sem] def l50_1 (_ : Unit) : KL := [kA 6 (.mv (.t 0)),
  kA 7 (.len (.t 6)),
  kB 8 (.bin .lss (.t 7) (.c (.int .i64 2))) [0, 8]]
@[go_sem] def l50_2 (_ : Unit) : KL := [kA 9 (.mv (.t 0)),
  kB 2 (.mv (.t 9)) [2]]
@[go_sem] def s50_3 (_ : Unit) : IR := (sQ [(kT l50_2), .ret])
@[go_sem] def s50_4 (_ : Unit) : IR := (sQ [(kT l50_1), (.cond (.t 8) (tH s50_3) .skip)])
@[go_sem] def l50_5 (_ : Unit) : KL := [kB 3 (.mv (cI 1)) [0, 3]]
@[go_sem] def l50_6 (_ : Unit) : KL := [kA 10 (.mv (.t 3)),
  kA 11 (.mv (.t 0)),
  kA 12 (.len (.t 11)),
  kB 13 (.bin .lss (.t 10) (.t 12)) [0, 3, 13]]
@[go_sem] def s50_7 (_ : Unit) : IR := (sQ [(kT l50_6), (.cond (.t 13) .skip (.exit 0))])
@[go_sem] def l50_8 : Nat → GOp
  | 0 => ⟨(some 16), .mv (.t 0), none⟩
  | 1 => ⟨(some 17), .mv (.t 3), none⟩
  | 2 => ⟨(some 18), .iaddr (.t 16) (.t 17) 1, none⟩
  | 3 => ⟨(some 19), .load (.t 18) 1 false, none⟩
  | 4 => ⟨(some 20), .mv (.t 0), none⟩
  | 5 => ⟨(some 21), .mv (.t 3), none⟩
  | 6 => ⟨(some 22), .bin .sub (.t 21) (cI 1), none⟩
  | 7 => ⟨(some 23), .iaddr (.t 20) (.t 22) 1, none⟩
  | 8 => ⟨(some 24), .load (.t 23) 1 false, none⟩
  | 9 => ⟨(some 25), .bin .eql (.t 19) (.t 24), none⟩
  | _ => ⟨none, .mkmap, none⟩
@[go_sem] def l50_9 (_ : Unit) : KL := [kA 26 (.mv (.t 0)),
  kA 27 (.mv (.t 3)),
  kA 28 (.slc 1 (.t 26) (some (.t 27)) none none),
  kB 4 (.mv (.t 28)) [0, 3, 4]]
@[go_sem] def l50_10 (_ : Unit) : KL := [kB 5 (.mv (cI 1)) [0, 3, 4, 5]]
@[go_sem] def l50_11 (_ : Unit) : KL := [kA 29 (.mv (.t 5)),
  kA 30 (.mv (.t 4)),
  kA 31 (.len (.t 30)),
  kB 32 (.bin .lss (.t 29) (.t 31)) [0, 3, 4, 5, 32]]
@[go_sem] def s50_12 (_ : Unit) : IR := (sQ [(kT l50_11), (.cond (.t 32) .skip (.exit 2))])
@[go_sem] def l50_13 : Nat → GOp
  | 0 => ⟨(some 35), .mv (.t 4), none⟩
  | 1 => ⟨(some 36), .mv (.t 5), none⟩
  | 2 => ⟨(some 37), .iaddr (.t 35) (.t 36) 1, none⟩
  | 3 => ⟨(some 38), .load (.t 37) 1 false, none⟩
  | 4 => ⟨(some 39), .mv (.t 4), none⟩
  | 5 => ⟨(some 40), .mv (.t 5), none⟩
  | 6 => ⟨(some 41), .bin .sub (.t 40) (cI 1), none⟩
  | 7 => ⟨(some 42), .iaddr (.t 39) (.t 41) 1, none⟩
  | 8 => ⟨(some 43), .load (.t 42) 1 false, none⟩
  | 9 => ⟨(some 44), .bin .neq (.t 38) (.t 43), none⟩
  | _ => ⟨none, .mkmap, none⟩
@[go_sem] def l50_14 (_ : Unit) : KL := [kA 45 (.mv (.t 0)),
  kA 46 (.mv (.t 3)),
  kA 47 (.mv (.t 4)),
  kA 48 (.mv (.t 5)),
  kB 49 (.iaddr (.t 47) (.t 48) 1) [0, 3, 4, 5, 45, 46, 49],
  kA 50 (.load (.t 49) 1 false),
  kA 51 (.iaddr (.t 45) (.t 46) 1),
  (⟨none, .store (.t 51) 1 (.t 50), none⟩, (some [0, 3, 4, 5]))]
@[go_sem] def l50_15 (_ : Unit) : KL := [kA 52 (.mv (.t 3)),
  kA 53 (.bin .add (.t 52) (cI 1)),
  kB 3 (.mv (.t 53)) [0, 3, 4, 5]]
@[go_sem] def s50_16 (_ : Unit) : IR := (sQ [(kT l50_14), (kT l50_15)])
@[go_sem] def s50_17 (_ : Unit) : IR := (sQ [(.kd (oF l50_13 10) [(0, []), (1, []), (2, []), (3, []), (4, []), (5, []), (6, []), (7, []), (8, []), (9, [])] [0, 3, 4, 5, 44]), (.cond (.t 44) (tH s50_16) .skip)])
@[go_sem] def s50_18 (_ : Unit) : IR := (.block 3 (tH s50_17))
@[go_sem] def l50_19 (_ : Unit) : KL := [kA 33 (.mv (.t 5)),
  kA 34 (.bin .add (.t 33) (cI 1)),
  kB 5 (.mv (.t 34)) [0, 3, 4, 5]]
@[go_sem] def s50_20 (_ : Unit) : IR := (sQ [(tH s50_12), (tH s50_18), (kT l50_19)])
@[go_sem] def s50_21 (_ : Unit) : IR := (.loop (tH s50_20))
@[go_sem] def s50_22 (_ : Unit) : IR := (.block 2 (tH s50_21))
@[go_sem] def s50_23 (_ : Unit) : IR := (sQ [(kT l50_10), (tH s50_22)])
@[go_sem] def l50_24 (_ : Unit) : KL := [kA 54 (.mv (.t 0)),
  kA 55 (.mv (.t 3)),
  kA 56 (.slc 1 (.t 54) (some (.t 55)) none none),
  (⟨none, .clear [(.int .i64 0)] (.t 56), none⟩, (some [0, 3]))]
@[go_sem] def l50_25 (_ : Unit) : KL := [kA 57 (.mv (.t 0)),
  kA 58 (.mv (.t 3)),
  kA 59 (.slc 1 (.t 57) none (some (.t 58)) none),
  kB 2 (.mv (.t 59)) [2]]
@[go_sem] def s50_26 (_ : Unit) : IR := (sQ [(kT l50_9), (tH s50_23), (kT l50_24), (kT l50_25), .ret])
@[go_sem] def s50_27 (_ : Unit) : IR := (sQ [(.kd (oF l50_8 10) [(0, []), (1, []), (2, []), (3, []), (4, []), (5, []), (6, []), (7, []), (8, []), (9, [])] [0, 3, 25]), (.cond (.t 25) (tH s50_26) .skip)])
@[go_sem] def s50_28 (_ : Unit) : IR := (.block 1 (tH s50_27))
@[go_sem] def l50_29 (_ : Unit) : KL := [kA 14 (.mv (.t 3)),
  kA 15 (.bin .add (.t 14) (cI 1)),
  kB 3 (.mv (.t 15)) [0, 3]]
@[go_sem] def s50_30 (_ : Unit) : IR := (sQ [(tH s50_7), (tH s50_28), (kT l50_29)])
@[go_sem] def s50_31 (_ : Unit) : IR := (.loop (tH s50_30))
@[go_sem] def s50_32 (_ : Unit) : IR := (.block 0 (tH s50_31))
@[go_sem] def s50_33 (_ : Unit) : IR := (sQ [(kT l50_5), (tH s50_32)])
@[go_sem] def l50_34 (_ : Unit) : KL := [kA 60 (.mv (.t 0)),
  kB 2 (.mv (.t 60)) [2]]
@[go_sem] def s50_35 (_ : Unit) : IR := (sQ [(kT l50_0), (tH s50_4), (tH s50_33), (kT l50_34), .ret])
theorem c50 : compFn Tryd.prog [(0, [], [oS [0]]), (1, [], [oN, oN, oS [0, 8]]), (2, [], [oN, oS [2]]), (3, [], [oS [0, 3]]), (4, [], [oN, oN, oN, oS [0, 3, 13]]), (6, [(0, []), (1, []), (2, []), (3, []), (4, []), (5, []), (6, []), (7, []), (8, []), (9, [])], [oS [0, 3, 25]]), (7, [], [oN, oN, oN, oS [0, 3, 4]]), (8, [], [oS [0, 3, 4, 5]]), (9, [], [oN, oN, oN, oS [0, 3, 4, 5, 32]]), (11, [(0, []), (1, []), (2, []), (3, []), (4, []), (5, []), (6, []), (7, []), (8, []), (9, [])], [oS [0, 3, 4, 5, 44]]), (12, [], [oN, oN, oN, oN, oS [0, 3, 4, 5, 45, 46, 49], oN, oN, oS [0, 3, 4, 5]]), (13, [], [oN, oN, oS [0, 3, 4, 5]]), (10, [], [oN, oN, oS [0, 3, 4, 5]]), (14, [], [oN, oN, oN, oS [0, 3]]), (15, [], [oN, oN, oN, oS [2]]), (5, [], [oN, oN, oS [0, 3]]), (16, [], [oN, oS [2]])] Tryd.f50 = some ⟨1, 61, [.t 2], (tH s50_35)⟩ := by kernel_rfl
theorem v_slices_Compact_Sint_int (hl : vs.length = 1) (h : wpV Tryd.prog (tH s50_35) (postV [.t 2] RV) (envV vs) M) : VCall Tryd.prog n_slices_Compact_Sint_int vs M RV :=
  vcall_of_wp (fun _ _ _ hl h => acall_of_wp mixed Tryd.func50 c50 (by kernel_rfl) hl h) hl h
@[go_sem] def l41_0 (_ : Unit) : KL := [kB 4 (.mv (.c (.bool false))) [0, 1]]
@[go_sem] def l41_1 (_ : Unit) : KL := [kA 6 (.mv (.t 0)),
  kA 7 (.len (.t 6)),
  kA 8 (.mv (.t 1)),
  kA 9 (.len (.t 8)),
  kB 10 (.bin .neq (.t 7) (.t 9)) [0, 1, 10]]
@[go_sem] def l41_2 (_ : Unit) : KL := [kB 4 (.mv (.c (.bool false))) [4]]
@[go_sem] def s41_3 (_ : Unit) : IR := (sQ [(kT l41_2), .ret])
@[go_sem] def s41_4 (_ : Unit) : IR := (sQ [(kT l41_1), (.cond (.t 10) (tH s41_3) .skip)])
@[go_sem] def l41_5 (_ : Unit) : KL := [kA 11 (.mv (.t 0)),
  kA 12 (.len (.t 11)),
  kB 13 (.mv (cI 0)) [0, 1, 12, 13]]
@[go_sem] def l41_6 (_ : Unit) : KL := [kB 14 (.bin .lss (.t 13) (.t 12)) [0, 1, 12, 13, 14]]
@[go_sem] def l41_7 (_ : Unit) : KL := [kA 15 (.mv (.t 13)),
  kB 5 (.mv (.t 15)) [0, 1, 5, 12, 13]]
@[go_sem] def l41_8 : Nat → GOp
  | 0 => ⟨(some 16), .mv (.t 0), none⟩
  | 1 => ⟨(some 17), .mv (.t 5), none⟩
  | 2 => ⟨(some 18), .iaddr (.t 16) (.t 17) 1, none⟩
  | 3 => ⟨(some 19), .load (.t 18) 1 false, none⟩
  | 4 => ⟨(some 20), .mv (.t 1), none⟩
  | 5 => ⟨(some 21), .mv (.t 5), none⟩
  | 6 => ⟨(some 22), .iaddr (.t 20) (.t 21) 1, none⟩
  | 7 => ⟨(some 23), .load (.t 22) 1 false, none⟩
  | 8 => ⟨(some 24), .bin .neq (.t 19) (.t 23), none⟩
  | _ => ⟨none, .mkmap, none⟩
@[go_sem] def l41_9 (_ : Unit) : KL := [kB 4 (.mv (.c (.bool false))) [4]]
@[go_sem] def s41_10 (_ : Unit) : IR := (sQ [(kT l41_9), .ret])
@[go_sem] def s41_11 (_ : Unit) : IR := (sQ [(kT l41_7), (.kd (oF l41_8 9) [(0, []), (1, []), (2, []), (3, []), (4, []), (5, []), (6, []), (7, []), (8, [])] [0, 1, 12, 13, 24]), (.cond (.t 24) (tH s41_10) .skip)])
@[go_sem] def s41_12 (_ : Unit) : IR := (.block 1 (tH s41_11))
@[go_sem] def l41_13 (_ : Unit) : KL := [kA 25 (.bin .add (.t 13) (cI 1)),
  kB 13 (.mv (.t 25)) [0, 1, 12, 13]]
@[go_sem] def s41_14 (_ : Unit) : IR := (sQ [(kT l41_6), (.cond (.t 14) .skip (.exit 0)), (tH s41_12), (kT l41_13)])
@[go_sem] def s41_15 (_ : Unit) : IR := (.loop (tH s41_14))
@[go_sem] def s41_16 (_ : Unit) : IR := (.block 0 (tH s41_15))
@[go_sem] def s41_17 (_ : Unit) : IR := (sQ [(kT l41_5), (tH s41_16)])
@[go_sem] def l41_18 (_ : Unit) : KL := [kB 4 (.mv (.c (.bool true))) [4]]
@[go_sem] def s41_19 (_ : Unit) : IR := (sQ [(kT l41_0), (tH s41_4), (tH s41_17), (kT l41_18), .ret])
theorem c41 : compFn Tryd.prog [(0, [], [oS [0, 1]]), (1, [], [oN, oN, oN, oN, oS [0, 1, 10]]), (2, [], [oS [4]]), (3, [], [oN, oN, oS [0, 1, 12, 13]]), (4, [], [oS [0, 1, 12, 13, 14]]), (5, [], [oN, oS [0, 1, 5, 12, 13]]), (6, [(0, []), (1, []), (2, []), (3, []), (4, []), (5, []), (6, []), (7, []), (8, [])], [oS [0, 1, 12, 13, 24]]), (7, [], [oS [4]]), (8, [], [oN, oS [0, 1, 12, 13]]), (9, [], [oS [4]])] Tryd.f41 = some ⟨2, 26, [.t 4], (tH s41_19)⟩ := by kernel_rfl
theorem v_slices_Equal_Sint_int (hl : vs.length = 2) (h : wpV Tryd.prog (tH s41_19) (postV [.t 4] RV) (envV vs) M) : VCall Tryd.prog n_slices_Equal_Sint_int vs M RV :=
  vcall_of_wp (fun _ _ _ hl h => acall_of_wp mixed Tryd.func41 c41 (by kernel_rfl) hl h) hl h
@[go_sem] def l33_0 (_ : Unit) : KL := [kA 1 (.box (.t 0)),
  kB 2 (.mv (.c (.sl none 0 0 true 0))) [1]]
@[go_sem] def l33_1 (_ : Unit) : KL := [kA 14 (.faddr (.t 1) 0),
  kA 15 (.load (.t 14) 1 false),
  kA 16 (.len (.t 15)),
  kB 3 (.mv (.t 16)) [1, 3]]
@[go_sem] def l33_2 (_ : Unit) : KL := [kA 17 (.mv (.t 3)),
  kA 18 (.mks [(.int .i64 0)] 8 (.t 17)),
  kB 4 (.mv (.t 18)) [1, 3, 4]]
@[go_sem] def l33_3 (_ : Unit) : KL := [kA 19 (.mkmap),
  kB 5 (.mv (.t 19)) [1, 3, 4, 5]]
@[go_sem] def l33_4 (_ : Unit) : KL := [kA 20 (.mv (.t 3)),
  kA 21 (.mks [(.int .i64 0)] 8 (.t 20)),
  kB 6 (.mv (.t 21)) [1, 3, 4, 5, 6]]
@[go_sem] def l33_5 (_ : Unit) : KL := [kA 22 (.mv (.t 3)),
  kB 23 (.mv (cI 0)) [1, 3, 4, 5, 6, 22, 23]]
@[go_sem] def l33_6 (_ : Unit) : KL := [kB 24 (.bin .lss (.t 23) (.t 22)) [1, 3, 4, 5, 6, 22, 23, 24]]
@[go_sem] def l33_7 (_ : Unit) : KL := [kA 25 (.mv (.t 23)),
  kB 7 (.mv (.t 25)) [1, 3, 4, 5, 6, 7, 22, 23]]
@[go_sem] def l33_8 (_ : Unit) : KL := [kB 8 (.mv (.c (.sl none 0 0 true 0))) [1, 3, 4, 5, 6, 7, 8, 22, 23]]
@[go_sem] def l33_9 (_ : Unit) : KL := [kA 26 (.faddr (.t 1) 2),
  kA 27 (.load (.t 26) 1 false),
  kA 28 (.mv (.t 7)),
  kA 29 (.iaddr (.t 27) (.t 28) 1),
  kB 30 (.load (.t 29) 1 false) [1, 3, 4, 5, 6, 7, 8, 22, 23, 30],
  kA 31 (.len (.t 30)),
  kB 32 (.mv (cI 0)) [1, 3, 4, 5, 6, 7, 8, 22, 23, 30, 31, 32]]
@[go_sem] def l33_10 (_ : Unit) : KL := [kB 33 (.bin .lss (.t 32) (.t 31)) [1, 3, 4, 5, 6, 7, 8, 22, 23, 30, 31, 32, 33]]
@[go_sem] def l33_11 (_ : Unit) : KL := [kA 34 (.iaddr (.t 30) (.t 32) 1),
  kA 35 (.load (.t 34) 1 false),
  kB 10 (.mv (.t 35)) [1, 3, 4, 5, 6, 7, 8, 10, 22, 23, 30, 31, 32]]
@[go_sem] def l33_12 (_ : Unit) : KL := [kA 36 (.mv (.t 8)),
  kA 37 (.mv (.t 4)),
  kA 38 (.mv (.t 10)),
  kA 39 (.iaddr (.t 37) (.t 38) 1),
  kB 40 (.load (.t 39) 1 false) [1, 3, 4, 5, 6, 7, 22, 23, 30, 31, 32, 36, 40],
  kA 41 (.bslc 1 1 [(.int .i64 0)] [(0, (.t 40))]),
  kA 42 (.app 1 8 (.t 36) (.t 41)),
  kB 8 (.mv (.t 42)) [1, 3, 4, 5, 6, 7, 8, 22, 23, 30, 31, 32]]
@[go_sem] def s33_13 (_ : Unit) : IR := (sQ [(kT l33_11), (kT l33_12)])
@[go_sem] def s33_14 (_ : Unit) : IR := (.block 5 (tH s33_13))
@[go_sem] def l33_15 (_ : Unit) : KL := [kA 43 (.bin .add (.t 32) (cI 1)),
  kB 32 (.mv (.t 43)) [1, 3, 4, 5, 6, 7, 8, 22, 23, 30, 31, 32]]
@[go_sem] def s33_16 (_ : Unit) : IR := (sQ [(kT l33_10), (.cond (.t 33) .skip (.exit 4)), (tH s33_14), (kT l33_15)])
@[go_sem] def s33_17 (_ : Unit) : IR := (.loop (tH s33_16))
@[go_sem] def s33_18 (_ : Unit) : IR := (.block 4 (tH s33_17))
@[go_sem] def s33_19 (_ : Unit) : IR := (sQ [(kT l33_9), (tH s33_18)])
@[go_sem] def l33_20 (_ : Unit) : KL := [kA 44 (.mv (.t 8)),
  kB 45 (.call (n_slices_Sort_Sint_int) [(.t 44)]) [1, 3, 4, 5, 6, 7, 8, 22, 23]]
@[go_sem] def l33_21 : Nat → GOp
  | 0 => ⟨(some 46), .faddr (.t 1) 0, none⟩
  | 1 => ⟨(some 47), .load (.t 46) 1 false, none⟩
  | 2 => ⟨(some 48), .mv (.t 7), none⟩
  | 3 => ⟨(some 49), .iaddr (.t 47) (.t 48) 1, none⟩
  | 4 => ⟨(some 50), .load (.t 49) 1 false, none⟩
  | 5 => ⟨(some 51), .call (n_impl_numbersText) [(.t 50)], none⟩
  | 6 => ⟨(some 52), .bin .add (.t 51) (.c (.str ⟨#[59]⟩)), none⟩
  | 7 => ⟨(some 53), .mv (.t 4), none⟩
  | 8 => ⟨(some 54), .mv (.t 7), none⟩
  | 9 => ⟨(some 55), .iaddr (.t 53) (.t 54) 1, none⟩
  | 10 => ⟨(some 56), .load (.t 55) 1 false, none⟩
  | 11 => ⟨(some 57), .call (n_strconv_Itoa) [(.t 56)], none⟩
  | 12 => ⟨(some 58), .bin .add (.t 52) (.t 57), none⟩
  | 13 => ⟨(some 59), .bin .add (.t 58) (.c (.str ⟨#[59]⟩)), none⟩
  | 14 => ⟨(some 60), .mv (.t 8), none⟩
  | 15 => ⟨(some 61), .call (n_slices_Compact_Sint_int) [(.t 60)], none⟩
  | 16 => ⟨(some 62), .call (n_impl_numbersText) [(.t 61)], none⟩
  | 17 => ⟨(some 63), .bin .add (.t 59) (.t 62), none⟩
  | 18 => ⟨(some 11), .mv (.t 63), none⟩
  | _ => ⟨none, .mkmap, none⟩
@[go_sem] def l33_22 (_ : Unit) : KL := [kA 65 (.mv (.t 5)),
  kA 66 (.mv (.t 11)),
  kA 67 (.lookup .s (.int .i64 0) true (.t 65) (.t 66)),
  kA 64 (.mv (.t 67)),
  kB 68 (.ext (.t 64) 0) [1, 3, 4, 5, 6, 7, 11, 22, 23, 64, 68],
  kA 69 (.ext (.t 64) 1),
  kA 12 (.mv (.t 68)),
  kB 13 (.mv (.t 69)) [1, 3, 4, 5, 6, 7, 11, 13, 22, 23]]
@[go_sem] def l33_23 (_ : Unit) : KL := [kA 70 (.mv (.t 13)),
  kB 71 (.un .not (.t 70)) [1, 3, 4, 5, 6, 7, 11, 22, 23, 71]]
@[go_sem] def l33_24 (_ : Unit) : KL := [kA 72 (.mv (.t 5)),
  kA 73 (.mv (.t 11)),
  kA 74 (.mv (.t 7)),
  (⟨none, .mapset .s (.t 72) (.t 73) (.t 74), none⟩, (some [1, 3, 4, 5, 6, 7, 11, 22, 23]))]
@[go_sem] def s33_25 (_ : Unit) : IR := (sQ [(kT l33_22), (kT l33_23), (.cond (.t 71) (kT l33_24) .skip)])
@[go_sem] def l33_26 (_ : Unit) : KL := [kA 75 (.mv (.t 6)),
  kA 76 (.mv (.t 7)),
  kA 77 (.mv (.t 5)),
  kA 78 (.mv (.t 11)),
  kB 79 (.lookup .s (.int .i64 0) false (.t 77) (.t 78)) [1, 3, 4, 5, 6, 22, 23, 75, 76, 79],
  kA 80 (.iaddr (.t 75) (.t 76) 1),
  (⟨none, .store (.t 80) 1 (.t 79), none⟩, (some [1, 3, 4, 5, 6, 22, 23]))]
@[go_sem] def s33_27 (_ : Unit) : IR := (sQ [(kT l33_7), (kT l33_8), (tH s33_19), (kT l33_20), (.kd (oF l33_21 19) [(0, []), (1, []), (2, []), (3, []), (4, []), (7, []), (8, []), (9, []), (10, []), (14, []), (5, [10]), (6, []), (11, []), (12, []), (13, []), (15, []), (16, []), (17, []), (18, [])] [1, 3, 4, 5, 6, 7, 11, 22, 23]), (tH s33_25), (kT l33_26)])
@[go_sem] def s33_28 (_ : Unit) : IR := (.block 3 (tH s33_27))
@[go_sem] def l33_29 (_ : Unit) : KL := [kA 81 (.bin .add (.t 23) (cI 1)),
  kB 23 (.mv (.t 81)) [1, 3, 4, 5, 6, 22, 23]]
@[go_sem] def s33_30 (_ : Unit) : IR := (sQ [(kT l33_6), (.cond (.t 24) .skip (.exit 2)), (tH s33_28), (kT l33_29)])
@[go_sem] def s33_31 (_ : Unit) : IR := (.loop (tH s33_30))
@[go_sem] def s33_32 (_ : Unit) : IR := (.block 2 (tH s33_31))
@[go_sem] def s33_33 (_ : Unit) : IR := (sQ [(kT l33_5), (tH s33_32)])
@[go_sem] def l33_34 (_ : Unit) : KL := [kA 82 (.mv (.t 6)),
  kA 83 (.mv (.t 4)),
  kB 84 (.call (n_slices_Equal_Sint_int) [(.t 82), (.t 83)]) [1, 3, 4, 6, 84]]
@[go_sem] def l33_35 (_ : Unit) : KL := [kA 85 (.mv (.t 4)),
  kB 2 (.mv (.t 85)) [2]]
@[go_sem] def s33_36 (_ : Unit) : IR := (sQ [(kT l33_35), .ret])
@[go_sem] def s33_37 (_ : Unit) : IR := (sQ [(kT l33_34), (.cond (.t 84) (tH s33_36) .skip)])
@[go_sem] def l33_38 (_ : Unit) : KL := [kA 86 (.mv (.t 6)),
  kB 4 (.mv (.t 86)) [1, 3, 4]]
@[go_sem] def s33_39 (_ : Unit) : IR := (sQ [(kT l33_3), (kT l33_4), (tH s33_33), (tH s33_37), (kT l33_38)])
@[go_sem] def s33_40 (_ : Unit) : IR := (.block 1 (tH s33_39))
@[go_sem] def s33_41 (_ : Unit) : IR := (.loop (tH s33_40))
@[go_sem] def s33_42 (_ : Unit) : IR := (.block 0 (tH s33_41))
@[go_sem] def s33_43 (_ : Unit) : IR := (sQ [(kT l33_0), (kT l33_1), (kT l33_2), (tH s33_42)])
theorem c33 : compFn Tryd.prog [(0, [], [oN, oS [1]]), (1, [], [oN, oN, oN, oS [1, 3]]), (2, [], [oN, oN, oS [1, 3, 4]]), (3, [], [oN, oS [1, 3, 4, 5]]), (4, [], [oN, oN, oS [1, 3, 4, 5, 6]]), (5, [], [oN, oS [1, 3, 4, 5, 6, 22, 23]]), (6, [], [oS [1, 3, 4, 5, 6, 22, 23, 24]]), (7, [], [oN, oS [1, 3, 4, 5, 6, 7, 22, 23]]), (8, [], [oS [1, 3, 4, 5, 6, 7, 8, 22, 23]]), (9, [], [oN, oN, oN, oN, oS [1, 3, 4, 5, 6, 7, 8, 22, 23, 30], oN, oS [1, 3, 4, 5, 6, 7, 8, 22, 23, 30, 31, 32]]), (10, [], [oS [1, 3, 4, 5, 6, 7, 8, 22, 23, 30, 31, 32, 33]]), (11, [], [oN, oN, oS [1, 3, 4, 5, 6, 7, 8, 10, 22, 23, 30, 31, 32]]), (12, [], [oN, oN, oN, oN, oS [1, 3, 4, 5, 6, 7, 22, 23, 30, 31, 32, 36, 40], oN, oN, oS [1, 3, 4, 5, 6, 7, 8, 22, 23, 30, 31, 32]]), (13, [], [oN, oS [1, 3, 4, 5, 6, 7, 8, 22, 23, 30, 31, 32]]), (14, [], [oN, oS [1, 3, 4, 5, 6, 7, 8, 22, 23]]), (15, [(0, []), (1, []), (2, []), (3, []), (4, []), (7, []), (8, []), (9, []), (10, []), (14, []), (5, [10]), (6, []), (11, []), (12, []), (13, []), (15, []), (16, []), (17, []), (18, [])], [oS [1, 3, 4, 5, 6, 7, 11, 22, 23]]), (16, [], [oN, oN, oN, oN, oS [1, 3, 4, 5, 6, 7, 11, 22, 23, 64, 68], oN, oN, oS [1, 3, 4, 5, 6, 7, 11, 13, 22, 23]]), (17, [], [oN, oS [1, 3, 4, 5, 6, 7, 11, 22, 23, 71]]), (18, [], [oN, oN, oN, oS [1, 3, 4, 5, 6, 7, 11, 22, 23]]), (19, [], [oN, oN, oN, oN, oS [1, 3, 4, 5, 6, 22, 23, 75, 76, 79], oN, oS [1, 3, 4, 5, 6, 22, 23]]), (20, [], [oN, oS [1, 3, 4, 5, 6, 22, 23]]), (21, [], [oN, oN, oS [1, 3, 4, 6, 84]]), (22, [], [oN, oS [2]]), (23, [], [oN, oS [1, 3, 4]])] Tryd.f33 = some ⟨1, 87, [.t 2], (tH s33_43)⟩ := by kernel_rfl
theorem v_impl_alike (hl : vs.length = 1) (h : wpV Tryd.prog (tH s33_43) (postV [.t 2] RV) (envV vs) M) : VCall Tryd.prog n_impl_alike vs M RV :=
  vcall_of_wp (fun _ _ _ hl h => acall_of_wp mixed Tryd.func33 c33 (by kernel_rfl) hl h) hl h
@[go_sem] def l32_0 (_ : Unit) : KL := [kB 2 (.mv (.c (.sl none 0 0 true 0))) [0]]
@[go_sem] def l32_1 (_ : Unit) : KL := [kA 4 (.mv (.t 0)),
  kA 5 (.len (.t 4)),
  kB 6 (.bin .eql (.t 5) (cI 0)) [0, 6]]
@[go_sem] def l32_2 (_ : Unit) : KL := [kB 2 (.mv (.c (.sl none 0 0 true 0))) [2]]
@[go_sem] def s32_3 (_ : Unit) : IR := (sQ [(kT l32_2), .ret])
@[go_sem] def s32_4 (_ : Unit) : IR := (sQ [(kT l32_1), (.cond (.t 6) (tH s32_3) .skip)])
@[go_sem] def l32_5 (_ : Unit) : KL := [kA 7 (.mv (.t 0)),
  kA 8 (.len (.t 7)),
  kA 9 (.mks [(.int .i64 0)] 8 (.t 8)),
  kB 3 (.mv (.t 9)) [0, 3]]
@[go_sem] def l32_6 (_ : Unit) : KL := [kA 10 (.mv (.t 3)),
  kA 11 (.mv (.t 0)),
  kB 12 (.copy 1 (.t 10) (.t 11)) [3]]
@[go_sem] def l32_7 (_ : Unit) : KL := [kA 13 (.mv (.t 3)),
  kB 2 (.mv (.t 13)) [2]]
@[go_sem] def s32_8 (_ : Unit) : IR := (sQ [(kT l32_0), (tH s32_4), (kT l32_5), (kT l32_6), (kT l32_7), .ret])
theorem c32 : compFn Tryd.prog [(0, [], [oS [0]]), (1, [], [oN, oN, oS [0, 6]]), (2, [], [oS [2]]), (3, [], [oN, oN, oN, oS [0, 3]]), (4, [], [oN, oN, oS [3]]), (5, [], [oN, oS [2]])] Tryd.f32 = some ⟨1, 14, [.t 2], (tH s32_8)⟩ := by kernel_rfl
theorem v_impl_clone_int (hl : vs.length = 1) (h : wpV Tryd.prog (tH s32_8) (postV [.t 2] RV) (envV vs) M) : VCall Tryd.prog n_impl_clone_int vs M RV :=
  vcall_of_wp (fun _ _ _ hl h => acall_of_wp mixed Tryd.func32 c32 (by kernel_rfl) hl h) hl h
@[go_sem] def l11_0 (_ : Unit) : KL := [kA 2 (.box (.t 0)),
  kB 4 (.mv (.c (.sl none 0 0 true 0))) [1, 2]]
@[go_sem] def l11_1 (_ : Unit) : KL := [kA 5 (.load (.t 2) 3 true),
  kA 6 (.mv (.t 1)),
  kA 7 (.call (n_impl_GraphValid) [(.t 5), (.t 6)]),
  kB 8 (.un .not (.t 7)) [2, 8]]
@[go_sem] def l11_2 (_ : Unit) : KL := [kB 4 (.mv (.c (.sl none 0 0 true 0))) [4]]
@[go_sem] def s11_3 (_ : Unit) : IR := (sQ [(kT l11_2), .ret])
@[go_sem] def s11_4 (_ : Unit) : IR := (sQ [(kT l11_1), (.cond (.t 8) (tH s11_3) .skip)])
@[go_sem] def l11_5 (_ : Unit) : KL := [kA 9 (.load (.t 2) 3 true),
  kA 10 (.call (n_impl_alike) [(.t 9)]),
  kA 11 (.call (n_impl_clone_int) [(.t 10)]),
  kB 4 (.mv (.t 11)) [4]]
@[go_sem] def s11_6 (_ : Unit) : IR := (sQ [(kT l11_0), (tH s11_4), (kT l11_5), .ret])
theorem c11 : compFn Tryd.prog [(0, [], [oN, oS [1, 2]]), (1, [], [oN, oN, oN, oS [2, 8]]), (2, [], [oS [4]]), (3, [], [oN, oN, oN, oS [4]])] Tryd.f11 = some ⟨2, 12, [.t 4], (tH s11_6)⟩ := by kernel_rfl
theorem v_impl_AlikeIn (hl : vs.length = 2) (h : wpV Tryd.prog (tH s11_6) (postV [.t 4] RV) (envV vs) M) : VCall Tryd.prog n_impl_AlikeIn vs M RV :=
  vcall_of_wp (fun _ _ _ hl h => acall_of_wp mixed Tryd.func11 c11 (by kernel_rfl) hl h) hl h
@[go_sem] def l12_0 (_ : Unit) : KL := [kB 4 (.mv (.c (.bool false))) [0, 1]]
@[go_sem] def l12_1 (_ : Unit) : KL := [kA 6 (.mv (.t 0)),
  kA 7 (.len (.t 6)),
  kA 8 (.mv (.t 1)),
  kA 9 (.len (.t 8)),
  kB 10 (.bin .neq (.t 7) (.t 9)) [0, 1, 10]]
@[go_sem] def l12_2 (_ : Unit) : KL := [kB 4 (.mv (.c (.bool false))) [4]]
@[go_sem] def s12_3 (_ : Unit) : IR := (sQ [(kT l12_2), .ret])
@[go_sem] def s12_4 (_ : Unit) : IR := (sQ [(kT l12_1), (.cond (.t 10) (tH s12_3) .skip)])
@[go_sem] def l12_5 (_ : Unit) : KL := [kB 5 (.mv (cI 0)) [0, 1, 5]]
@[go_sem] def l12_6 (_ : Unit) : KL := [kA 11 (.mv (.t 5)),
  kA 12 (.mv (.t 0)),
  kA 13 (.len (.t 12)),
  kB 14 (.bin .lss (.t 11) (.t 13)) [0, 1, 5, 14]]
@[go_sem] def s12_7 (_ : Unit) : IR := (sQ [(kT l12_6), (.cond (.t 14) .skip (.exit 0))])
@[go_sem] def l12_8 : Nat → GOp
  | 0 => ⟨(some 17), .mv (.t 0), none⟩
  | 1 => ⟨(some 18), .mv (.t 5), none⟩
  | 2 => ⟨(some 19), .iaddr (.t 17) (.t 18) 1, none⟩
  | 3 => ⟨(some 20), .load (.t 19) 1 false, none⟩
  | 4 => ⟨(some 21), .mv (.t 1), none⟩
  | 5 => ⟨(some 22), .mv (.t 5), none⟩
  | 6 => ⟨(some 23), .iaddr (.t 21) (.t 22) 1, none⟩
  | 7 => ⟨(some 24), .load (.t 23) 1 false, none⟩
  | 8 => ⟨(some 25), .bin .neq (.t 20) (.t 24), none⟩
  | _ => ⟨none, .mkmap, none⟩
@[go_sem] def l12_9 (_ : Unit) : KL := [kB 4 (.mv (.c (.bool false))) [4]]
@[go_sem] def s12_10 (_ : Unit) : IR := (sQ [(kT l12_9), .ret])
@[go_sem] def s12_11 (_ : Unit) : IR := (sQ [(.kd (oF l12_8 9) [(0, []), (1, []), (2, []), (3, []), (4, []), (5, []), (6, []), (7, []), (8, [])] [0, 1, 5, 25]), (.cond (.t 25) (tH s12_10) .skip)])
@[go_sem] def s12_12 (_ : Unit) : IR := (.block 1 (tH s12_11))
@[go_sem] def l12_13 (_ : Unit) : KL := [kA 15 (.mv (.t 5)),
  kA 16 (.bin .add (.t 15) (cI 1)),
  kB 5 (.mv (.t 16)) [0, 1, 5]]
@[go_sem] def s12_14 (_ : Unit) : IR := (sQ [(tH s12_7), (tH s12_12), (kT l12_13)])
@[go_sem] def s12_15 (_ : Unit) : IR := (.loop (tH s12_14))
@[go_sem] def s12_16 (_ : Unit) : IR := (.block 0 (tH s12_15))
@[go_sem] def s12_17 (_ : Unit) : IR := (sQ [(kT l12_5), (tH s12_16)])
@[go_sem] def l12_18 (_ : Unit) : KL := [kB 4 (.mv (.c (.bool true))) [4]]
@[go_sem] def s12_19 (_ : Unit) : IR := (sQ [(kT l12_0), (tH s12_4), (tH s12_17), (kT l12_18), .ret])
theorem c12 : compFn Tryd.prog [(0, [], [oS [0, 1]]), (1, [], [oN, oN, oN, oN, oS [0, 1, 10]]), (2, [], [oS [4]]), (3, [], [oS [0, 1, 5]]), (4, [], [oN, oN, oN, oS [0, 1, 5, 14]]), (6, [(0, []), (1, []), (2, []), (3, []), (4, []), (5, []), (6, []), (7, []), (8, [])], [oS [0, 1, 5, 25]]), (7, [], [oS [4]]), (5, [], [oN, oN, oS [0, 1, 5]]), (8, [], [oS [4]])] Tryd.f12 = some ⟨2, 26, [.t 4], (tH s12_19)⟩ := by kernel_rfl
theorem v_laws_eqIntS (hl : vs.length = 2) (h : wpV Tryd.prog (tH s12_19) (postV [.t 4] RV) (envV vs) M) : VCall Tryd.prog n_laws_eqIntS vs M RV :=
  vcall_of_wp (fun _ _ _ hl h => acall_of_wp mixed Tryd.func12 c12 (by kernel_rfl) hl h) hl h
@[go_sem] def l34_0 (_ : Unit) : KL := [kB 4 (.mv (.c (.bool false))) [0, 1]]
@[go_sem] def l34_1 (_ : Unit) : KL := [kA 6 (.mv (.t 0)),
  kA 7 (.len (.t 6)),
  kA 8 (.mv (.t 1)),
  kA 9 (.len (.t 8)),
  kB 10 (.bin .neq (.t 7) (.t 9)) [0, 1, 10]]
@[go_sem] def l34_2 (_ : Unit) : KL := [kB 4 (.mv (.c (.bool false))) [4]]
@[go_sem] def s34_3 (_ : Unit) : IR := (sQ [(kT l34_2), .ret])
@[go_sem] def s34_4 (_ : Unit) : IR := (sQ [(kT l34_1), (.cond (.t 10) (tH s34_3) .skip)])
@[go_sem] def l34_5 (_ : Unit) : KL := [kB 5 (.mv (cI 0)) [0, 1, 5]]
@[go_sem] def l34_6 (_ : Unit) : KL := [kA 11 (.mv (.t 5)),
  kA 12 (.mv (.t 0)),
  kA 13 (.len (.t 12)),
  kB 14 (.bin .lss (.t 11) (.t 13)) [0, 1, 5, 14]]
@[go_sem] def s34_7 (_ : Unit) : IR := (sQ [(kT l34_6), (.cond (.t 14) .skip (.exit 0))])
@[go_sem] def l34_8 : Nat → GOp
  | 0 => ⟨(some 17), .mv (.t 0), none⟩
  | 1 => ⟨(some 18), .mv (.t 5), none⟩
  | 2 => ⟨(some 19), .iaddr (.t 17) (.t 18) 1, none⟩
  | 3 => ⟨(some 20), .load (.t 19) 1 false, none⟩
  | 4 => ⟨(some 21), .mv (.t 1), none⟩
  | 5 => ⟨(some 22), .mv (.t 5), none⟩
  | 6 => ⟨(some 23), .iaddr (.t 21) (.t 22) 1, none⟩
  | 7 => ⟨(some 24), .load (.t 23) 1 false, none⟩
  | 8 => ⟨(some 25), .call (n_laws_eqIntS) [(.t 20), (.t 24)], none⟩
  | 9 => ⟨(some 26), .un .not (.t 25), none⟩
  | _ => ⟨none, .mkmap, none⟩
@[go_sem] def l34_9 (_ : Unit) : KL := [kB 4 (.mv (.c (.bool false))) [4]]
@[go_sem] def s34_10 (_ : Unit) : IR := (sQ [(kT l34_9), .ret])
@[go_sem] def s34_11 (_ : Unit) : IR := (sQ [(.kd (oF l34_8 10) [(0, []), (1, []), (2, []), (3, []), (4, []), (5, []), (6, []), (7, []), (8, []), (9, [])] [0, 1, 5, 26]), (.cond (.t 26) (tH s34_10) .skip)])
@[go_sem] def s34_12 (_ : Unit) : IR := (.block 1 (tH s34_11))
@[go_sem] def l34_13 (_ : Unit) : KL := [kA 15 (.mv (.t 5)),
  kA 16 (.bin .add (.t 15) (cI 1)),
  kB 5 (.mv (.t 16)) [0, 1, 5]]
@[go_sem] def s34_14 (_ : Unit) : IR := (sQ [(tH s34_7), (tH s34_12), (kT l34_13)])
@[go_sem] def s34_15 (_ : Unit) : IR := (.loop (tH s34_14))
@[go_sem] def s34_16 (_ : Unit) : IR := (.block 0 (tH s34_15))
@[go_sem] def s34_17 (_ : Unit) : IR := (sQ [(kT l34_5), (tH s34_16)])
@[go_sem] def l34_18 (_ : Unit) : KL := [kB 4 (.mv (.c (.bool true))) [4]]
@[go_sem] def s34_19 (_ : Unit) : IR := (sQ [(kT l34_0), (tH s34_4), (tH s34_17), (kT l34_18), .ret])
theorem c34 : compFn Tryd.prog [(0, [], [oS [0, 1]]), (1, [], [oN, oN, oN, oN, oS [0, 1, 10]]), (2, [], [oS [4]]), (3, [], [oS [0, 1, 5]]), (4, [], [oN, oN, oN, oS [0, 1, 5, 14]]), (6, [(0, []), (1, []), (2, []), (3, []), (4, []), (5, []), (6, []), (7, []), (8, []), (9, [])], [oS [0, 1, 5, 26]]), (7, [], [oS [4]]), (5, [], [oN, oN, oS [0, 1, 5]]), (8, [], [oS [4]])] Tryd.f34 = some ⟨2, 27, [.t 4], (tH s34_19)⟩ := by kernel_rfl
theorem v_laws_eqIntSS (hl : vs.length = 2) (h : wpV Tryd.prog (tH s34_19) (postV [.t 4] RV) (envV vs) M) : VCall Tryd.prog n_laws_eqIntSS vs M RV :=
  vcall_of_wp (fun _ _ _ hl h => acall_of_wp mixed Tryd.func34 c34 (by kernel_rfl) hl h) hl h
@[go_sem] def l13_0 (_ : Unit) : KL := [kA 2 (.box (.t 0)),
  kA 3 (.box (.t 1)),
  kB 4 (.mv (.c (.bool false))) [2, 3]]
@[go_sem] def l13_1 (_ : Unit) : KL := [kA 5 (.faddr (.t 2) 0),
  kA 6 (.load (.t 5) 1 false),
  kA 7 (.faddr (.t 3) 0),
  kA 8 (.load (.t 7) 1 false),
  kB 9 (.call (n_laws_eqIntSS) [(.t 6), (.t 8)]) [2, 3, 9],
  kB 10 (.un .not (.t 9)) [2, 3, 10]]
@[go_sem] def l13_2 (_ : Unit) : KL := [kB 4 (.mv (.c (.bool false))) [4]]
@[go_sem] def s13_3 (_ : Unit) : IR := (sQ [(kT l13_2), .ret])
@[go_sem] def s13_4 (_ : Unit) : IR := (sQ [(kT l13_1), (.cond (.t 10) (tH s13_3) .skip)])
@[go_sem] def l13_5 (_ : Unit) : KL := [kA 11 (.faddr (.t 2) 1),
  kA 12 (.load (.t 11) 1 false),
  kA 13 (.faddr (.t 3) 1),
  kA 14 (.load (.t 13) 1 false),
  kB 15 (.bin .neq (.t 12) (.t 14)) [2, 3, 15]]
@[go_sem] def l13_6 (_ : Unit) : KL := [kB 4 (.mv (.c (.bool false))) [4]]
@[go_sem] def s13_7 (_ : Unit) : IR := (sQ [(kT l13_6), .ret])
@[go_sem] def s13_8 (_ : Unit) : IR := (sQ [(kT l13_5), (.cond (.t 15) (tH s13_7) .skip)])
@[go_sem] def l13_9 (_ : Unit) : KL := [kA 16 (.faddr (.t 2) 2),
  kA 17 (.load (.t 16) 1 false),
  kA 18 (.faddr (.t 3) 2),
  kA 19 (.load (.t 18) 1 false),
  kB 20 (.call (n_laws_eqIntSS) [(.t 17), (.t 19)]) [20],
  kB 21 (.un .not (.t 20)) [21]]
@[go_sem] def l13_10 (_ : Unit) : KL := [kB 4 (.mv (.c (.bool false))) [4]]
@[go_sem] def s13_11 (_ : Unit) : IR := (sQ [(kT l13_10), .ret])
@[go_sem] def s13_12 (_ : Unit) : IR := (sQ [(kT l13_9), (.cond (.t 21) (tH s13_11) .skip)])
@[go_sem] def l13_13 (_ : Unit) : KL := [kB 4 (.mv (.c (.bool true))) [4]]
@[go_sem] def s13_14 (_ : Unit) : IR := (sQ [(kT l13_0), (tH s13_4), (tH s13_8), (tH s13_12), (kT l13_13), .ret])
theorem c13 : compFn Tryd.prog [(0, [], [oN, oN, oS [2, 3]]), (1, [], [oN, oN, oN, oN, oS [2, 3, 9], oS [2, 3, 10]]), (2, [], [oS [4]]), (3, [], [oN, oN, oN, oN, oS [2, 3, 15]]), (4, [], [oS [4]]), (5, [], [oN, oN, oN, oN, oS [20], oS [21]]), (6, [], [oS [4]]), (7, [], [oS [4]])] Tryd.f13 = some ⟨2, 22, [.t 4], (tH s13_14)⟩ := by kernel_rfl
theorem v_laws_eqGraph (hl : vs.length = 2) (h : wpV Tryd.prog (tH s13_14) (postV [.t 4] RV) (envV vs) M) : VCall Tryd.prog n_laws_eqGraph vs M RV :=
  vcall_of_wp (fun _ _ _ hl h => acall_of_wp mixed Tryd.func13 c13 (by kernel_rfl) hl h) hl h
@[go_sem] def l15_0 (_ : Unit) : KL := [kB 4 (.mv (cI 0)) [0, 1]]
@[go_sem] def l15_1 (_ : Unit) : KL := [kB 5 (.mv (cI 0)) [0, 1, 5]]
@[go_sem] def l15_2 (_ : Unit) : KL := [kA 6 (.mv (.t 5)),
  kA 7 (.mv (.t 0)),
  kA 8 (.len (.t 7)),
  kB 9 (.bin .lss (.t 6) (.t 8)) [0, 1, 5, 9]]
@[go_sem] def s15_3 (_ : Unit) : IR := (sQ [(kT l15_2), (.cond (.t 9) .skip (.exit 0))])
@[go_sem] def l15_4 (_ : Unit) : KL := [kA 12 (.mv (.t 0)),
  kA 13 (.mv (.t 5)),
  kA 14 (.mv (.t 1)),
  kA 15 (.iaddr (.t 12) (.t 13) 1),
  (⟨none, .store (.t 15) 1 (.t 14), none⟩, (some [0, 1, 5]))]
@[go_sem] def l15_5 (_ : Unit) : KL := [kA 16 (.mv (.t 1)),
  kA 17 (.bin .add (.t 16) (cI 1)),
  kB 1 (.mv (.t 17)) [0, 1, 5]]
@[go_sem] def s15_6 (_ : Unit) : IR := (sQ [(kT l15_4), (kT l15_5)])
@[go_sem] def s15_7 (_ : Unit) : IR := (.block 1 (tH s15_6))
@[go_sem] def l15_8 (_ : Unit) : KL := [kA 10 (.mv (.t 5)),
  kA 11 (.bin .add (.t 10) (cI 1)),
  kB 5 (.mv (.t 11)) [0, 1, 5]]
@[go_sem] def s15_9 (_ : Unit) : IR := (sQ [(tH s15_3), (tH s15_7), (kT l15_8)])
@[go_sem] def s15_10 (_ : Unit) : IR := (.loop (tH s15_9))
@[go_sem] def s15_11 (_ : Unit) : IR := (.block 0 (tH s15_10))
@[go_sem] def s15_12 (_ : Unit) : IR := (sQ [(kT l15_1), (tH s15_11)])
@[go_sem] def l15_13 (_ : Unit) : KL := [kA 18 (.mv (.t 1)),
  kB 4 (.mv (.t 18)) [4]]
@[go_sem] def s15_14 (_ : Unit) : IR := (sQ [(kT l15_0), (tH s15_12), (kT l15_13), .ret])
theorem c15 : compFn Tryd.prog [(0, [], [oS [0, 1]]), (1, [], [oS [0, 1, 5]]), (2, [], [oN, oN, oN, oS [0, 1, 5, 9]]), (4, [], [oN, oN, oN, oN, oS [0, 1, 5]]), (5, [], [oN, oN, oS [0, 1, 5]]), (3, [], [oN, oN, oS [0, 1, 5]]), (6, [], [oN, oS [4]])] Tryd.f15 = some ⟨2, 19, [.t 4], (tH s15_14)⟩ := by kernel_rfl
theorem v_laws_markIntS (hl : vs.length = 2) (h : wpV Tryd.prog (tH s15_14) (postV [.t 4] RV) (envV vs) M) : VCall Tryd.prog n_laws_markIntS vs M RV :=
  vcall_of_wp (fun _ _ _ hl h => acall_of_wp mixed Tryd.func15 c15 (by kernel_rfl) hl h) hl h
@[go_sem] def l35_0 (_ : Unit) : KL := [kB 4 (.mv (cI 0)) [0, 1]]
@[go_sem] def l35_1 (_ : Unit) : KL := [kB 5 (.mv (cI 0)) [0, 1, 5]]
@[go_sem] def l35_2 (_ : Unit) : KL := [kA 6 (.mv (.t 5)),
  kA 7 (.mv (.t 0)),
  kA 8 (.len (.t 7)),
  kB 9 (.bin .lss (.t 6) (.t 8)) [0, 1, 5, 9]]
@[go_sem] def s35_3 (_ : Unit) : IR := (sQ [(kT l35_2), (.cond (.t 9) .skip (.exit 0))])
@[go_sem] def l35_4 (_ : Unit) : KL := [kA 12 (.mv (.t 0)),
  kA 13 (.mv (.t 5)),
  kA 14 (.iaddr (.t 12) (.t 13) 1),
  kA 15 (.load (.t 14) 1 false),
  kB 16 (.mv (.t 1)) [0, 5, 15, 16],
  kA 17 (.call (n_laws_markIntS) [(.t 15), (.t 16)]),
  kB 1 (.mv (.t 17)) [0, 1, 5]]
@[go_sem] def s35_5 (_ : Unit) : IR := (.block 1 (kT l35_4))
@[go_sem] def l35_6 (_ : Unit) : KL := [kA 10 (.mv (.t 5)),
  kA 11 (.bin .add (.t 10) (cI 1)),
  kB 5 (.mv (.t 11)) [0, 1, 5]]
@[go_sem] def s35_7 (_ : Unit) : IR := (sQ [(tH s35_3), (tH s35_5), (kT l35_6)])
@[go_sem] def s35_8 (_ : Unit) : IR := (.loop (tH s35_7))
@[go_sem] def s35_9 (_ : Unit) : IR := (.block 0 (tH s35_8))
@[go_sem] def s35_10 (_ : Unit) : IR := (sQ [(kT l35_1), (tH s35_9)])
@[go_sem] def l35_11 (_ : Unit) : KL := [kA 18 (.mv (.t 1)),
  kB 4 (.mv (.t 18)) [4]]
@[go_sem] def s35_12 (_ : Unit) : IR := (sQ [(kT l35_0), (tH s35_10), (kT l35_11), .ret])
theorem c35 : compFn Tryd.prog [(0, [], [oS [0, 1]]), (1, [], [oS [0, 1, 5]]), (2, [], [oN, oN, oN, oS [0, 1, 5, 9]]), (4, [], [oN, oN, oN, oN, oS [0, 5, 15, 16], oN, oS [0, 1, 5]]), (3, [], [oN, oN, oS [0, 1, 5]]), (5, [], [oN, oS [4]])] Tryd.f35 = some ⟨2, 19, [.t 4], (tH s35_12)⟩ := by kernel_rfl
theorem v_laws_markIntSS (hl : vs.length = 2) (h : wpV Tryd.prog (tH s35_12) (postV [.t 4] RV) (envV vs) M) : VCall Tryd.prog n_laws_markIntSS vs M RV :=
  vcall_of_wp (fun _ _ _ hl h => acall_of_wp mixed Tryd.func35 c35 (by kernel_rfl) hl h) hl h
@[go_sem] def l14_0 (_ : Unit) : KL := [kA 2 (.box (.t 0)),
  kB 4 (.mv (cI 0)) [1, 2]]
@[go_sem] def l14_1 (_ : Unit) : KL := [kA 5 (.faddr (.t 2) 0),
  kA 6 (.load (.t 5) 1 false),
  kA 7 (.mv (.t 1)),
  kA 8 (.call (n_laws_markIntSS) [(.t 6), (.t 7)]),
  kB 1 (.mv (.t 8)) [1, 2]]
@[go_sem] def l14_2 (_ : Unit) : KL := [kA 9 (.faddr (.t 2) 2),
  kA 10 (.load (.t 9) 1 false),
  kA 11 (.mv (.t 1)),
  kA 12 (.call (n_laws_markIntSS) [(.t 10), (.t 11)]),
  kB 1 (.mv (.t 12)) [1]]
@[go_sem] def l14_3 (_ : Unit) : KL := [kA 13 (.mv (.t 1)),
  kB 4 (.mv (.t 13)) [4]]
@[go_sem] def s14_4 (_ : Unit) : IR := (sQ [(kT l14_0), (kT l14_1), (kT l14_2), (kT l14_3), .ret])
theorem c14 : compFn Tryd.prog [(0, [], [oN, oS [1, 2]]), (1, [], [oN, oN, oN, oN, oS [1, 2]]), (2, [], [oN, oN, oN, oN, oS [1]]), (3, [], [oN, oS [4]])] Tryd.f14 = some ⟨2, 14, [.t 4], (tH s14_4)⟩ := by kernel_rfl
theorem v_laws_markGraph (hl : vs.length = 2) (h : wpV Tryd.prog (tH s14_4) (postV [.t 4] RV) (envV vs) M) : VCall Tryd.prog n_laws_markGraph vs M RV :=
  vcall_of_wp (fun _ _ _ hl h => acall_of_wp mixed Tryd.func14 c14 (by kernel_rfl) hl h) hl h
@[go_sem] def l16_0 (_ : Unit) : KL := [kB 4 (.mv (cI 0)) [0, 1]]
@[go_sem] def l16_1 (_ : Unit) : KL := [kB 5 (.mv (cI 0)) [0, 1, 5]]
@[go_sem] def l16_2 (_ : Unit) : KL := [kA 6 (.mv (.t 5)),
  kA 7 (.mv (.t 0)),
  kA 8 (.len (.t 7)),
  kB 9 (.bin .lss (.t 6) (.t 8)) [0, 1, 5, 9]]
@[go_sem] def s16_3 (_ : Unit) : IR := (sQ [(kT l16_2), (.cond (.t 9) .skip (.exit 0))])
@[go_sem] def l16_4 (_ : Unit) : KL := [kA 12 (.mv (.t 0)),
  kA 13 (.mv (.t 5)),
  kA 14 (.iaddr (.t 12) (.t 13) 1),
  kA 15 (.load (.t 14) 1 false),
  kB 16 (.mv (.t 1)) [0, 1, 5, 15, 16],
  kB 17 (.bin .neq (.t 15) (.t 16)) [0, 1, 5, 17]]
@[go_sem] def l16_5 (_ : Unit) : KL := [kB 4 (.mv (.c (.int .i64 (-1)))) [4]]
@[go_sem] def s16_6 (_ : Unit) : IR := (sQ [(kT l16_5), .ret])
@[go_sem] def s16_7 (_ : Unit) : IR := (sQ [(kT l16_4), (.cond (.t 17) (tH s16_6) .skip)])
@[go_sem] def l16_8 (_ : Unit) : KL := [kA 18 (.mv (.t 1)),
  kA 19 (.bin .add (.t 18) (cI 1)),
  kB 1 (.mv (.t 19)) [0, 1, 5]]
@[go_sem] def s16_9 (_ : Unit) : IR := (sQ [(tH s16_7), (kT l16_8)])
@[go_sem] def s16_10 (_ : Unit) : IR := (.block 1 (tH s16_9))
@[go_sem] def l16_11 (_ : Unit) : KL := [kA 10 (.mv (.t 5)),
  kA 11 (.bin .add (.t 10) (cI 1)),
  kB 5 (.mv (.t 11)) [0, 1, 5]]
@[go_sem] def s16_12 (_ : Unit) : IR := (sQ [(tH s16_3), (tH s16_10), (kT l16_11)])
@[go_sem] def s16_13 (_ : Unit) : IR := (.loop (tH s16_12))
@[go_sem] def s16_14 (_ : Unit) : IR := (.block 0 (tH s16_13))
@[go_sem] def s16_15 (_ : Unit) : IR := (sQ [(kT l16_1), (tH s16_14)])
@[go_sem] def l16_16 (_ : Unit) : KL := [kA 20 (.mv (.t 1)),
  kB 4 (.mv (.t 20)) [4]]
@[go_sem] def s16_17 (_ : Unit) : IR := (sQ [(kT l16_0), (tH s16_15), (kT l16_16), .ret])
theorem c16 : compFn Tryd.prog [(0, [], [oS [0, 1]]), (1, [], [oS [0, 1, 5]]), (2, [], [oN, oN, oN, oS [0, 1, 5, 9]]), (4, [], [oN, oN, oN, oN, oS [0, 1, 5, 15, 16], oS [0, 1, 5, 17]]), (5, [], [oS [4]]), (6, [], [oN, oN, oS [0, 1, 5]]), (3, [], [oN, oN, oS [0, 1, 5]]), (7, [], [oN, oS [4]])] Tryd.f16 = some ⟨2, 21, [.t 4], (tH s16_17)⟩ := by kernel_rfl
theorem v_laws_heldIntS (hl : vs.length = 2) (h : wpV Tryd.prog (tH s16_17) (postV [.t 4] RV) (envV vs) M) : VCall Tryd.prog n_laws_heldIntS vs M RV :=
  vcall_of_wp (fun _ _ _ hl h => acall_of_wp mixed Tryd.func16 c16 (by kernel_rfl) hl h) hl h
@[go_sem] def l3_0 (_ : Unit) : KL := [kA 2 (.box (.t 0)),
  kB 4 (.mv (.c (.bool false))) [1, 2]]
@[go_sem] def l3_1 (_ : Unit) : KL := [kB 5 (.mv (cI 1048576)) [1, 2, 5]]
@[go_sem] def l3_2 (_ : Unit) : KL := [kA 13 (.load (.t 2) 3 true),
  kA 14 (.mv (.t 5)),
  kA 15 (.call (n_laws_szGraph) [(.t 13), (.t 14)]),
  kB 5 (.mv (.t 15)) [1, 2, 5]]
@[go_sem] def l3_3 (_ : Unit) : KL := [kA 16 (.mv (.t 5)),
  kB 17 (.bin .lss (.t 16) (cI 0)) [1, 2, 17]]
@[go_sem] def l3_4 (_ : Unit) : KL := [kB 4 (.mv (.c (.bool true))) [4]]
@[go_sem] def s3_5 (_ : Unit) : IR := (sQ [(kT l3_4), .ret])
@[go_sem] def s3_6 (_ : Unit) : IR := (sQ [(kT l3_3), (.cond (.t 17) (tH s3_5) .skip)])
@[go_sem] def l3_7 (_ : Unit) : KL := [kA 18 (.load (.t 2) 3 true),
  kA 19 (.call (n_laws_toGraph) [(.t 18)]),
  kA 20 (.mv (.t 1)),
  kA 21 (.call (n_spec_AlikeIn) [(.t 19), (.t 20)]),
  kB 6 (.mv (.t 21)) [1, 2, 6]]
@[go_sem] def l3_8 (_ : Unit) : KL := [kA 22 (.load (.t 2) 3 true),
  kA 23 (.call (n_laws_toGraph) [(.t 22)]),
  kA 7 (.alloc [(.sl none 0 0 true 0), (.int .i64 0), (.sl none 0 0 true 0)]),
  (⟨none, .store (.t 7) 3 (.t 23), none⟩, (some [1, 2, 6, 7]))]
@[go_sem] def l3_9 (_ : Unit) : KL := [kA 24 (.load (.t 7) 3 true),
  kA 25 (.mv (.t 1)),
  kA 26 (.call (n_impl_AlikeIn) [(.t 24), (.t 25)]),
  kB 8 (.mv (.t 26)) [1, 2, 6, 7, 8]]
@[go_sem] def l3_10 (_ : Unit) : KL := [kA 27 (.mv (.t 8)),
  kA 28 (.mv (.t 6)),
  kA 29 (.call (n_laws_eqIntS) [(.t 27), (.t 28)]),
  kB 30 (.un .not (.t 29)) [1, 2, 6, 7, 8, 30]]
@[go_sem] def l3_11 (_ : Unit) : KL := [kB 4 (.mv (.c (.bool false))) [4]]
@[go_sem] def s3_12 (_ : Unit) : IR := (sQ [(kT l3_11), .ret])
@[go_sem] def s3_13 (_ : Unit) : IR := (sQ [(kT l3_10), (.cond (.t 30) (tH s3_12) .skip)])
@[go_sem] def l3_14 : Nat → GOp
  | 0 => ⟨(some 31), .load (.t 7) 3 true, none⟩
  | 1 => ⟨(some 32), .load (.t 2) 3 true, none⟩
  | 2 => ⟨(some 33), .call (n_laws_toGraph) [(.t 32)], none⟩
  | 3 => ⟨(some 34), .call (n_laws_eqGraph) [(.t 31), (.t 33)], none⟩
  | 4 => ⟨(some 35), .un .not (.t 34), none⟩
  | _ => ⟨none, .mkmap, none⟩
@[go_sem] def l3_15 (_ : Unit) : KL := [kB 4 (.mv (.c (.bool false))) [4]]
@[go_sem] def s3_16 (_ : Unit) : IR := (sQ [(kT l3_15), .ret])
@[go_sem] def s3_17 (_ : Unit) : IR := (sQ [(.kd (oF l3_14 5) [(0, []), (1, []), (2, [0]), (3, []), (4, [])] [1, 2, 6, 7, 8, 35]), (.cond (.t 35) (tH s3_16) .skip)])
@[go_sem] def l3_18 (_ : Unit) : KL := [kB 9 (.mv (cI 1)) [1, 2, 6, 7, 8, 9]]
@[go_sem] def l3_19 (_ : Unit) : KL := [kA 36 (.load (.t 7) 3 true),
  kA 37 (.mv (.t 9)),
  kA 38 (.call (n_laws_markGraph) [(.t 36), (.t 37)]),
  kB 9 (.mv (.t 38)) [1, 2, 6, 8, 9]]
@[go_sem] def l3_20 (_ : Unit) : KL := [kA 39 (.mv (.t 9)),
  kA 40 (.bin .lss (.t 39) (cI 0)),
  kA 41 (.mv (.t 40)),
  (⟨(some 42), .mv (.t 8), (some (41, false))⟩, none),
  (⟨(some 43), .mv (.t 6), (some (41, false))⟩, (some [1, 2, 6, 8, 41, 42, 43])),
  (⟨(some 44), .call (n_laws_eqIntS) [(.t 42), (.t 43)], (some (41, false))⟩, none),
  (⟨(some 45), .un .not (.t 44), (some (41, false))⟩, none),
  kB 46 (.pick (.t 41) (.c (.bool true)) (.t 45)) [1, 2, 6, 8, 46]]
@[go_sem] def l3_21 (_ : Unit) : KL := [kB 4 (.mv (.c (.bool false))) [4]]
@[go_sem] def s3_22 (_ : Unit) : IR := (sQ [(kT l3_21), .ret])
@[go_sem] def s3_23 (_ : Unit) : IR := (sQ [(kT l3_20), (.cond (.t 46) (tH s3_22) .skip)])
@[go_sem] def l3_24 (_ : Unit) : KL := [kB 10 (.mv (cI 1)) [1, 2, 6, 8, 10]]
@[go_sem] def l3_25 (_ : Unit) : KL := [kA 47 (.mv (.t 8)),
  kA 48 (.mv (.t 10)),
  kA 49 (.call (n_laws_markIntS) [(.t 47), (.t 48)]),
  kB 10 (.mv (.t 49)) [1, 2, 6, 8, 10]]
@[go_sem] def l3_26 (_ : Unit) : KL := [kB 11 (.mv (cI 1)) [1, 2, 6, 8, 10, 11]]
@[go_sem] def l3_27 (_ : Unit) : KL := [kA 50 (.mv (.t 8)),
  kA 51 (.mv (.t 11)),
  kA 52 (.call (n_laws_heldIntS) [(.t 50), (.t 51)]),
  kB 11 (.mv (.t 52)) [1, 2, 6, 8, 10, 11]]
@[go_sem] def l3_28 (_ : Unit) : KL := [kA 53 (.mv (.t 11)),
  kB 54 (.bin .lss (.t 53) (cI 0)) [1, 2, 6, 8, 10, 11, 54]]
@[go_sem] def l3_29 (_ : Unit) : KL := [kB 4 (.mv (.c (.bool false))) [4]]
@[go_sem] def s3_30 (_ : Unit) : IR := (sQ [(kT l3_29), .ret])
@[go_sem] def s3_31 (_ : Unit) : IR := (sQ [(kT l3_28), (.cond (.t 54) (tH s3_30) .skip)])
@[go_sem] def l3_32 (_ : Unit) : KL := [kA 55 (.mv (.t 11)),
  kA 56 (.mv (.t 10)),
  kB 57 (.bin .neq (.t 55) (.t 56)) [1, 2, 6, 8, 10, 57]]
@[go_sem] def l3_33 (_ : Unit) : KL := [kB 4 (.mv (.c (.bool false))) [4]]
@[go_sem] def s3_34 (_ : Unit) : IR := (sQ [(kT l3_33), .ret])
@[go_sem] def s3_35 (_ : Unit) : IR := (sQ [(kT l3_32), (.cond (.t 57) (tH s3_34) .skip)])
@[go_sem] def l3_36 (_ : Unit) : KL := [kA 58 (.load (.t 2) 3 true),
  kA 59 (.call (n_laws_toGraph) [(.t 58)]),
  kA 60 (.mv (.t 1)),
  kA 61 (.call (n_impl_AlikeIn) [(.t 59), (.t 60)]),
  kB 12 (.mv (.t 61)) [6, 8, 10, 12]]
@[go_sem] def l3_37 (_ : Unit) : KL := [kA 62 (.mv (.t 12)),
  kA 63 (.mv (.t 6)),
  kA 64 (.call (n_laws_eqIntS) [(.t 62), (.t 63)]),
  kB 65 (.un .not (.t 64)) [8, 10, 65]]
@[go_sem] def l3_38 (_ : Unit) : KL := [kB 4 (.mv (.c (.bool false))) [4]]
@[go_sem] def s3_39 (_ : Unit) : IR := (sQ [(kT l3_38), .ret])
@[go_sem] def s3_40 (_ : Unit) : IR := (sQ [(kT l3_37), (.cond (.t 65) (tH s3_39) .skip)])
@[go_sem] def l3_41 (_ : Unit) : KL := [kB 11 (.mv (cI 1)) [8, 10, 11]]
@[go_sem] def l3_42 (_ : Unit) : KL := [kA 66 (.mv (.t 8)),
  kA 67 (.mv (.t 11)),
  kA 68 (.call (n_laws_heldIntS) [(.t 66), (.t 67)]),
  kB 11 (.mv (.t 68)) [10, 11]]
@[go_sem] def l3_43 (_ : Unit) : KL := [kA 69 (.mv (.t 11)),
  kB 70 (.bin .lss (.t 69) (cI 0)) [10, 11, 70]]
@[go_sem] def l3_44 (_ : Unit) : KL := [kB 4 (.mv (.c (.bool false))) [4]]
@[go_sem] def s3_45 (_ : Unit) : IR := (sQ [(kT l3_44), .ret])
@[go_sem] def s3_46 (_ : Unit) : IR := (sQ [(kT l3_43), (.cond (.t 70) (tH s3_45) .skip)])
@[go_sem] def l3_47 (_ : Unit) : KL := [kA 71 (.mv (.t 11)),
  kA 72 (.mv (.t 10)),
  kB 73 (.bin .neq (.t 71) (.t 72)) [73]]
@[go_sem] def l3_48 (_ : Unit) : KL := [kB 4 (.mv (.c (.bool false))) [4]]
@[go_sem] def s3_49 (_ : Unit) : IR := (sQ [(kT l3_48), .ret])
@[go_sem] def s3_50 (_ : Unit) : IR := (sQ [(kT l3_47), (.cond (.t 73) (tH s3_49) .skip)])
@[go_sem] def l3_51 (_ : Unit) : KL := [kB 4 (.mv (.c (.bool true))) [4]]
@[go_sem] def s3_52 (_ : Unit) : IR := (sQ [(kT l3_0), (kT l3_1), (kT l3_2), (tH s3_6), (kT l3_7), (kT l3_8), (kT l3_9), (tH s3_13), (tH s3_17), (kT l3_18), (kT l3_19), (tH s3_23), (kT l3_24), (kT l3_25), (kT l3_26), (kT l3_27), (tH s3_31), (tH s3_35), (kT l3_36), (tH s3_40), (kT l3_41), (kT l3_42), (tH s3_46), (tH s3_50), (kT l3_51), .ret])
theorem c3 : compFn Tryd.prog [(0, [], [oN, oS [1, 2]]), (1, [], [oS [1, 2, 5]]), (2, [], [oN, oN, oN, oS [1, 2, 5]]), (3, [], [oN, oS [1, 2, 17]]), (4, [], [oS [4]]), (5, [], [oN, oN, oN, oN, oS [1, 2, 6]]), (6, [], [oN, oN, oN, oS [1, 2, 6, 7]]), (7, [], [oN, oN, oN, oS [1, 2, 6, 7, 8]]), (8, [], [oN, oN, oN, oS [1, 2, 6, 7, 8, 30]]), (9, [], [oS [4]]), (10, [(0, []), (1, []), (2, [0]), (3, []), (4, [])], [oS [1, 2, 6, 7, 8, 35]]), (11, [], [oS [4]]), (12, [], [oS [1, 2, 6, 7, 8, 9]]), (13, [], [oN, oN, oN, oS [1, 2, 6, 8, 9]]), (14, [], [oN, oN, oN, oN, oS [1, 2, 6, 8, 41, 42, 43], oN, oN, oS [1, 2, 6, 8, 46]]), (15, [], [oS [4]]), (16, [], [oS [1, 2, 6, 8, 10]]), (17, [], [oN, oN, oN, oS [1, 2, 6, 8, 10]]), (18, [], [oS [1, 2, 6, 8, 10, 11]]), (19, [], [oN, oN, oN, oS [1, 2, 6, 8, 10, 11]]), (20, [], [oN, oS [1, 2, 6, 8, 10, 11, 54]]), (21, [], [oS [4]]), (22, [], [oN, oN, oS [1, 2, 6, 8, 10, 57]]), (23, [], [oS [4]]), (24, [], [oN, oN, oN, oN, oS [6, 8, 10, 12]]), (25, [], [oN, oN, oN, oS [8, 10, 65]]), (26, [], [oS [4]]), (27, [], [oS [8, 10, 11]]), (28, [], [oN, oN, oN, oS [10, 11]]), (29, [], [oN, oS [10, 11, 70]]), (30, [], [oS [4]]), (31, [], [oN, oN, oS [73]]), (32, [], [oS [4]]), (33, [], [oS [4]])] Tryd.f3 = some ⟨2, 74, [.t 4], (tH s3_52)⟩ := by kernel_rfl
theorem v_laws_FnExactAlikeIn (hl : vs.length = 2) (h : wpV Tryd.prog (tH s3_52) (postV [.t 4] RV) (envV vs) M) : VCall Tryd.prog n_laws_FnExactAlikeIn vs M RV :=
  vcall_of_wp (fun _ _ _ hl h => acall_of_wp mixed Tryd.func3 c3 (by kernel_rfl) hl h) hl h
end Go.M2
