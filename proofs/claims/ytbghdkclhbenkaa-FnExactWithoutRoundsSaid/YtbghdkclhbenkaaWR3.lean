/- M3, part F: lists that are read, lists that are owned; calls. -/
import Derived.Test.YtbghdkclhbenkaaWR2
set_option linter.unusedVariables false
set_option linter.unusedSimpArgs false
set_option maxRecDepth 10000
set_option maxHeartbeats 4000000
namespace Go.M2
def at1 : V → Nat → V
  | .fs _ _ _ _ _ xs, i => xs.getD i (.sc .junk)
  | _, _ => .sc .junk
def atN (sz : Nat) : V → Nat → List V
  | .fs _ _ _ _ _ xs, i => (xs.drop (i * sz)).take sz
  | _, _ => []
def hdB : V → Nat
  | .fs A _ _ _ _ _ => A.b
  | _ => 0
def hdO : V → Nat
  | .fs A _ _ _ _ _ => A.o
  | _ => 0
def Ls {α : Type} (E : α → V → Prop) (v : V) (ys : List α) : Prop :=
  (ys = [] ∧ ∃ k, v = .sc (.sl none 0 0 true k)) ∨ ∃ A c ex k xs, v = .fs A ys.length c ex k xs ∧ ys.length ≤ xs.length ∧ ∀ i (h : i < ys.length), E ys[i] (at1 v i)
def Lc {α : Type} (sz : Nat) (E : α → List V → Prop) (v : V) (ys : List α) : Prop :=
  (ys = [] ∧ ∃ k, v = .sc (.sl none 0 0 true k)) ∨ ∃ A c ex k xs, v = .fs A ys.length c ex k xs ∧ ys.length * sz ≤ xs.length ∧ ∀ i (h : i < ys.length), E ys[i] (atN sz v i)
def isI (n : Int) (u : V) : Prop := u = .sc (.int .i64 n)
def isB (b : Bool) (u : V) : Prop := u = .sc (.bool b)
abbrev LI : V → List Int → Prop := Ls isI
abbrev LB : V → List Bool → Prop := Ls isB
abbrev LII : V → List (List Int) → Prop := Ls (fun ys u => LI u ys)
def vi (n : Int) : V := .sc (.int .i64 n)
def vb (b : Bool) : V := .sc (.bool b)
section
variable {α : Type} {E : α → V → Prop} {E2 : α → List V → Prop} {v : V} {ys : List α} {M : MH} {sz : Nat}
theorem Ls.len (h : Ls E v ys) : lenF (er v) = .some (.int .i64 (ys.length : Int)) := by
  rcases h with ⟨rfl, k, rfl⟩ | ⟨A, c, ex, k, xs, rfl, _⟩
  · simp [er, lenF]
  · simp [er, lenF]
theorem Lc.len (h : Lc sz E2 v ys) : lenF (er v) = .some (.int .i64 (ys.length : Int)) := by
  rcases h with ⟨rfl, k, rfl⟩ | ⟨A, c, ex, k, xs, rfl, _⟩
  · simp [er, lenF]
  · simp [er, lenF]
theorem Ls.lenS (h : Ls E v ys) : lenS v = .some ys.length := by
  rcases h with ⟨rfl, k, rfl⟩ | ⟨A, c, ex, k, xs, rfl, _⟩ <;> rfl
theorem Lc.lenS (h : Lc sz E2 v ys) : lenS v = .some ys.length := by
  rcases h with ⟨rfl, k, rfl⟩ | ⟨A, c, ex, k, xs, rfl, _⟩ <;> rfl
theorem Ls.one (h : Ls E v ys) : oneV v = true ∧ cellsV v = .some [v] := by
  rcases h with ⟨rfl, k, rfl⟩ | ⟨A, c, ex, k, xs, rfl, _⟩ <;> simp [oneV, er, oneA, cellsV]
theorem Lc.one (h : Lc sz E2 v ys) : oneV v = true ∧ cellsV v = .some [v] := by
  rcases h with ⟨rfl, k, rfl⟩ | ⟨A, c, ex, k, xs, rfl, _⟩ <;> simp [oneV, er, oneA, cellsV]
theorem Ls.elt (h : Ls E v ys) {i : Nat} (hi : i < ys.length) : E ys[i] (at1 v i) := by
  rcases h with ⟨rfl, k, rfl⟩ | ⟨A, c, ex, k, xs, rfl, _, h2⟩
  · simp at hi
  · exact h2 i hi
theorem Lc.elt (h : Lc sz E2 v ys) {i : Nat} (hi : i < ys.length) : E2 ys[i] (atN sz v i) := by
  rcases h with ⟨rfl, k, rfl⟩ | ⟨A, c, ex, k, xs, rfl, _, h2⟩
  · simp at hi
  · exact h2 i hi
theorem Ls.iaddr (h : Ls E v ys) {k : IntKind} {a : Int} (h0 : 0 ≤ a) (h1 : a < (ys.length : Int)) : iaddrV 1 v (.int k a) = .some (.pf (hdB v) (hdO v + a.toNat * 1) [at1 v a.toNat]) := by
  rcases h with ⟨rfl, _, rfl⟩ | ⟨A, c, ex, kk, xs, rfl, h2, _⟩
  · simp at h1; omega
  · simp only [iaddrV]
    rw [if_pos ⟨h0, h1⟩]
    have : a.toNat < xs.length := by omega
    simp only [hdB, hdO, at1, Nat.mul_one, Option.some.injEq, V.pf.injEq, true_and]
    rw [List.drop_eq_getElem_cons this, List.take_succ_cons, List.take_zero]
    simp [List.getD, this]
theorem Lc.iaddr (h : Lc sz E2 v ys) {k : IntKind} {a : Int} (h0 : 0 ≤ a) (h1 : a < (ys.length : Int)) : iaddrV sz v (.int k a) = .some (.pf (hdB v) (hdO v + a.toNat * sz) (atN sz v a.toNat)) := by
  rcases h with ⟨rfl, _, rfl⟩ | ⟨A, c, ex, kk, xs, rfl, h2, _⟩
  · simp at h1; omega
  · simp only [iaddrV]
    rw [if_pos ⟨h0, h1⟩]
    rfl
def cellsL (v : V) (n : Nat) : List V := match v with
  | .fs _ _ _ _ _ xs => xs.take n
  | _ => []
theorem Ls.cells (h : Ls E v ys) : cellsS (ys.length * 1) v M = .some (cellsL v ys.length) ∧ (cellsL v ys.length).length = ys.length ∧ ∀ i (hi : i < ys.length), ∃ u, (cellsL v ys.length)[i]? = .some u ∧ E ys[i] u := by
  rcases h with ⟨rfl, k, rfl⟩ | ⟨A, c, ex, k, xs, rfl, h1, h2⟩
  · exact ⟨by simp [cellsS, cellsL], rfl, fun i hi => by simp at hi⟩
  · refine ⟨?_, by simp [cellsL]; omega, fun i hi => ⟨_, ?_, h2 i hi⟩⟩
    · simp only [cellsS, Nat.mul_one, cellsL]
      split
      · rename_i h0; simp [h0]
      · first | rfl | rw [if_pos h1]
    · have : i < xs.length := by omega
      simp [cellsL, at1, List.getD, this, hi]
theorem Lc.cells (h : Lc sz E2 v ys) : cellsS (ys.length * sz) v M = .some (cellsL v (ys.length * sz)) ∧ (cellsL v (ys.length * sz)).length = ys.length * sz ∧ ∀ i (hi : i < ys.length), E2 ys[i] (((cellsL v (ys.length * sz)).drop (i * sz)).take sz) := by
  rcases h with ⟨rfl, k, rfl⟩ | ⟨A, c, ex, k, xs, rfl, h1, h2⟩
  · exact ⟨by simp [cellsS, cellsL], by simp [cellsL], fun i hi => by simp at hi⟩
  · refine ⟨?_, by simp [cellsL]; omega, fun i hi => ?_⟩
    · simp only [cellsS, cellsL]
      split
      · rename_i h0; simp [h0]
      · first | rfl | rw [if_pos h1]
    · have := h2 i hi
      simp only [atN] at this
      simp only [cellsL]
      rw [List.drop_take, List.take_take, Nat.min_eq_left]
      · exact this
      · have : (i + 1) * sz ≤ ys.length * sz := Nat.mul_le_mul_right _ hi
        rw [Nat.add_mul] at this
        omega
theorem Ls.mk {xs : List V} {A : AA} {n c k : Nat} {ex : Bool} (hn : n = ys.length) (hl : ys.length ≤ xs.length) (h : ∀ i (h : i < ys.length), ∃ u, xs[i]? = .some u ∧ E ys[i] u) : Ls E (.fs A n c ex k xs) ys := by
  subst hn
  refine .inr ⟨A, c, ex, k, xs, rfl, hl, fun i hi => ?_⟩
  obtain ⟨u, h1, h2⟩ := h i hi
  simpa [at1, List.getD, h1] using h2
theorem Ls.nil {k : Nat} : Ls E (.sc (.sl none 0 0 true k)) [] := .inl ⟨rfl, k, rfl⟩
theorem Lc.nil {k : Nat} : Lc sz E2 (.sc (.sl none 0 0 true k)) [] := .inl ⟨rfl, k, rfl⟩
theorem Ls.mono {E' : α → V → Prop} (h : Ls E v ys) (hm : ∀ y ∈ ys, ∀ u, E y u → E' y u) : Ls E' v ys := by
  rcases h with h | ⟨A, c, ex, k, xs, rfl, h1, h2⟩
  · exact .inl h
  · exact .inr ⟨A, c, ex, k, xs, rfl, h1, fun i hi => hm _ (List.getElem_mem _) _ (h2 i hi)⟩
end
theorem LI.at {v : V} {ys : List Int} (h : LI v ys) {i : Nat} (hi : i < ys.length) : at1 v i = .sc (.int .i64 ys[i]) := h.elt hi
theorem LB.at {v : V} {ys : List Bool} (h : LB v ys) {i : Nat} (hi : i < ys.length) : at1 v i = .sc (.bool ys[i]) := h.elt hi
theorem LI.cells {v : V} {ys : List Int} {M : MH} (h : LI v ys) : cellsS (ys.length * 1) v M = .some (ys.map vi) := by
  obtain ⟨h1, h2, h3⟩ := Ls.cells (M := M) h
  rw [h1]
  congr 1
  apply List.ext_getElem?
  intro i
  by_cases hi : i < ys.length
  · obtain ⟨u, h4, h5⟩ := h3 i hi
    rw [h4, h5]; simp [hi, vi]
  · rw [List.getElem?_eq_none (by omega), List.getElem?_eq_none (by simp; omega)]
def blkV : V → Option Nat
  | .sc (.sl (some (b, _)) _ _ _ _) => some b
  | .sc (.ptr (some (b, _))) => some b
  | _ => none
def Ow (sz : Nat) (M : MH) (v : V) (l : List V) : Prop :=
  (l = [] ∧ ∃ k, v = .sc (.sl none 0 0 true k)) ∨ ∃ b n ex, v = .sc (.sl (some (b, 0)) n n ex sz) ∧ M b = .some l ∧ l.length = n * sz
structure Gr (sz : Nat) (M0 M : MH) (v : V) (l : List V) : Prop where
  sub : Sub M0 M
  new : ∀ b, blkV v = .some b → M0 b = none
  own : Ow sz M v l
def Oth (M M' : MH) (s s' : V) : Prop := ∀ b l, M b = .some l → blkV s ≠ some b → M' b = .some l ∧ blkV s' ≠ some b
def Fr (sz : Nat) (v : V) (l : List V) : Prop := (l = [] ∧ ∃ k, v = .sc (.sl none 0 0 true k)) ∨ ∃ p n c ex k, v = .fs (some p) n c ex k l ∧ l.length = n * sz
theorem Gr.nil {sz k : Nat} {M0 M : MH} (h : Sub M0 M) : Gr sz M0 M (.sc (.sl none 0 0 true k)) [] := ⟨h, fun b h => (by simp [blkV] at h), .inl ⟨rfl, k, rfl⟩⟩
theorem Gr.mk' {sz n b : Nat} {ex : Bool} {M0 M : MH} {l : List V} (hs : Sub M0 M) (hb : M0 b = none) (hl : l.length = n * sz) (hm : M b = .some l) : Gr sz M0 M (.sc (.sl (some (b, 0)) n n ex sz)) l :=
  ⟨hs, fun b' h => by simp [blkV] at h; subst h; exact hb, .inr ⟨b, n, ex, rfl, hm, hl⟩⟩
theorem Gr.new' {sz n b : Nat} {ex : Bool} {M0 M : MH} {l : List V} (hs : Sub M0 M) (hb : M b = none) (hl : l.length = n * sz) : Gr sz M0 (M.set b l) (.sc (.sl (some (b, 0)) n n ex sz)) l :=
  .mk' (hs.set (hs.none hb)) (hs.none hb) hl set_same
theorem Gr.get {sz n c b o k : Nat} {ex : Bool} {M0 M : MH} {l : List V} (h : Gr sz M0 M (.sc (.sl (some (b, o)) n c ex k)) l) : M b = .some l ∧ o = 0 ∧ c = n ∧ k = sz ∧ l.length = n * sz ∧ M0 b = none := by
  rcases h.own with ⟨_, _, h1⟩ | ⟨b', n', ex', h1, h2, h3⟩
  · cases h1
  · cases h1; exact ⟨h2, rfl, rfl, rfl, h3, h.new _ rfl⟩
theorem Gr.set {sz n c b o k : Nat} {ex : Bool} {M0 M : MH} {l l' : List V} (h : Gr sz M0 M (.sc (.sl (some (b, o)) n c ex k)) l) (hl : l'.length = l.length) : Gr sz M0 (M.set b l') (.sc (.sl (some (b, o)) n c ex k)) l' := by
  obtain ⟨h1, rfl, rfl, rfl, h5, h6⟩ := h.get
  exact .mk' (h.sub.set h6) h6 (hl.trans h5) set_same
theorem Ow.len {sz : Nat} {M : MH} {v : V} {l : List V} (h : Ow sz M v l) : ∃ n : Nat, lenF (er v) = .some (.int .i64 (n : Int)) ∧ lenS v = .some n ∧ l.length = n * sz ∧ oneV v = true ∧ cellsV v = .some [v] := by
  rcases h with ⟨rfl, k, rfl⟩ | ⟨b, n, ex, rfl, _, h2⟩
  · exact ⟨0, by simp [er, lenF], rfl, by simp, by simp [oneV, er, oneA], rfl⟩
  · exact ⟨n, by simp [er, lenF], rfl, h2, by simp [oneV, er, oneA], rfl⟩
theorem Ow.len1 {M : MH} {v : V} {l : List V} (h : Ow 1 M v l) : lenF (er v) = .some (.int .i64 (l.length : Int)) := by
  obtain ⟨n, h1, _, h3, _⟩ := h.len
  rw [h1, show l.length = n by omega]
theorem Gr.len1 {M0 M : MH} {v : V} {l : List V} (h : Gr 1 M0 M v l) : lenF (er v) = .some (.int .i64 (l.length : Int)) := h.own.len1
theorem Gr.one {sz : Nat} {M0 M : MH} {v : V} {l : List V} (h : Gr sz M0 M v l) : oneV v = true ∧ cellsV v = .some [v] := by
  obtain ⟨n, _, _, _, h1, h2⟩ := h.own.len
  exact ⟨h1, h2⟩
theorem Ow.sub {sz : Nat} {M M' : MH} {v : V} {l : List V} (h : Ow sz M v l) (hs : Sub M M') : Ow sz M' v l := by
  rcases h with h | ⟨b, n, ex, rfl, h1, h2⟩
  · exact .inl h
  · exact .inr ⟨b, n, ex, rfl, hs _ _ h1, h2⟩
theorem Gr.more {sz : Nat} {M0 M M' : MH} {v : V} {l : List V} (h : Gr sz M0 M v l) (hs : Sub M M') : Gr sz M0 M' v l := ⟨h.sub.trans hs, h.new, h.own.sub hs⟩
theorem Gr.oth {sz sz' : Nat} {M0 M M' : MH} {v s s' : V} {l : List V} (h : Gr sz M0 M v l) (ho : Oth M M' s s') (hne : ∀ b, blkV v = .some b → blkV s ≠ some b) (hs : Sub M0 M') :
    Gr sz M0 M' v l ∧ ∀ b, blkV v = .some b → blkV s' ≠ some b := by
  rcases h.own with ⟨rfl, k, rfl⟩ | ⟨b, n, ex, rfl, h1, h2⟩
  · exact ⟨.nil hs, fun b h => by simp [blkV] at h⟩
  · obtain ⟨q1, q2⟩ := ho b l h1 (hne b rfl)
    exact ⟨.mk' hs (h.new b rfl) h2 q1, fun b' h' => by simp [blkV] at h'; subst h'; exact q2⟩
theorem Fr.one {sz : Nat} {v : V} {l : List V} (h : Fr sz v l) : oneV v = true ∧ cellsV v = .some [v] := by
  rcases h with ⟨rfl, k, rfl⟩ | ⟨A, n, c, ex, k, rfl, _⟩ <;> simp [oneV, er, oneA, cellsV]
theorem Fr.ls {α : Type} {E : α → V → Prop} {v : V} {l : List V} {ys : List α} (h : Fr 1 v l) (hl : l.length = ys.length) (he : ∀ i (h : i < ys.length), ∃ u, l[i]? = .some u ∧ E ys[i] u) : Ls E v ys := by
  rcases h with ⟨rfl, k, rfl⟩ | ⟨A, n, c, ex, k, rfl, h1⟩
  · have : ys = [] := List.eq_nil_of_length_eq_zero (by simpa using hl.symm)
    subst this
    exact .nil
  · exact .mk (by omega) (by omega) he
theorem Fr.lc {α : Type} {sz : Nat} {E : α → List V → Prop} {v : V} {l : List V} {ys : List α} (h : Fr sz v l) (hz : 0 < sz) (hl : l.length = ys.length * sz) (he : ∀ i (h : i < ys.length), E ys[i] ((l.drop (i * sz)).take sz)) : Lc sz E v ys := by
  rcases h with ⟨rfl, k, rfl⟩ | ⟨A, n, c, ex, k, rfl, h1⟩
  · have h2 : ys.length * sz = 0 := by simpa using hl.symm
    have : ys = [] := List.eq_nil_of_length_eq_zero (by
      rcases Nat.mul_eq_zero.1 h2 with h | h
      · exact h
      · omega)
    subst this
    exact .nil
  · obtain rfl : n = ys.length := Nat.eq_of_mul_eq_mul_right hz (h1.symm.trans hl)
    exact .inr ⟨some A, c, ex, k, l, rfl, by omega, fun i hi => he i hi⟩
theorem Fr.some {sz : Nat} {v : V} {l : List V} (h : Fr sz v l) (hl : 0 < l.length) : isNilF .sl (er v) = Option.some false := by
  rcases h with ⟨rfl, k, rfl⟩ | ⟨p, n, c, ex, k, rfl, _⟩
  · simp at hl
  · simp [er, isNilF]
theorem Fr.li {v : V} {ys : List Int} (h : Fr 1 v (ys.map vi)) : LI v ys := h.ls (by simp) fun i hi => ⟨vi ys[i], by simp [hi], rfl⟩
theorem Fr.lb {v : V} {ys : List Bool} (h : Fr 1 v (ys.map vb)) : LB v ys := h.ls (by simp) fun i hi => ⟨vb ys[i], by simp [hi], rfl⟩
theorem Gr.fz {sz : Nat} {M0 M : MH} {v : V} {l : List V} (h : Gr sz M0 M v l) : ∃ M1 v', Sub M1 M ∧ Fz M1 [v] M0 [v'] ∧ Fr sz v' l := by
  rcases h.own with ⟨rfl, k, rfl⟩ | ⟨b, n, ex, rfl, h1, h2⟩
  · exact ⟨M0, _, h.sub, .refl _ _, .inl ⟨rfl, k, rfl⟩⟩
  · have hb := h.new b rfl
    refine ⟨M0.set b l, .fs (some (b, 0)) n n ex sz (l.drop 0), fun i l' hi => ?_, .sl set_same (by rw [del_set hb]; exact .refl _ _) (.nil _), .inr ⟨_, _, _, _, _, rfl, h2⟩⟩
    simp only [MH.set] at hi
    split at hi
    · rename_i e; subst e; cases hi; exact h1
    · exact h.sub i l' hi
section
variable {P : Program} {f : FuncId} {args : List V} {M : MH}
theorem VCall.pure {p : V → Prop} (h : ∀ R : V → MH → Prop, (∀ r M', Sub M M' → p r → R r M') → VCall P f args M R) : VCall P f args M (fun r M' => M = M' ∧ p r) :=
  VCall.of fun R hR => h R fun r M' hs hp => hR r r M' M M hs (.refl _ _) ⟨rfl, hp⟩
theorem VCall.plain {p : V → MH → Prop} (h : ∀ R : V → MH → Prop, (∀ r M', p r M' → R r M') → VCall P f args M R) : VCall P f args M p := h _ fun _ _ h => h
theorem VCall.fr1 {sz : Nat} {c : List V} (h : VCall P f args M (fun r M' => Gr sz M M' r c)) : VCall P f args M (fun r M' => M = M' ∧ Fr sz r c) :=
  VCall.of fun R hR => h.mono fun r M' h1 => by
    obtain ⟨M1, v', q1, q2, q3⟩ := h1.fz
    exact hR r v' M' M1 M q1 q2 ⟨rfl, q3⟩
theorem VCall.lendO {a1 a2 : List V} {v : V} {sz : Nat} {l : List V} {p : V → Prop} (ho : Ow sz M v l) (hp : ∀ r, p r → flat r)
    (h : ∀ u M', Fr sz u l → VCall P f (a1 ++ u :: a2) M' (fun r M'' => M' = M'' ∧ p r)) : VCall P f (a1 ++ v :: a2) M (fun r M'' => M = M'' ∧ p r) := by
  rcases ho with ⟨rfl, k, rfl⟩ | ⟨b, n, ex, rfl, h1, h2⟩
  · exact h _ _ (.inl ⟨rfl, k, rfl⟩)
  · refine VCall.lend h1 (h _ _ (.inr ⟨_, _, _, _, _, rfl, by simpa using h2⟩)) ?_
    rintro r M' hn ⟨rfl, hr⟩
    refine ⟨hp r hr, fun i l' hi => .inl hi, ?_, hr⟩
    funext i
    simp only [MH.set, MH.del]
    split
    · rename_i e; subst e; exact h1
    · rfl
variable {K : V → MH → Prop} {sz by_ : Nat} {s : V} {M0 : MH} {l new : List V}
theorem gr_appW {m : Nat} (h : Gr sz M0 M s l) (hz : 0 < sz) (hn : new.length = m * sz) (ho : new.all oneV = true) (hb : (l.length + m) * by_ ≤ mostCells) (hb2 : l.length + m ≤ mostCells)
    (hk : ∀ s' M', Gr sz M0 M' s' (l ++ new) → Oth M M' s s' → K s' M') : appW sz by_ s m new M K := by
  rcases h.own with ⟨rfl, k, rfl⟩ | ⟨b, n, ex, rfl, h1, h2⟩
  · simp only [appW]
    by_cases hm : m = 0
    · subst hm
      rw [if_pos rfl]
      have : new = [] := List.eq_nil_of_length_eq_zero (by simpa using hn)
      subst this
      exact hk _ _ (.nil h.sub) fun b l h1 h2 => ⟨h1, h2⟩
    · rw [if_neg hm, if_neg (by omega)]
      refine ⟨by simpa using hb, by simpa using hb2, ?_⟩
      simp only [if_true, cellsS, Nat.zero_mul]
      intro b hfb
      refine hk _ _ (Gr.new' h.sub hfb (by simpa using hn)) fun b' l' h1 h2 => ?_
      have hne : b' ≠ b := fun e => by subst e; rw [hfb] at h1; cases h1
      exact ⟨by rw [set_ne hne]; exact h1, by simp [blkV]; exact fun e => hne e.symm⟩
  · simp only [appW]
    have hln : n ≤ l.length := by rw [h2]; exact Nat.le_mul_of_pos_right n hz
    by_cases hm : m = 0
    · subst hm
      rw [if_pos rfl]
      have : new = [] := List.eq_nil_of_length_eq_zero (by simpa using hn)
      subst this
      exact hk _ _ (by simpa using h) fun b l h1 h2 => ⟨h1, h2⟩
    · rw [if_neg hm, if_neg (by omega)]
      refine ⟨Nat.le_trans (Nat.mul_le_mul_right _ (by omega)) hb, by omega, ?_⟩
      have hlen : (l ++ new).length = (n + m) * sz := by rw [List.length_append, h2, hn, Nat.add_mul]
      have hfb := h.new b rfl
      cases ex with
      | true =>
        simp only [if_true]
        have hc : cellsS (n * sz) (.sc (.sl (some (b, 0)) n n true sz)) M = .some l := by
          simp only [cellsS]
          split
          · rename_i h0
            have : l = [] := List.eq_nil_of_length_eq_zero (by omega)
            rw [this]
          · simp only [h1, cells?_some, Nat.zero_add, List.drop_zero]
            rw [if_pos (by omega), List.take_of_length_le (by omega)]
        rw [hc]
        intro b' hb'
        refine hk _ _ (Gr.new' h.sub hb' hlen) fun i l' q1 q2 => ?_
        have hne : i ≠ b' := fun e => by subst e; rw [hb'] at q1; cases q1
        exact ⟨by rw [set_ne hne]; exact q1, by simp [blkV]; exact fun e => hne e.symm⟩
      | false =>
        simp only [Bool.false_eq_true, if_false, h1]
        refine ⟨trivial, ho, by omega, fun b' hb' => ?_⟩
        have e : (List.drop 0 l).take (n * sz) ++ new = l ++ new := by rw [List.drop_zero, List.take_of_length_le (by omega)]
        rw [e]
        have hsub : Sub M0 (M.del b) := h.sub.del hfb
        have hnb : b' ≠ b := fun e => by subst e; rw [h1] at hb'; cases hb'
        refine hk _ _ (Gr.new' hsub (by rw [del_ne hnb]; exact hb') hlen) fun i l' q1 q2 => ?_
        have hne : i ≠ b' := fun e => by subst e; rw [hb'] at q1; cases q1
        have hib : i ≠ b := fun e => by subst e; exact q2 rfl
        exact ⟨by rw [set_ne hne, del_ne hib]; exact q1, by simp [blkV]; exact fun e => hne e.symm⟩
theorem gr_app1 {bt c k : Nat} {ex : Bool} (h : Gr sz M0 M s l) (hz : 0 < sz) (hbt : M bt = none) (hn : new.length = sz) (ho : new.all oneV = true) (hb : (l.length + 1) * by_ ≤ mostCells) (hb2 : l.length + 1 ≤ mostCells)
    (hk : ∀ s' M', Gr sz M0 M' s' (l ++ new) → Oth M M' s s' → K s' M') : appV sz by_ s (.sc (.sl (some (bt, 0)) 1 c ex k)) (M.set bt new) K := by
  have hc : cellsS (1 * sz) (.sc (.sl (some (bt, 0)) 1 c ex k)) (M.set bt new) = .some new := by
    simp only [cellsS, Nat.one_mul, set_same, cells?_some, Nat.zero_add, List.drop_zero]
    rw [if_neg (by omega), if_pos (by omega), List.take_of_length_le (by omega)]
  simp only [appV, lenS, hc]
  have hs : Sub M (M.set bt new) := (Sub.refl M).set hbt
  refine ⟨_, _, .refl _ _, gr_appW (h.more hs) hz (by omega) ho hb hb2 fun s' M' q1 q2 => hk s' M' q1 fun b l' h1 h2 => q2 b l' (hs _ _ h1) h2⟩
theorem mks3 {z : List AV} {n : Int} (h0 : 0 ≤ n) (h1 : n.toNat * by_ ≤ mostCells) (h2 : n.toNat ≤ mostCells)
    (hk : ∀ b, M b = none → K (.sc (.sl (some (b, 0)) n.toNat n.toNat true z.length)) (M.set b ((zeros z n.toNat).map .sc))) : mksV z by_ (.int .i64 n) M K := ⟨h0, h1, h2, hk⟩
end
def ctrV (n : Nat) (v : V) : Nat := ctr n (er v)
@[go_sem] theorem ctrV_int {n : Nat} {k : IntKind} {i : Int} : ctrV n (.sc (.int k i)) = n - i.toNat := by simp [ctrV, er, ctr]
theorem zeros_rep {α : Type} (f : α → AV) (a : α) : ∀ n, (zeros [f a] n).map V.sc = (List.replicate n a).map (fun x => V.sc (f x))
  | 0 => rfl
  | n + 1 => by simp [zeros, zeros_rep f a n, List.replicate_succ]
end Go.M2

namespace Go.M2
inductive Tr : List V → List V → List (Nat × List V) → Prop
  | nil : Tr [] [] []
  | keep {l l' : List V} {fp : List (Nat × List V)} (v : V) : Tr l l' fp → Tr (v :: l) (v :: l') fp
  | sl {cs cs' l l' : List V} {fp1 fp2 : List (Nat × List V)} {b o n c k : Nat} {ex : Bool} : Tr cs cs' fp1 → Tr l l' fp2 →
      Tr (.sc (.sl (some (b, o)) n c ex k) :: l) (.fs (some (b, o)) n c ex k (cs'.drop o) :: l') ((b, cs) :: (fp1 ++ fp2))
  | agg {a a' l l' : List V} {fp1 fp2 : List (Nat × List V)} : Tr a a' fp1 → Tr l l' fp2 → Tr (.agg a :: l) (.agg a' :: l') (fp1 ++ fp2)
  | tup {a a' l l' : List V} {fp1 fp2 : List (Nat × List V)} : Tr a a' fp1 → Tr l l' fp2 → Tr (.tup a :: l) (.tup a' :: l') (fp1 ++ fp2)
theorem Tr.refl : ∀ l, Tr l l []
  | [] => .nil
  | v :: t => .keep v (Tr.refl t)
theorem Tr.append {a a' b b' : List V} {f g : List (Nat × List V)} (h : Tr a a' f) (k : Tr b b' g) : Tr (a ++ b) (a' ++ b') (f ++ g) := by
  induction h with
  | nil => exact k
  | keep v _ ih => exact .keep v ih
  | sl h1 _ _ ih => simpa [List.append_assoc] using Tr.sl h1 ih
  | agg h1 _ _ ih => simpa [List.append_assoc] using Tr.agg h1 ih
  | tup h1 _ _ ih => simpa [List.append_assoc] using Tr.tup h1 ih
theorem Tr.len {a a' : List V} {f : List (Nat × List V)} (h : Tr a a' f) : a'.length = a.length := by
  induction h <;> simp_all
theorem Tr.split {b b' : List V} : ∀ {a l' : List V} {f : List (Nat × List V)}, Tr (a ++ b) l' f → ∃ a' b' f1 f2, l' = a' ++ b' ∧ f = f1 ++ f2 ∧ Tr a a' f1 ∧ Tr b b' f2
  | [], l', f, h => ⟨[], l', [], f, rfl, rfl, .nil, h⟩
  | x :: t, l', f, h => by
    rw [List.cons_append] at h
    cases h with
    | keep v h1 =>
      obtain ⟨a', b', f1, f2, rfl, rfl, h2, h3⟩ := Tr.split (b' := b') h1
      exact ⟨_, _, _, _, rfl, rfl, .keep _ h2, h3⟩
    | sl h0 h1 =>
      obtain ⟨a', b', f1, f2, rfl, rfl, h2, h3⟩ := Tr.split (b' := b') h1
      exact ⟨_ :: a', _, _, _, rfl, by simp [List.append_assoc], .sl h0 h2, h3⟩
    | agg h0 h1 =>
      obtain ⟨a', b', f1, f2, rfl, rfl, h2, h3⟩ := Tr.split (b' := b') h1
      exact ⟨_ :: a', _, _, _, rfl, by simp [List.append_assoc], .agg h0 h2, h3⟩
    | tup h0 h1 =>
      obtain ⟨a', b', f1, f2, rfl, rfl, h2, h3⟩ := Tr.split (b' := b') h1
      exact ⟨_ :: a', _, _, _, rfl, by simp [List.append_assoc], .tup h0 h2, h3⟩
def inF (fp : List (Nat × List V)) (i : Nat) : Bool := fp.any fun p => p.1 == i
theorem inF_iff {fp : List (Nat × List V)} {i : Nat} : inF fp i = true ↔ ∃ l, (i, l) ∈ fp := by
  simp only [inF, List.any_eq_true, beq_iff_eq]
  constructor
  · rintro ⟨⟨a, l⟩, h1, rfl⟩; exact ⟨l, h1⟩
  · rintro ⟨l, h⟩; exact ⟨(i, l), h, rfl⟩
def delF (M : MH) (fp : List (Nat × List V)) : MH := fun i => if inF fp i then none else M i
theorem delF_nil (M : MH) : delF M [] = M := by funext i; simp [delF, inF]
theorem delF_cons (M : MH) (b : Nat) (l : List V) (fp : List (Nat × List V)) : delF M ((b, l) :: fp) = delF (M.del b) fp := by
  funext i
  have e : inF ((b, l) :: fp) i = (b == i || inF fp i) := rfl
  simp only [delF, MH.del, e]
  by_cases h1 : i = b
  · subst h1
    rw [if_pos (by simp), if_pos rfl]
    split <;> rfl
  · rw [if_neg h1]
    have h2 : (b == i) = false := by simp; exact fun h => h1 h.symm
    rw [h2, Bool.false_or]
theorem delF_append (M : MH) (f g : List (Nat × List V)) : delF M (f ++ g) = delF (delF M f) g := by
  funext i
  simp only [delF, inF, List.any_append, Bool.or_eq_true]
  by_cases h1 : (f.any fun p => p.1 == i) = true <;> by_cases h2 : (g.any fun p => p.1 == i) = true <;> simp [h1, h2]
def Nd2 (fp : List (Nat × List V)) : Prop := (fp.map (·.1)).Nodup
theorem Nd2.append {f g : List (Nat × List V)} (h : Nd2 (f ++ g)) : Nd2 f ∧ Nd2 g ∧ ∀ p ∈ f, inF g p.1 = false := by
  unfold Nd2 at h ⊢
  rw [List.map_append, List.nodup_append] at h
  refine ⟨h.1, h.2.1, fun p hp => ?_⟩
  cases hb : inF g p.1 with
  | false => rfl
  | true =>
    obtain ⟨l, hl⟩ := inF_iff.1 hb
    exact absurd rfl (h.2.2 _ (List.mem_map_of_mem hp) _ (List.mem_map.2 ⟨_, hl, rfl⟩))
theorem Tr.fz {l l' : List V} {fp : List (Nat × List V)} (h : Tr l l' fp) : ∀ {M : MH}, (∀ p ∈ fp, M p.1 = .some p.2) → Nd2 fp → Fz M l (delF M fp) l' := by
  induction h with
  | nil => intro M _ _; rw [delF_nil]; exact .nil M
  | keep v _ ih => intro M hm hn; exact .keep v (ih hm hn)
  | @sl cs cs' l l' fp1 fp2 b o n c k ex _ _ ih1 ih2 =>
    intro M hm hn
    have h0 := hm (b, cs) (List.mem_cons_self ..)
    have hn' : ((b :: (fp1 ++ fp2).map (·.1))).Nodup := hn
    obtain ⟨n1, n2⟩ := List.nodup_cons.1 hn'
    obtain ⟨n3, n4, n5⟩ := Nd2.append (show Nd2 (fp1 ++ fp2) from n2)
    have ne : ∀ p ∈ fp1 ++ fp2, p.1 ≠ b := fun p hp e => n1 (by rw [← e]; exact List.mem_map_of_mem hp)
    rw [delF_cons, delF_append]
    refine .sl h0 (ih1 (fun p hp => ?_) n3) (ih2 (fun p hp => ?_) n4)
    · rw [del_ne (ne p (List.mem_append_left _ hp))]; exact hm p (List.mem_cons_of_mem _ (List.mem_append_left _ hp))
    · have h1 : inF fp1 p.1 = false := by
        cases hb : inF fp1 p.1 with
        | false => rfl
        | true =>
          obtain ⟨l2, hl⟩ := inF_iff.1 hb
          have := n5 _ hl
          have h2 : inF fp2 p.1 = true := inF_iff.2 ⟨p.2, hp⟩
          simp only at this
          rw [h2] at this; cases this
      simp only [delF, h1, Bool.false_eq_true, if_false]
      rw [del_ne (ne p (List.mem_append_right _ hp))]; exact hm p (List.mem_cons_of_mem _ (List.mem_append_right _ hp))
  | @agg a a' l l' fp1 fp2 _ _ ih1 ih2 =>
    intro M hm hn
    obtain ⟨n3, n4, n5⟩ := Nd2.append hn
    rw [delF_append]
    refine .agg (ih1 (fun p hp => hm p (List.mem_append_left _ hp)) n3) (ih2 (fun p hp => ?_) n4)
    have h1 : inF fp1 p.1 = false := by
      cases hb : inF fp1 p.1 with
      | false => rfl
      | true =>
        obtain ⟨l2, hl⟩ := inF_iff.1 hb
        have := n5 _ hl
        have h2 : inF fp2 p.1 = true := inF_iff.2 ⟨p.2, hp⟩
        simp only at this
        rw [h2] at this; cases this
    simp only [delF, h1, Bool.false_eq_true, if_false]
    exact hm p (List.mem_append_right _ hp)
  | @tup a a' l l' fp1 fp2 _ _ ih1 ih2 =>
    intro M hm hn
    obtain ⟨n3, n4, n5⟩ := Nd2.append hn
    rw [delF_append]
    refine .tup (ih1 (fun p hp => hm p (List.mem_append_left _ hp)) n3) (ih2 (fun p hp => ?_) n4)
    have h1 : inF fp1 p.1 = false := by
      cases hb : inF fp1 p.1 with
      | false => rfl
      | true =>
        obtain ⟨l2, hl⟩ := inF_iff.1 hb
        have := n5 _ hl
        have h2 : inF fp2 p.1 = true := inF_iff.2 ⟨p.2, hp⟩
        simp only at this
        rw [h2] at this; cases this
    simp only [delF, h1, Bool.false_eq_true, if_false]
    exact hm p (List.mem_append_right _ hp)
structure Mem (M0 M : MH) (fp : List (Nat × List V)) : Prop where
  sub : Sub M0 M
  new : ∀ p ∈ fp, M0 p.1 = none
  nd : Nd2 fp
  at_ : ∀ p ∈ fp, M p.1 = .some p.2
theorem Mem.perm {M0 M : MH} {f g : List (Nat × List V)} (h : Mem M0 M f) (hp : f.Perm g) : Mem M0 M g :=
  ⟨h.sub, fun p hm => h.new p (hp.mem_iff.2 hm), (hp.map _).nodup_iff.1 h.nd, fun p hm => h.at_ p (hp.mem_iff.2 hm)⟩
theorem Mem.nil {M0 M : MH} (h : Sub M0 M) : Mem M0 M [] := ⟨h, fun p hp => (by cases hp), List.nodup_nil, fun p hp => (by cases hp)⟩
theorem Mem.left {M0 M : MH} {f g : List (Nat × List V)} (h : Mem M0 M (f ++ g)) : Mem M0 M f :=
  ⟨h.sub, fun p hp => h.new p (List.mem_append_left _ hp), (Nd2.append h.nd).1, fun p hp => h.at_ p (List.mem_append_left _ hp)⟩
theorem Mem.right {M0 M : MH} {f g : List (Nat × List V)} (h : Mem M0 M (f ++ g)) : Mem M0 M g :=
  ⟨h.sub, fun p hp => h.new p (List.mem_append_right _ hp), (Nd2.append h.nd).2.1, fun p hp => h.at_ p (List.mem_append_right _ hp)⟩
theorem Mem.more {M0 M M' : MH} {f : List (Nat × List V)} (h : Mem M0 M f) (hs : Sub M M') : Mem M0 M' f :=
  ⟨h.sub.trans hs, h.new, h.nd, fun p hp => hs _ _ (h.at_ p hp)⟩
theorem Mem.add {M0 M M' : MH} {f g : List (Nat × List V)} (h : Mem M0 M f) (k : Mem M M' g) : Mem M0 M' (f ++ g) := by
  refine ⟨h.sub.trans k.sub, fun p hp => ?_, ?_, fun p hp => ?_⟩
  · rcases List.mem_append.1 hp with h1 | h1
    · exact h.new p h1
    · exact h.sub.none (k.new p h1)
  · unfold Nd2
    rw [List.map_append, List.nodup_append]
    refine ⟨h.nd, k.nd, fun a ha b hb e => ?_⟩
    obtain ⟨p, hp, rfl⟩ := List.mem_map.1 ha
    obtain ⟨q, hq, rfl⟩ := List.mem_map.1 hb
    have h1 := h.at_ p hp
    have h2 := k.new q hq
    rw [e, h2] at h1; cases h1
  · rcases List.mem_append.1 hp with h1 | h1
    · exact k.sub _ _ (h.at_ p h1)
    · exact k.at_ p h1
theorem Mem.new1 {M0 M : MH} {b : Nat} {l : List V} {f : List (Nat × List V)} (h : Mem M0 M f) (hb : M b = none) : Mem M0 (M.set b l) ((b, l) :: f) := by
  have h1 : Mem M (M.set b l) [(b, l)] := ⟨(Sub.refl M).set hb, fun p hp => by simp at hp; subst hp; exact hb, by simp [Nd2], fun p hp => by simp at hp; subst hp; exact set_same⟩
  exact (h.add h1).perm (List.perm_append_comm)
theorem Mem.upd {M0 M : MH} {b : Nat} {l l' : List V} {f : List (Nat × List V)} (h : Mem M0 M ((b, l) :: f)) : Mem M0 (M.set b l') ((b, l') :: f) := by
  have hb := h.new (b, l) (List.mem_cons_self ..)
  have hn : (b :: f.map (·.1)).Nodup := h.nd
  obtain ⟨n1, n2⟩ := List.nodup_cons.1 hn
  refine ⟨h.sub.set hb, fun p hp => ?_, hn, fun p hp => ?_⟩
  · rcases List.mem_cons.1 hp with rfl | h1
    · exact hb
    · exact h.new p (List.mem_cons_of_mem _ h1)
  · rcases List.mem_cons.1 hp with rfl | h1
    · exact set_same
    · rw [set_ne (fun e => n1 (by rw [← e]; exact List.mem_map_of_mem h1))]
      exact h.at_ p (List.mem_cons_of_mem _ h1)
theorem Mem.ne {M0 M : MH} {b : Nat} {l : List V} {f : List (Nat × List V)} (h : Mem M0 M ((b, l) :: f)) : ∀ p ∈ f, p.1 ≠ b := by
  have hn : (b :: f.map (·.1)).Nodup := h.nd
  obtain ⟨n1, n2⟩ := List.nodup_cons.1 hn
  exact fun p hp e => n1 (by rw [← e]; exact List.mem_map_of_mem hp)
def Dn (M0 M : MH) (r : V) (p : V → Prop) : Prop := ∃ r' fp, Tr [r] [r'] fp ∧ Mem M0 M fp ∧ flat r ∧ (∀ q ∈ fp, flatL q.2) ∧ p r'
theorem Dn.mono {M0 M : MH} {r : V} {p q : V → Prop} (h : Dn M0 M r p) (hp : ∀ v, p v → q v) : Dn M0 M r q := by
  obtain ⟨r', fp, h1, h2, h3, h4, h5⟩ := h
  exact ⟨r', fp, h1, h2, h3, h4, hp _ h5⟩
theorem Dn.sub {M0 M : MH} {r : V} {p : V → Prop} (h : Dn M0 M r p) : Sub M0 M := by
  obtain ⟨r', fp, h1, h2, _⟩ := h; exact h2.sub
theorem Gr.dn {sz : Nat} {M0 M : MH} {v : V} {l : List V} {p : V → Prop} (h : Gr sz M0 M v l) (hf : flatL l) (hp : ∀ u, Fr sz u l → p u) : Dn M0 M v p := by
  rcases h.own with ⟨rfl, k, rfl⟩ | ⟨b, n, ex, rfl, h1, h2⟩
  · exact ⟨_, _, .refl _, .nil h.sub, by simp [flat], fun q hq => (by cases hq), hp _ (.inl ⟨rfl, k, rfl⟩)⟩
  · refine ⟨_, _, .sl (.refl l) .nil, ⟨h.sub, fun p hp => ?_, by simp [Nd2], fun p hp => ?_⟩, by simp [flat], fun q hq => ?_, hp _ (.inr ⟨_, _, _, _, _, rfl, by simpa using h2⟩)⟩
    · simp at hp; subst hp; exact h.new b rfl
    · simp at hp; subst hp; exact h1
    · simp at hq; subst hq; exact hf
theorem flatL_vi (l : List Int) : flatL (l.map vi) := flatL_all.2 fun v hv => by
  obtain ⟨n, _, rfl⟩ := List.mem_map.1 hv
  simp [vi, flat]
theorem Fz.keeps {M M' : MH} {l l' : List V} (h : Fz M l M' l') : ∀ {H F : Heap}, SM M H F → okL F l → erl l' = erl l ∧ Sub M' M ∧ ∃ F', Le F F' ∧ SM M' H F' ∧ okL F' l' ∧ ∀ (b : Nat) (c : List V), M b = .some c → M' b = .some c ∨ F'.blk b = .cells (erl c) true := by
  induction h with
  | nil M => intro H F hs hl; exact ⟨rfl, .refl _, F, Le.refl F, hs, hl, fun b c h => .inl h⟩
  | keep v h ih =>
    intro H F hs hl
    simp only [okL] at hl
    obtain ⟨e, s, F', h1, h2, h3, h4⟩ := ih hs hl.2
    exact ⟨by simp [erl, e], s, F', h1, h2, by simp only [okL]; exact ⟨okV.mono h1 hl.1, h3⟩, h4⟩
  | @sl M M1 M2 cs cs' l l' b o n c k ex hb h1 h2 ih1 ih2 =>
    intro H F hs hl
    simp only [okL] at hl
    obtain ⟨F1, f1, f2, f3, f4, f5⟩ := hs.freeze hb
    obtain ⟨e1, s1, F2, g1, g2, g3, g4⟩ := ih1 f2 f4
    obtain ⟨e2, s2, F3, k1, k2, k3, k4⟩ := ih2 g2 (okL.mono (f1.trans g1) hl.2)
    have hbs : b < F1.size := by rw [f2.size]; exact (hs.own _ _ hb).1
    have keep : ∀ i c', i < F2.size → F2.blk i = .cells c' true → F3.blk i = .cells c' true := fun i c' hi h => k1.cells hi h
    have sz1 : ∀ (i : Nat) (c' : List V), M i = .some c' → i < F1.size ∧ i < F2.size := fun i c' hi => by
      have h0 := (hs.own _ _ hi).1
      rw [← f2.size] at h0
      exact ⟨h0, Nat.lt_of_lt_of_le h0 g1.1⟩
    refine ⟨by simp [erl, er, e2], (s2.trans s1).trans fun i c' hi => ?_, F3, (f1.trans g1).trans k1, k2, ?_, fun i c' hi => ?_⟩
    · simp only [MH.del] at hi
      split at hi
      · cases hi
      · exact hi
    · simp only [okL, okV, AA.b_some, AA.o_some]
      refine ⟨⟨?_, okL.mono k1 (g3.drop o)⟩, k3⟩
      intro i x hi
      rw [erl_drop, e1, List.getElem?_drop] at hi
      have := (f3.le (g1.trans k1)) (o + i) x hi
      simpa using this
    · by_cases hib : i = b
      · subst hib
        rw [hb] at hi; cases hi
        exact .inr (keep _ _ (sz1 _ _ hb).2 (g1.cells hbs f5))
      · have hd : M.del b i = .some c' := by rw [del_ne hib]; exact hi
        rcases g4 i c' hd with h5 | h5
        · exact k4 i c' h5
        · exact .inr (keep _ _ (sz1 _ _ hi).2 h5)
  | slN h ih =>
    intro H F hs hl
    simp only [okL] at hl
    obtain ⟨e, s, F', h1, h2, h3, h4⟩ := ih hs hl.2
    exact ⟨by simp [erl, er, e], s, F', h1, h2, by simp only [okL, okV, erl]; exact ⟨⟨Rd.nil _ _ _, trivial⟩, h3⟩, h4⟩
  | agg h1 h2 ih1 ih2 =>
    intro H F hs hl
    simp only [okL, okV] at hl
    obtain ⟨e1, s1, F1, g1, g2, g3, g4⟩ := ih1 hs hl.1
    obtain ⟨e2, s2, F2, k1, k2, k3, k4⟩ := ih2 g2 (okL.mono g1 hl.2)
    refine ⟨by simp [erl, er, e1, e2], s2.trans s1, F2, g1.trans k1, k2, by simp only [okL, okV]; exact ⟨okL.mono k1 g3, k3⟩, fun i c hi => ?_⟩
    rcases g4 i c hi with h5 | h5
    · exact k4 i c h5
    · exact .inr (k1.cells (by have := (hs.own _ _ hi).1; rw [g2.size]; exact this) h5)
  | tup h1 h2 ih1 ih2 =>
    intro H F hs hl
    simp only [okL, okV] at hl
    obtain ⟨e1, s1, F1, g1, g2, g3, g4⟩ := ih1 hs hl.1
    obtain ⟨e2, s2, F2, k1, k2, k3, k4⟩ := ih2 g2 (okL.mono g1 hl.2)
    refine ⟨by simp [erl, er, e1, e2], s2.trans s1, F2, g1.trans k1, k2, by simp only [okL, okV]; exact ⟨okL.mono k1 g3, k3⟩, fun i c hi => ?_⟩
    rcases g4 i c hi with h5 | h5
    · exact k4 i c h5
    · exact .inr (k1.cells (by have := (hs.own _ _ hi).1; rw [g2.size]; exact this) h5)
section
variable {P : Program} {f : FuncId} {args args' : List V} {M : MH} {R R' : V → MH → Prop} {fp : List (Nat × List V)}
def backF (M M' : MH) (fp : List (Nat × List V)) : MH := fun i => if inF fp i then M i else M' i
theorem VCall.lendT (ht : Tr args args' fp) (hm : ∀ p ∈ fp, M p.1 = .some p.2) (hn : Nd2 fp) (h : VCall P f args' (delF M fp) R')
    (hr : ∀ r M', (∀ p ∈ fp, M' p.1 = none) → R' r M' → flat r ∧ (∀ (i : Nat) (l' : List V), M' i = .some l' → delF M fp i = .some l' ∨ flatL l') ∧ R r (backF M M' fp)) : VCall P f args M R := by
  intro H F hs hok
  obtain ⟨e, s1, F1, f1, f2, f3, f4⟩ := (ht.fz hm hn).keeps hs hok
  have := h H F1 f2 f3
  rw [← erl_map, e, erl_map] at this
  refine this.mono ?_
  rintro a H' ⟨r, M', F', rfl, k1, k2, k3, k4⟩
  have hF1 : ∀ p ∈ fp, F1.blk p.1 = .cells (erl p.2) true := fun p hp => by
    rcases f4 p.1 p.2 (hm p hp) with h1 | h1
    · simp only [delF, inF_iff.2 ⟨p.2, hp⟩, if_true] at h1; cases h1
    · exact h1
  have hsz : ∀ p ∈ fp, p.1 < F1.size := fun p hp => by rw [f2.size]; exact (hs.own _ _ (hm p hp)).1
  have hF' : ∀ p ∈ fp, F'.blk p.1 = .cells (erl p.2) true := fun p hp => k2.cells (hsz p hp) (hF1 p hp)
  have hnone : ∀ p ∈ fp, M' p.1 = none := fun p hp => by
    cases hb : M' p.1 with
    | none => rfl
    | some l2 => have := (k3.all hb).2; rw [hF' p hp] at this; cases this
  obtain ⟨q1, q2, q3⟩ := hr r M' hnone k4
  let F'' : Heap := ⟨F'.size, fun i => if inF fp i then .dead else F'.blk i⟩
  have hLe : Le F F'' := by
    refine ⟨(f1.trans k2).1, fun i hi => ?_⟩
    by_cases hin : inF fp i = true
    · obtain ⟨l, hl⟩ := inF_iff.1 hin
      exact .inl (hs.own _ _ (hm _ hl)).2.2.1
    · rcases (f1.trans k2).2 i hi with h1 | h1
      · exact .inl h1
      · refine .inr ?_
        simp only [F'', hin, Bool.false_eq_true, if_false]; exact h1
  refine ⟨r, backF M M' fp, F'', rfl, q1.ok, hLe, ⟨k3.size, fun i hi => ?_, fun i l hi => ?_, fun i es hi => ?_⟩, q3⟩
  · simp only [F'']
    split
    · exact .inl rfl
    · exact k3.le i hi
  · simp only [backF] at hi
    split at hi
    · rename_i hin
      obtain ⟨l0, hl0⟩ := inF_iff.1 hin
      have h1 := hm _ hl0
      simp only at h1
      rw [h1] at hi; cases hi
      have hb : i < H'.size := by
        have h2 := hsz _ hl0
        have h3 := k2.1
        rw [k3.size] at h3
        simp only at h2; omega
      refine ⟨hb, ?_, by simp only [F'', hin, if_true], okL.mono hLe (hs.ok h1)⟩
      have h4 := hF' _ hl0
      simp only at h4
      rcases k3.le i hb with h2 | h2
      · rw [h4] at h2; cases h2
      · rw [← h2]; exact h4
    · rename_i hin
      obtain ⟨p1, p2, p3, p4⟩ := k3.own i l hi
      refine ⟨p1, p2, by simp only [F'', hin, Bool.false_eq_true, if_false]; exact p3, ?_⟩
      rcases q2 i l hi with h1 | h1
      · simp only [delF, hin, Bool.false_eq_true, if_false] at h1
        exact okL.mono hLe (hs.ok h1)
      · exact h1.ok
  · simp only [backF] at hi
    split at hi
    · rename_i hin
      obtain ⟨l0, hl0⟩ := inF_iff.1 hin
      have h1 := hm _ hl0
      simp only at h1
      rw [h1] at hi; cases hi
    · rename_i hin
      obtain ⟨p1, p2, p3⟩ := k3.map i es hi
      exact ⟨p1, p2, by simp only [F'', hin, Bool.false_eq_true, if_false]; exact p3⟩
theorem VCall.lendP {p : V → Prop} (ht : Tr args args' fp) (hm : ∀ p ∈ fp, M p.1 = .some p.2) (hn : Nd2 fp) (hp : ∀ r, p r → flat r) (h : ∀ M', VCall P f args' M' (fun r M'' => M' = M'' ∧ p r)) : VCall P f args M (fun r M' => M = M' ∧ p r) := by
  refine VCall.lendT ht hm hn (h _) ?_
  rintro r M' hnone ⟨rfl, hpr⟩
  refine ⟨hp r hpr, fun i l hi => .inl hi, ?_, hpr⟩
  funext i
  simp only [backF, delF]
  split
  · rfl
  · rfl
theorem VCall.lendD {p : V → Prop} (ht : Tr args args' fp) (hm : ∀ p ∈ fp, M p.1 = .some p.2) (hn : Nd2 fp) (h : ∀ M', VCall P f args' M' (fun r M'' => Dn M' M'' r p)) : VCall P f args M (fun r M' => Dn M M' r p) := by
  refine VCall.lendT ht hm hn (R' := fun r M'' => ∃ r' g, Tr [r] [r'] g ∧ Mem (delF M fp) M'' g ∧ flat r ∧ (∀ q ∈ g, flatL q.2) ∧ p r' ∧ ∀ (i : Nat) (l : Cell), M'' i = .some l → delF M fp i = .some l ∨ ∃ l' : List V, l = l' ∧ (i, l') ∈ g)
    (VCall.of fun R hR => (h _).mono fun r M' => ?_) ?_
  · rintro ⟨r', g, h1, h2, h3, h4, h5⟩
    refine hR r r M' (fun i => if inF g i then M' i else delF M fp i) _ (fun i l hi => ?_) (.refl _ _) ⟨r', g, h1, ⟨fun i l hi => ?_, h2.new, h2.nd, fun q hq => ?_⟩, h3, h4, h5, fun i l hi => ?_⟩
    · have hi : (if inF g i = true then M' i else delF M fp i) = .some l := hi
      split at hi
      · exact hi
      · exact h2.sub _ _ hi
    · show (if inF g i = true then M' i else delF M fp i) = .some l
      split
      · exact h2.sub _ _ hi
      · exact hi
    · show (if inF g q.1 = true then M' q.1 else delF M fp q.1) = .some q.2
      rw [if_pos (inF_iff.2 ⟨q.2, hq⟩)]
      exact h2.at_ q hq
    · have hi : (if inF g i = true then M' i else delF M fp i) = .some l := hi
      split at hi
      · rename_i hin
        obtain ⟨l2, hl2⟩ := inF_iff.1 hin
        have := h2.at_ _ hl2
        simp only at this
        rw [this] at hi; cases hi
        exact .inr ⟨_, rfl, hl2⟩
      · exact .inl hi
  · rintro r M' hnone ⟨r', g, h1, h2, h3, h4, h5, h6⟩
    have hg : ∀ q ∈ g, inF fp q.1 = false := fun q hq => by
      cases hb : inF fp q.1 with
      | false => rfl
      | true =>
        obtain ⟨l, hl⟩ := inF_iff.1 hb
        have e1 := hnone _ hl
        have e2 := h2.at_ q hq
        simp only at e1
        rw [e1] at e2; cases e2
    refine ⟨h3, fun i l hi => ?_, r', g, h1, ⟨fun i l hi => ?_, fun q hq => ?_, h2.nd, fun q hq => ?_⟩, h3, h4, h5⟩
    · rcases h6 i l hi with h7 | h7
      · exact .inl h7
      · obtain ⟨l', e, h7⟩ := h7
        cases e
        exact .inr (h4 _ h7)
    · simp only [backF]
      split
      · exact hi
      · rename_i hin
        exact h2.sub i l (by simp only [delF, hin, Bool.false_eq_true, if_false]; exact hi)
    · have := h2.new q hq
      simp only [delF, hg q hq, Bool.false_eq_true, if_false] at this
      exact this
    · simp only [backF, hg q hq, Bool.false_eq_true, if_false]
      exact h2.at_ q hq
theorem VCall.frT {p : V → Prop} (h : VCall P f args M (fun r M' => Dn M M' r p)) : VCall P f args M (fun r M' => M = M' ∧ p r) :=
  VCall.of fun R hR => h.mono fun r M' => by
    rintro ⟨r', g, h1, h2, h3, h4, h5⟩
    let M1 : MH := fun i => if inF g i then M' i else M i
    have e : delF M1 g = M := by
      funext i
      simp only [delF, M1]
      split
      · rename_i hin
        obtain ⟨l, hl⟩ := inF_iff.1 hin
        exact (h2.new _ hl).symm
      · rfl
    have hz := h1.fz (M := M1) (fun q hq => by simp only [M1]; rw [if_pos (inF_iff.2 ⟨q.2, hq⟩)]; exact h2.at_ q hq) h2.nd
    rw [e] at hz
    refine hR r r' M' M1 M (fun i l hi => ?_) hz ⟨rfl, h5⟩
    simp only [M1] at hi
    split at hi
    · exact hi
    · exact h2.sub _ _ hi
end
end Go.M2

namespace Go.M2
theorem upd_isRw {H : Heap} {b : Nat} {l l' : List AV} (hb : b < H.size) (h : H.blk b = .cells l true) (i : Nat) : (H.upd b (.cells l' true)).isRw i = H.isRw i := by
  unfold Heap.isRw
  rw [upd_size]
  by_cases e : i = b
  · subst e; rw [upd_blk_same', h]
  · rw [upd_blk_ne e]
theorem HI.recell {w0 w : World} {ρ : Nat → BI} {H : Heap} (hi : HI w0 ρ H w) {b : Nat} {l l' : List AV} (hb : b < H.size) (h : H.blk b = .cells l true) (hl : l'.length ≤ (ρ b).sz)
    (hc : ∀ (j : Nat) (x : AV), l'[j]? = .some x → l[j]? = .some x ∨ x = AV.junk) : HI w0 ρ (H.upd b (.cells l' true)) w := by
  obtain ⟨o1, o2, cs, t, o3, o4⟩ := hi.own b l hb h
  refine ⟨hi.below, hi.bound, fun i c hi' hc' => ?_, fun i c r hi' hc' => ?_, fun i c r hi' hc' j x hx => ?_, fun i c hi' hc' => ?_, fun i es hi' hc' => ?_, fun i i' h1 h2 hne hr => ?_, hi.tab⟩
  · by_cases e : i = b
    · subst e; rw [upd_blk_same'] at hc'; cases hc'
    · rw [upd_blk_ne e] at hc'; exact hi.ro i c hi' hc'
  · by_cases e : i = b
    · subst e; rw [upd_blk_same'] at hc'; cases hc'; exact hi.rw i l true hb h
    · rw [upd_blk_ne e] at hc'; exact hi.rw i c r hi' hc'
  · by_cases e : i = b
    · subst e
      rw [upd_blk_same'] at hc'
      cases hc'
      rcases hc j x hx with h1 | h1
      · exact hi.cell i l true hb h j x h1
      · subst h1
        have hj : j < l'.length := (List.getElem?_eq_some_iff.1 hx).1
        refine ⟨cs[(ρ i).off + j]'(by omega), ?_, .junk _⟩
        simp [World.cell?, o3]
    · rw [upd_blk_ne e] at hc'; exact hi.cell i c r hi' hc' j x hx
  · by_cases e : i = b
    · subst e
      rw [upd_blk_same'] at hc'
      cases hc'
      exact ⟨o1, hl, cs, t, o3, o4⟩
    · rw [upd_blk_ne e] at hc'; exact hi.own i c hi' hc'
  · by_cases e : i = b
    · subst e; rw [upd_blk_same'] at hc'; cases hc'
    · rw [upd_blk_ne e] at hc'; exact hi.map i es hi' hc'
  · rw [upd_isRw hb h] at hr
    rcases hi.inj i i' h1 h2 hne hr with h3 | h3
    · by_cases e : i' = b
      · subst e; rw [h] at h3; cases h3
      · exact .inl (by rw [upd_blk_ne e]; exact h3)
    · exact .inr h3
theorem VRL.mid {N : Nat} {ρ : Nat → BI} {a1 a2 : List AV} {x : AV} {vs : List Value} (h : VRL N ρ (a1 ++ x :: a2) vs) : ∃ v, vs[a1.length]? = .some v ∧ VR N ρ x v ∧ ∀ y, VR N ρ y v → VRL N ρ (a1 ++ y :: a2) vs := by
  have hl : a1.length < vs.length := by have := h.1; simp at this; omega
  refine ⟨vs[a1.length], by simp [hl], h.2 a1.length _ _ (by simp) (by simp [hl]), fun y hy => ⟨by have := h.1; simpa using this, fun i z v hz hv => ?_⟩⟩
  by_cases e : i = a1.length
  · subst e
    simp at hz
    subst hz
    have : v = vs[a1.length] := by simpa [hl] using hv.symm
    rw [this]; exact hy
  · refine h.2 i z v ?_ hv
    rw [List.getElem?_append] at hz ⊢
    split
    · rename_i hlt; rw [if_pos hlt] at hz; exact hz
    · rename_i hlt
      rw [if_neg hlt] at hz
      obtain ⟨k, hk⟩ : ∃ k, i - a1.length = k + 1 := ⟨i - a1.length - 1, by omega⟩
      rw [hk] at hz ⊢
      simpa using hz
section
variable {P : Program} {f : FuncId}
theorem ACall.openCap {a1 a2 : List AV} {H : Heap} {R : AV → Heap → Prop} {b o n c k : Nat} {l : List AV} (hb : H.rwCells b = .some l)
    (h : ∀ c', c ≤ c' → ACall P f (a1 ++ .sl (some (b, o)) n c' true k :: a2) (H.upd b (.cells (l ++ List.replicate (o + c' * k - l.length) .junk) true)) R) :
    ACall P f (a1 ++ .sl (some (b, o)) n c false k :: a2) H R := by
  refine ⟨(h c (Nat.le_refl _)).1, fun w0 ρ w vs hi hvs => ?_⟩
  obtain ⟨hbs, hblk⟩ := Heap.rwCells_blk hb
  obtain ⟨v, hv, hx, hy⟩ := hvs.mid
  have hrw : (ρ b).rw = true := hi.rw b l true hbs hblk
  obtain ⟨o1, o2, _⟩ := hi.own b l hbs hblk
  generalize hq : (AV.sl (some (b, o)) n c false k) = q at hx
  cases hx <;> cases hq
  rename_i c' h1 h2 h3 h4 h5
  have hin := h5 hrw
  have hH := hi.recell (l' := l ++ List.replicate (o + c' * k - l.length) .junk) hbs hblk (by simp; omega) (fun j x hj => by
    rw [List.getElem?_append] at hj
    split at hj
    · exact .inl hj
    · rw [List.getElem?_replicate] at hj
      split at hj
      · cases hj; exact .inr rfl
      · cases hj)
  refine ((h c' h2).2 w0 ρ w vs hH (hy _ (.sl b o n c' true k c' h1 (by omega) (Nat.le_refl _) (fun _ => rfl) h5))).mono ?_
  rintro e w' ⟨r, H', ρ', v', q1, q2, q3, q4, q5⟩
  refine ⟨r, H', ρ', v', q1, q2, ⟨q3.size, q3.agree, q3.wsize, fun i hi' hn => q3.keep i hi' fun b' hb' hr => hn b' hb' (by rwa [upd_isRw hbs hblk] at hr), fun b' hb' hr => ?_, q3.mono⟩, q4, q5⟩
  rcases q3.img b' hb' hr with h6 | ⟨b0, h6, h7, h8⟩
  · exact .inl h6
  · exact .inr ⟨b0, h6, by rwa [upd_isRw hbs hblk] at h7, h8⟩
theorem ACall.closeCap {args : List AV} {H : Heap} {R : AV → Heap → Prop}
    (h : ACall P f args H (fun r H' => R r H' ∨ ∃ b n c k l ex, r = .sl (some (b, 0)) n c ex k ∧ n ≤ c ∧ H'.rwCells b = .some l ∧ n * k ≤ l.length ∧ R (.sl (some (b, 0)) n n false k) (H'.upd b (.cells (l.take (n * k)) true)))) : ACall P f args H R := by
  refine ⟨h.1, fun w0 ρ w vs hi hvs => (h.2 w0 ρ w vs hi hvs).mono ?_⟩
  rintro e w' ⟨r, H', ρ', v, rfl, q2, q3, q4, q5 | ⟨b, n, c, k, l, ex, rfl, h1, h2, h3, h4⟩⟩
  · exact ⟨r, H', ρ', v, rfl, q2, q3, q4, q5⟩
  · obtain ⟨hbs, hblk⟩ := Heap.rwCells_blk h2
    obtain ⟨o1, o2, _⟩ := q4.own b l hbs hblk
    have hH := q4.recell (l' := l.take (n * k)) hbs hblk (by simp; omega) (fun j x hj => by
      rw [List.getElem?_take] at hj
      split at hj
      · exact .inl hj
      · cases hj)
    refine ⟨_, H'.upd b (.cells (l.take (n * k)) true), ρ', v, rfl, ?_, ⟨q3.size, q3.agree, q3.wsize, q3.keep, fun b' hb' hr => q3.img b' hb' (by rwa [upd_isRw hbs hblk] at hr), q3.mono⟩, hH, h4⟩
    generalize hq : (AV.sl (some (b, 0)) n c ex k) = q at q2
    cases q2 <;> cases hq
    rename_i c' g1 g2 g3 g4 g5
    exact .sl b 0 n n false k c' g1 (Nat.le_refl _) (by omega) (fun h => nomatch h) g5
theorem VCall.openCap {a1 a2 : List V} {M : MH} {R : V → MH → Prop} {b o n c k : Nat} {l : List V} (hb : M b = .some l)
    (h : ∀ c', c ≤ c' → VCall P f (a1 ++ .sc (.sl (some (b, o)) n c' true k) :: a2) (M.set b (l ++ List.replicate (o + c' * k - l.length) (.sc .junk))) R) :
    VCall P f (a1 ++ .sc (.sl (some (b, o)) n c false k) :: a2) M R := by
  intro H F hs hok
  have e : ∀ c' ex, (a1 ++ V.sc (.sl (some (b, o)) n c' ex k) :: a2).map er = a1.map er ++ .sl (some (b, o)) n c' ex k :: a2.map er := fun c' ex => by simp [er]
  rw [e]
  refine ACall.openCap (hs.rw hb) fun c' hc => ?_
  have e2 : erl l ++ List.replicate (o + c' * k - (erl l).length) AV.junk = erl (l ++ List.replicate (o + c' * k - l.length) (.sc .junk)) := by
    rw [erl_append, erl_length, erl_map (List.replicate _ _), List.map_replicate]; simp [er]
  rw [e2]
  have hj : okL F (List.replicate (o + c' * k - l.length) (V.sc .junk)) := okL_all.2 fun v hv => by rw [(List.mem_replicate.1 hv).2]; simp [okV]
  have := h c' hc _ F (hs.upd hb ((hs.ok hb).append hj)) (okL_all.2 fun v hv => by
    rcases List.mem_append.1 hv with h1 | h1
    · exact okL_all.1 hok v (List.mem_append_left _ h1)
    · rcases List.mem_cons.1 h1 with rfl | h1
      · simp [okV]
      · exact okL_all.1 hok v (List.mem_append_right _ (List.mem_cons_of_mem _ h1)))
  rw [e] at this
  exact this
theorem VCall.closeCap {args : List V} {M : MH} {R : V → MH → Prop}
    (h : VCall P f args M (fun r M' => R r M' ∨ ∃ (b n c k : Nat) (l : List V) (ex : Bool), r = .sc (.sl (some (b, 0)) n c ex k) ∧ n ≤ c ∧ M' b = .some l ∧ n * k ≤ l.length ∧ R (.sc (.sl (some (b, 0)) n n false k)) (M'.set b (l.take (n * k))))) : VCall P f args M R := by
  intro H F hs hok
  refine ACall.closeCap ((h H F hs hok).mono ?_)
  rintro a H' ⟨r, M', F', rfl, q1, q2, q3, q4 | ⟨b, n, c, k, l, ex, rfl, h1, h2, h3, h4⟩⟩
  · exact .inl ⟨r, M', F', rfl, q1, q2, q3, q4⟩
  · refine .inr ⟨b, n, c, k, erl l, ex, by simp [er], h1, q3.rw h2, by rw [erl_length]; exact h3, _, M'.set b (l.take (n * k)), F', by simp [er], by simp [okV], q2, ?_, h4⟩
    rw [← erl_take]
    exact q3.upd h2 ((q3.ok h2).take _)
end
end Go.M2

namespace Go.M2
section
variable {P : Program} {f : FuncId} {args : List V} {M : MH}
theorem VCall.froz {p : V → Prop} (h : ∀ R : V → MH → Prop, (∀ r M', Sub M M' → p r → R r M') → (∀ r M' sz l, Gr sz M M' r l → (∀ u, Fr sz u l → p u) → R r M') → VCall P f args M R) : VCall P f args M (fun r M' => M = M' ∧ p r) :=
  VCall.of fun R hR => h R (fun r M' hs hp => hR r r M' M M hs (.refl _ _) ⟨rfl, hp⟩) fun r M' sz l hg hp => by
    obtain ⟨M1, v', q1, q2, q3⟩ := hg.fz
    exact hR r v' M' M1 M q1 q2 ⟨rfl, hp _ q3⟩
theorem VCall.froz2 {p : V → Prop} (h : ∀ R : V → MH → Prop, (∀ r M', Sub M M' → p r → R r M') → (∀ r b M' sz l, Gr sz M M' r l → (∀ u, Fr sz u l → p (.tup [u, b])) → R (.tup [r, b]) M') → VCall P f args M R) : VCall P f args M (fun r M' => M = M' ∧ p r) :=
  VCall.of fun R hR => h R (fun r M' hs hp => hR r r M' M M hs (.refl _ _) ⟨rfl, hp⟩) fun r b M' sz l hg hp => by
    obtain ⟨M1, v', q1, q2, q3⟩ := hg.fz
    refine hR (.tup [r, b]) (.tup [v', b]) M' M1 M q1 ?_ ⟨rfl, hp _ q3⟩
    have : Fz M1 [r, b] M [v', b] := by
      cases q2 with
      | keep v h => cases h; exact .keep _ (.keep _ (.nil _))
      | sl h1 h2 h3 => cases h3; exact .sl h1 h2 (.keep _ (.nil _))
      | slN h => cases h; exact .slN (.keep _ (.nil _))
      | agg h1 h2 => cases h2; exact .agg h1 (.keep _ (.nil _))
      | tup h1 h2 => cases h2; exact .tup h1 (.keep _ (.nil _))
    exact .tup this (.nil _)
variable {v a b c : V} {rest : List V} {sz : Nat} {l : List V} {p : V → Prop}
theorem VCall.lend1 (ho : Ow sz M v l) (hp : ∀ r, p r → flat r) (h : ∀ u M', Fr sz u l → VCall P f (a :: u :: rest) M' (fun r M'' => M' = M'' ∧ p r)) : VCall P f (a :: v :: rest) M (fun r M'' => M = M'' ∧ p r) := VCall.lendO (a1 := [a]) ho hp h
theorem VCall.give0 {M0 : MH} {R : V → MH → Prop} (hg : Gr sz M0 M v l) (h : ∀ u M2, Fr sz u l → Sub M0 M2 → VCall P f (u :: rest) M2 R) : VCall P f (v :: rest) M R := by
  rcases hg.own with ⟨rfl, k, rfl⟩ | ⟨b, n, ex, rfl, h1, h2⟩
  · exact h _ _ (.inl ⟨rfl, k, rfl⟩) hg.sub
  · exact VCall.give (.sl h1 (.refl _ _) (.refl _ _)) (h _ _ (.inr ⟨_, _, _, _, _, rfl, by simpa using h2⟩) (hg.sub.del (hg.new b rfl)))
theorem flat_eq {u : AV} : ∀ r, r = V.sc u → flat r := fun r h => by subst h; simp [flat]
end
def oB (v : V) : Nat := (blkV v).getD 0
theorem Ow.at {sz : Nat} {M : MH} {v : V} {l : List V} (h : Ow sz M v l) (h0 : 0 < l.length) : M (oB v) = .some l := by
  rcases h with ⟨rfl, k, rfl⟩ | ⟨b, n, ex, rfl, h1, h2⟩
  · simp at h0
  · exact h1
theorem Ow.iaddr {M : MH} {v : V} {l : List V} (h : Ow 1 M v l) {k : IntKind} {a : Int} (h0 : 0 ≤ a) (h1 : a < (l.length : Int)) : iaddrV 1 v (.int k a) = .some (.sc (.ptr (some (oB v, a.toNat)))) := by
  rcases h with ⟨rfl, _, rfl⟩ | ⟨b, n, ex, rfl, h2, h3⟩
  · simp at h1; omega
  · simp only [iaddrV]
    rw [if_pos ⟨h0, by omega⟩]
    simp [oB, blkV]
theorem Gr.at {sz : Nat} {M0 M : MH} {v : V} {l : List V} (h : Gr sz M0 M v l) (h0 : 0 < l.length) : M (oB v) = .some l := h.own.at h0
theorem Gr.setO {sz : Nat} {M0 M : MH} {v : V} {l l' : List V} (h : Gr sz M0 M v l) (h0 : 0 < l.length) (hl : l'.length = l.length) : Gr sz M0 (M.set (oB v) l') v l' := by
  rcases h.own with ⟨rfl, k, rfl⟩ | ⟨b, n, ex, rfl, h1, h2⟩
  · simp at h0
  · exact h.set hl
theorem nth_vi {xs : List Int} {i : Nat} (h : i < xs.length) : (xs.map vi)[i]? = .some (.sc (.int .i64 xs[i])) := by simp [h, vi]
theorem set_vi {xs : List Int} {i : Nat} {n : Int} : (xs.map vi).set i (.sc (.int .i64 n)) = (xs.set i n).map vi := by simp [List.map_set, vi]
theorem len_vi {xs : List Int} : (xs.map vi).length = xs.length := by simp
theorem app_vi {xs : List Int} {n : Int} : xs.map vi ++ [.sc (.int .i64 n)] = (xs ++ [n]).map vi := by simp [vi]
theorem zeros_vi (n : Nat) : (zeros [.int .i64 0] n).map V.sc = (List.replicate n (0 : Int)).map vi := zeros_rep (fun x : Int => AV.int .i64 x) 0 n
theorem app_room {M : MH} {K : V → MH → Prop} {by_ bt c' k' b o n c : Nat} {ex ex' : Bool} {l : List V} {u : V} (hl : M b = .some l) (hbt : M bt = none) (hu : oneV u = true) (hc : n + 1 ≤ c) (hn : o + (n + 1) ≤ l.length)
    (hk : K (.sc (.sl (some (b, o)) (n + 1) c ex 1)) ((M.set bt [u]).set b (l.set (o + n) u))) : appV 1 by_ (.sc (.sl (some (b, o)) n c ex 1)) (.sc (.sl (some (bt, 0)) 1 c' ex' k')) (M.set bt [u]) K := by
  have hne : b ≠ bt := fun e => by subst e; rw [hbt] at hl; cases hl
  have hcs : cellsS (1 * 1) (.sc (.sl (some (bt, 0)) 1 c' ex' k')) (M.set bt [u]) = .some [u] := by
    simp only [cellsS, Nat.one_mul, set_same, cells?_some, Nat.zero_add, List.drop_zero]; rfl
  simp only [appV, lenS, hcs]
  refine ⟨_, _, .refl _ _, ?_⟩
  simp only [appW, if_pos hc, set_ne hne, hl, Nat.mul_one]
  rw [if_neg (by omega)]
  exact ⟨trivial, by simp [hu], hn, hk⟩
section
variable {M0 M : MH} {s : V} {K : V → MH → Prop}
theorem app_int {by_ bt c k : Nat} {ex : Bool} {xs : List Int} {n : Int} (h : Gr 1 M0 M s (xs.map vi)) (hbt : M bt = none) (hb : xs.length + 1 ≤ 68719476736) (hby : by_ ≤ 16)
    (hk : ∀ s' M', Gr 1 M0 M' s' ((xs ++ [n]).map vi) → Oth M M' s s' → K s' M') : appV 1 by_ s (.sc (.sl (some (bt, 0)) 1 c ex k)) (M.set bt [.sc (.int .i64 n)]) K := by
  refine gr_app1 h (by omega) hbt rfl (by simp [oneV, er, oneA]) ?_ (by simp [mostCells]; omega) fun s' M' h1 h2 => hk s' M' (by rwa [app_vi] at h1) h2
  have : ((xs.map vi).length + 1) * by_ ≤ ((xs.map vi).length + 1) * 16 := Nat.mul_le_mul_left _ hby
  simp [mostCells] at this ⊢; omega
end
section
variable {M0 M : MH} {s : V} {K : V → MH → Prop}
theorem app_val {by_ bt c k : Nat} {ex : Bool} {us : List V} {u : V} (h : Gr 1 M0 M s us) (hbt : M bt = none) (hu : oneV u = true) (hb : us.length + 1 ≤ 34359738368) (hby : by_ ≤ 32)
    (hk : ∀ s' M', Gr 1 M0 M' s' (us ++ [u]) → Oth M M' s s' → K s' M') : appV 1 by_ s (.sc (.sl (some (bt, 0)) 1 c ex k)) (M.set bt [u]) K := by
  refine gr_app1 h (by omega) hbt rfl (by simp [hu]) ?_ (by simp [mostCells]; omega) hk
  have : (us.length + 1) * by_ ≤ (us.length + 1) * 32 := Nat.mul_le_mul_left _ hby
  simp [mostCells]; omega
end
theorem Gr.base {sz : Nat} {M0 M1 M : MH} {v : V} {l : List V} (h : Gr sz M1 M v l) (hs : Sub M0 M1) : Gr sz M0 M v l := ⟨hs.trans h.sub, fun b hb => hs.none (h.new b hb), h.own⟩
theorem Gr.ne {sz sz' : Nat} {M0 M1 M : MH} {v w : V} {l r : List V} (h : Gr sz M0 M1 v l) (k : Gr sz' M1 M w r) : ∀ b, blkV w = .some b → blkV v ≠ some b := by
  intro b hb hv
  have h1 := k.new b hb
  rcases h.own with ⟨rfl, q, rfl⟩ | ⟨b', n, ex, rfl, h2, _⟩
  · simp [blkV] at hv
  · simp [blkV] at hv; subst hv; rw [h1] at h2; cases h2
def Cs {α : Type} (E : α → V → Prop) (us : List V) (xs : List α) : Prop := us.length = xs.length ∧ ∀ i (h : i < xs.length), ∃ u, us[i]? = .some u ∧ E xs[i] u
theorem Cs.nil {α : Type} {E : α → V → Prop} : Cs E [] ([] : List α) := ⟨rfl, fun i h => by simp at h⟩
theorem Cs.snoc {α : Type} {E : α → V → Prop} {us : List V} {xs : List α} {u : V} {x : α} (h : Cs E us xs) (hu : E x u) : Cs E (us ++ [u]) (xs ++ [x]) := by
  refine ⟨by simp [h.1], fun i hi => ?_⟩
  by_cases hlt : i < xs.length
  · obtain ⟨w, h1, h2⟩ := h.2 i hlt
    exact ⟨w, by rw [List.getElem?_append_left (by rw [h.1]; exact hlt)]; exact h1, by rw [List.getElem_append_left hlt]; exact h2⟩
  · have hi2 : i = xs.length := by simp at hi; omega
    subst hi2
    exact ⟨u, by rw [List.getElem?_append_right (by rw [h.1]; exact Nat.le_refl _)]; simp [h.1], by simpa using hu⟩
theorem Fr.lsC {α : Type} {E : α → V → Prop} {v : V} {us : List V} {xs : List α} (h : Fr 1 v us) (hc : Cs E us xs) : Ls E v xs := h.ls hc.1 hc.2
theorem take_snoc {α : Type} {xs : List α} {i : Nat} (h : i < xs.length) : xs.take (i + 1) = xs.take i ++ [xs[i]] := List.take_succ_eq_append_getElem h
end Go.M2

namespace Go.M2
abbrev KL := List (GOp × Option (List Nat))
def kT (f : Unit → KL) : IR := .kops (f ())
def tH (f : Unit → IR) : IR := f ()
def sQ : List IR → IR
  | [] => .skip
  | [a] => a
  | a :: b :: t => .seq a (sQ (b :: t))
def oF (f : Nat → GOp) (n : Nat) : List GOp := (List.range n).map f
@[go_sem] def kA (d : Nat) (o : IOp) : GOp × Option (List Nat) := (⟨some d, o, none⟩, none)
@[go_sem] def kB (d : Nat) (o : IOp) (l : List Nat) : GOp × Option (List Nat) := (⟨some d, o, none⟩, some l)
@[go_sem] def cI (n : Int) : X := .c (.int .i64 n)
def oN : Option (List Nat) := none
def oS (l : List Nat) : Option (List Nat) := some l
section
variable {P : Program} {Q : PostV} {e : EnvV} {M : MH} {i n : Nat}
@[go_sem] theorem wpV_kT {f : Unit → KL} : wpV P (kT f) Q e M = wpKV P (f ()) (Q .normal) e M := idE rfl
theorem wpV_tH {f : Unit → IR} : wpV P (tH f) Q e M = wpV P (f ()) Q e M := idE rfl
@[go_sem] theorem wpV_sQ1 {a : IR} : wpV P (sQ [a]) Q e M = wpV P a Q e M := idE rfl
@[go_sem] theorem wpV_sQ2 {a b : IR} {t : List IR} : wpV P (sQ (a :: b :: t)) Q e M = wpV P a (thenQV (wpV P (sQ (b :: t)) Q) Q) e M := idE rfl
@[go_sem] theorem wpV_cond {c : X} {a b : IR} : wpV P (.cond c a b) Q e M = condVW P c a b Q e M := idE rfl
@[go_sem] theorem wpV_block {a : IR} : wpV P (.block i a) Q e M = wpV P a (blockQV i Q) e M := idE rfl
def kdK (Q : PostV) (k : List Nat) : EnvV → MH → Prop := fun e' M' => Q .normal (keepV k e') M'
@[go_sem] theorem kdK_go {k : List Nat} : kdK Q k e M = Q .normal (keepV k e) M := idE rfl
theorem wpV_kd {l : List GOp} {s : List (Nat × List Nat)} {k : List Nat} : wpV P (.kd l s k) Q e M = wpDV P l s (kdK Q k) e M := idE rfl
@[go_sem] theorem gAt_oF {f : Nat → GOp} (h : i < n) : gAt (oF f n) i = f i := by
  simp [gAt, oF, List.getD, h]
end
theorem sS0 {P Q : Prop} (k : Q) (h : P = Q := by simp (maxSteps := 2000000) (disch := first | omega | assumption | exact idP rfl | exact idP (bL rfl)) only [go_sem, reduceIte, Nat.reduceEqDiff, wpV_kd, wpV_tH]; exact rfl) : P := h.mpr k
theorem sT0 {P : Prop} (h : P := by simp (maxSteps := 2000000) (disch := first | omega | assumption | exact idP rfl | exact idP (bL rfl)) only [go_sem, reduceIte, Nat.reduceEqDiff, wpV_kd, wpV_tH]) : P := h
theorem sS1 {P Q A1 : Prop} (a : A1) (k : Q) (h : A1 → P = Q := by intro a; simp (maxSteps := 2000000) (disch := first | omega | assumption | exact idP rfl | exact idP (bL rfl)) only [go_sem, reduceIte, Nat.reduceEqDiff, wpV_kd, wpV_tH, a]; exact rfl) : P := (h a).mpr k
theorem sT1 {P A1 : Prop} (a : A1) (h : A1 → P := by intro a; simp (maxSteps := 2000000) (disch := first | omega | assumption | exact idP rfl | exact idP (bL rfl)) only [go_sem, reduceIte, Nat.reduceEqDiff, wpV_kd, wpV_tH, a]) : P := (h a)
theorem sS2 {P Q A1 B1 : Prop} (a : A1) (b : B1) (k : Q) (h : A1 → B1 → P = Q := by intro a b; simp (maxSteps := 2000000) (disch := first | omega | assumption | exact idP rfl | exact idP (bL rfl)) only [go_sem, reduceIte, Nat.reduceEqDiff, wpV_kd, wpV_tH, a, b]; exact rfl) : P := (h a b).mpr k
theorem sS3 {P Q A1 B1 C1 : Prop} (a : A1) (b : B1) (c : C1) (k : Q) (h : A1 → B1 → C1 → P = Q := by intro a b c; simp (maxSteps := 2000000) (disch := first | omega | assumption | exact idP rfl | exact idP (bL rfl)) only [go_sem, reduceIte, Nat.reduceEqDiff, wpV_kd, wpV_tH, a, b, c]; exact rfl) : P := (h a b c).mpr k
theorem sS4 {P Q A1 B1 C1 D1 : Prop} (a : A1) (b : B1) (c : C1) (d : D1) (k : Q) (h : A1 → B1 → C1 → D1 → P = Q := by intro a b c d; simp (maxSteps := 2000000) (disch := first | omega | assumption | exact idP rfl | exact idP (bL rfl)) only [go_sem, reduceIte, Nat.reduceEqDiff, wpV_kd, wpV_tH, a, b, c, d]; exact rfl) : P := (h a b c d).mpr k
theorem sS5 {P Q A1 B1 C1 D1 E1 : Prop} (a : A1) (b : B1) (c : C1) (d : D1) (e : E1) (k : Q) (h : A1 → B1 → C1 → D1 → E1 → P = Q := by intro a b c d e; simp (maxSteps := 2000000) (disch := first | omega | assumption | exact idP rfl | exact idP (bL rfl)) only [go_sem, reduceIte, Nat.reduceEqDiff, wpV_kd, wpV_tH, a, b, c, d, e]; exact rfl) : P := (h a b c d e).mpr k
theorem sS6 {P Q A1 B1 C1 D1 E1 F1 : Prop} (a : A1) (b : B1) (c : C1) (d : D1) (e : E1) (f : F1) (k : Q) (h : A1 → B1 → C1 → D1 → E1 → F1 → P = Q := by intro a b c d e f; simp (maxSteps := 2000000) (disch := first | omega | assumption | exact idP rfl | exact idP (bL rfl)) only [go_sem, reduceIte, Nat.reduceEqDiff, wpV_kd, wpV_tH, a, b, c, d, e, f]; exact rfl) : P := (h a b c d e f).mpr k
theorem sS7 {P Q A1 B1 C1 D1 E1 F1 G1 : Prop} (a : A1) (b : B1) (c : C1) (d : D1) (e : E1) (f : F1) (g : G1) (k : Q) (h : A1 → B1 → C1 → D1 → E1 → F1 → G1 → P = Q := by intro a b c d e f g; simp (maxSteps := 2000000) (disch := first | omega | assumption | exact idP rfl | exact idP (bL rfl)) only [go_sem, reduceIte, Nat.reduceEqDiff, wpV_kd, wpV_tH, a, b, c, d, e, f, g]; exact rfl) : P := (h a b c d e f g).mpr k
theorem sS8 {P Q A1 B1 C1 D1 E1 F1 G1 I1 : Prop} (a : A1) (b : B1) (c : C1) (d : D1) (e : E1) (f : F1) (g : G1) (i : I1) (k : Q) (h : A1 → B1 → C1 → D1 → E1 → F1 → G1 → I1 → P = Q := by intro a b c d e f g i; simp (maxSteps := 2000000) (disch := first | omega | assumption | exact idP rfl | exact idP (bL rfl)) only [go_sem, reduceIte, Nat.reduceEqDiff, wpV_kd, wpV_tH, a, b, c, d, e, f, g, i]; exact rfl) : P := (h a b c d e f g i).mpr k
theorem sS9 {P Q A1 B1 C1 D1 E1 F1 G1 I1 J1 : Prop} (a : A1) (b : B1) (c : C1) (d : D1) (e : E1) (f : F1) (g : G1) (i : I1) (j : J1) (k : Q) (h : A1 → B1 → C1 → D1 → E1 → F1 → G1 → I1 → J1 → P = Q := by intro a b c d e f g i j; simp (maxSteps := 2000000) (disch := first | omega | assumption | exact idP rfl | exact idP (bL rfl)) only [go_sem, reduceIte, Nat.reduceEqDiff, wpV_kd, wpV_tH, a, b, c, d, e, f, g, i, j]; exact rfl) : P := (h a b c d e f g i j).mpr k
theorem sB {P : Prop} (h : P := by (repeat (first | exact Sub.refl _ | assumption | (refine Sub.set' ?_ (by assumption))))) : P := h
end Go.M2

namespace Go.M2
structure TermS where
  op : Int
  n : Int
  a : Int
  b : Int
structure VarS where
  low : Int
  high : Int
  first : Int
structure RuleS where
  when_ : List TermS
  sets : List Int
  terms : List (List TermS)
structure SysS where
  vars : List VarS
  rules : List RuleS
def ix (l : List Int) (i : Int) : Int := l.getD i.toNat 0
theorem ix_eq {l : List Int} {i : Int} (h0 : 0 ≤ i) (h1 : i < (l.length : Int)) : ∃ h : i.toNat < l.length, ix l i = l[i.toNat] := by
  have h : i.toNat < l.length := by omega
  exact ⟨h, by simp [ix, List.getD, h]⟩
def wantK (op : Int) : Int := if 7 ≤ op then 2 else 1
def kind1 (vars : Int) (t : TermS) (ks : List Int) : Int :=
  if t.op = 0 then (if -9999 ≤ t.n ∧ t.n ≤ 9999 ∧ t.a = 0 ∧ t.b = 0 then 1 else 0)
  else if t.op = 1 then (if 0 ≤ t.n ∧ t.n < vars ∧ t.a = 0 ∧ t.b = 0 then 1 else 0)
  else if 2 ≤ t.op ∧ t.op ≤ 9 ∧ t.n = 0 ∧ (0 ≤ t.a ∧ t.a < (ks.length : Int)) ∧ (0 ≤ t.b ∧ t.b < (ks.length : Int)) ∧ ix ks t.a = wantK t.op ∧ ix ks t.b = wantK t.op ∧ (t.op = 7 → t.a = t.b) then (if 5 ≤ t.op then 2 else 1)
  else 0
def kindsGo (vars : Int) : List TermS → List Int → Option (List Int)
  | [], ks => some ks
  | t :: r, ks => if kind1 vars t ks = 0 then none else kindsGo vars r (ks ++ [kind1 vars t ks])
def kindsF (vars : Int) (l : List TermS) : Option (List Int) := if 0 ≤ vars ∧ vars ≤ 5 ∧ 1 ≤ l.length ∧ l.length ≤ 40 then kindsGo vars l [] else none
theorem kindsGo_append {vars : Int} : ∀ (a b : List TermS) (ks : List Int), kindsGo vars (a ++ b) ks = (kindsGo vars a ks).bind (kindsGo vars b)
  | [], b, ks => rfl
  | t :: r, b, ks => by
    simp only [List.cons_append, kindsGo]
    split
    · rfl
    · exact kindsGo_append r b _
theorem kindsGo_len {vars : Int} : ∀ {a : List TermS} {ks r : List Int}, kindsGo vars a ks = some r → r.length = ks.length + a.length ∧ r.take ks.length = ks
  | [], ks, r, h => by simp [kindsGo] at h; subst h; simp
  | t :: a, ks, r, h => by
    simp only [kindsGo] at h
    split at h
    · cases h
    · obtain ⟨h1, h2⟩ := kindsGo_len h
      simp at h1 h2
      refine ⟨by simp; omega, ?_⟩
      have := congrArg (List.take ks.length) h2
      rw [List.take_take] at this
      simpa [Nat.min_eq_left (Nat.le_succ _)] using this
theorem kindsGo_take {vars : Int} {l : List TermS} {i : Nat} (h : i < l.length) {ks : List Int} (hk : kindsGo vars (l.take i) [] = some ks) :
    kindsGo vars (l.take (i + 1)) [] = if kind1 vars l[i] ks = 0 then none else some (ks ++ [kind1 vars l[i] ks]) := by
  rw [List.take_succ_eq_append_getElem h, kindsGo_append, hk]
  rfl
theorem kindsGo_none {vars : Int} {l : List TermS} {i : Nat} (hk : kindsGo vars (l.take i) [] = none) : kindsGo vars l [] = none := by
  rw [← List.take_append_drop i l, kindsGo_append, hk]; rfl
theorem kindsGo_at {vars : Int} {l : List TermS} {ks : List Int} (h : kindsGo vars l [] = some ks) : ks.length = l.length ∧ ∀ i (hi : i < l.length) (hk : i < ks.length), kind1 vars l[i] (ks.take i) = ks[i] ∧ ks[i] ≠ 0 := by
  have hl := (kindsGo_len h).1
  simp at hl
  refine ⟨hl, fun i hi hk => ?_⟩
  have h1 : kindsGo vars (l.take (i + 1) ++ l.drop (i + 1)) [] = some ks := by rw [List.take_append_drop]; exact h
  rw [kindsGo_append] at h1
  cases h2 : kindsGo vars (l.take (i + 1)) [] with
  | none => rw [h2] at h1; cases h1
  | some ks1 =>
    rw [h2] at h1
    have h3 := kindsGo_len (show kindsGo vars (l.drop (i + 1)) ks1 = some ks from h1)
    have h4 := kindsGo_len h2
    simp at h4
    rw [List.take_succ_eq_append_getElem hi, kindsGo_append] at h2
    cases h5 : kindsGo vars (l.take i) [] with
    | none => rw [h5] at h2; cases h2
    | some ks0 =>
      rw [h5] at h2
      simp only [Option.bind_some, kindsGo] at h2
      split at h2
      · cases h2
      · rename_i h6
        cases h2
        have h7 := (kindsGo_len h5).1
        simp at h7
        have h8 : ks0.length = i := by omega
        have h9 : ks.take (i + 1) = ks0 ++ [kind1 vars l[i] ks0] := by
          have := h3.2
          rw [List.length_append] at this
          simpa [h8] using this
        have h10 : ks.take i = ks0 := by
          have := congrArg (List.take i) h9
          rw [List.take_take, Nat.min_eq_left (Nat.le_succ _)] at this
          rw [this, List.take_append_of_le_length (by omega), List.take_of_length_le (by omega)]
        have h11 : ks[i] = kind1 vars l[i] ks0 := by
          have : (ks.take (i + 1))[i]? = some ks[i] := by rw [List.getElem?_take]; simp [hk]
          rw [h9, List.getElem?_append_right (by omega)] at this
          simp [h8] at this
          exact this.symm
        rw [h10, h11]
        exact ⟨rfl, h6⟩
def heldF (n : Int) : Int := if 9999 < n then 9999 else if n < -9999 then -9999 else n
def do1 (op a b : Int) : Int :=
  if op = 2 then heldF (a + b) else if op = 3 then heldF (a - b) else if op = 4 then heldF (a * b) else
  if op = 5 then (if a < b then 1 else 0) else if op = 6 then (if a = b then 1 else 0) else if op = 7 then 1 - a else
  if op = 8 then min a b else max a b
def val1 (state : List Int) (t : TermS) (vs : List Int) : Int := if t.op = 0 then t.n else if t.op = 1 then ix state t.n else do1 t.op (ix vs t.a) (ix vs t.b)
def valsF (state : List Int) (l : List TermS) : List Int := l.foldl (fun vs t => vs ++ [val1 state t vs]) []
theorem valsF_snoc (state : List Int) (l : List TermS) (t : TermS) : valsF state (l ++ [t]) = valsF state l ++ [val1 state t (valsF state l)] := by
  simp [valsF, List.foldl_append]
theorem valsF_len (state : List Int) (l : List TermS) : (valsF state l).length = l.length := by
  have : ∀ (l : List TermS) (vs : List Int), (l.foldl (fun vs t => vs ++ [val1 state t vs]) vs).length = vs.length + l.length := by
    intro l
    induction l with
    | nil => intro vs; simp
    | cons t l ih => intro vs; simp only [List.foldl_cons, ih]; simp; omega
  simpa [valsF] using this l []
theorem valsF_take {state : List Int} {l : List TermS} {i : Nat} (h : i < l.length) : valsF state (l.take (i + 1)) = valsF state (l.take i) ++ [val1 state l[i] (valsF state (l.take i))] := by
  rw [List.take_succ_eq_append_getElem h, valsF_snoc]
def evalF (l : List TermS) (state : List Int) : Int := (valsF state l).getLastD 0
def stOk (state : List Int) : Prop := ∀ x ∈ state, -9999 ≤ x ∧ x ≤ 9999
theorem heldF_in (n : Int) : -9999 ≤ heldF n ∧ heldF n ≤ 9999 := by unfold heldF; split <;> (try split) <;> omega
theorem vals_ok {state : List Int} {vars : Int} (hs : stOk state) (hv : vars ≤ (state.length : Int)) : ∀ (n : Nat) {l : List TermS} {ks : List Int}, l.length = n → kindsGo vars l [] = some ks → ∀ i (hi : i < (valsF state l).length) (hk : i < ks.length),
    -9999 ≤ (valsF state l)[i] ∧ (valsF state l)[i] ≤ 9999 ∧ (ks[i] = 2 → 0 ≤ (valsF state l)[i] ∧ (valsF state l)[i] ≤ 1) := by
  intro n
  induction n with
  | zero => intro l ks hl hk i hi; rw [valsF_len] at hi; omega
  | succ n ih =>
    intro l ks hl hk i hi hik
    obtain ⟨l0, t, rfl⟩ : ∃ l0 t, l = l0 ++ [t] := by
      refine ⟨l.dropLast, l.getLast (by intro e; subst e; simp at hl), ?_⟩
      exact (List.dropLast_concat_getLast _).symm
    have hl0 : l0.length = n := by simp at hl; exact hl
    rw [kindsGo_append] at hk
    cases h0 : kindsGo vars l0 [] with
    | none => rw [h0] at hk; cases hk
    | some ks0 =>
      rw [h0] at hk
      simp only [Option.bind_some, kindsGo] at hk
      split at hk
      · cases hk
      · rename_i hne
        cases hk
        have hk0 := (kindsGo_len h0).1
        simp at hk0
        have hlen := valsF_len state l0
        have IH := ih hl0 h0
        have get : ∀ j (hj : j < l0.length), (valsF state (l0 ++ [t]))[j]'(by rw [valsF_len]; simp; omega) = (valsF state l0)[j]'(by omega) := by
          intro j hj
          simp only [valsF_snoc]
          rw [List.getElem_append_left]
        by_cases hi2 : i < l0.length
        · rw [get i hi2, List.getElem_append_left (by omega)]
          exact IH i (by omega) (by omega)
        · have hieq : i = l0.length := by rw [valsF_len] at hi; simp at hi; omega
          subst hieq
          have e1 : (valsF state (l0 ++ [t]))[l0.length]'hi = val1 state t (valsF state l0) := by
            simp only [valsF_snoc]
            rw [List.getElem_append_right (by omega)]
            simp [hlen]
          have e2 : (ks0 ++ [kind1 vars t ks0])[l0.length]'hik = kind1 vars t ks0 := by
            rw [List.getElem_append_right (by omega)]
            simp [hk0]
          rw [e1, e2]
          clear e1 e2 get
          unfold kind1 at hne ⊢
          unfold val1
          by_cases c0 : t.op = 0
          · rw [if_pos c0] at hne ⊢
            rw [if_pos c0]
            split at hne
            · rename_i hc; rw [if_pos hc]; exact ⟨hc.1, hc.2.1, fun h => by omega⟩
            · exact absurd rfl hne
          · rw [if_neg c0] at hne ⊢
            rw [if_neg c0]
            by_cases c1 : t.op = 1
            · rw [if_pos c1] at hne ⊢
              rw [if_pos c1]
              split at hne
              · rename_i hc; rw [if_pos hc]
                obtain ⟨hh, e⟩ := ix_eq (l := state) hc.1 (by omega)
                rw [e]
                have := hs _ (List.getElem_mem hh)
                exact ⟨this.1, this.2, fun h => by omega⟩
              · exact absurd rfl hne
            · rw [if_neg c1] at hne ⊢
              rw [if_neg c1]
              split at hne
              · rename_i hc
                rw [if_pos hc]
                obtain ⟨q1, q2, q3, q4, q5, q6, q7, q8⟩ := hc
                obtain ⟨ha, ea⟩ := ix_eq (l := valsF state l0) (i := t.a) q4.1 (by omega)
                obtain ⟨hb, eb⟩ := ix_eq (l := valsF state l0) (i := t.b) q5.1 (by omega)
                obtain ⟨ha', ea'⟩ := ix_eq (l := ks0) (i := t.a) q4.1 q4.2
                obtain ⟨hb', eb'⟩ := ix_eq (l := ks0) (i := t.b) q5.1 q5.2
                have A := IH t.a.toNat ha ha'
                have B := IH t.b.toNat hb hb'
                rw [← ea, ← ea'] at A
                rw [← eb, ← eb'] at B
                rw [q6] at A
                rw [q7] at B
                generalize ix (valsF state l0) t.a = x at *
                generalize ix (valsF state l0) t.b = y at *
                unfold do1
                by_cases d2 : t.op = 2
                · rw [if_pos d2]; have := heldF_in (x + y); refine ⟨this.1, this.2, fun h => ?_⟩; rw [if_neg (by omega)] at h; omega
                · rw [if_neg d2]
                  by_cases d3 : t.op = 3
                  · rw [if_pos d3]; have := heldF_in (x - y); refine ⟨this.1, this.2, fun h => ?_⟩; rw [if_neg (by omega)] at h; omega
                  · rw [if_neg d3]
                    by_cases d4 : t.op = 4
                    · rw [if_pos d4]; have := heldF_in (x * y); refine ⟨this.1, this.2, fun h => ?_⟩; rw [if_neg (by omega)] at h; omega
                    · rw [if_neg d4]
                      by_cases d5 : t.op = 5
                      · rw [if_pos d5]; split <;> omega
                      · rw [if_neg d5]
                        by_cases d6 : t.op = 6
                        · rw [if_pos d6]; split <;> omega
                        · rw [if_neg d6]
                          have h7 : (7 : Int) ≤ t.op := by omega
                          unfold wantK at A B
                          rw [if_pos h7] at A B
                          have A2 := A.2.2 rfl
                          have B2 := B.2.2 rfl
                          by_cases d7 : t.op = 7
                          · rw [if_pos d7]; omega
                          · rw [if_neg d7]; split <;> omega
              · exact absurd rfl hne
def kindIs (vars kind : Int) (ts : List TermS) : Bool := match kindsF vars ts with
  | some ks => ks.getLastD 0 == kind
  | none => false
theorem kindsF_some {vars : Int} {ts : List TermS} {ks : List Int} (h : kindsF vars ts = some ks) : 0 ≤ vars ∧ vars ≤ 5 ∧ 1 ≤ ts.length ∧ ts.length ≤ 40 ∧ kindsGo vars ts [] = some ks ∧ ks.length = ts.length := by
  unfold kindsF at h
  split at h
  · rename_i hc
    exact ⟨hc.1, hc.2.1, hc.2.2.1, hc.2.2.2, h, by have := (kindsGo_len h).1; simpa using this⟩
  · cases h
theorem getLastD_eq {l : List Int} (h : 0 < l.length) : l.getLastD 0 = l[l.length - 1]'(by omega) := by
  cases l with
  | nil => simp at h
  | cons a t =>
    rw [List.getLastD_eq_getLast?, List.getLast?_eq_getElem?]
    simp
def VarOk (v : VarS) : Prop := (-9999 ≤ v.low ∧ v.low ≤ 9999) ∧ (v.low ≤ v.high ∧ v.high ≤ 9999) ∧ v.high - v.low < 20 ∧ (v.low ≤ v.first ∧ v.first ≤ v.high)
instance (v : VarS) : Decidable (VarOk v) := by unfold VarOk; infer_instance
def SetsOk (vars : Int) (r : RuleS) : Prop := ∀ i (h : i < r.sets.length), (0 ≤ r.sets[i] ∧ r.sets[i] < vars) ∧ (∀ h0 : 0 < i, r.sets[i - 1]'(by omega) < r.sets[i]) ∧ (∀ h2 : i < r.terms.length, kindIs vars 1 r.terms[i] = true)
def RuleOk (vars : Int) (r : RuleS) : Prop := kindIs vars 2 r.when_ = true ∧ r.sets.length = r.terms.length ∧ SetsOk vars r
def sizeF (vs : List VarS) : Int := vs.foldl (fun n v => n * (v.high - v.low + 1)) 1
structure SysOk (s : SysS) : Prop where
  v1 : 1 ≤ s.vars.length
  v5 : s.vars.length ≤ 5
  r8 : s.rules.length ≤ 8
  vars : ∀ v ∈ s.vars, VarOk v
  rules : ∀ r ∈ s.rules, RuleOk (s.vars.length : Int) r
  size : sizeF s.vars ≤ 400
theorem sizeF_snoc (vs : List VarS) (v : VarS) : sizeF (vs ++ [v]) = sizeF vs * (v.high - v.low + 1) := by simp [sizeF, List.foldl_append]
theorem sizeF_bd : ∀ (n : Nat) (vs : List VarS), vs.length = n → (∀ v ∈ vs, VarOk v) → 1 ≤ sizeF vs ∧ sizeF vs ≤ 20 ^ vs.length := by
  intro n
  induction n with
  | zero => intro vs h _; have : vs = [] := List.eq_nil_of_length_eq_zero h; subst this; simp [sizeF]
  | succ n ih =>
    intro vs h hv
    obtain ⟨l0, t, rfl⟩ : ∃ l0 t, vs = l0 ++ [t] := ⟨vs.dropLast, vs.getLast (by intro e; subst e; simp at h), (List.dropLast_concat_getLast _).symm⟩
    have h0 := ih l0 (by simp at h; exact h) (fun v hv' => hv v (List.mem_append_left _ hv'))
    have ht := hv t (List.mem_append_right _ (List.mem_singleton.2 rfl))
    unfold VarOk at ht
    rw [sizeF_snoc, List.length_append, List.length_singleton, Int.pow_succ]
    generalize sizeF l0 = x at *
    generalize (20 : Int) ^ l0.length = y at *
    refine ⟨?_, ?_⟩
    · have : 1 * 1 ≤ x * (t.high - t.low + 1) := Int.mul_le_mul h0.1 (by omega) (by omega) (by omega)
      omega
    · exact Int.mul_le_mul h0.2 (by omega) (by omega) (by omega)
theorem sizeF_take {vs : List VarS} {i : Nat} (h : i < vs.length) : sizeF (vs.take (i + 1)) = sizeF (vs.take i) * (vs[i].high - vs[i].low + 1) := by
  rw [List.take_succ_eq_append_getElem h, sizeF_snoc]
theorem sizeF_take_bd {vs : List VarS} (h5 : vs.length ≤ 5) {i : Nat} (h : ∀ j (hj : j < vs.length), j < i → VarOk vs[j]) : 1 ≤ sizeF (vs.take i) ∧ sizeF (vs.take i) ≤ 3200000 := by
  have h1 := sizeF_bd _ (vs.take i) rfl (fun v hv => by
    obtain ⟨j, hj, rfl⟩ := List.getElem_of_mem hv
    simp at hj
    rw [List.getElem_take]
    exact h j (by omega) (by omega))
  refine ⟨h1.1, Int.le_trans h1.2 ?_⟩
  have h2 : (vs.take i).length ≤ 5 := by simp; omega
  have : ∀ m : Nat, m ≤ 5 → (20 : Int) ^ m ≤ 3200000 := by
    intro m hm
    match m, hm with
    | 0, _ => decide
    | 1, _ => decide
    | 2, _ => decide
    | 3, _ => decide
    | 4, _ => decide
    | 5, _ => decide
  exact this _ h2
end Go.M2

namespace Go.M2
def firstF (s : SysS) : List Int := s.vars.map (·.first)
def StIn (vars : List VarS) (st : List Int) : Prop := st.length = vars.length ∧ ∀ i (h : i < vars.length) (h2 : i < st.length), vars[i].low ≤ st[i] ∧ st[i] ≤ vars[i].high
noncomputable def inB (vars : List VarS) (st : List Int) : Bool := @decide (StIn vars st) (Classical.propDecidable _)
theorem inB_iff (vars : List VarS) (st : List Int) : inB vars st = true ↔ StIn vars st := by unfold inB; exact @decide_eq_true_iff _ (Classical.propDecidable _)
theorem inB_false (vars : List VarS) (st : List Int) : inB vars st = false ↔ ¬ StIn vars st := by
  rw [← inB_iff]; cases inB vars st <;> simp
theorem StIn.ok {s : SysS} (hs : SysOk s) {st : List Int} (h : StIn s.vars st) : stOk st := by
  intro x hx
  obtain ⟨i, hi, rfl⟩ := List.getElem_of_mem hx
  have h1 := h.2 i (by rw [← h.1]; exact hi) hi
  have h2 := hs.vars _ (List.getElem_mem (by rw [← h.1]; exact hi : i < s.vars.length))
  unfold VarOk at h2
  omega
theorem first_in {s : SysS} (hs : SysOk s) : StIn s.vars (firstF s) := by
  refine ⟨by simp [firstF], fun i h h2 => ?_⟩
  have := hs.vars _ (List.getElem_mem h)
  unfold VarOk at this
  simp [firstF]
  omega
def setsF (st : List Int) (terms : List (List TermS)) (sets : List Int) : Nat → List Int
  | 0 => st
  | n + 1 => (setsF st terms sets n).set (sets.getD n 0).toNat (evalF (terms.getD n []) st)
theorem setsF_len (st : List Int) (terms : List (List TermS)) (sets : List Int) : ∀ n, (setsF st terms sets n).length = st.length
  | 0 => rfl
  | n + 1 => by simp [setsF, setsF_len st terms sets n]
noncomputable def useR (vars : List VarS) (r : RuleS) (st : List Int) : Option (List Int) :=
  if evalF r.when_ st = 0 then none else if inB vars (setsF st r.terms r.sets r.sets.length) then some (setsF st r.terms r.sets r.sets.length) else none
theorem useR_in {vars : List VarS} {r : RuleS} {st out : List Int} (h : useR vars r st = some out) : StIn vars out := by
  unfold useR at h
  split at h
  · cases h
  · split at h
    · rename_i h2; cases h; exact (inB_iff _ _).1 h2
    · cases h
end Go.M2
