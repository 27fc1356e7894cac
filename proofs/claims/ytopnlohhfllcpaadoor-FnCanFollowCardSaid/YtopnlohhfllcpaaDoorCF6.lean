/- Draws: systems. -/
import Derived.Test.YtopnlohhfllcpaaDoorCF5
import Derived.Test.YtopnlohhfllcpaaDoorRows
import Derived.WalkKit
import Derived.ProofKit
import Derived.LaidMore
import Derived.OpenShut
import Derived.Stop.Joined
import Derived.Lib.LaidTab
import Derived.Lib.ItoaNum
set_option linter.unusedVariables false
set_option linter.unusedSimpArgs false
set_option maxRecDepth 10000
set_option maxHeartbeats 4000000
namespace Go.M2
open Go.Proofs
variable {M : MH}
def VarC (v : VarS) : Prop := -100 ≤ v.low ∧ v.low ≤ 100 ∧ -100 ≤ v.high ∧ v.high ≤ 100
structure SyO (B M : MH) (xv xr : V) (vs : List VarS) (cells : List V) (fp : List (Nat × List V)) (rl : List RuleS) (f : List (Nat × List V)) : Prop where
  mem : Mem B M (fpG xv (catV encVar vs) ++ (fpG xr cells ++ (fp ++ f)))
  ov : OwS 3 xv (catV encVar vs)
  or : OwS 3 xr cells
  ru : RulesO cells fp rl
  vb : ∀ x ∈ vs, VarC x
  v4 : vs.length ≤ 4
  r8 : rl.length ≤ 8
  rb : ∀ r ∈ rl, RuleB r
theorem Mem.rs {M0 M : MH} {rb : Nat} {w : V} {p : Int} {f : List (Nat × List V)} (h : Mem (M0.set rb (rdC w p)) M f) : RS M0 rb w M p := ⟨h.sub _ _ set_same, h.sub⟩
theorem OwS.lenV {v : V} {vs : List VarS} (h : OwS 3 v (catV encVar vs)) : lenF (er v) = .some (.int .i64 (vs.length : Int)) := by
  have := catV_len (sz := 3) (enc := encVar) (fun _ => rfl) vs
  rcases h with ⟨h0, k, rfl⟩ | ⟨b, n, ex, rfl, h2⟩
  · rw [h0] at this
    have h9 : vs.length = 0 := by rw [List.length_nil] at this; omega
    rw [h9]; rfl
  · rw [show vs.length = n by omega]; rfl
end Go.M2

namespace Go.M2
open Go.Proofs
variable {M : MH}
def RuleN (N : Nat) (r : RuleS) : Prop := r.when_.length ≤ 81 ∧ r.sets.length ≤ N ∧ r.terms.length ≤ N ∧ ∀ ts ∈ r.terms, ts.length ≤ 81
theorem RuleN.mono {N N' : Nat} {r : RuleS} (h : RuleN N r) (hn : N ≤ N') : RuleN N' r := ⟨h.1, Nat.le_trans h.2.1 hn, Nat.le_trans h.2.2.1 hn, h.2.2.2⟩
structure Sy5 (N : Nat) (B M : MH) (b4 b5 : Nat) (xv xr : V) (vs : List VarS) (cells : List V) (fp : List (Nat × List V)) (rl : List RuleS) : Prop where
  mem : Mem B M ((b4, [nil1, nil1]) :: (b5, [xv, xr]) :: (fpG xv (catV encVar vs) ++ (fpG xr cells ++ fp)))
  ov : OwS 3 xv (catV encVar vs)
  or : OwS 3 xr cells
  ru : RulesO cells fp rl
  vb : ∀ x ∈ vs, VarB x
  v4 : vs.length ≤ 4
  r8 : rl.length ≤ 8
  rb : ∀ r ∈ rl, RuleN N r
structure SyN (B M : MH) (xv xr : V) (vs : List VarS) (cells : List V) (fp : List (Nat × List V)) (rl : List RuleS) : Prop where
  mem : Mem B M (fpG xv (catV encVar vs) ++ (fpG xr cells ++ fp))
  ov : OwS 3 xv (catV encVar vs)
  or : OwS 3 xr cells
  ru : RulesO cells fp rl
  vb : ∀ x ∈ vs, VarB x
  v4 : vs.length ≤ 4
  r8 : rl.length ≤ 8
  rb : ∀ r ∈ rl, RuleN 7 r
section
variable {N : Nat} {B M M' : MH} {b4 b5 rb : Nat} {xv xr w : V} {vs : List VarS} {cells : List V} {fp : List (Nat × List V)} {rl : List RuleS} {q : Int} {X : List V}
theorem Sy5.rd' (h : Sy5 N (B.set rb X) M b4 b5 xv xr vs cells fp rl) (e : M' = M.set rb (rdC w q)) : Sy5 N (B.set rb (rdC w q)) M' b4 b5 xv xr vs cells fp rl := ⟨h.mem.rd' e, h.ov, h.or, h.ru, h.vb, h.v4, h.r8, h.rb⟩
theorem Sy5.rs (h : Sy5 N (B.set rb (rdC w q)) M b4 b5 xv xr vs cells fp rl) : RS B rb w M q := h.mem.rs
theorem Sy5.vars (h : Sy5 N B M b4 b5 xv xr vs cells fp rl) (hl : 1 ≤ vs.length) : ∃ v0 tl bv n ex, vs = v0 :: tl ∧ xv = .sc (.sl (some (bv, 0)) n n ex 3) ∧ 1 ≤ n ∧ M bv = .some (.sc (.int .i64 v0.low) :: .sc (.int .i64 v0.high) :: .sc (.int .i64 v0.first) :: catV encVar tl) ∧
    ∀ v1 : VarS, VarB v1 → Sy5 N B (M.set bv (.sc (.int .i64 v1.low) :: .sc (.int .i64 v1.high) :: .sc (.int .i64 v1.first) :: catV encVar tl)) b4 b5 xv xr (v1 :: tl) cells fp rl := by
  obtain ⟨v0, tl, rfl⟩ : ∃ v0 tl, vs = v0 :: tl := by
    cases vs with
    | nil => simp at hl
    | cons a b => exact ⟨a, b, rfl⟩
  obtain ⟨mem, ov, or, ru, vb, v4, r8, rb⟩ := h
  rcases ov with ⟨h0, _⟩ | ⟨bv, n, ex, rfl, h2⟩
  · simp [catV, encVar] at h0
  · have hcl := catV_len (sz := 3) (enc := encVar) (fun _ => rfl) (v0 :: tl)
    have hn : n = tl.length + 1 := by rw [h2] at hcl; simp at hcl; omega
    have m1 : Mem B M ((bv, catV encVar (v0 :: tl)) :: ((b4, [nil1, nil1]) :: (b5, [.sc (.sl (some (bv, 0)) n n ex 3), xr]) :: (fpG xr cells ++ fp))) := by
      refine mem.perm ?_
      rw [fpG_one (s := .sc (.sl (some (bv, 0)) n n ex 3)) rfl]
      exact (List.Perm.cons _ (List.Perm.swap ..)).trans (List.Perm.swap ..)
    refine ⟨v0, tl, bv, n, ex, rfl, rfl, by omega, m1.hd, fun v1 hv1 => ⟨?_, .inr ⟨bv, n, ex, rfl, ?_⟩, or, ru, fun x hx => ?_, by simpa using v4, r8, rb⟩⟩
    · have m2 := m1.upd (l' := catV encVar (v1 :: tl))
      refine m2.perm ?_
      rw [fpG_one (s := .sc (.sl (some (bv, 0)) n n ex 3)) rfl]
      exact ((List.Perm.cons _ (List.Perm.swap ..)).trans (List.Perm.swap ..)).symm
    · rw [catV_len (sz := 3) (enc := encVar) (fun _ => rfl) (v1 :: tl)]; simp; omega
    · rcases List.mem_cons.1 hx with rfl | hx
      · exact hv1
      · exact vb x (List.mem_cons_of_mem _ hx)
theorem Sy5.none (h : Sy5 N B M b4 b5 xv xr vs cells fp rl) : Sy5 N B (M.set b5 [nil1, xr]) b4 b5 nil1 xr [] cells fp rl := by
  have m1 := (h.mem.perm (List.Perm.swap ..)).upd (l' := [nil1, xr])
  refine ⟨?_, .inl ⟨rfl, 0, rfl⟩, h.or, h.ru, fun x hx => (by cases hx), by simp, h.r8, h.rb⟩
  have m2 := m1.perm (List.Perm.swap ..)
  have m3 : Mem B (M.set b5 [nil1, xr]) (fpG xv (catV encVar vs) ++ ((b4, [nil1, nil1]) :: (b5, [nil1, xr]) :: (fpG xr cells ++ fp))) := by
    refine m2.perm ?_
    exact (List.Perm.cons _ List.perm_middle.symm).trans List.perm_middle.symm
  simpa [fpG, blkV, nil1] using m3.right
structure Rl0 (N : Nat) (B M : MH) (b4 b5 : Nat) (xv : V) (vs : List VarS) (br n : Nat) (ex : Bool) (a a' b c : V) (cs : List V) (ints : List Int) (rows : List V) (ga fq : List (Nat × List V)) (ws : List TermS) (terms : List (List TermS)) (rt : List RuleS) : Prop where
  n1 : 1 ≤ n
  hn : (a :: b :: c :: cs).length = n * 3
  mem : Mem B M ((br, a :: b :: c :: cs) :: (b4, [nil1, nil1]) :: (b5, [xv, .sc (.sl (some (br, 0)) n n ex 3)]) :: (fpG xv (catV encVar vs) ++ (ga ++ (fpG b (ints.map vi) ++ (fpG c rows ++ fq)))))
  oa : One a
  ta : Tr [a] [a'] ga
  la : LT a' ws
  ob : OwS 1 b (ints.map vi)
  oc : OwS 1 c rows
  cc : Cs (fun ts u => LT u ts) rows terms
  ru : RulesO cs fq rt
  ov : OwS 3 xv (catV encVar vs)
  vb : ∀ x ∈ vs, VarB x
  v4 : vs.length ≤ 4
  r8 : rt.length + 1 ≤ 8
  rb0 : RuleN N ⟨ws, ints, terms⟩
  rb : ∀ r ∈ rt, RuleN N r
theorem Sy5.rules (h : Sy5 N B M b4 b5 xv xr vs cells fp rl) (hl : 0 < rl.length) : ∃ br n ex a a' b c cs ints rows ga fq ws terms rt, xr = .sc (.sl (some (br, 0)) n n ex 3) ∧ Rl0 N B M b4 b5 xv vs br n ex a a' b c cs ints rows ga fq ws terms rt := by
  obtain ⟨mem, ov, or, ru, vb, v4, r8, rb⟩ := h
  cases ru with
  | nil => simp at hl
  | @cons a a' b c ints rows cs ga fq ws terms rt h1 h0 h2 h3 h4 h5 h6 =>
    rcases or with ⟨hz, _⟩ | ⟨br, n, ex, rfl, hn⟩
    · simp at hz
    · refine ⟨br, n, ex, a, a', b, c, cs, ints, rows, ga, fq, ws, terms, rt, rfl, by simp at hn; omega, hn, ?_, h1, h0, h2, h3, h4, h5, h6, ov, vb, v4, by simpa using r8, rb _ (List.mem_cons_self ..), fun r hr => rb r (List.mem_cons_of_mem _ hr)⟩
      refine mem.perm ?_
      rw [fpG_one (s := .sc (.sl (some (br, 0)) n n ex 3)) rfl]
      exact (List.Perm.cons _ (List.Perm.cons _ List.perm_middle)).trans (List.perm_middle (l₁ := [_, _]))
variable {br n : Nat} {ex : Bool} {a a' b c : V} {cs : List V} {ints : List Int} {rows : List V} {ga fq : List (Nat × List V)} {ws : List TermS} {terms : List (List TermS)} {rt : List RuleS}
theorem Rl0.back (h : Rl0 N B M b4 b5 xv vs br n ex a a' b c cs ints rows ga fq ws terms rt) : Sy5 N B M b4 b5 xv (.sc (.sl (some (br, 0)) n n ex 3)) vs (a :: b :: c :: cs) (ga ++ (fpG b (ints.map vi) ++ (fpG c rows ++ fq))) (⟨ws, ints, terms⟩ :: rt) := by
  refine ⟨?_, h.ov, .inr ⟨br, n, ex, rfl, h.hn⟩, .cons h.oa h.ta h.la h.ob h.oc h.cc h.ru, h.vb, h.v4, by simpa using h.r8, fun r hr => ?_⟩
  · refine h.mem.perm ?_
    rw [fpG_one (s := .sc (.sl (some (br, 0)) n n ex 3)) rfl]
    exact ((List.Perm.cons _ (List.Perm.cons _ List.perm_middle)).trans (List.perm_middle (l₁ := [_, _]))).symm
  · rcases List.mem_cons.1 hr with rfl | hr
    · exact h.rb0
    · exact h.rb r hr
theorem Rl0.rd' {q : Int} {X : List V} (h : Rl0 N (B.set rb X) M b4 b5 xv vs br n ex a a' b c cs ints rows ga fq ws terms rt) (e : M' = M.set rb (rdC w q)) : Rl0 N (B.set rb (rdC w q)) M' b4 b5 xv vs br n ex a a' b c cs ints rows ga fq ws terms rt :=
  ⟨h.n1, h.hn, h.mem.rd' e, h.oa, h.ta, h.la, h.ob, h.oc, h.cc, h.ru, h.ov, h.vb, h.v4, h.r8, h.rb0, h.rb⟩
theorem Sy5.mono {N' : Nat} (h : Sy5 N B M b4 b5 xv xr vs cells fp rl) (hn : N ≤ N') : Sy5 N' B M b4 b5 xv xr vs cells fp rl := ⟨h.mem, h.ov, h.or, h.ru, h.vb, h.v4, h.r8, fun r hr => (h.rb r hr).mono hn⟩
variable {K : V → MH → Prop}
end
end Go.M2

namespace Go.M2
open Go.Proofs
variable {M : MH}
structure SysDr (s : SysS) : Prop where
  v4 : s.vars.length ≤ 4
  vb : ∀ x ∈ s.vars, VarB x
  r8 : s.rules.length ≤ 8
  rb : ∀ r ∈ s.rules, RuleN 7 r
theorem SysDr.sz {s : SysS} (h : SysDr s) : SysSz s := ⟨by have := h.v4; omega, by have := h.r8; omega, fun r hr => by have := (h.rb r hr).2.1; omega⟩
def NN (v : V) (xs : List Int) : Prop := 0 < xs.length → isNilF .sl (er v) = .some false
theorem Fr.nn {v : V} {xs : List Int} (h : Fr 1 v (xs.map vi)) : NN v xs := fun hl => h.some (by simpa using hl)
end Go.M2

namespace Go.M2
open Go.Proofs
variable {M : MH}
def CapOk : V → Prop
  | .fs _ n c _ _ _ => n ≤ c
  | _ => True
theorem lu_take {v : V} {xs : List Int} (h : LU v xs) (hc : CapOk v) (hl : 2000 < xs.length) : ∃ u, slcV 1 none (some (.int .i64 2000)) none v = .some u ∧ LU u (xs.take 2000) := by
  rcases h with ⟨rfl, k, rfl⟩ | ⟨A, c, ex, k, cs, rfl, h1, h2⟩
  · simp at hl
  · have hc : xs.length ≤ c := hc
    have e1 : (2000 : Int) ≤ (c : Int) := by omega
    have e2 : ¬ c = 0 := by omega
    have e3 : ¬ ((c = 0 ∧ ((none : Option AV).isNone = true ∧ ex = false)) ∨ (k ≠ 1 ∧ 0 ≠ 0)) := by omega
    refine ⟨.fs (some (A.b, A.o + 0 * 1)) (2000 - 0) (c - 0) (ex || false) k ((cs.drop (0 * 1)).take ((2000 - 0) * 1)), ?_, ?_⟩
    · simp only [slcV, slcF, bnds, natIn, Option.isSome_none, Bool.false_eq_true, if_false, e1, and_true, if_true]
      rw [if_pos (by omega)]
      simp only [Int.reduceToNat]
      rw [if_neg e3, if_neg e2]
      simp only
      rw [if_pos (by omega)]
    · refine .inr ⟨_, _, _, _, _, by rw [List.length_take]; congr 1; omega, by simp; omega, fun i hi => ?_⟩
      have hi2 : i < 2000 := by simp at hi; omega
      have hi3 : i < xs.length := by omega
      have h3 := h2 i hi3
      rw [List.getElem_take]
      have e4 : at1 (.fs (some (A.b, A.o + 0 * 1)) (2000 - 0) (c - 0) (ex || false) k ((cs.drop (0 * 1)).take ((2000 - 0) * 1))) i = at1 (.fs A xs.length c ex k cs) i := by
        simp [at1, List.getElem?_take, hi2]
      rw [e4]; exact h3
theorem t_l40Open {v : V} {xs : List Int} (hv : XU v xs) (hc : CapOk v) (hl : xs.length ≤ 1048576) :
    VCall Tryd.prog n_spec_l40Open [v] M (fun r M' => ∃ rb w code, r = .sc (.ptr (some (rb, 0))) ∧ M rb = none ∧ M' = M.set rb (rdC w 0) ∧ Rdr w code) := by
  refine VCall.plain fun R hR => v_spec_l40Open rfl ?_
  have hlen := hv.len fun _ _ h => h.len
  refine sS1 @hlen ?_
  refine cond_dec (fun h => ?_) (fun h => ?_)
  · obtain ⟨u, h1, h2⟩ := lu_take (hv.get (by omega)) hc (by omega)
    have hu := h2.one.2
    refine sS2 @h1 @hu ?_
    intro b hb
    exact hR _ _ ⟨b, u, _, rfl, hb, rfl, .inl h2, by simp; omega⟩
  · have hone : cellsV v = .some [v] := by
      rcases hv with hv | ⟨rfl, _⟩
      · exact hv.one.2
      · rfl
    refine sS1 @hone ?_
    intro b hb
    exact hR _ _ ⟨b, v, _, rfl, hb, rfl, hv, by omega⟩
end Go.M2

namespace Go.M2
open Go.Proofs
variable {M : MH}
structure Tw (B M : MH) (v9 : V) (l9 : List V) (v7 : V) (l7 : List V) : Prop where
  g9 : Gr 1 B M v9 l9
  g7 : Gr 1 B M v7 l7
  sep : ∀ b, blkV v9 = .some b → blkV v7 ≠ some b
theorem Tw.rd {B M : MH} {rb : Nat} {X Y l9 l7 : List V} {v9 v7 : V} (h : Tw (B.set rb X) M v9 l9 v7 l7) : Tw (B.set rb Y) (M.set rb Y) v9 l9 v7 l7 := ⟨h.g9.rd, h.g7.rd, h.sep⟩
theorem Tw.start {B M : MH} {b : Nat} {v7 : V} {l7 : List V} (h : Gr 1 B M v7 l7) (hb : M b = none) : Tw B (M.set b []) (.sc (.sl (some (b, 0)) 0 0 true 1)) [] v7 l7 :=
  ⟨Gr.new' h.sub hb rfl, h.more ((Sub.refl M).set' hb), h.ne (Gr.new' (l := []) (n := 0) (ex := true) (Sub.refl M) hb rfl)⟩
theorem Gr.keepO {B M M' : MH} {s s' v : V} {l : List V} (h : Gr 1 B M v l) (hs : Sub B M') (ho : Oth M M' s s') (hne : ∀ b, blkV s = .some b → blkV v ≠ some b) : Gr 1 B M' v l ∧ ∀ b, blkV s' = .some b → blkV v ≠ some b := by
  have hn : ∀ b, blkV v = .some b → blkV s ≠ some b := fun b h1 h2 => hne b h2 h1
  refine ⟨h.keepB hs fun b l hb hl => (ho b l hl (hn b hb)).1, fun b h1 h2 => ?_⟩
  rcases h.own with ⟨_, k, rfl⟩ | ⟨b', n, ex, rfl, h3, _⟩
  · simp [blkV] at h2
  · have e : b' = b := by simpa [blkV] using h2
    subst e
    exact (ho b' _ h3 (hn b' h2)).2 h1
theorem Tw.push {B M : MH} {v9 v7 : V} {l7 : List V} {xs : List Int} {n : Int} {K : V → MH → Prop} {by_ bt c k : Nat} {ex : Bool} (h : Tw B M v9 (xs.map vi) v7 l7) (hbt : M bt = none) (hb : xs.length + 1 ≤ 68719476736) (hby : by_ ≤ 16)
    (hk : ∀ s' M', Tw B M' s' ((xs ++ [n]).map vi) v7 l7 → K s' M') : appV 1 by_ v9 (.sc (.sl (some (bt, 0)) 1 c ex k)) (M.set bt [.sc (.int .i64 n)]) K := by
  refine app_int h.g9 hbt hb hby fun s' M' hg ho => hk s' M' ?_
  have := h.g7.keepO hg.sub ho h.sep
  exact ⟨hg, this.1, this.2⟩
theorem t_l20Word {rb : Nat} {w : V} {code : List Int} {p facts many : Int} (hr : Rdr w code) (hm : M rb = .some (rdC w p)) (h0 : 0 ≤ p) (h1 : p ≤ 900000) (hf0 : 0 ≤ facts) (hf : facts ≤ 4) (hn0 : 0 ≤ many) (hn : many ≤ 400) :
    VCall Tryd.prog n_spec_l20Word [.sc (.ptr (some (rb, 0))), .sc (.int .i64 facts), .sc (.int .i64 many)] M (fun r M' => ∃ (p' : Int) (us : List V) (ls : List (List Int)), p ≤ p' ∧ p' ≤ p + 1600 ∧ Gr 1 (M.set rb (rdC w p')) M' r us ∧ Cs (fun ys u => LI u ys) us ls ∧ (ls.length : Int) = many ∧ ∀ r ∈ ls, (r.length : Int) = facts) := by
  refine VCall.plain fun R hR => v_spec_l20Word rfl ?_
  have rs0 := RS.start hm
  refine sS0 ?_
  intro b7 hb7
  refine loop_k (fun e M' => ∃ (i : Nat) (p' : Int) (us : List V) (ls : List (List Int)), (i : Int) ≤ many ∧ p ≤ p' ∧ p' ≤ p + 4 * i ∧ e 0 = .sc (.ptr (some (rb, 0))) ∧ e 1 = .sc (.int .i64 facts) ∧ e 2 = .sc (.int .i64 many) ∧ e 8 = .sc (.int .i64 i) ∧ Gr 1 (M.set rb (rdC w p')) M' (e 7) us ∧ Cs (fun ys u => LI u ys) us ls ∧ ls.length = i ∧ ∀ r ∈ ls, (r.length : Int) = facts) (fun e _ => ctrV many.toNat (e 8)) ?_ ?_
  · exact ⟨0, p, [], [], by omega, by omega, by omega, sT0, sT0, sT0, by refine sS0 ?_; rfl, by refine sS0 ?_; exact Gr.new' rs0.sub hb7 rfl, .nil, rfl, fun r hr => (by cases hr)⟩
  · rintro e M1 ⟨i, p', us, ls, hi, q1, q2, e0, e1, e2, e8, hg, hcs, hll, hlr⟩ K hK
    have hul : us.length = i := by have := hcs.1; omega
    refine sS4 @e0 @e1 @e2 @e8 ?_
    refine cond_dec (fun h => ?_) (fun h => ?_)
    · refine sS4 @e0 @e1 @e2 @e8 ?_
      intro b9 hb9
      refine loop_k (fun e2 M' => ∃ (k : Nat) (p2 : Int) (xs : List Int), (k : Int) ≤ facts ∧ p' ≤ p2 ∧ p2 ≤ p' + k ∧ e2 0 = .sc (.ptr (some (rb, 0))) ∧ e2 1 = .sc (.int .i64 facts) ∧ e2 2 = .sc (.int .i64 many) ∧ e2 7 = e 7 ∧ e2 8 = .sc (.int .i64 i) ∧ e2 10 = .sc (.int .i64 k) ∧ Tw (M.set rb (rdC w p2)) M' (e2 9) (xs.map vi) (e 7) us ∧ xs.length = k) (fun e2 _ => ctrV facts.toNat (e2 10)) ?_ ?_
      · exact ⟨0, p', [], by omega, by omega, by omega, sT0, sT0, sT0, sT0, sT0, by refine sS0 ?_; rfl, by refine sS0 ?_; exact Tw.start hg hb9, rfl⟩
      · rintro e2 M2 ⟨k, p2, xs, hk, r1, r2, f0, f1, f2, f7, f8, f10, htw, hxl⟩ K2 hK2
        refine sS6 @f0 @f1 @f2 @f7 @f8 @f10 ?_
        refine cond_dec (fun h2 => ?_) (fun h2 => ?_)
        · refine sS6 @f0 @f1 @f2 @f7 @f8 @f10 ?_
          refine (t_pick hr (htw.g7.sub _ _ set_same) (by omega) (by omega)).mono ?_
          rintro _ _ ⟨rfl, x, rfl, -⟩
          have htw2 := htw.rd (Y := rdC w (p2 + 1))
          refine sS0 ?_
          intro bt hbt
          refine htw2.push hbt (by omega) (by omega) ?_
          intro s' M' htw3
          refine sS1 @f10 ?_
          refine hK2 _ _ ⟨k + 1, p2 + 1, xs ++ [x], by omega, by omega, by omega, sT0, sT0, sT0, sT1 @f7, sT0, by refine sS0 ?_; rfl, by refine sS0 ?_; exact htw3, by simp [hxl]⟩ (by refine sS2 @ctrV_int @f10 ?_; omega)
        · obtain rfl : (k : Int) = facts := by omega
          have ho := htw.g9.one
          refine sS7 @f0 @f1 @f2 @f7 @f8 ho.1 ho.2 ?_
          intro bt hbt
          refine gr_appF htw.g7 htw.g9 htw.sep hbt (by simp [mostCells]; omega) (by simp [mostCells]; omega) ?_
          intro s' M' u hg' hfr _
          refine sS0 ?_
          refine hK _ _ ⟨i + 1, p2, us ++ [u], ls ++ [xs], by omega, by omega, by omega, sT0, sT0, sT0, by refine sS0 ?_; rfl, by refine sS0 ?_; exact hg', hcs.snoc hfr.li, by simp [hll], fun r hr => ?_⟩ (by refine sS2 @ctrV_int @e8 ?_; omega)
          rcases List.mem_append.1 hr with h3 | h3
          · exact hlr r h3
          · rw [List.mem_singleton] at h3; subst h3; omega
    · refine sS0 ?_
      exact hR _ _ ⟨p', us, ls, q1, by omega, hg, hcs, by omega, hlr⟩
theorem Fo.rd {B M : MH} {rb b6 : Nat} {X Y : List V} {vL vN : V} {us ws : List V} {f : Int} (h : Fo (B.set rb X) M b6 vL us vN ws f) : Fo (B.set rb Y) (M.set rb Y) b6 vL us vN ws f := by
  have hne : b6 ≠ rb := fun e => by have := h.fr; rw [e, set_same] at this; cases this
  have hf := h.fr
  rw [set_ne hne] at hf
  exact ⟨by rw [set_ne hne]; exact h.bx, by rw [set_ne hne]; exact hf, h.gl.rd, h.gn.rd, h.nl, h.nn, h.ne⟩
structure DrG (B M : MH) (vL vN : V) (us ws : List V) (g : GrS) : Prop where
  gl : Gr 1 B M vL us
  gn : Gr 1 B M vN ws
  ne : ∀ b, blkV vL = .some b → blkV vN ≠ some b
  cl : Cs (fun ys u => LI u ys) us g.letters
  cn : Cs (fun ys u => LI u ys) ws g.next
  le : g.letters.length = g.next.length
structure GrD (g : GrS) (n : Nat) : Prop where
  l1 : g.letters.length ≤ n
  l2 : ∀ r ∈ g.letters, r.length ≤ 4
  n1 : g.next.length ≤ n
  n0 : 1 ≤ g.next.length
  n2 : ∀ r ∈ g.next, r.length ≤ 400
theorem GrD.sz {g : GrS} {n : Nat} (h : GrD g n) (hn : n ≤ 400) : GrSz g := ⟨by have := h.l1; omega, fun r hr => by have := h.l2 r hr; omega, by have := h.n1; omega, fun r hr => by have := h.n2 r hr; omega⟩
theorem t_l25Draw {rb : Nat} {w : V} {code : List Int} {p facts most : Int} (hr : Rdr w code) (hm : M rb = .some (rdC w p)) (h0 : 0 ≤ p) (h1 : p ≤ 800000) (hf0 : 0 ≤ facts) (hf : facts ≤ 4) (hn0 : 1 ≤ most) (hn : most ≤ 400) :
    VCall Tryd.prog n_spec_l25Draw [.sc (.ptr (some (rb, 0))), .sc (.int .i64 facts), .sc (.int .i64 most)] M (fun r M' => ∃ (p' : Int) (vL vN : V) (us ws : List V) (g : GrS), r = .agg [vL, .sc (.int .i64 g.first), vN] ∧ p ≤ p' ∧ p' ≤ p + 3000 ∧ DrG (M.set rb (rdC w p')) M' vL vN us ws g ∧ GrD g most.toNat) := by
  refine VCall.plain fun R hR => v_spec_l25Draw rfl ?_
  refine sS0 ?_
  intro b6 hb6
  have n6 : b6 ≠ rb := fun e => by subst e; rw [hb6] at hm; cases hm
  have hm6 : (M.set b6 [V.sc (AV.sl none 0 0 true 0), V.sc (AV.int IntKind.i64 0), V.sc (AV.sl none 0 0 true 0)]) rb = .some (rdC w p) := by rw [set_ne (Ne.symm n6)]; exact hm
  have s6 : Sub M (M.set b6 [V.sc (AV.sl none 0 0 true 0), V.sc (AV.int IntKind.i64 0), V.sc (AV.sl none 0 0 true 0)]) := (Sub.refl _).set' hb6
  have a6 : (M.set b6 [V.sc (AV.sl none 0 0 true 0), V.sc (AV.int IntKind.i64 0), V.sc (AV.sl none 0 0 true 0)]) b6 = .some [V.sc (AV.sl none 0 0 true 0), V.sc (AV.int IntKind.i64 0), V.sc (AV.sl none 0 0 true 0)] := set_same
  generalize M.set b6 [V.sc (AV.sl none 0 0 true 0), V.sc (AV.int IntKind.i64 0), V.sc (AV.sl none 0 0 true 0)] = M6 at *
  refine (t_pick hr hm6 (by omega) (by omega)).mono ?_
  rintro _ _ ⟨rfl, k, rfl, k0, k1, -⟩
  have hk := k1 hn0
  refine sS0 ?_
  have rs1 : RS M6 rb w (M6.set rb (rdC w (p + 1))) (p + 1) := (RS.start hm6).set _
  refine (t_pick hr rs1.at_ (by omega) (by omega)).mono ?_
  rintro _ _ ⟨rfl, fs, rfl, -⟩
  have rs2 := rs1.set (p + 1 + 1)
  refine sS0 ?_
  obtain ⟨n, hn1⟩ : ∃ n : Nat, (n : Int) = 1 + k := ⟨(1 + k).toNat, by omega⟩
  have hn2 : 1 ≤ n := by omega
  have hn3 : (n : Int) ≤ most := by omega
  rw [← hn1]
  rw [set_set] at rs2
  generalize hM2 : M6.set rb (rdC w (p + 1 + 1)) = M2 at *
  refine (t_l20Word hr rs2.at_ (by omega) (by omega) hf0 hf (by omega) (by omega)).mono ?_
  rintro vL M3 ⟨p3, us, ls, q1, q2, hgL, hcL, hlL, hlf⟩
  have l1 := hgL.one.1
  have l2 := hgL.one.2
  refine sS2 @l1 @l2 ?_
  intro b8 hb8
  have hsub6 : Sub (M6.set rb (rdC w p3)) M3 := by
    have := hgL.sub
    rw [← hM2, set_set] at this; exact this
  rw [← hM2, set_set] at hgL
  have hfo0 : Fo (M6.set rb (rdC w p3)) (M3.set b8 [vL, V.sc (AV.int IntKind.i64 fs), V.sc (AV.sl none 0 0 true 0)]) b8 vL us (.sc (.sl none 0 0 true 0)) [] fs := by
    refine ⟨set_same, hgL.sub.none hb8, hgL.more ((Sub.refl _).set' hb8), .nil (hgL.sub.trans ((Sub.refl _).set' hb8)), fun e => ?_, by simp [blkV], fun b _ hb => by simp [blkV] at hb⟩
    rcases hgL.own with ⟨_, j, rfl⟩ | ⟨b', m, ex, rfl, h2, h3⟩
    · simp [blkV] at e
    · simp [blkV] at e; subst e; rw [hb8] at h2; cases h2
  generalize M3.set b8 [vL, V.sc (AV.int IntKind.i64 fs), V.sc (AV.sl none 0 0 true 0)] = M4 at *
  refine loop_k (fun e M' => ∃ (i : Nat) (p' : Int) (vN : V) (ws : List V) (rows : List (List Int)), i ≤ n ∧ p ≤ p' ∧ p' ≤ p3 + 3 * i ∧ e 0 = .sc (.ptr (some (rb, 0))) ∧ e 6 = .sc (.ptr (some (b6, 0))) ∧ e 7 = .sc (.int .i64 n) ∧ e 8 = .sc (.ptr (some (b8, 0))) ∧ e 9 = .sc (.int .i64 i) ∧ Fo (M6.set rb (rdC w p')) M' b8 vL us vN ws fs ∧ Cs (fun ys u => LI u ys) ws rows ∧ rows.length = i ∧ ∀ r ∈ rows, r.length ≤ 400) (fun e _ => ctrV n (e 9)) ?_ ?_
  · exact ⟨0, p3, _, [], [], by omega, by omega, by omega, sT0, sT0, sT0, sT0, by refine sS0 ?_; rfl, hfo0, .nil, rfl, fun r hr => (by cases hr)⟩
  · rintro e M5 ⟨i, p', vN, ws, rows, hi, r1, r2, e0, e6, e7, e8, e9, hfo, hcN, hlN, hrN⟩ K hK
    have hwl : ws.length = i := by have := hcN.1; omega
    refine sS5 @e0 @e6 @e7 @e8 @e9 ?_
    refine cond_dec (fun hc => ?_) (fun hc => ?_)
    · have hi' : i < n := by omega
      refine sS5 @e0 @e6 @e7 @e8 @e9 ?_
      refine mks3 (by omega) (by simp [mostCells]; omega) (by simp [mostCells]; omega) ?_
      intro bm hbm
      simp (maxSteps := 2000000) (disch := first | omega | assumption | exact idP rfl | exact idP (bL rfl)) only [go_sem, reduceIte, Nat.reduceEqDiff, wpV_kd, wpV_tH, zeros_vb, mkL_none]
      have hrb5 : M5 rb = .some (rdC w p') := hfo.gl.sub _ _ set_same
      have nm : bm ≠ rb := fun e => by subst e; rw [hrb5] at hbm; cases hbm
      have hrbm : (M5.set bm ((mkL n fun _ => false).map vb)) rb = .some (rdC w p') := by rw [set_ne (Ne.symm nm)]; exact hrb5
      refine (t_pick hr hrbm (by omega) (by omega)).mono ?_
      rintro _ _ ⟨rfl, kk0, rfl, kk1, kk2, -⟩
      have kk3 := kk2 (by omega)
      rw [set_comm nm]
      refine sS0 ?_
      refine loop_k (fun e2 M' => ∃ (kk : Nat) (p2 : Int) (q : Nat → Bool), kk ≤ 2 ∧ p' ≤ p2 ∧ p2 + kk ≤ p' + 3 ∧ e2 0 = .sc (.ptr (some (rb, 0))) ∧ e2 6 = .sc (.ptr (some (b6, 0))) ∧ e2 7 = .sc (.int .i64 n) ∧ e2 8 = .sc (.ptr (some (b8, 0))) ∧ e2 9 = .sc (.int .i64 i) ∧ e2 10 = .sc (.sl (some (bm, 0)) n n true 1) ∧ e2 11 = .sc (.int .i64 kk) ∧ M' = (M5.set rb (rdC w p2)).set bm ((mkL n q).map vb)) (fun e2 _ => match e2 11 with | .sc (.int _ i) => i.toNat | _ => 0) ?_ ?_
      · refine ⟨(1 + kk0).toNat, p' + 1, fun _ => false, by omega, by omega, by omega, sT0, sT0, sT0, sT0, sT0, sT0, by refine sS0 ?_; congr 2; omega, rfl⟩
      · rintro e2 _ ⟨kk, p2, q, w1, w2, w3, f0, f6, f7, f8, f9, f10, f11, rfl⟩ K2 hK2
        refine sS7 @f0 @f6 @f7 @f8 @f9 @f10 @f11 ?_
        refine cond_dec (fun hd => ?_) (fun hd => ?_)
        · have hrb2 : ((M5.set rb (rdC w p2)).set bm ((mkL n q).map vb)) rb = .some (rdC w p2) := by rw [set_ne (Ne.symm nm), set_same]
          refine sS7 @f0 @f6 @f7 @f8 @f9 @f10 @f11 ?_
          refine (t_pick hr hrb2 (by omega) (by omega)).mono ?_
          rintro _ _ ⟨rfl, x, rfl, x1, x2, -⟩
          have x3 := x2 (by omega)
          rw [set_comm nm, set_set]
          have pa : iaddrV 1 (.sc (.sl (some (bm, 0)) n n true 1)) (.int .i64 x) = _ := sl_iaddr x1 x3
          have hso : x.toNat < ((mkL n q).map vb).length := by rw [mkL_lenv]; omega
          refine sS9 @f0 @f6 @f7 @f8 @f9 @f10 @f11 @pa @hso ?_
          obtain ⟨kq, rfl⟩ : ∃ kq, kk = kq + 1 := ⟨kk - 1, by omega⟩
          refine hK2 _ _ ⟨kq, p2 + 1, fun j => q j || decide (j = x.toNat), by omega, by omega, by omega, sT0, sT0, sT0, sT0, sT0, sT0, by refine sS0 ?_; congr 2; omega, ?_⟩ (by refine sS1 @f11 ?_; omega)
          rw [mkL_setv (fun j _ => rfl)]
        · obtain rfl : kk = 0 := by omega
          have hfo2 := hfo.rd (Y := rdC w p2)
          have hbm2 : (M5.set rb (rdC w p2)) bm = none := by rw [set_ne nm]; exact hbm
          generalize M5.set rb (rdC w p2) = MD at *
          have hgm : Gr 1 MD (MD.set bm ((mkL n q).map vb)) (.sc (.sl (some (bm, 0)) n n true 1)) ((mkL n q).map vb) := Gr.new' (Sub.refl _) hbm2 (by rw [mkL_lenv]; omega)
          have hbx := hgm.sub _ _ hfo2.bx
          generalize MD.set bm ((mkL n q).map vb) = MX at *
          refine sS7 @f0 @f6 @f7 @f8 @f9 @f10 @hbx ?_
          refine (VCall.give0 hgm fun u M2 hu hs2 => (t_l4List hu.lb (by omega)).mono fun r M' hr => hr.base hs2).mono ?_
          intro row M7 hrow
          have hfo3 := hfo2.more hrow.sub
          have hbx3 := hfo3.bx
          have hne : ∀ b, blkV row = .some b → MD b = none := hrow.new
          have r6 : blkV row ≠ some b8 := fun e => by have := hne _ e; rw [hfo2.bx] at this; cases this
          have rL := hfo2.gl.ne hrow
          have rN := hfo2.gn.ne hrow
          have hrow0 := hrow.base hfo2.gl.sub
          have hrone := hrow0.one
          have hsl : (selL n q).length ≤ n := selL_len
          refine sS3 @hbx3 hrone.1 hrone.2 ?_
          intro bt hbt
          refine hfo3.appNF hrow0 r6 rL rN hbt (by omega) (by omega) ?_
          intro s2 M8 u q3 hfo5 hfr
          have c2 := hfo5.gn.one.2
          have c3 := hfo5.gn.one.1
          refine sS4 @q3 @c2 @c3 @hbx3 ?_
          refine hK _ _ ⟨i + 1, p2, s2, ws ++ [u], rows ++ [selL n q], by omega, by omega, by omega, sT0, sT0, sT0, sT0, by refine sS0 ?_; rfl, hfo5, hcN.snoc hfr.li, by simp [hlN], fun r hr => ?_⟩ (by refine sS2 @ctrV_int @e9 ?_; omega)
          rcases List.mem_append.1 hr with h3 | h3
          · exact hrN r h3
          · rw [List.mem_singleton] at h3; subst h3; omega
    · obtain rfl : i = n := by omega
      have hbx := hfo.bx
      have n86 : b8 ≠ b6 := fun e => by
        have := hfo.fr
        rw [e, set_ne n6, a6] at this; cases this
      have ha6 : M5 b6 = .some [V.sc (AV.sl none 0 0 true 0), V.sc (AV.int IntKind.i64 0), V.sc (AV.sl none 0 0 true 0)] := hfo.gl.sub _ _ (by rw [set_ne n6]; exact a6)
      have o1 := hfo.gl.one.1
      have o2 := hfo.gl.one.2
      have o3 := hfo.gn.one.1
      have o4 := hfo.gn.one.2
      have hs66 : Sub (M.set rb (rdC w p')) (M6.set rb (rdC w p')) := by
        have : Sub (M.set rb (rdC w p)) M6 := by rw [set_id hm]; exact s6
        exact this.rd
      have hb60 : (M.set rb (rdC w p')) b6 = none := by rw [set_ne n6]; exact hb6
      have ne6 : ∀ {v : V} {l : List V}, Gr 1 (M6.set rb (rdC w p')) M5 v l → blkV v ≠ some b6 := fun hg e => by
        have := hg.new _ e
        rw [set_ne n6, a6] at this; cases this
      simp (maxSteps := 2000000) (disch := first | omega | assumption | exact idP rfl | exact idP (bL rfl)) only [go_sem, reduceIte, Nat.reduceEqDiff, wpV_kd, wpV_tH, e0, e6, e7, e8, hbx, ha6, o1, o2, o3, o4]
      refine hR _ _ ⟨p', vL, vN, us, ws, ⟨ls, fs, rows⟩, rfl, by omega, by omega, ⟨(hfo.gl.base hs66).setN hb60 (ne6 hfo.gl), (hfo.gn.base hs66).setN hb60 (ne6 hfo.gn), hfo.ne, hcL, hcN, by simp only; omega⟩, ⟨by simp only; omega, fun r hr => ?_, by simp only; omega, by simp only; omega, hrN⟩⟩
      have := hlf r hr; omega
end Go.M2

namespace Go.M2
open Go.Proofs
variable {M : MH}
theorem mem2 {B M : MH} {v w : V} {l r : List V} (h : Gr 1 B M v l) (k : Gr 1 B M w r) (hne : ∀ b, blkV v = .some b → blkV w ≠ some b) : Mem B M (fpG v l ++ fpG w r) := by
  refine ⟨h.sub, fun p hp => ?_, ?_, fun p hp => ?_⟩
  · rcases List.mem_append.1 hp with h1 | h1
    · exact h.mem.new p h1
    · exact k.mem.new p h1
  · cases h1 : blkV v with
    | none => simpa [fpG, h1] using k.mem.nd
    | some b =>
      cases h2 : blkV w with
      | none => simp [fpG, h1, h2, Nd2]
      | some c =>
        have : b ≠ c := fun e => hne b h1 (by rw [h2, e])
        simp [fpG, h1, h2, Nd2, this]
  · rcases List.mem_append.1 hp with h1 | h1
    · exact h.mem.at_ p h1
    · exact k.mem.at_ p h1
def AnyR (B M : MH) (vL vN : V) (g : GrS) (n : Nat) : Prop := ∃ vL' vN' fp, Tr [vL, vN] [vL', vN'] fp ∧ Mem B M fp ∧ LII vL' g.letters ∧ LII vN' g.next ∧ isNilF .sl (er vN') = .some false ∧ GrD g n ∧ One vL ∧ One vN
theorem Fr.nn1 {v : V} {us : List V} (h : Fr 1 v us) (h0 : 1 ≤ us.length) : isNilF .sl (er v) = .some false := by
  rcases h with ⟨rfl, _, _⟩ | ⟨p, n, c, ex, k, rfl, _⟩
  · simp at h0
  · rfl
theorem Fo.any {B M : MH} {b7 n : Nat} {vL vN : V} {us ws : List V} {f f' : Int} {ls rows : List (List Int)} (h : Fo B M b7 vL us vN ws f) (cl : Cs (fun ys u => LI u ys) us ls) (cn : Cs (fun ys u => LI u ys) ws rows) (hd : GrD ⟨ls, f', rows⟩ n) : AnyR B M vL vN ⟨ls, f', rows⟩ n := by
  obtain ⟨u1, t1, f1⟩ := h.gl.own.sh.1.tr (Tr.refl us)
  obtain ⟨u2, t2, f2⟩ := h.gn.own.sh.1.tr (Tr.refl ws)
  rw [List.append_nil] at t1 t2
  have hw := cn.1
  have h0 := hd.n0
  exact ⟨u1, u2, _, t1.append t2, mem2 h.gl h.gn h.ne, f1.lsC cl, f2.lsC cn, f2.nn1 (by simp only at h0; omega), hd, h.gl.own.sh.1.one, h.gn.own.sh.1.one⟩
theorem slcd_own {b n : Nat} {ex : Bool} {K : V → MH → Prop} (h1 : 1 ≤ n) (hk : ∀ o ex', (o = 1 ∨ n = 1) → K (.sc (.sl (some (b, o)) (n - 1) (n - 1) ex' 1)) M) : slcdV 1 (.sc (.sl (some (b, 0)) n n ex 1)) M K := by
  simp only [slcdV]
  refine ⟨trivial, h1, Nat.le_refl _, ?_⟩
  split
  · rename_i hc
    obtain ⟨rfl, _⟩ := hc
    exact ⟨by simpa using hk 0 true (.inr rfl), by simpa using hk 1 false (.inl rfl)⟩
  · by_cases hc : n = 1
    · rw [if_pos hc]; exact hk 0 ex (.inr hc)
    · rw [if_neg hc]; simpa using hk 1 ex (.inl rfl)
theorem Cs.drop1 {us : List V} {ls : List (List Int)} {b o n : Nat} {ex : Bool} (h : Cs (fun ys u => LI u ys) us ls) (hn : ls.length = n) (h1 : 1 ≤ n) (ho : o = 1 ∨ n = 1) : LII (.fs (some (b, o)) (n - 1) (n - 1) ex 1 (us.drop o)) (ls.drop 1) := by
  have hu := h.1
  refine Ls.mk (by simp; omega) ?_ fun i hi => ?_
  · simp; omega
  · have hi2 : i + 1 < ls.length := by simp at hi; omega
    have : o = 1 := by omega
    subst this
    obtain ⟨u, h2, h3⟩ := h.2 (i + 1) hi2
    refine ⟨u, by rw [List.getElem?_drop, Nat.add_comm]; exact h2, ?_⟩
    rw [List.getElem_drop]
    have e : ls[1 + i]'(by omega) = ls[i + 1] := by congr 1; omega
    rw [e]; exact h3
theorem Mem.setB {M0 M : MH} {f : List (Nat × List V)} {b : Nat} {l : List V} (h : Mem M0 M f) (hb : M0 b = none) (hne : ∀ p ∈ f, p.1 ≠ b) : Mem M0 (M.set b l) f :=
  ⟨h.sub.set hb, h.new, h.nd, fun p hp => by rw [set_ne (hne p hp)]; exact h.at_ p hp⟩
theorem Gr.nf {B M : MH} {v : V} {l : List V} {b : Nat} (h : Gr 1 B M v l) (hb : M b = none) : blkV v ≠ some b := fun e => by
  rcases h.own with ⟨_, j, rfl⟩ | ⟨b', m, ex, rfl, h2, h3⟩
  · simp [blkV] at e
  · simp [blkV] at e; subst e; rw [hb] at h2; cases h2
theorem fpG_sl {b n c k : Nat} {ex : Bool} {l : List V} : fpG (.sc (.sl (some (b, 0)) n c ex k)) l = [(b, l)] := by simp [fpG, blkV]
theorem Fo.anyX {B M MZ : MH} {b7 bN n N : Nat} {ex : Bool} {vL w0 z z' : V} {us wt : List V} {f f' : Int} {ls rows : List (List Int)} {fz : List (Nat × List V)} {r : List Int} (h : Fo B M b7 vL us (.sc (.sl (some (bN, 0)) n n ex 1)) (w0 :: wt) f) (hz : Tr [z] [z'] fz) (hm : Mem M MZ fz) (hr : LI z' r) (hrl : r.length ≤ 400)
    (hn : n = (w0 :: wt).length) (cl : Cs (fun ys u => LI u ys) us ls) (cn : Cs (fun ys u => LI u ys) (w0 :: wt) rows) (hd : GrD ⟨ls, f', rows⟩ N) : AnyR B (MZ.set bN (z :: wt)) vL (.sc (.sl (some (bN, 0)) n n ex 1)) ⟨ls, f', r :: rows.drop 1⟩ N := by
  obtain ⟨u1, t1, f1⟩ := h.gl.own.sh.1.tr (Tr.refl us)
  rw [List.append_nil] at t1
  have t2 : Tr [.sc (.sl (some (bN, 0)) n n ex 1)] [.fs (some (bN, 0)) n n ex 1 ((z' :: wt).drop 0)] ((bN, z :: wt) :: ((fz ++ []) ++ [])) := Tr.sl (hz.append (Tr.refl wt)) Tr.nil
  rw [List.append_nil, List.append_nil] at t2
  have m0 := (mem2 h.gl h.gn h.ne).add hm
  rw [fpG_sl] at m0
  have m1 : Mem B MZ ((bN, w0 :: wt) :: (fpG vL us ++ fz)) := by
    refine m0.perm ?_
    rw [List.append_assoc]
    exact List.perm_middle
  have m2 : Mem B (MZ.set bN (z :: wt)) (fpG vL us ++ ((bN, z :: wt) :: fz)) := (m1.upd (l' := z :: wt)).perm List.perm_middle.symm
  have hw := cn.1
  have h0 := hd.n0
  simp only at h0
  cases rows with
  | nil => simp at h0
  | cons r0 rt =>
    refine ⟨u1, _, _, t1.append t2, m2, f1.lsC cl, ?_, rfl, ⟨hd.l1, hd.l2, by have := hd.n1; simpa using this, by simp, fun q hq => ?_⟩, h.gl.own.sh.1.one, ⟨rfl, rfl⟩⟩
    · refine Ls.mk (by simp at hw hn ⊢; omega) (by simp at hw ⊢; omega) fun i hi => ?_
      cases i with
      | zero => exact ⟨z', by simp, hr⟩
      | succ i =>
        have hi2 : i + 1 < (r0 :: rt).length := by simpa using hi
        obtain ⟨u, q1, q2⟩ := cn.2 (i + 1) hi2
        exact ⟨u, by simpa using q1, by simpa using q2⟩
    · rcases List.mem_cons.1 hq with rfl | hq
      · exact hrl
      · exact hd.n2 q (List.mem_cons_of_mem _ hq)
theorem Fo.any3 {B M : MH} {b7 bJ n N o : Nat} {ex ex' : Bool} {vN : V} {us ws X : List V} {f f' : Int} {ls rows : List (List Int)} (h : Fo B M b7 (.sc (.sl (some (bJ, 0)) n n ex 1)) us vN ws f)
    (hn : n = us.length) (h1 : 1 ≤ n) (ho : o = 1 ∨ n = 1) (cl : Cs (fun ys u => LI u ys) us ls) (cn : Cs (fun ys u => LI u ys) ws rows) (hd : GrD ⟨ls, f', rows⟩ N) : AnyR B (M.set b7 X) (.sc (.sl (some (bJ, o)) (n - 1) (n - 1) ex' 1)) vN ⟨ls.drop 1, f', rows⟩ N := by
  obtain ⟨u2, t2, f2⟩ := h.gn.own.sh.1.tr (Tr.refl ws)
  rw [List.append_nil] at t2
  have t1 : Tr [.sc (.sl (some (bJ, o)) (n - 1) (n - 1) ex' 1)] [.fs (some (bJ, o)) (n - 1) (n - 1) ex' 1 (us.drop o)] ((bJ, us) :: ([] ++ [])) := Tr.sl (Tr.refl us) Tr.nil
  rw [List.append_nil] at t1
  have m0 := mem2 h.gl h.gn h.ne
  rw [fpG_sl] at m0
  have hw := cn.1
  have hu := cl.1
  have h0 := hd.n0
  simp only at h0
  have m1 := m0.setB (l := X) h.fr fun p hp e => by
    rcases List.mem_append.1 hp with hp | hp
    · rw [List.mem_singleton] at hp; subst hp
      exact h.nl (by simp only [blkV]; rw [← e])
    · unfold fpG at hp
      split at hp
      · rename_i b hb
        rw [List.mem_singleton] at hp; subst hp
        exact h.nn (by rw [hb, ← e])
      · cases hp
  refine ⟨_, u2, _, t1.append t2, m1, cl.drop1 (by omega) h1 ho, f2.lsC cn, f2.nn1 (by omega), ⟨?_, fun q hq => hd.l2 q (List.mem_of_mem_drop hq), hd.n1, hd.n0, hd.n2⟩, ⟨rfl, rfl⟩, h.gn.own.sh.1.one⟩
  have := hd.l1
  simp only [List.length_drop] at this ⊢; omega
theorem t_l25Any {rb : Nat} {w : V} {code : List Int} {p most : Int} (hr : Rdr w code) (hm : M rb = .some (rdC w p)) (h0 : 0 ≤ p) (h1 : p ≤ 700000) (hn0 : 1 ≤ most) (hn : most ≤ 400) :
    VCall Tryd.prog n_spec_l25Any [.sc (.ptr (some (rb, 0))), .sc (.int .i64 most)] M (fun r M' => ∃ (p' : Int) (vL vN : V) (g : GrS) (f : Int), r = .tup [.agg [vL, .sc (.int .i64 g.first), vN], .sc (.int .i64 f)] ∧ p ≤ p' ∧ p' ≤ p + 3010 ∧ AnyR (M.set rb (rdC w p')) M' vL vN g most.toNat) := by
  refine VCall.plain fun R hR => v_spec_l25Any rfl ?_
  refine sS0 ?_
  intro b4 hb4
  have n4 : b4 ≠ rb := fun e => by subst e; rw [hb4] at hm; cases hm
  have hm4 : (M.set b4 [V.sc (AV.sl none 0 0 true 0), V.sc (AV.int IntKind.i64 0), V.sc (AV.sl none 0 0 true 0)]) rb = .some (rdC w p) := by rw [set_ne (Ne.symm n4)]; exact hm
  have s4 : Sub M (M.set b4 [V.sc (AV.sl none 0 0 true 0), V.sc (AV.int IntKind.i64 0), V.sc (AV.sl none 0 0 true 0)]) := (Sub.refl _).set' hb4
  have a4 : (M.set b4 [V.sc (AV.sl none 0 0 true 0), V.sc (AV.int IntKind.i64 0), V.sc (AV.sl none 0 0 true 0)]) b4 = .some [V.sc (AV.sl none 0 0 true 0), V.sc (AV.int IntKind.i64 0), V.sc (AV.sl none 0 0 true 0)] := set_same
  generalize M.set b4 [V.sc (AV.sl none 0 0 true 0), V.sc (AV.int IntKind.i64 0), V.sc (AV.sl none 0 0 true 0)] = M4 at *
  have hs44 : ∀ q, Sub (M.set rb (rdC w q)) (M4.set rb (rdC w q)) := fun q => by
    have : Sub (M.set rb (rdC w p)) M4 := by rw [set_id hm]; exact s4
    exact this.rd
  have hb40 : ∀ q, (M.set rb (rdC w q)) b4 = none := fun q => by rw [set_ne n4]; exact hb4
  -- what comes behind, once for all
  have fin : ∀ (q : Int) (M' : MH) (vL vN : V) (g : GrS) (f : Int), p ≤ q → q ≤ p + 3010 → AnyR (M4.set rb (rdC w q)) M' vL vN g most.toNat → R (.tup [.agg [vL, .sc (.int .i64 g.first), vN], .sc (.int .i64 f)]) (M'.set b4 [vL, .sc (.int .i64 g.first), vN]) := fun q M' vL vN g f q1 q2 ⟨vL', vN', fp, e1, e2, e3⟩ => by
    refine hR _ _ ⟨q, vL, vN, g, f, rfl, q1, q2, vL', vN', fp, e1, (e2.base (hs44 q)).setB (hb40 q) fun pp hp e => ?_, e3⟩
    have := e2.new pp hp
    rw [e, set_ne n4, a4] at this; cases this
  intro bn hbn
  refine (t_numL [1, 1, 2, 0] hr hbn hm4 (by omega) (by omega) rfl rfl (by simp) (by simp)).mono ?_
  rintro _ _ ⟨rfl, facts, hfm, rfl⟩
  have hf : 0 ≤ facts ∧ facts ≤ 4 := by simp at hfm; omega
  refine sS0 ?_
  refine (t_l25Draw hr (set_same) (by omega) (by omega) hf.1 hf.2 hn0 hn).mono ?_
  rintro _ M5 ⟨p3, vL, vN, us, ws, g, rfl, r1, r2, hd, hgd⟩
  rw [set_set] at hd
  have o1 := hd.gl.one.1
  have o2 := hd.gl.one.2
  have o3 := hd.gn.one.1
  have o4 := hd.gn.one.2
  refine sS4 @o1 @o2 @o3 @o4 ?_
  intro b7 hb7
  have hfo : Fo (M4.set rb (rdC w p3)) (M5.set b7 [vL, V.sc (AV.int IntKind.i64 g.first), vN]) b7 vL us vN ws g.first :=
    ⟨set_same, hd.gl.sub.none hb7, hd.gl.more ((Sub.refl _).set' hb7), hd.gn.more ((Sub.refl _).set' hb7), hd.gl.nf hb7, hd.gn.nf hb7, hd.ne⟩
  generalize M5.set b7 [vL, V.sc (AV.int IntKind.i64 g.first), vN] = M6 at *
  have n74 : b7 ≠ b4 := fun e => by
    have := hfo.fr
    rw [e, set_ne n4, a4] at this; cases this
  have at4 : ∀ {q : Int} {M' : MH}, Sub (M4.set rb (rdC w q)) M' → M' b4 = .some [V.sc (AV.sl none 0 0 true 0), V.sc (AV.int IntKind.i64 0), V.sc (AV.sl none 0 0 true 0)] := fun h => h _ _ (by rw [set_ne n4]; exact a4)
  have hcl := hd.cl
  have hcn := hd.cn
  have hul := hcl.1
  have hwl := hcn.1
  have hle := hd.le
  have hg0 := hgd.n0
  have hg1 := hgd.n1
  refine (t_pick hr (hfo.gl.sub _ _ set_same) (by omega) (by omega)).mono ?_
  rintro _ _ ⟨rfl, k, rfl, k0, k1, -⟩
  have hfo1 := hfo.rd (Y := rdC w (p3 + 1))
  generalize M6.set rb (rdC w (p3 + 1)) = M7 at *
  refine sS0 ?_
  refine cond_dec (fun hk => ?_) (fun hk => ?_)
  · refine sS0 ?_
    refine (t_pick hr (hfo1.gl.sub _ _ set_same) (by omega) (by omega)).mono ?_
    rintro _ _ ⟨rfl, j, rfl, j0, j1, -⟩
    have hfo2 := hfo1.rd (Y := rdC w (p3 + 1 + 1))
    generalize M7.set rb (rdC w (p3 + 1 + 1)) = M8 at *
    have hbx := hfo2.bx
    have h84 := at4 hfo2.gl.sub
    refine sS0 ?_
    refine cond_dec (fun hj => ?_) (fun hj => ?_)
    · have hlen := hfo2.gn.len1
      refine sS2 @hbx @hlen ?_
      intro bn hbn
      refine (t_numL [(ws.length : Int), -1] hr hbn (hfo2.gl.sub _ _ set_same) (by omega) (by omega) rfl rfl (by simp) (by simp)).mono ?_
      rintro _ _ ⟨rfl, x, hx, rfl⟩
      have hfo3 := hfo2.rd (Y := rdC w (p3 + 1 + 1 + 1))
      generalize M8.set rb (rdC w (p3 + 1 + 1 + 1)) = M9 at *
      have hbx3 := hfo3.bx
      have h94 := at4 hfo3.gl.sub
      have h945 : (M9.set b7 [vL, V.sc (AV.int IntKind.i64 x), vN]) b4 = .some [V.sc (AV.sl none 0 0 true 0), V.sc (AV.int IntKind.i64 0), V.sc (AV.sl none 0 0 true 0)] := by rw [set_ne (Ne.symm n74)]; exact h94
      have hfo4 : Fo (M4.set rb (rdC w (p3 + 1 + 1 + 1))) (M9.set b7 [vL, V.sc (AV.int IntKind.i64 x), vN]) b7 vL us vN ws x :=
        ⟨set_same, hfo3.fr, hfo3.gl.setN hfo3.fr hfo3.nl, hfo3.gn.setN hfo3.fr hfo3.nn, hfo3.nl, hfo3.nn, hfo3.ne⟩
      refine sS6 @hbx3 @h945 @o1 @o2 @o3 @o4 ?_
      exact fin _ _ vL vN ⟨g.letters, x, g.next⟩ facts (by omega) (by omega) (hfo4.any hcl hcn ⟨hgd.l1, hgd.l2, hgd.n1, hgd.n0, hgd.n2⟩)
    · refine sS0 ?_
      refine cond_dec (fun hj1 => ?_) (fun hj1 => ?_)
      · rcases hfo2.gn.own with ⟨e, _⟩ | ⟨bN, n, ex, rfl, hbN, hnl⟩
        · rw [e] at hwl; simp at hwl; omega
        cases ws with
        | nil => simp at hwl; omega
        | cons w0 wt =>
          have hnn : 1 ≤ n := by simp at hnl; omega
          have hnn2 : n = (w0 :: wt).length := by simp at hnl ⊢; omega
          have p0 : iaddrV 1 (.sc (.sl (some (bN, 0)) n n ex 1)) (.int .i64 0) = .some (.sc (.ptr (some (bN, 0)))) := sl_iaddr (by omega) (by omega)
          refine sS1 @hbx ?_
          intro bz hbz
          have sz := (Sub.refl M8).set' (l := [V.sc (AV.int IntKind.i64 (n : Int))]) hbz
          have mz : Mem M8 (M8.set bz [V.sc (AV.int IntKind.i64 (n : Int))]) [(bz, [V.sc (AV.int IntKind.i64 (n : Int))])] := (Mem.nil (Sub.refl _)).new1 hbz
          have tz : Tr [V.sc (AV.sl (some (bz, 0)) 1 1 true 1)] [V.fs (some (bz, 0)) 1 1 true 1 (([(n : Int)].map vi).drop 0)] [(bz, [V.sc (AV.int IntKind.i64 (n : Int))])] := Tr.sl (Tr.refl _) Tr.nil
          have hany := hfo2.anyX (f' := g.first) tz mz (li_own rfl) (by simp) hnn2 hcl hcn hgd
          have hbN' := sz _ _ hbN
          have hbx' := sz _ _ hbx
          have h84' := sz _ _ h84
          have n7N : b7 ≠ bN := fun e => hfo2.nn (by rw [e]; rfl)
          have n4N : b4 ≠ bN := fun e => by
            have := hfo2.gn.new bN rfl
            rw [← e, set_ne n4, a4] at this; cases this
          generalize M8.set bz [V.sc (AV.int IntKind.i64 (n : Int))] = MZ at *
          have g7 : ∀ L, (MZ.set bN L) b7 = .some [vL, V.sc (AV.int IntKind.i64 g.first), V.sc (AV.sl (some (bN, 0)) n n ex 1)] := fun L => by rw [set_ne n7N]; exact hbx'
          have g4 : ∀ L, (MZ.set bN L) b4 = .some [V.sc (AV.sl none 0 0 true 0), V.sc (AV.int IntKind.i64 0), V.sc (AV.sl none 0 0 true 0)] := fun L => by rw [set_ne n4N]; exact h84'
          refine sS6 @p0 @hbN' @g7 @g4 @o1 @o2 ?_
          exact fin _ _ vL _ ⟨g.letters, g.first, [(n : Int)] :: g.next.drop 1⟩ facts (by omega) (by omega) hany
      · refine sS0 ?_
        refine cond_dec (fun hj2 => ?_) (fun hj2 => ?_)
        · rcases hfo2.gn.own with ⟨e, _⟩ | ⟨bN, n, ex, rfl, hbN, hnl⟩
          · rw [e] at hwl; simp at hwl; omega
          cases ws with
          | nil => simp at hwl; omega
          | cons w0 wt =>
            have hnn : 1 ≤ n := by simp at hnl; omega
            have hnn2 : n = (w0 :: wt).length := by simp at hnl ⊢; omega
            have p0 : iaddrV 1 (.sc (.sl (some (bN, 0)) n n ex 1)) (.int .i64 0) = .some (.sc (.ptr (some (bN, 0)))) := sl_iaddr (by omega) (by omega)
            have hany := hfo2.anyX (f' := g.first) (Tr.refl [nil1]) (Mem.nil (Sub.refl M8)) (r := []) (.inl ⟨rfl, 0, rfl⟩) (by simp) hnn2 hcl hcn hgd
            have n7N : b7 ≠ bN := fun e => hfo2.nn (by rw [e]; rfl)
            have n4N : b4 ≠ bN := fun e => by
              have := hfo2.gn.new bN rfl
              rw [← e, set_ne n4, a4] at this; cases this
            have g7 : ∀ L, (M8.set bN L) b7 = .some [vL, V.sc (AV.int IntKind.i64 g.first), V.sc (AV.sl (some (bN, 0)) n n ex 1)] := fun L => by rw [set_ne n7N]; exact hbx
            have g4 : ∀ L, (M8.set bN L) b4 = .some [V.sc (AV.sl none 0 0 true 0), V.sc (AV.int IntKind.i64 0), V.sc (AV.sl none 0 0 true 0)] := fun L => by rw [set_ne n4N]; exact h84
            refine sS7 @hbx @p0 @hbN @g7 @g4 @o1 @o2 ?_
            exact fin _ _ vL _ ⟨g.letters, g.first, [] :: g.next.drop 1⟩ facts (by omega) (by omega) hany
        · rcases hfo2.gl.own with ⟨e, _⟩ | ⟨bJ, n, ex, rfl, hbL, hnl⟩
          · rw [e] at hul; simp at hul; omega
          have hnn : n = us.length := by omega
          have hn1 : 1 ≤ n := by omega
          refine sS1 @hbx ?_
          refine slcd_own hn1 fun o ex' ho => ?_
          have g4 : ∀ L, (M8.set b7 L) b4 = .some [V.sc (AV.sl none 0 0 true 0), V.sc (AV.int IntKind.i64 0), V.sc (AV.sl none 0 0 true 0)] := fun L => by rw [set_ne (Ne.symm n74)]; exact h84
          refine sS4 @hbx @g4 @o3 @o4 ?_
          exact fin _ _ _ vN ⟨g.letters.drop 1, g.first, g.next⟩ facts (by omega) (by omega) (hfo2.any3 (f' := g.first) hnn hn1 ho hcl hcn hgd)
  · have hbx := hfo1.bx
    have h74 := at4 hfo1.gl.sub
    refine sS6 @hbx @h74 @o1 @o2 @o3 @o4 ?_
    exact fin _ _ vL vN g facts (by omega) (by omega) (hfo1.any hcl hcn hgd)
end Go.M2

namespace Go.M2
open Go.Proofs
variable {M : MH}
theorem retPV_cttt {R : V → MH → Prop} {e : EnvV} {a n b c d : Nat} {ag : Bool} : retPV [.c a n ag, .t b, .t c, .t d] R e M = opt2 (loadV M n ag (e a)) (fun x => R (.tup [x, e b, e c, e d]) M) := by
  unfold retPV retV3 optV opt2
  simp only [resVs3, resV3]
  cases loadV M n ag (e a) <;> rfl
theorem f_l25Any {rb : Nat} {w : V} {code : List Int} {p most : Int} (hr : Rdr w code) (hm : M rb = .some (rdC w p)) (h0 : 0 ≤ p) (h1 : p ≤ 700000) (hn0 : 1 ≤ most) (hn : most ≤ 400) :
    VCall Tryd.prog n_spec_l25Any [.sc (.ptr (some (rb, 0))), .sc (.int .i64 most)] M (fun r M' => ∃ (p' : Int) (v : V) (g : GrS) (f : Int), M' = M.set rb (rdC w p') ∧ r = .tup [v, .sc (.int .i64 f)] ∧ p ≤ p' ∧ p' ≤ p + 3010 ∧ isGr g v ∧ nnG v ∧ GrD g most.toNat) := by
  refine VCall.frB (q := fun B r' => ∃ (p' : Int) (v : V) (g : GrS) (f : Int), B = M.set rb (rdC w p') ∧ r' = .tup [v, .sc (.int .i64 f)] ∧ p ≤ p' ∧ p' ≤ p + 3010 ∧ isGr g v ∧ nnG v ∧ GrD g most.toNat) ((t_l25Any hr hm h0 h1 hn0 hn).mono ?_)
  rintro _ M' ⟨p', vL, vN, g, f, rfl, q1, q2, vL', vN', fp, ht, hmem, hL, hN, hnn, hd, -, -⟩
  obtain ⟨u1, r1, gx, gr, e1, rfl, tx, t2⟩ := ht.uncons
  obtain ⟨u2, r2, gy, gr2, e2, rfl, ty, t3⟩ := t2.uncons
  rw [List.cons.injEq] at e1
  obtain ⟨rfl, rfl⟩ := e1
  rw [List.cons.injEq] at e2
  obtain ⟨rfl, rfl⟩ := e2
  cases t3
  refine ⟨_, .tup [.agg [vL', .sc (.int .i64 g.first), vN'], .sc (.int .i64 f)], _, ?_, hmem, p', _, g, f, rfl, rfl, q1, q2, ⟨vL', vN', rfl, hL, hN⟩, ⟨_, _, _, rfl, hnn⟩, hd⟩
  have h3 := tx.append (.keep (.sc (.int .i64 g.first)) ty)
  have h4 := Tr.tup (Tr.agg h3 (.keep (.sc (.int .i64 f)) .nil)) .nil
  simpa using h4
theorem t_l25Two {v : V} {xs : List Int} (hv : XU v xs) (hc : CapOk v) (hl : xs.length ≤ 1048576) :
    VCall Tryd.prog n_spec_l25Two [v] M (fun r M' => M = M' ∧ ∃ (gv : V) (g : GrS) (f a b : Int), r = .tup [gv, .sc (.int .i64 f), .sc (.int .i64 a), .sc (.int .i64 b)] ∧ isGr g gv ∧ nnG gv ∧ GrD g 6 ∧ (0 ≤ b ∧ (b < g.next.length ∨ b = 0))) := by
  refine VCall.pure fun R hR => v_spec_l25Two rfl ?_
  refine sS0 ?_
  intro b2 hb2
  refine (t_l40Open hv hc hl).mono ?_
  rintro _ M1 ⟨rb, w, code, rfl, hrb, rfl, hr⟩
  have hs0 : Sub M (M.set b2 [V.sc (AV.sl none 0 0 true 0), V.sc (AV.int IntKind.i64 0), V.sc (AV.sl none 0 0 true 0)]) := (Sub.refl M).set' hb2
  have hzr : M rb = none := (fresh_set hrb).2
  have n2 : rb ≠ b2 := (fresh_set hrb).1
  have a2 : (M.set b2 [V.sc (AV.sl none 0 0 true 0), V.sc (AV.int IntKind.i64 0), V.sc (AV.sl none 0 0 true 0)]) b2 = .some [V.sc (AV.sl none 0 0 true 0), V.sc (AV.int IntKind.i64 0), V.sc (AV.sl none 0 0 true 0)] := set_same
  have hb20 := hb2
  change contK _ _ _ _ _ _ _ ((M.set b2 [V.sc (AV.sl none 0 0 true 0), V.sc (AV.int IntKind.i64 0), V.sc (AV.sl none 0 0 true 0)]).set rb (rdC w 0))
  generalize M.set b2 [V.sc (AV.sl none 0 0 true 0), V.sc (AV.int IntKind.i64 0), V.sc (AV.sl none 0 0 true 0)] = M2 at *
  refine sS0 ?_
  refine (f_l25Any hr set_same (by omega) (by omega) (by omega) (by omega)).mono ?_
  rintro _ _ ⟨p', gv, g, f, rfl, rfl, q1, q2, hg, hnn, hd⟩
  rw [set_set]
  have hg0 := hg
  obtain ⟨x, y, rfl, hx, hy⟩ := hg
  have o1 := hx.one.1
  have o2 := hx.one.2
  have o3 := hy.one.1
  have o4 := hy.one.2
  refine sS4 @o1 @o2 @o3 @o4 ?_
  intro b7 hb7
  have n7 : b7 ≠ rb := (fresh_set hb7).1
  have hb70 := (fresh_set hb7).2
  have n72 : b7 ≠ b2 := fun e => by rw [e, a2] at hb70; cases hb70
  rw [set_comm (Ne.symm n7)]
  have s7 : Sub M (M2.set b7 [x, V.sc (AV.int IntKind.i64 g.first), y]) := hs0.trans ((Sub.refl _).set' hb70)
  have m7 : (M2.set b7 [x, V.sc (AV.int IntKind.i64 g.first), y]) b7 = .some [x, V.sc (AV.int IntKind.i64 g.first), y] := set_same
  have a27 : (M2.set b7 [x, V.sc (AV.int IntKind.i64 g.first), y]) b2 = .some [V.sc (AV.sl none 0 0 true 0), V.sc (AV.int IntKind.i64 0), V.sc (AV.sl none 0 0 true 0)] := by rw [set_ne (Ne.symm n72)]; exact a2
  generalize M2.set b7 [x, V.sc (AV.int IntKind.i64 g.first), y] = M3 at *
  have r7 : ∀ q, (M3.set rb (rdC w q)) b7 = .some [x, V.sc (AV.int IntKind.i64 g.first), y] := fun q => by rw [set_ne n7]; exact m7
  have r2 : ∀ q, (M3.set rb (rdC w q)) b2 = .some [V.sc (AV.sl none 0 0 true 0), V.sc (AV.int IntKind.i64 0), V.sc (AV.sl none 0 0 true 0)] := fun q => by rw [set_ne (Ne.symm n2)]; exact a27
  have fin : ∀ q L, Sub M ((M3.set rb (rdC w q)).set b2 L) := fun q L => (s7.set hzr).set hb20
  refine sS2 @r7 @hy.len ?_
  refine (t_pick hr set_same (by omega) (by omega)).mono ?_
  rintro _ _ ⟨rfl, k, rfl, k0, k1, -⟩
  rw [set_set]
  refine sS0 ?_
  refine cond_dec (fun hk => ?_) (fun hk => ?_)
  · refine sS1 @r7 ?_
    intro bn hbn
    refine (t_numL [(g.next.length : Int), -1] hr hbn set_same (by omega) (by omega) rfl rfl (by simp) (by simp)).mono ?_
    rintro _ _ ⟨rfl, a, ha, rfl⟩
    rw [set_set]
    simp (maxSteps := 2000000) (disch := first | omega | assumption | exact idP rfl | exact idP (bL rfl)) only [go_sem, reduceIte, Nat.reduceEqDiff, wpV_kd, wpV_tH, r7, r2, o1, o2, o3, o4, retPV_cttt]
    exact hR _ _ (fin _ _) ⟨_, g, f, a, 0, rfl, hg0, hnn, hd, by omega, .inr rfl⟩
  · refine sS1 @r7 ?_
    refine (t_pick hr set_same (by omega) (by omega)).mono ?_
    rintro _ _ ⟨rfl, a, rfl, a0, a1, a2⟩
    rw [set_set]
    refine sS1 @r7 ?_
    refine (t_pick hr set_same (by omega) (by omega)).mono ?_
    rintro _ _ ⟨rfl, b, rfl, b0, b1, b2'⟩
    rw [set_set]
    simp (maxSteps := 2000000) (disch := first | omega | assumption | exact idP rfl | exact idP (bL rfl)) only [go_sem, reduceIte, Nat.reduceEqDiff, wpV_kd, wpV_tH, r7, r2, o1, o2, o3, o4, retPV_cttt]
    have := hd.n0
    exact hR _ _ (fin _ _) ⟨_, g, f, a, b, rfl, hg0, hnn, hd, b0, .inl (b1 (by omega))⟩
theorem t_DrawCanFollow {v : V} {xs : List Int} (hv : XU v xs) (hc : CapOk v) (hl : xs.length ≤ 1048576) :
    VCall Tryd.prog n_spec_DrawCanFollow [v] M (fun r M' => M = M' ∧ ∃ (gv : V) (g : GrS) (f a b : Int), r = .tup [gv, .sc (.int .i64 f), .sc (.int .i64 a), .sc (.int .i64 b)] ∧ isGr g gv ∧ nnG gv ∧ GrD g 6 ∧ (0 ≤ b ∧ (b < g.next.length ∨ b = 0))) := by
  refine VCall.pure fun R hR => v_spec_DrawCanFollow rfl ?_
  refine sS0 ?_
  intro b2 hb2
  refine (t_l25Two hv hc hl).mono ?_
  rintro _ _ ⟨rfl, gv, g, f, a, b, rfl, hg, hnn, hd, hb⟩
  have hg0 := hg
  obtain ⟨x, y, rfl, hx, hy⟩ := hg
  have o1 := hx.one.1
  have o2 := hx.one.2
  have o3 := hy.one.1
  have o4 := hy.one.2
  simp (maxSteps := 2000000) (disch := first | omega | assumption | exact idP rfl | exact idP (bL rfl)) only [go_sem, reduceIte, Nat.reduceEqDiff, wpV_kd, wpV_tH, o1, o2, o3, o4, retPV_cttt]
  exact hR _ _ ((Sub.refl _).set hb2) ⟨_, g, f, a, b, rfl, hg0, hnn, hd, hb⟩
end Go.M2

namespace Go.M2
open Go.Proofs
variable {M : MH}
theorem o_impAlikeIn {u : V} {g : GrS} {f : Int} (hu : isGr g u) (hz : GrSz g) : VCall Tryd.prog n_impl_AlikeIn [u, .sc (.int .i64 f)] M (fun r M' => Dn M M' r (fun w => LI w (alF g f))) :=
  (t_impAlikeIn hu hz).mono fun r M' h => h.dn (flatL_vi _) fun u hu => hu.li
theorem alF_len {g : GrS} {f : Int} : (alF g f).length ≤ 1048576 := by
  unfold alF
  split
  · rename_i h
    have hA := (grB_iff.1 h).al
    rw [(clsF_cls hA).len]
    have := hA.n0; omega
  · simp
end Go.M2

namespace Go.M2
open Go.Proofs
variable {M : MH}
theorem isSys.two {s : SysS} {v : V} (h : isSys s v) : ∃ a b, v = .agg [a, b] ∧ oneV a = true ∧ oneV b = true := by
  obtain ⟨a, b, rfl, ha, hb⟩ := h
  exact ⟨a, b, rfl, ha.one.1, hb.one.1⟩
end Go.M2

namespace Go.M2
open Go.Proofs
variable {M : MH}
end Go.M2

namespace Go.M2
open Go.Proofs
variable {M : MH}
structure SO (tab : List (List Int)) (N : Nat) (st : Nat → Prop) (f : Nat → Int) (row : List Int) : Prop where
  a : ∀ i, 0 ≤ f i → i < N ∧ f i = dst tab st i
  m : ∀ i, f i < 0 → f i = -1
  b : ∀ i, st i → 0 ≤ f i
  c : ∀ x ∈ row, 0 ≤ x ∧ 0 ≤ f x.toNat
  d : ∀ i : Nat, 0 ≤ f i → ¬ (i : Int) ∈ row → ∀ y ∈ tab.getD i [], 0 ≤ f y.toNat
  srt : row.Pairwise fun x y => f x.toNat ≤ f y.toNat
  up : ∀ x t, row = x :: t → ∀ z ∈ t, f z.toNat ≤ f x.toNat + 1
structure SI (tab : List (List Int)) (N : Nat) (st : Nat → Prop) (f : Nat → Int) (row : List Int) (n j : Nat) : Prop where
  a : ∀ i, 0 ≤ f i → i < N ∧ f i = dst tab st i
  m : ∀ i, f i < 0 → f i = -1
  b : ∀ i, st i → 0 ≤ f i
  c : ∀ x ∈ row, 0 ≤ x ∧ 0 ≤ f x.toNat
  d : ∀ i : Nat, 0 ≤ f i → ¬ (i : Int) ∈ row → i ≠ n → ∀ y ∈ tab.getD i [], 0 ≤ f y.toNat
  e : ∀ y ∈ (tab.getD n []).take j, 0 ≤ f y.toNat
  n_ : 0 ≤ f n
  srt : row.Pairwise fun x y => f x.toNat ≤ f y.toNat
  lo : ∀ z ∈ row, f n ≤ f z.toNat
  up : ∀ z ∈ row, f z.toNat ≤ f n + 1
section
variable {tab : List (List Int)} {N : Nat} {st : Nat → Prop} {f : Nat → Int} {row : List Int} {n j : Nat} {x : Int}
theorem SO.pop (h : SO tab N st f (x :: row)) : SI tab N st f row x.toNat 0 := by
  obtain ⟨hx0, hx1⟩ := h.c x (List.mem_cons_self ..)
  obtain ⟨s1, s2⟩ := List.pairwise_cons.1 h.srt
  refine ⟨h.a, h.m, h.b, fun y hy => h.c y (List.mem_cons_of_mem _ hy), fun i hi hr hn => h.d i hi fun hm => ?_, fun y hy => by simp at hy, hx1, s2, s1, h.up x row rfl⟩
  rcases List.mem_cons.1 hm with h1 | h1
  · omega
  · exact hr h1
theorem SI.done (h : SI tab N st f row n j) (hj : (tab.getD n []).length ≤ j) : SO tab N st f row := by
  refine ⟨h.a, h.m, h.b, h.c, fun i hi hr => ?_, h.srt, fun y t ht z hz => ?_⟩
  · by_cases e : i = n
    · subst e
      have := h.e
      rwa [List.take_of_length_le hj] at this
    · exact h.d i hi hr e
  · have h1 := h.up z (by rw [ht]; exact List.mem_cons_of_mem _ hz)
    have h2 := h.lo y (by rw [ht]; exact List.mem_cons_self ..)
    omega
theorem SI.skip (h : SI tab N st f row n j) (hj : j < (tab.getD n []).length) (hm : 0 ≤ f (tab.getD n [])[j].toNat) : SI tab N st f row n (j + 1) := by
  refine ⟨h.a, h.m, h.b, h.c, h.d, fun y hy => ?_, h.n_, h.srt, h.lo, h.up⟩
  rw [take_snoc hj, List.mem_append, List.mem_singleton] at hy
  rcases hy with h1 | rfl
  · exact h.e y h1
  · exact hm
theorem SI.near (h : SI tab N st f row n j) : ∀ (k : Nat) (i : Nat), dst tab st i = (k : Int) → (k : Int) ≤ f n → 0 ≤ f i := by
  intro k
  induction k with
  | zero => exact fun i hi _ => h.b i (dst_zero.1 hi)
  | succ k ih =>
    intro i hi hk
    obtain ⟨p, y, hp, hy, rfl⟩ := dst_pred hi
    have h1 := ih p hp (by omega)
    have h2 := (h.a p h1).2
    exact h.d p h1 (fun hr => by have := h.lo _ hr; simp only [Int.toNat_natCast] at this; omega) (fun e => by subst e; omega) y hy
theorem SI.push (h : SI tab N st f row n j) (hj : j < (tab.getD n []).length) (h0 : 0 ≤ (tab.getD n [])[j]) (hN : (tab.getD n [])[j].toNat < N) (hneg : f (tab.getD n [])[j].toNat < 0) :
    SI tab N st (fun i => if i = (tab.getD n [])[j].toNat then f n + 1 else f i) (row ++ [(tab.getD n [])[j]]) n (j + 1) := by
  generalize hy : (tab.getD n [])[j] = y at *
  have hmem : y ∈ tab.getD n [] := by rw [← hy]; exact List.getElem_mem hj
  obtain ⟨hn1, hn2⟩ := h.a n h.n_
  obtain ⟨d, hd⟩ : ∃ d : Nat, f n = (d : Int) := ⟨(f n).toNat, by have := h.n_; omega⟩
  have hdn : dst tab st n = (d : Int) := by omega
  have hnx := dst_next hdn hmem
  have hdy : dst tab st y.toNat = f n + 1 := by
    by_cases hle : dst tab st y.toNat ≤ f n
    · have := h.near (dst tab st y.toNat).toNat y.toNat (by omega) (by omega)
      omega
    · omega
  have hny : n ≠ y.toNat := fun e => by have := h.n_; rw [e] at this; omega
  have hry : ∀ z ∈ row, z.toNat ≠ y.toNat := fun z hz e => by have := (h.c z hz).2; rw [e] at this; omega
  have hnn := h.n_
  have up : ∀ i, 0 ≤ f i → 0 ≤ (if i = y.toNat then f n + 1 else f i) := fun i hi => by split <;> omega
  have en : (if n = y.toNat then f n + 1 else f n) = f n := if_neg hny
  refine ⟨fun i hi => ?_, fun i hi => ?_, fun i hi => up i (h.b i hi), fun z hz => ?_, fun i hi hr hn z hz => ?_, fun z hz => ?_, up n h.n_, ?_, fun z hz => ?_, fun z hz => ?_⟩
  · by_cases e : i = y.toNat
    · subst e; rw [if_pos rfl]; exact ⟨hN, hdy.symm⟩
    · rw [if_neg e] at hi ⊢; exact h.a i hi
  · by_cases e : i = y.toNat
    · simp only [if_pos e] at hi; omega
    · simp only [if_neg e] at hi ⊢; exact h.m i hi
  · rcases List.mem_append.1 hz with h1 | h1
    · exact ⟨(h.c z h1).1, up _ (h.c z h1).2⟩
    · rw [List.mem_singleton] at h1
      subst h1
      exact ⟨h0, by simp only [if_true]; omega⟩
  · by_cases e : i = y.toNat
    · exact absurd (List.mem_append_right _ (List.mem_singleton.2 (by omega))) hr
    · simp only [if_neg e] at hi
      exact up _ (h.d i hi (fun hm => hr (List.mem_append_left _ hm)) hn z hz)
  · rw [take_snoc hj, List.mem_append, List.mem_singleton, hy] at hz
    rcases hz with h1 | rfl
    · exact up _ (h.e z h1)
    · simp only [if_true]; omega
  · rw [List.pairwise_append]
    refine ⟨h.srt.imp_of_mem fun {p q} hp hq hpq => ?_, List.pairwise_singleton .., fun p hp q hq => ?_⟩
    · simp only [if_neg (hry p hp), if_neg (hry q hq)]; exact hpq
    · rw [List.mem_singleton] at hq
      subst hq
      simp only [if_neg (hry p hp), if_true]
      exact h.up p hp
  · simp only [en]
    rcases List.mem_append.1 hz with h1 | h1
    · simp only [if_neg (hry z h1)]; exact h.lo z h1
    · rw [List.mem_singleton] at h1; subst h1; simp only [if_true]; omega
  · simp only [en]
    rcases List.mem_append.1 hz with h1 | h1
    · simp only [if_neg (hry z h1)]; exact h.up z h1
    · rw [List.mem_singleton] at h1; subst h1; simp only [if_true]; omega
theorem SO.final (h : SO tab N st f []) (i : Nat) : f i = dst tab st i := by
  have all : ∀ i, Rch tab st i → 0 ≤ f i := fun i hi => by
    induction hi with
    | base h1 => exact h.b _ h1
    | step _ hx ih => exact h.d _ ih (by simp) _ hx
  by_cases hi : 0 ≤ f i
  · exact (h.a i hi).2
  · have h1 := h.m i (by omega)
    have h2 := dst_ge tab st i
    have h3 : ¬ 0 ≤ dst tab st i := fun h4 => hi (all i (dst_rch.1 h4))
    omega
end
end Go.M2

namespace Go.M2
open Go.Proofs
variable {M : MH}
end Go.M2

namespace Go.M2
open Go.Proofs
variable {M : MH}
theorem Mem.snoc1 {M0 M : MH} {b : Nat} {l : List V} {fp : List (Nat × List V)} (h : Mem M0 M fp) (hb : M0 b = none) (hm : M b = .some l) (hn : ∀ p ∈ fp, p.1 ≠ b) : Mem M0 M (fp ++ [(b, l)]) := by
  refine ⟨h.sub, fun p hp => ?_, ?_, fun p hp => ?_⟩
  · rcases List.mem_append.1 hp with h1 | h1
    · exact h.new p h1
    · rw [List.mem_singleton] at h1; subst h1; exact hb
  · unfold Nd2
    rw [List.map_append, List.nodup_append]
    refine ⟨h.nd, by simp, fun a ha c hc e => ?_⟩
    obtain ⟨p, hp, rfl⟩ := List.mem_map.1 ha
    simp at hc
    exact hn p hp (by rw [e, hc])
  · rcases List.mem_append.1 hp with h1 | h1
    · exact h.at_ p h1
    · rw [List.mem_singleton] at h1; subst h1; exact hm
structure PT (M M' : MH) (b3 N : Nat) (us : List V) (mm : Nat → Int → Prop) (bd : Nat) : Prop where
  at3 : M' b3 = .some us
  len : us.length = N
  sub : Sub M M'
  new : M b3 = none
  rows : ∀ (k : Nat) (u : V), us[k]? = .some u → blkV u ≠ some b3 ∧ ∃ ys : List Int, Gr 1 M M' u (ys.map vi) ∧ ys.length ≤ bd ∧ ∀ x, x ∈ ys ↔ mm k x
  dis : ∀ (k k' : Nat) (u u' : V), us[k]? = .some u → us[k']? = .some u' → k ≠ k' → ∀ b, blkV u = .some b → blkV u' ≠ some b
theorem PT.push {M1 M2 : MH} {b3 N k0 : Nat} {us : List V} {mm mm' : Nat → Int → Prop} {bd : Nat} {u s' : V} {ys : List Int} {x : Int} (h : PT M M1 b3 N us mm bd) (hu : us[k0]? = .some u) (hys : ys.length ≤ bd) (hym : ∀ z, z ∈ ys ↔ mm k0 z)
    (hg : Gr 1 M M2 s' ((ys ++ [x]).map vi)) (ho : Oth M1 M2 u s') (h0 : ∀ z, mm' k0 z ↔ (mm k0 z ∨ z = x)) (h1 : ∀ k z, k ≠ k0 → (mm' k z ↔ mm k z)) :
    PT M (M2.set b3 (us.set k0 s')) b3 N (us.set k0 s') mm' (bd + 1) := by
  obtain ⟨o1, o2⟩ := ho b3 us h.at3 (h.rows k0 u hu).1
  have hk0 : k0 < us.length := (List.getElem?_eq_some_iff.1 hu).1
  refine ⟨set_same, by rw [List.length_set]; exact h.len, hg.sub.set h.new, h.new, fun k w hw => ?_, fun k k' w w' hw hw' hk => ?_⟩
  · by_cases e : k = k0
    · subst e
      rw [List.getElem?_set_self hk0] at hw
      cases hw
      refine ⟨o2, ys ++ [x], hg.setN h.new o2, by simp; omega, fun z => ?_⟩
      rw [List.mem_append, List.mem_singleton, hym, h0]
    · rw [List.getElem?_set_ne (fun e' => e e'.symm)] at hw
      obtain ⟨q1, zs, q2, q3, q4⟩ := h.rows k w hw
      obtain ⟨r1, r2⟩ := q2.oth (sz' := 1) ho (h.dis k k0 w u hw hu e) hg.sub
      exact ⟨q1, zs, r1.setN h.new q1, by omega, fun z => by rw [q4, h1 k z e]⟩
  · have key : ∀ (j : Nat) (v : V), us[j]? = .some v → j ≠ k0 → (∀ b, blkV v = .some b → blkV s' ≠ some b) := fun j v hv hj => by
      obtain ⟨q1, zs, q2, q3, q4⟩ := h.rows j v hv
      exact (q2.oth (sz' := 1) ho (h.dis j k0 v u hv hu hj) hg.sub).2
    by_cases e : k = k0
    · subst e
      rw [List.getElem?_set_self hk0] at hw
      cases hw
      rw [List.getElem?_set_ne (fun e' => hk e')] at hw'
      intro b hb hb'
      exact key k' w' hw' (fun e' => hk e'.symm) b hb' hb
    · rw [List.getElem?_set_ne (fun e' => e e'.symm)] at hw
      by_cases e2 : k' = k0
      · subst e2
        rw [List.getElem?_set_self hk0] at hw'
        cases hw'
        exact key k w hw e
      · rw [List.getElem?_set_ne (fun e' => e2 e'.symm)] at hw'
        exact h.dis k k' w w' hw hw' hk
theorem PT.tree {M1 : MH} {b3 N : Nat} {us : List V} {mm : Nat → Int → Prop} {bd : Nat} (h : PT M M1 b3 N us mm bd) : ∀ i, i ≤ N → ∃ us' fp tab', Tr (us.take i) us' fp ∧ Mem M M1 fp ∧ flatL (us.take i) ∧ (∀ q ∈ fp, flatL q.2) ∧ (∀ p ∈ fp, ∃ k u, k < i ∧ us[k]? = .some u ∧ blkV u = .some p.1) ∧ tab'.length = i ∧ Cs isL us' tab' ∧ ∀ k (hk : k < tab'.length), tab'[k].length ≤ bd ∧ ∀ x, x ∈ tab'[k] ↔ mm k x
  | 0, _ => ⟨[], [], [], .nil, .nil h.sub, by simp [flatL], fun q hq => (by cases hq), fun q hq => (by cases hq), rfl, .nil, fun k hk => (by simp at hk)⟩
  | i + 1, hi => by
    obtain ⟨us', fp, tab', t1, t2, t3, t4, t5, t6, t7, t8⟩ := PT.tree h i (by omega)
    have hiu : i < us.length := by rw [h.len]; omega
    obtain ⟨q1, ys, q2, q3, q4⟩ := h.rows i us[i] (List.getElem?_eq_getElem hiu)
    have hfl : flatL (us.take (i + 1)) := by
      rw [take_one hiu]
      exact flatL_all.2 fun w hw => by
        rcases List.mem_append.1 hw with h1 | h1
        · exact flatL_all.1 t3 w h1
        · rw [List.mem_singleton] at h1; subst h1; exact q2.own.flat
    have props : ∀ k (hk : k < (tab' ++ [ys]).length), (tab' ++ [ys])[k].length ≤ bd ∧ ∀ x, x ∈ (tab' ++ [ys])[k] ↔ mm k x := fun k hk => by
      by_cases e : k < tab'.length
      · rw [List.getElem_append_left e]; exact t8 k e
      · have hk2 : k = i := by simp at hk; omega
        subst hk2
        have hkt : tab'.length = k := t6
        simp only [List.getElem_append_right (show tab'.length ≤ k by omega), hkt, Nat.sub_self, List.getElem_cons_zero]
        exact ⟨q3, q4⟩
    have old : ∀ p ∈ fp, ∃ k u, k < i + 1 ∧ us[k]? = .some u ∧ blkV u = .some p.1 := fun p hp => by
      obtain ⟨k, u, h1, h2, h3⟩ := t5 p hp
      exact ⟨k, u, by omega, h2, h3⟩
    rcases q2.own with ⟨hy, kk, hu⟩ | ⟨b, n, ex, hu, hm, hl⟩
    · have hy0 : ys = [] := by simpa using hy
      refine ⟨us' ++ [us[i]], fp ++ [], tab' ++ [ys], ?_, by rw [List.append_nil]; exact t2, hfl, by rw [List.append_nil]; exact t4, by rw [List.append_nil]; exact old, by simp [t6], t7.snoc ?_, props⟩
      · rw [take_one hiu]; exact t1.append (.keep _ .nil)
      · rw [hu, hy0]; exact .inl ⟨rfl, kk, rfl⟩
    · have hne : ∀ p ∈ fp, p.1 ≠ b := fun p hp e => by
        obtain ⟨k, u, h1, h2, h3⟩ := t5 p hp
        exact h.dis k i u us[i] h2 (List.getElem?_eq_getElem hiu) (by omega) p.1 h3 (by rw [hu, e]; rfl)
      refine ⟨us' ++ [.fs (some (b, 0)) n n ex 1 ((ys.map vi).drop 0)], fp ++ ((b, ys.map vi) :: ([] ++ [])), tab' ++ [ys], ?_, by simpa using t2.snoc1 (q2.new b (by rw [hu]; rfl)) hm hne, hfl, fun q hq => ?_, fun p hp => ?_, by simp [t6], t7.snoc ?_, props⟩
      · rw [take_one hiu, hu]; exact t1.append (.sl (.refl _) .nil)
      · rcases List.mem_append.1 hq with h1 | h1
        · exact t4 q h1
        · simp at h1; subst h1; exact flatL_vi ys
      · rcases List.mem_append.1 hp with h1 | h1
        · exact old p h1
        · simp at h1; subst h1
          exact ⟨i, us[i], by omega, List.getElem?_eq_getElem hiu, by rw [hu]; rfl⟩
      · exact Fr.li (.inr ⟨_, _, _, _, _, by rw [List.drop_zero], by simpa using hl⟩)
end Go.M2

namespace Go.M2
open Go.Proofs
variable {M : MH}
theorem PT.conv {M1 : MH} {b3 N : Nat} {us : List V} {mm mm' : Nat → Int → Prop} {bd bd' : Nat} (h : PT M M1 b3 N us mm bd) (hb : bd ≤ bd') (hm : ∀ k z, mm' k z ↔ mm k z) : PT M M1 b3 N us mm' bd' :=
  ⟨h.at3, h.len, h.sub, h.new, fun k u hu => by
    obtain ⟨q1, ys, q2, q3, q4⟩ := h.rows k u hu
    exact ⟨q1, ys, q2, by omega, fun x => by rw [q4, hm]⟩, h.dis⟩
end Go.M2

namespace Go.M2
open Go.Proofs
variable {M : MH}
end Go.M2

namespace Go.M2
open Go.Proofs
variable {M : MH}
theorem Gr.out {M0 Mb M Mr : MH} {v : V} {us : List V} {fp g : List (Nat × List V)} (h : Gr 1 Mb M v us) (hm : Mem M0 Mb fp) (k : Mem M Mr g) : ∃ Mb', Gr 1 Mb' Mr v us ∧ Mem M0 Mb' (fp ++ g) := by
  have key : Sub Mb (fun i => if blkV v = .some i then none else Mr i) := fun i l hi => by
    have hne : blkV v ≠ some i := fun e => by rw [h.new i e] at hi; cases hi
    simp only [hne, if_false]; exact k.sub _ _ (h.sub _ _ hi)
  refine ⟨fun i => if blkV v = .some i then none else Mr i, ⟨fun i l hi => ?_, fun b hb => by simp [hb], h.own.sub k.sub⟩, hm.add ⟨key, fun p hp => h.sub.none (k.new p hp), k.nd, fun p hp => ?_⟩⟩
  · have hi : (if blkV v = .some i then none else Mr i) = .some l := hi
    split at hi
    · cases hi
    · exact hi
  · have hne : blkV v ≠ some p.1 := fun e => by
      have h1 := k.new p hp
      rcases h.own with ⟨rfl, q, rfl⟩ | ⟨b', n, ex, rfl, h2, _⟩
      · simp [blkV] at e
      · simp [blkV] at e; subst e; rw [h1] at h2; cases h2
    simp only [hne, if_false]; exact k.at_ p hp
def RT (M0 M : MH) (v : V) (rows : List (List Int)) : Prop :=
  ∃ us us' fp Mb, Gr 1 Mb M v us ∧ Mem M0 Mb fp ∧ Tr us us' fp ∧ flatL us ∧ (∀ q ∈ fp, flatL q.2) ∧ us.all oneV = true ∧ Cs isL us' rows
section
variable {M0 M1 M2 : MH} {v u : V} {rows : List (List Int)} {ys : List Int}
theorem RT.sub (h : RT M0 M1 v rows) : Sub M0 M1 := by
  obtain ⟨us, us', fp, Mb, hg, hm, _⟩ := h
  exact hm.sub.trans hg.sub
theorem RT.nil {k : Nat} (h : Sub M0 M1) : RT M0 M1 (.sc (.sl none 0 0 true k)) [] := ⟨[], [], [], M1, .nil (Sub.refl _), .nil h, .nil, by simp [flatL], fun q hq => (by cases hq), rfl, .nil⟩
theorem RT.len (h : RT M0 M1 v rows) : lenF (er v) = .some (.int .i64 (rows.length : Int)) := by
  obtain ⟨us, us', fp, Mb, hg, hm, ht, _, _, _, hc⟩ := h
  rw [hg.len1, ← hc.1, ht.len]
theorem RT.one (h : RT M0 M1 v rows) : One v := by
  obtain ⟨us, us', fp, Mb, hg, _⟩ := h
  exact hg.one
theorem RT.more (h : RT M0 M1 v rows) (hs : Sub M1 M2) : RT M0 M2 v rows := by
  obtain ⟨us, us', fp, Mb, hg, hm, h⟩ := h
  obtain ⟨Mb', g1, m1⟩ := hg.out hm (Mem.nil hs)
  rw [List.append_nil] at m1
  exact ⟨us, us', fp, Mb', g1, m1, h⟩
theorem RT.base {Mz : MH} (h : RT M0 M1 v rows) (hs : Sub Mz M0) : RT Mz M1 v rows := by
  obtain ⟨us, us', fp, Mb, hg, hm, h⟩ := h
  exact ⟨us, us', fp, Mb, hg, hm.base hs, h⟩
theorem RT.tree (h : RT M0 M1 v rows) : ∃ v' fp, Tr [v] [v'] fp ∧ Mem M0 M1 fp ∧ flat v ∧ (∀ q ∈ fp, flatL q.2) ∧ LII v' rows := by
  obtain ⟨us, us', fp, Mb, hg, hm, ht, hf, hff, _, hc⟩ := h
  rcases hg.own with ⟨rfl, k, rfl⟩ | ⟨b, n, ex, rfl, hb, hl⟩
  · cases ht
    have : rows = [] := List.eq_nil_of_length_eq_zero hc.1.symm
    subst this
    exact ⟨_, [], .refl _, .nil (hm.sub.trans hg.sub), by simp [flat], fun q hq => (by cases hq), .nil⟩
  · have hnew : Mb b = none := hg.new b rfl
    refine ⟨.fs (some (b, 0)) n n ex 1 (us'.drop 0), (b, us) :: (fp ++ []), .sl ht .nil, ?_, by simp [flat], fun q hq => ?_, ?_⟩
    · have k : Mem Mb M1 [(b, us)] := ⟨hg.sub, fun p hp => by simp at hp; subst hp; exact hnew, by simp [Nd2], fun p hp => by simp at hp; subst hp; exact hb⟩
      rw [List.append_nil]
      exact (hm.add k).perm List.perm_append_comm
    · simp only [List.append_nil, List.mem_cons] at hq
      rcases hq with rfl | h1
      · exact hf
      · exact hff q h1
    · have := ht.len
      exact Fr.lsC (us := us') (.inr ⟨_, _, _, _, _, by rw [List.drop_zero], by omega⟩) hc
theorem RT.dn (h : RT M0 M1 v rows) : Dn M0 M1 v (fun u => LII u rows) := h.tree
theorem RT.row (h : RT M0 M1 v rows) {i : Nat} (hi : i < rows.length) : ∃ (us : List V) (u u' : V) (g : List (Nat × List V)), (∀ {k : IntKind} {a : Int}, 0 ≤ a → a < (rows.length : Int) → iaddrV 1 v (.int k a) = .some (.sc (.ptr (some (oB v, a.toNat))))) ∧ M1 (oB v) = .some us ∧ us[i]? = .some u ∧ One u ∧ Tr [u] [u'] g ∧ Nd2 g ∧ (∀ p ∈ g, M1 p.1 = .some p.2) ∧ (∀ p ∈ g, M0 p.1 = none) ∧ LI u' rows[i] := by
  obtain ⟨us, us', fp, Mb, hg, hm, ht, hf, hff, ho, hc⟩ := h
  have hul : us.length = rows.length := by rw [← ht.len]; exact hc.1
  have hiu : i < us.length := by omega
  have hsp : us = us.take i ++ (us[i] :: us.drop (i + 1)) := by rw [← List.drop_eq_getElem_cons hiu, List.take_append_drop]
  rw [hsp] at ht
  obtain ⟨a', b', f1, f2, rfl, rfl, t1, t2⟩ := Tr.split (a := us.take i) (b := us[i] :: us.drop (i + 1)) (b' := []) ht
  obtain ⟨x', r', g1, g2, rfl, rfl, t3, t4⟩ := t2.uncons
  have hal : a'.length = i := by rw [t1.len, List.length_take]; omega
  have hmg : Mem M0 Mb g1 := hm.right.left
  have h4 := hc.2 i hi
  rw [List.getElem?_append_right (by omega), hal, Nat.sub_self] at h4
  obtain ⟨w, h5, h6⟩ := h4
  simp only [List.getElem?_cons_zero, Option.some.injEq] at h5
  subst h5
  have o1 := List.all_eq_true.1 ho _ (List.getElem_mem hiu)
  have fl := flatL_all.1 hf _ (List.getElem_mem hiu)
  refine ⟨us, us[i], x', g1, fun h0 h1 => hg.own.iaddr h0 (by rw [hul]; exact h1), hg.at (by omega), List.getElem?_eq_getElem hiu, ⟨o1, ?_⟩, t3, hmg.nd, fun p hp => hg.sub _ _ (hmg.at_ p hp), hmg.new, h6⟩
  rcases t3.inv1 with ⟨h1, h2⟩ | ⟨b, o, n, c, ex, k, cs, cs', g, h0, _⟩ | ⟨a, a', _, h0⟩ | ⟨a, a', _, h0⟩
  · simp only [List.cons.injEq, and_true] at h1
    rw [← h1]; exact h6.one.2
  · rw [h0]; rfl
  · rw [h0] at o1; exact absurd o1 (by simp [oneV, er, oneA])
  · rw [h0] at o1; exact absurd o1 (by simp [oneV, er, oneA])
theorem RT.snoc {s' : V} {M' : MH} {us us' : List V} {fp g : List (Nat × List V)} {u' : V} {Mb' : MH} (h1 : Gr 1 Mb' M' s' (us ++ [u])) (m1 : Mem M0 Mb' (fp ++ g)) (ht : Tr us us' fp) (htu : Tr [u] [u'] g) (hf : flatL us) (hfu : flat u) (hff : ∀ q ∈ fp, flatL q.2) (hfg : ∀ q ∈ g, flatL q.2)
    (ho : us.all oneV = true) (hou : oneV u = true) (hc : Cs isL us' rows) (hu : LI u' ys) : RT M0 M' s' (rows ++ [ys]) := by
  refine ⟨us ++ [u], us' ++ [u'], fp ++ g, Mb', h1, m1, ht.append htu, ?_, ?_, by simp [ho, hou], hc.snoc (x := ys) hu⟩
  · exact flatL_all.2 fun w hw => by
      rcases List.mem_append.1 hw with h2 | h2
      · exact flatL_all.1 hf w h2
      · rw [List.mem_singleton] at h2; subst h2; exact hfu
  · intro w hw
    rcases List.mem_append.1 hw with h2 | h2
    · exact hff w h2
    · exact hfg w h2
end
end Go.M2

namespace Go.M2
open Go.Proofs
variable {M : MH}
end Go.M2

namespace Go.M2
open Go.Proofs
variable {M : MH}
end Go.M2

namespace Go.M2
open Go.Proofs
variable {M : MH}
theorem Tr.one1 {u u' : V} {g : List (Nat × List V)} (h : Tr [u] [u'] g) (h' : One u') : One u := by
  obtain ⟨h1, h2⟩ := h'
  rcases h.inv1 with ⟨h3, _⟩ | ⟨b, o, n, c, ex, k, cs, cs', g, rfl, _⟩ | ⟨a, a', h3, _⟩ | ⟨a, a', h3, _⟩
  · simp only [List.cons.injEq, and_true] at h3
    rw [← h3]; exact ⟨h1, h2⟩
  · exact ⟨rfl, rfl⟩
  · simp only [List.cons.injEq, and_true] at h3
    rw [h3] at h1; exact absurd h1 (by simp [oneV, er, oneA])
  · simp only [List.cons.injEq, and_true] at h3
    rw [h3] at h1; exact absurd h1 (by simp [oneV, er, oneA])
def RdI (M : MH) (v : V) (xs : List Int) : Prop := ∃ v' g, Tr [v] [v'] g ∧ Nd2 g ∧ (∀ p ∈ g, M p.1 = .some p.2) ∧ LI v' xs
theorem RdI.of {v : V} {xs : List Int} (h : LI v xs) : RdI M v xs := ⟨v, [], .refl _, List.nodup_nil, fun p hp => (by cases hp), h⟩
theorem RdI.more {M' : MH} {v : V} {xs : List Int} (h : RdI M v xs) (hs : Sub M M') : RdI M' v xs := by
  obtain ⟨v', g, h1, h2, h3, h4⟩ := h
  exact ⟨v', g, h1, h2, fun p hp => hs _ _ (h3 p hp), h4⟩
theorem RdI.one {v : V} {xs : List Int} (h : RdI M v xs) : One v := by
  obtain ⟨v', g, h1, h2, h3, h4⟩ := h
  exact h1.one1 h4.one
theorem Dn.rdI {M0 : MH} {v : V} {xs : List Int} (h : Dn M0 M v (fun u => LI u xs)) : RdI M v xs := by
  obtain ⟨v', g, h1, h2, h3, h4, h5⟩ := h
  exact ⟨v', g, h1, h2.nd, h2.at_, h5⟩
theorem RdI.len {v : V} {xs : List Int} (h : RdI M v xs) : lenF (er v) = .some (.int .i64 (xs.length : Int)) := by
  obtain ⟨v', g, h1, h2, h3, h4⟩ := h
  have hl := h4.len
  rcases h1.inv1 with ⟨h5, _⟩ | ⟨b, o, n, c, ex, k, cs, cs', g, rfl, h5, _⟩ | ⟨a, a', h5, rfl⟩ | ⟨a, a', h5, rfl⟩
  · simp only [List.cons.injEq, and_true] at h5
    rw [← h5]; exact hl
  · simp only [List.cons.injEq, and_true] at h5
    rw [h5] at hl; exact hl
  · simp only [List.cons.injEq, and_true] at h5
    rw [h5] at hl; simp [er, lenF] at hl
  · simp only [List.cons.injEq, and_true] at h5
    rw [h5] at hl; simp [er, lenF] at hl
theorem RT.rdI {M0 M1 : MH} {v u : V} {us : List V} {rows : List (List Int)} (h : RT M0 M1 v rows) {i : Nat} (hi : i < rows.length) (hm : M1 (oB v) = .some us) (hu : us[i]? = .some u) : RdI M1 u rows[i] := by
  obtain ⟨us2, u2, u', g, _, h1, h2, _, h3, h4, h5, _, h6⟩ := h.row hi
  rw [hm] at h1; cases h1
  rw [hu] at h2; cases h2
  exact ⟨u', g, h3, h4, h5, h6⟩
theorem RT.cell {M0 M1 : MH} {v : V} {rows : List (List Int)} (h : RT M0 M1 v rows) (hl : 0 < rows.length) : ∃ us : List V, M1 (oB v) = .some us ∧ us.length = rows.length ∧ ∀ i (h : i < rows.length), ∃ u, us[i]? = .some u ∧ RdI M1 u rows[i] := by
  have h0 := h
  obtain ⟨us, us', fp, Mb, hg, hm, ht, hf, hff, ho, hc⟩ := h0
  have hul : us.length = rows.length := by rw [← ht.len]; exact hc.1
  have hat : M1 (oB v) = .some us := hg.at (by omega)
  exact ⟨us, hat, hul, fun i hi => ⟨us[i]'(by omega), List.getElem?_eq_getElem (by omega), h.rdI hi hat (List.getElem?_eq_getElem (by omega))⟩⟩
theorem RT.iaddr {M0 M1 : MH} {v : V} {rows : List (List Int)} (h : RT M0 M1 v rows) {k : IntKind} {a : Int} (h0 : 0 ≤ a) (h1 : a < (rows.length : Int)) : iaddrV 1 v (.int k a) = .some (.sc (.ptr (some (oB v, a.toNat)))) := by
  obtain ⟨us, us', fp, Mb, hg, hm, ht, hf, hff, ho, hc⟩ := h
  have hul : us.length = rows.length := by rw [← ht.len]; exact hc.1
  exact hg.own.iaddr h0 (by rw [hul]; exact h1)
end Go.M2

namespace Go.M2
open Go.Proofs
variable {M : MH}
end Go.M2

namespace Go.M2
open Go.Proofs
variable {M : MH}
theorem t_wcInts {v w : V} {xs ys : List Int} (hv : LI v xs) (hw : LI w ys) (hl : xs.length ≤ 1048576) : VCall Tryd.prog n_laws_wcInts [v, w] M (fun r M' => M = M' ∧ r = .sc (.bool (decide (xs = ys)))) := by
  refine VCall.pure fun R hR => v_laws_wcInts rfl ?_
  refine sS2 @hv.len @hw.len ?_
  refine cond_dec (fun h => ?_) (fun h => ?_)
  · refine sS0 ?_
    refine hR _ _ (Sub.refl _) (by rw [decide_eq_false]; intro e; rw [e] at h; exact h rfl)
  · have hlen : xs.length = ys.length := by omega
    refine sS1 @hv.len ?_
    refine loop_k (fun e M' => M' = M ∧ ∃ i : Nat, i ≤ xs.length ∧ e 1 = w ∧ e 12 = v ∧ e 13 = .sc (.int .i64 xs.length) ∧ e 14 = .sc (.int .i64 (i : Int)) ∧ ∀ j (h1 : j < xs.length) (h2 : j < ys.length), j < i → xs[j] = ys[j]) (fun e _ => ctrV xs.length (e 14)) ?_ ?_
    · exact ⟨rfl, 0, by omega, sE0, sE0, sE0, sE0, fun j _ _ h => by omega⟩
    · rintro e _ ⟨rfl, i, hi, q1, q12, q13, q14, hj⟩ K hK
      refine sS4 @q1 @q12 @q13 @q14 ?_
      refine cond_dec (fun h2 => ?_) (fun h2 => ?_)
      · have hi' : i < xs.length := by omega
        have hi2 : i < ys.length := by omega
        simp (maxSteps := 2000000) (disch := first | omega | assumption | exact idP rfl | exact idP (bL rfl)) only [go_sem, reduceIte, Nat.reduceEqDiff, wpV_kd, wpV_tH, q1, q12, q13, q14, hv.iaddr, hv.at hi', hw.iaddr, hw.at hi2]
        refine cond_dec (fun h3 => ?_) (fun h3 => ?_)
        · refine sS0 ?_
          refine hR _ _ (Sub.refl _) (by rw [decide_eq_false]; intro e; subst e; exact h3 rfl)
        · refine sS4 @q1 @q12 @q13 @q14 ?_
          refine hK _ _ ⟨rfl, i + 1, by omega, sE0, sE0, sE0, sE0, fun j h4 h5 h6 => ?_⟩ (by refine sS2 @ctrV_int @q14 ?_; omega)
          by_cases e : j = i
          · subst e; omega
          · exact hj j h4 h5 (by omega)
      · refine sS0 ?_
        refine hR _ _ (Sub.refl _) (by rw [decide_eq_true]; exact List.ext_getElem hlen fun j h4 h5 => hj j h4 h5 (by omega))
end Go.M2

namespace Go.M2
open Go.Proofs
variable {M : MH}
inductive Bk (tab : List (List Int)) (st : Nat → Prop) : Nat → Prop
  | base {i : Nat} : st i → Bk tab st i
  | step {i : Nat} {x : Int} : x ∈ tab.getD i [] → Bk tab st x.toNat → Bk tab st i
section
variable {tab tab' : List (List Int)} {st : Nat → Prop} {i : Nat}
theorem Rch.trans {a b c : Nat} (h1 : Rch tab (fun i => i = a) b) (h2 : Rch tab (fun i => i = b) c) : Rch tab (fun i => i = a) c := by
  induction h2 with
  | base h => rw [h]; exact h1
  | step _ hx ih => exact .step ih hx
end
end Go.M2

namespace Go.M2
open Go.Proofs
variable {M : MH}
theorem Rch.none {tab : List (List Int)} {st : Nat → Prop} (h : ∀ i, ¬ st i) {i : Nat} : ¬ Rch tab st i := fun hr => by
  induction hr with
  | base h1 => exact h _ h1
  | step _ _ ih => exact ih
end Go.M2

namespace Go.M2
open Go.Proofs
variable {M : MH}
theorem alF_ok {g : GrS} {f : Int} (h : 0 < (alF g f).length) : GrOk g f ∧ alF g f = clsF g ∧ (clsF g).length = g.letters.length := by
  unfold alF at h ⊢
  split at h
  · rename_i hg
    have hG := grB_iff.1 hg
    rw [if_pos hg]
    exact ⟨hG, rfl, (clsF_cls hG.al).len⟩
  · simp at h
theorem law_CanFollow {v : V} {xs : List Int} (hv : XU v xs) (hx : LenOk xs) (hc : CapOk v) :
    VCall Tryd.prog n_laws_FnCanFollow [v] M (fun r M' => M = M' ∧ r = .sc (.bool true)) := by
  refine VCall.pure fun R hR => v_laws_FnCanFollow rfl ?_
  unfold LenOk at hx
  have hlen := hv.len fun _ _ h => h.len
  (repeat' (first | ((with_reducible first | refine cond_dec (fun h => ?_) (fun h => ?_) | refine guardK_dec (fun h => ?_) (fun h => ?_) | refine guardD3_dec (fun h => ?_) (fun h => ?_)) <;> first | (exfalso; omega) | (simp (maxSteps := 2000000) (disch := first | omega | assumption | exact idP rfl | exact idP (bL rfl)) only [go_sem, reduceIte, Nat.reduceEqDiff, wpV_kd, wpV_tH, h, hlen]) | skip) | ((with_reducible first | refine cond_split (fun h => ?_) (fun h => ?_) | refine guardK_split (fun h => ?_) (fun h => ?_) | refine guardD3_split (fun h => ?_) (fun h => ?_)) <;> ((try simp only [Bool.not_eq_true', Bool.not_eq_false'] at h); first | (simp (maxSteps := 2000000) (disch := first | omega | assumption | exact idP rfl | exact idP (bL rfl)) only [go_sem, reduceIte, Nat.reduceEqDiff, wpV_kd, wpV_tH, h, hlen]) | skip)) | (with_reducible intro bk hbk; try have hnk := (fresh_set hbk).1) | (simp (maxSteps := 2000000) (disch := first | omega | assumption | exact idP rfl | exact idP (bL rfl)) only [go_sem, reduceIte, Nat.reduceEqDiff, wpV_kd, wpV_tH, hlen])))
  · exact hR _ _ (sB) rfl
  · refine (t_DrawCanFollow hv hc (by omega)).mono ?_
    rintro _ _ ⟨rfl, gv, g, f, a, b, rfl, hg, hnn, hd, hb⟩
    have hz := hd.sz (by omega)
    have hg0 := hg
    obtain ⟨x, y, rfl, hgx, hgy⟩ := hg
    have o1 := hgx.one.1
    have o2 := hgx.one.2
    have o3 := hgy.one.1
    have o4 := hgy.one.2
    refine sS4 @o1 @o2 @o3 @o4 ?_
    intro b3 hb3
    have hs3 : Sub M (M.set b3 [x, V.sc (AV.int IntKind.i64 g.first), y]) := (Sub.refl _).set' hb3
    have m3 : (M.set b3 [x, V.sc (AV.int IntKind.i64 g.first), y]) b3 = .some [x, V.sc (AV.int IntKind.i64 g.first), y] := set_same
    generalize M.set b3 [x, V.sc (AV.int IntKind.i64 g.first), y] = M3 at *
    refine (t_impCanFollow hg0 hz).mono ?_
    rintro _ _ ⟨rfl, rfl⟩
    refine sS1 @m3 ?_
    refine (VCall.frT (o_impAlikeIn hg0 hz)).mono ?_
    rintro cl _ ⟨rfl, hcl⟩
    have hal := alF_len (g := g) (f := f)
    refine sS1 @m3 ?_
    refine (t_specCanFollow hg0 hz).mono ?_
    rintro _ _ ⟨rfl, rfl⟩
    have hbb : ∀ q : Bool, (!(q == q)) = false := fun q => by simp
    refine sS2 @hbb @m3 ?_
    refine (t_specAlikeIn hg0 hz).mono ?_
    rintro c2 _ ⟨rfl, hc2⟩
    refine sS2 @hbb @m3 ?_
    refine (t_wcInts hcl hc2 hal).mono ?_
    rintro _ _ ⟨rfl, rfl⟩
    have hdd : decide (alF g f = alF g f) = true := decide_eq_true rfl
    by_cases hin : 0 < (alF g f).length ∧ 0 ≤ a ∧ a < ((alF g f).length : Int)
    · obtain ⟨h0, a0, a1⟩ := hin
      obtain ⟨hG, hae, hcn⟩ := alF_ok h0
      have hnn1 : g.next.length = g.letters.length := hG.al.nx.len
      have hn0 := hG.n0
      rw [hae] at hcl a1 hal hdd
      have d1 : decide (((clsF g).length : Int) = 0) = false := decide_eq_false (by omega)
      have d2 : decide (a < 0) = false := decide_eq_false (by omega)
      have d3 : decide (((clsF g).length : Int) ≤ a) = false := decide_eq_false (by omega)
      refine sS5 @hdd @hcl.len @d1 @d2 @d3 ?_
      refine loop_k (fun e M' => M3 = M' ∧ ∃ i : Nat, i ≤ (clsF g).length ∧ e 3 = .sc (.ptr (some (b3, 0))) ∧ e 4 = .sc (.int .i64 f) ∧ e 5 = .sc (.int .i64 a) ∧ e 6 = .sc (.int .i64 b) ∧ e 7 = .sc (.bool (canB g f a b)) ∧ e 8 = cl ∧ e 59 = .sc (.int .i64 (clsF g).length) ∧ e 60 = .sc (.int .i64 i)) (fun e _ => ctrV (clsF g).length (e 60)) ?_ ?_
      · exact ⟨rfl, 0, by omega, sT0, sT0, sT0, sT0, sT0, sT0, sT0, by refine sS0 ?_; rfl⟩
      · rintro e _ ⟨rfl, i, hi, e3, e4, e5, e6, e7, e8, e59, e60⟩ K hK
        refine sS2 @e59 @e60 ?_
        refine cond_dec (fun hc => ?_) (fun hc => ?_)
        · cases h1 : canB g f a b with
          | false =>
            refine sS9 @e3 @e4 @e5 @e6 @e7 @e8 @e59 @e60 @h1 ?_
            exact hK _ _ ⟨rfl, i + 1, by omega, sT0, sT0, sT0, sT0, sT1 @h1, sT0, sT0, by refine sS0 ?_; rfl⟩ (by refine sS2 @ctrV_int @e60 ?_; omega)
          | true =>
            simp (maxSteps := 2000000) (disch := first | omega | assumption | exact idP rfl | exact idP (bL rfl)) only [go_sem, reduceIte, Nat.reduceEqDiff, wpV_kd, wpV_tH, e3, e4, e5, e6, e7, e8, e59, e60, h1, m3]
            refine (t_impCanFollow hg0 hz).mono ?_
            rintro _ _ ⟨rfl, rfl⟩
            cases h2 : canB g f b (i : Int) with
            | false =>
              refine sS8 @e3 @e4 @e5 @e6 @e7 @e8 @e59 @e60 ?_
              exact hK _ _ ⟨rfl, i + 1, by omega, sT0, sT0, sT0, sT0, sT1 @h1, sT0, sT0, by refine sS0 ?_; rfl⟩ (by refine sS2 @ctrV_int @e60 ?_; omega)
            | true =>
              refine sS9 @e3 @e4 @e5 @e6 @e7 @e8 @e59 @e60 @m3 ?_
              refine (t_impCanFollow hg0 hz).mono ?_
              rintro _ _ ⟨rfl, rfl⟩
              rw [canB_trans h1 h2]
              refine sS0 ?_
              exact hK _ _ ⟨rfl, i + 1, by omega, sT0, sT0, sT0, sT0, sT1 @h1, sT0, sT0, by refine sS0 ?_; rfl⟩ (by refine sS2 @ctrV_int @e60 ?_; omega)
        · have hab : CanOk g f a b := ⟨hG, by omega, by omega⟩
          have ha2 : a.toNat < (clsF g).length := by omega
          have hb2 : b.toNat < (clsF g).length := by omega
          have pa : iaddrV 1 cl (.int .i64 a) = _ := hcl.iaddr a0 (by omega)
          have pb : iaddrV 1 cl (.int .i64 b) = _ := hcl.iaddr hb.1 (by omega)
          have ga : (clsF g).getD a.toNat 0 = (clsF g)[a.toNat] := by simp [List.getD, ha2]
          have gb : (clsF g).getD b.toNat 0 = (clsF g)[b.toNat] := by simp [List.getD, hb2]
          by_cases hq : (clsF g)[a.toNat] = (clsF g)[b.toNat]
          · have h1 := canB_alike hab (by rw [ga, gb, hq])
            have h2 := canB_alike hab.symm (by rw [ga, gb, hq])
            have dq : decide (¬ (clsF g)[a.toNat] = (clsF g)[b.toNat]) = false := decide_eq_false (fun k => k hq)
            simp (maxSteps := 2000000) (disch := first | omega | assumption | exact idP rfl | exact idP (bL rfl)) only [go_sem, reduceIte, Nat.reduceEqDiff, wpV_kd, wpV_tH, e3, e4, e5, e6, e7, e8, pa, pb, hcl.at ha2, hcl.at hb2, dq, h1, m3]
            refine (t_impCanFollow hg0 hz).mono ?_
            rintro _ _ ⟨rfl, rfl⟩
            refine sS0 ?_
            exact hR _ _ hs3 (by rw [h2])
          · have dq : decide (¬ (clsF g)[a.toNat] = (clsF g)[b.toNat]) = true := decide_eq_true hq
            simp (maxSteps := 2000000) (disch := first | omega | assumption | exact idP rfl | exact idP (bL rfl)) only [go_sem, reduceIte, Nat.reduceEqDiff, wpV_kd, wpV_tH, e3, e4, e5, e6, e7, e8, pa, pb, hcl.at ha2, hcl.at hb2, dq]
            exact hR _ _ hs3 rfl
    · have hno : canB g f a b = false := canB_false fun k => hin (by
        have h1 : alF g f = clsF g := by unfold alF; rw [if_pos (grB_iff.2 k.ok)]
        have h2 := (clsF_cls k.ok.al).len
        have h3 := k.a0
        rw [h1, h2]; omega)
      rw [hno]
      (repeat' (first | ((with_reducible first | refine cond_dec (fun h => ?_) (fun h => ?_) | refine guardK_dec (fun h => ?_) (fun h => ?_) | refine guardD3_dec (fun h => ?_) (fun h => ?_)) <;> first | (exfalso; omega) | (simp (maxSteps := 2000000) (disch := first | omega | assumption | exact idP rfl | exact idP (bL rfl)) only [go_sem, reduceIte, Nat.reduceEqDiff, wpV_kd, wpV_tH, h, hdd, hcl.len]) | skip) | ((with_reducible first | refine cond_split (fun h => ?_) (fun h => ?_) | refine guardK_split (fun h => ?_) (fun h => ?_) | refine guardD3_split (fun h => ?_) (fun h => ?_)) <;> ((try simp only [Bool.not_eq_true', Bool.not_eq_false'] at h); first | (simp (maxSteps := 2000000) (disch := first | omega | assumption | exact idP rfl | exact idP (bL rfl)) only [go_sem, reduceIte, Nat.reduceEqDiff, wpV_kd, wpV_tH, h, hdd, hcl.len]) | skip)) | (with_reducible intro bk hbk; try have hnk := (fresh_set hbk).1) | (simp (maxSteps := 2000000) (disch := first | omega | assumption | exact idP rfl | exact idP (bL rfl)) only [go_sem, reduceIte, Nat.reduceEqDiff, wpV_kd, wpV_tH, hdd, hcl.len])))
      all_goals try (exact hR _ _ hs3 rfl)
end Go.M2

namespace Go.M2
open Go.Proofs
variable {H : Type} {enc : TypeId × Value → H} {W : World} {fuel : Nat} {x : DataW H × List MemPlace}
end Go.M2
namespace Go.Proofs.YtopnlohhfllcpaaDoor
open Go.ChangeShapes Go.WideShapes Go.ChangeAt Go.RowKit Go.M2
theorem own : ownKnob Tryd.prog.godebug = none := by kernel_rfl
theorem laidOut : laidOutB Tryd.prog = true := by kernel_rfl
def laidL : List (String × DataW Unit) := [("math/bits.deBruijn32tab", Rows.laid_math_bits_deBruijn32tab), ("math/bits.deBruijn64tab", Rows.laid_math_bits_deBruijn64tab), ("internal/strconv.uint64pow10", Rows.laid_internal_strconv_uint64pow10)]
set_option maxRecDepth 100000 in
theorem door_met (os : Os) (args : Array Value) : laidMetH Tryd.prog laidL ((World.doorLaid Tryd.prog 24 os).forCall (fun _ _ => 0) ⟨#[], args, []⟩).memory :=
  laidMetH_of_parts3 (fuel := 8) (laidMet_of_run' 8 (by kernel_rfl) (by kernel_rfl)) (by kernel_rfl) (by kernel_rfl)
theorem gTab : Tryd.prog.globalNamed "internal/strconv.uint64pow10" = .some 0 := by kernel_rfl
theorem gTabType : ∃ t, (Tryd.prog.globals[0]?).map (·.type) = .some t ∧ Tryd.prog.underlying t = .some (.array 20 99) ∧ Tryd.prog.cellsOf t = 20 := ⟨115, by kernel_rfl, by kernel_rfl, by kernel_rfl⟩
set_option maxRecDepth 100000 in
theorem tab_of_laid {W : World} (h : laidMetH Tryd.prog laidL W) : TabOk W := by
  rw [MakeChecks.laidMetH_plain _ _ _ (by kernel_rfl)] at h
  obtain ⟨ps, ⟨g0, t0, cs0, f0, p0, q0, hg0, ht0, hv0, hd0, ⟨g1, t1, cs1, f1, p1, q1, hg1, ht1, hv1, hd1, ⟨g2, t2, cs2, f2, p2, q2, hg2, ht2, hv2, hd2, _, _⟩, _⟩, _⟩, _, _⟩ := h
  obtain ⟨t, k1, k2, k3⟩ := gTabType
  obtain rfl := Option.some.inj (gTab.symm.trans hg2)
  obtain rfl := Option.some.inj (k1.symm.trans ht2)
  show Lib.TabIs Tryd.prog W "internal/strconv.uint64pow10" .u64 Lib.pow10Tab
  unfold Lib.TabIs
  rw [hv2, ← Lib.cells_of_tab (zs := Lib.pow10Tab) k2 Tryd.underlying99 (by kernel_rfl) k3 hd2]
end Go.Proofs.YtopnlohhfllcpaaDoor

namespace Go.M2
open Go.Proofs
open Go.ChangeShapes Go.WideShapes Go.ChangeAt Go.RowKit
variable {HH : Type} {enc : TypeId × Value → HH} {P : Program} {W : World} {t e : TypeId} {fuel : Nat} {cs : List Value} {x : DataW HH × List MemPlace}
theorem in_u8 (ht : P.underlying t = .some (.int .u8)) (h : DataW.trod enc P W 0 (fun _ => true) true fuel t cs = .some x) : ∃ n, LiftE W (E1 isU) n cs ∧ True := by
  obtain ⟨n, rfl, _, h3⟩ := DataW.trod_int ht h
  have h4 : IntKind.u8.min ≤ n ∧ n ≤ IntKind.u8.max := by simpa [Lit.wf] using h3
  have e1 : IntKind.u8.min = 0 := by decide
  have e2 : IntKind.u8.max = 255 := by decide
  exact ⟨n, ⟨[.sc (.int .u8 n)], rfl, by simp [okL, okV], _, rfl, rfl, by omega, by omega⟩, trivial⟩
theorem avC_cap {N : Nat} {u : V} {v : Value} (h : er u = avC N v) : CapOk u := by
  cases u <;> try trivial
  rename_i A n c ex k l
  simp only [er] at h
  unfold avC at h
  show n ≤ c
  split at h <;> try cases h
  · split at h
    · rename_i h1
      cases h
      exact h1.2.2
    · split at h <;> cases h
  · exact Nat.le_refl _
theorem up_bytes (ht : P.underlying t = .some (.slice e)) (he : P.underlying e = .some (.int .u8)) (hsz : P.cellsOf e = 1) {v : Value} (hv : ∀ a, v ≠ .agg a) (h : DataW.trod enc P W 0 (fun _ => true) true fuel t v.cells.toList = .some x) :
    ∃ ns : List Int, (∃ u, er u = avT W.heap.size v ∧ okV (heap0 W) u ∧ XU u ns ∧ CapOk u) ∧ ns.length ≤ 9223372036854775807 := by
  obtain ⟨ns, e, g, _⟩ := in_list1 (E := isU) (good := fun _ => True) ht hsz (fun n cs x h => in_u8 he h) h
  have hc : v.cells.toList = [v] := by
    cases v <;> first | rfl | exact absurd rfl (hv _)
  rw [hc] at e
  obtain ⟨u, p, q, r⟩ := e.one
  refine ⟨ns, ⟨u, ?_, q, r, avC_cap p⟩, g⟩
  rw [p]
  unfold avT
  split
  · rename_i a; exact absurd rfl (hv a)
  · rfl
end Go.M2
