/- Draws: expressions, values. -/
import Derived.Test.YtcoknnjffbipfaaUs4
import Derived.Test.YtcoknnjffbipfaaChecked
import Derived.Shelf.Sort.Plain
import Derived.Shelf.Slices.In.SortNone
set_option linter.unusedVariables false
set_option linter.unusedSimpArgs false
set_option maxRecDepth 10000
set_option maxHeartbeats 4000000
namespace Go.M2
open Go.Proofs
variable {M : MH}
theorem RS.set' {M0 M M' : MH} {rb : Nat} {w : V} {p q : Int} (h : RS M0 rb w M p) (e : M' = M.set rb (rdC w q)) : RS M0 rb w M' q := e ▸ h.set q
theorem Gr.rd' {M0 M M' : MH} {rb sz : Nat} {X Y l : List V} {s : V} (h : Gr sz (M0.set rb X) M s l) (e : M' = M.set rb Y) : Gr sz (M0.set rb Y) M' s l := e ▸ h.rd
theorem VCall.pureR {P : Program} {f : FuncId} {args : List V} {rb : Nat} {w : V} {q : V → Int → Prop} (h : ∀ R : V → MH → Prop, (∀ r M' p', Sub (M.set rb (rdC w p')) M' → q r p' → R r M') → VCall P f args M R) : VCall P f args M (fun r M' => ∃ p', M' = M.set rb (rdC w p') ∧ q r p') :=
  VCall.of fun R hR => h R fun r M' p' h1 h2 => hR r r M' _ _ h1 (.refl _ _) ⟨p', rfl, h2⟩
theorem t_l1Number {rb : Nat} {w : V} {code : List Int} {p : Int} (hr : Rdr w code) (hm : M rb = some (rdC w p)) (h0 : 0 ≤ p) (h1 : p ≤ 1000000) :
    VCall Try.prog n_spec_l1Number [.sc (.ptr (some (rb, 0)))] M (fun r M' => ∃ p', M' = M.set rb (rdC w p') ∧ p ≤ p' ∧ p' ≤ p + 6 ∧ ∃ k : Int, r = .sc (.int .i64 k) ∧ -10000 ≤ k ∧ k ≤ 10000) := by
  refine VCall.pureR fun R hR => v_spec_l1Number rfl ?_
  have rs0 := RS.start hm
  refine sS0 ?_
  refine (t_pick hr rs0.at_ (by omega) (by omega)).mono ?_
  rintro _ M1 ⟨e1, k1, rfl, a1, b1, _⟩
  have rs1 := rs0.set' e1
  refine sS0 ?_
  refine (t_pick hr rs1.at_ (by omega) (by omega)).mono ?_
  rintro _ M2 ⟨e2, k2, rfl, a2, b2, _⟩
  have rs2 := rs1.set' e2
  refine sS0 ?_
  refine (t_pick hr rs2.at_ (by omega) (by omega)).mono ?_
  rintro _ M3 ⟨e3, k3, rfl, a3, b3, _⟩
  have rs3 := rs2.set' e3
  have b1 := b1 (by omega)
  have b2 := b2 (by omega)
  have b3 := b3 (by omega)
  refine sS0 ?_
  refine (t_pick hr rs3.at_ (by omega) (by omega)).mono ?_
  rintro _ M4 ⟨e4, k4, rfl, a4, b4, _⟩
  have rs4 := rs3.set' e4
  have b4 := b4 (by omega)
  refine sS0 ?_
  intro bl hbl
  have hne := rs4.ne' hbl
  have rs5 := rs4.more ((Sub.refl M4).set' (l := [9999, -9999, 5000, 100].map vi) hbl)
  have ql : (M4.set bl ([9999, -9999, 5000, 100].map vi)) bl = some ([9999, -9999, 5000, 100].map vi) := set_same
  change VCall _ _ _ (M4.set bl ([9999, -9999, 5000, 100].map vi)) _
  refine (t_pick hr rs5.at_ (by omega) (by omega)).mono ?_
  rintro _ M5 ⟨e5, k5, rfl, a5, b5, _⟩
  have rs6 := rs5.set' e5
  have b5 := b5 (by omega)
  have ql5 : M5 bl = some ([9999, -9999, 5000, 100].map vi) := by rw [e5, set_ne (Ne.symm hne)]; exact ql
  obtain ⟨n, hn, n1, n2⟩ : ∃ n : Int, ([vi 9999, vi (-9999), vi 5000, vi 100] : List V)[k5.toNat]? = some (.sc (.int .i64 n)) ∧ -10000 ≤ n ∧ n ≤ 10000 := by
    have : k5 = 0 ∨ k5 = 1 ∨ k5 = 2 ∨ k5 = 3 := by omega
    rcases this with rfl | rfl | rfl | rfl
    · exact ⟨9999, rfl, by omega, by omega⟩
    · exact ⟨-9999, rfl, by omega, by omega⟩
    · exact ⟨5000, rfl, by omega, by omega⟩
    · exact ⟨100, rfl, by omega, by omega⟩
  refine sS2 @ql5 @hn ?_
  intro bn hbn
  refine (t_numL [k1, k2, k3 - 3, 1, 0, k4 - 100, n] hr hbn rs6.at_ (by omega) (by omega) rfl rfl (by simp) (by simp)).mono ?_
  rintro _ M6 ⟨e6, x, hx, rfl⟩
  have rs7 := rs6.set' e6
  refine sS0 ?_
  refine hR _ _ _ rs7.sub ⟨by omega, by omega, x, rfl, ?_⟩
  simp only [List.mem_cons, List.not_mem_nil, or_false] at hx
  omega
theorem t_l1Pick {rb : Nat} {w v : V} {code ks : List Int} {p kind : Int} (hr : Rdr w code) (hm : M rb = some (rdC w p)) (h0 : 0 ≤ p) (h1 : p ≤ 1000000) (hv : LI v ks) (hl : ks.length ≤ 1048576) :
    VCall Try.prog n_spec_l1Pick [.sc (.ptr (some (rb, 0))), v, .sc (.int .i64 kind)] M (fun r M' => ∃ p', M' = M.set rb (rdC w p') ∧ p' = p + 1 ∧ ∃ k : Int, r = .sc (.int .i64 k) ∧ -1 ≤ k ∧ k < (ks.length : Int)) := by
  refine VCall.pureR fun R hR => v_spec_l1Pick rfl ?_
  have rs0 := RS.start hm
  refine sS1 @hv.len ?_
  refine (t_pick hr rs0.at_ (by omega) (by omega)).mono ?_
  rintro _ M1 ⟨e1, k, rfl, a1, b1, c1⟩
  have rs1 := rs0.set' e1
  refine sS0 ?_
  refine loop_k (fun e M' => M' = M1 ∧ ∃ i : Nat, i ≤ ks.length ∧ e 1 = v ∧ e 2 = .sc (.int .i64 kind) ∧ e 7 = .sc (.int .i64 k) ∧ e 8 = .sc (.int .i64 i)) (fun e _ => ctrV ks.length (e 8)) ?_ ?_
  · exact ⟨rfl, 0, by omega, sE0, sE0, sE0, sE0⟩
  · rintro e _ ⟨rfl, i, hi, q1, q2, q7, q8⟩ K hK
    refine sS5 @q1 @q2 @q7 @q8 @hv.len ?_
    refine cond_dec (fun h => ?_) (fun h => ?_)
    · have hN : (0 : Int) < (ks.length : Int) := by omega
      have hk := b1 (by omega)
      have m1 := Int.emod_nonneg (k + (i : Int)) (b := (ks.length : Int)) (by omega)
      have m2 := Int.emod_lt_of_pos (k + (i : Int)) hN
      generalize hq : (k + (i : Int)) % (ks.length : Int) = q at *
      simp (maxSteps := 2000000) (disch := first | omega | assumption | exact idP rfl | exact idP (bL rfl)) only [go_sem, reduceIte, Nat.reduceEqDiff, wpV_kd, wpV_tH, q1, q2, q7, q8, hv.len, hq, hv.iaddr, LI.at hv (i := q.toNat) (by omega)]
      refine cond_dec (fun h2 => ?_) (fun h2 => ?_)
      · refine sS0 ?_
        exact hR _ _ _ rs1.sub ⟨rfl, q, rfl, by omega, by omega⟩
      · refine sS0 ?_
        exact hK _ _ ⟨rfl, i + 1, by omega, sE0, sE0, sE0, sE0⟩ (by refine sS2 @ctrV_int @q8 ?_; omega)
    · refine sS0 ?_
      exact hR _ _ _ rs1.sub ⟨rfl, -1, rfl, by omega, by omega⟩
theorem midQ {P : Program} {Q : PostV} {e : EnvV} {a : IR} {K : EnvV → MH → Prop} (J : EnvV → MH → Prop) (h : ∀ (K' : EnvV → MH → Prop) (Q' : PostV), (∀ e' M', J e' M' → K' e' M') → wpV P a (thenQV K' Q') e M) (hk : ∀ e' M', J e' M' → K e' M') : wpV P a (thenQV K Q) e M := h K Q hk
theorem Gr.off {B M : MH} {sz b : Nat} {s : V} {l x : List V} (h : Gr sz B M s l) (hb : blkV s ≠ some b) (hB : B b = none) : Gr sz B (M.set b x) s l := by
  refine ⟨fun i l' hi => ?_, h.new, ?_⟩
  · rw [set_ne (fun e => by subst e; rw [hB] at hi; cases hi)]; exact h.sub i l' hi
  · rcases h.own with ⟨e, k, e2⟩ | ⟨b', n, ex, rfl, h1, h2⟩
    · exact .inl ⟨e, k, e2⟩
    · exact .inr ⟨b', n, ex, rfl, by rw [set_ne (fun e => hb (by simp [blkV, e]))]; exact h1, h2⟩
theorem RS.off {M0 M : MH} {rb b : Nat} {w : V} {p : Int} {x : List V} (h : RS M0 rb w M p) (hb : b ≠ rb) (h0 : M0 b = none) : RS M0 rb w (M.set b x) p := by
  refine ⟨by rw [set_ne (Ne.symm hb)]; exact h.at_, fun i l' hi => ?_⟩
  rw [set_ne (fun e => by subst e; rw [set_ne hb, h0] at hi; cases hi)]; exact h.sub i l' hi
structure TK (M0 M : MH) (rb : Nat) (w : V) (p : Int) (s9 s10 : V) (ts : List TermS) (ks : List Int) : Prop where
  rs : RS M0 rb w M p
  g9 : Gr 4 (M0.set rb (rdC w p)) M s9 (catV encT ts)
  g10 : Gr 1 (M0.set rb (rdC w p)) M s10 (ks.map vi)
  sep : ∀ b, blkV s10 = some b → blkV s9 ≠ some b
  len : ts.length = ks.length
section
variable {M0 M M' : MH} {rb : Nat} {w s9 s10 : V} {p q : Int} {ts : List TermS} {ks : List Int} {K : V → MH → Prop}
theorem TK.rd' (h : TK M0 M rb w p s9 s10 ts ks) (e : M' = M.set rb (rdC w q)) : TK M0 M' rb w q s9 s10 ts ks := ⟨h.rs.set' e, h.g9.rd' e, h.g10.rd' e, h.sep, h.len⟩
theorem TK.more (h : TK M0 M rb w p s9 s10 ts ks) (hs : Sub M M') : TK M0 M' rb w p s9 s10 ts ks := ⟨h.rs.more hs, h.g9.more hs, h.g10.more hs, h.sep, h.len⟩
structure TK.Off (M0 : MH) (rb : Nat) (s9 s10 : V) (b : Nat) : Prop where
  n : b ≠ rb
  z : M0 b = none
  a : blkV s9 ≠ some b
  c : blkV s10 ≠ some b
theorem TK.new (h : TK M0 M rb w p s9 s10 ts ks) {b : Nat} (hb : M b = none) : TK.Off M0 rb s9 s10 b := by
  refine ⟨h.rs.ne hb, h.rs.gone hb, fun e => ?_, fun e => ?_⟩
  · rcases h.g9.own with ⟨_, k, rfl⟩ | ⟨b', n, ex, rfl, h1, h2⟩
    · cases e
    · simp only [blkV, Option.some.injEq] at e; subst e; rw [hb] at h1; cases h1
  · rcases h.g10.own with ⟨_, k, rfl⟩ | ⟨b', n, ex, rfl, h1, h2⟩
    · cases e
    · simp only [blkV, Option.some.injEq] at e; subst e; rw [hb] at h1; cases h1
theorem TK.off (h : TK M0 M rb w p s9 s10 ts ks) {b : Nat} {x : List V} (hb : TK.Off M0 rb s9 s10 b) : TK M0 (M.set b x) rb w p s9 s10 ts ks := by
  have hB : (M0.set rb (rdC w p)) b = none := by rw [set_ne hb.n]; exact hb.z
  exact ⟨h.rs.off hb.n hb.z, h.g9.off hb.a hB, h.g10.off hb.c hB, h.sep, h.len⟩
theorem TK.push9 {by_ bt c k : Nat} {ex : Bool} {l : List V} (t : TermS) (h : TK M0 M rb w p s9 s10 ts ks) (hbt : M bt = none) (e : l = encT t) (hb : ts.length ≤ 1048576) (hby : by_ ≤ 64)
    (hk : ∀ s' M', Gr 4 (M0.set rb (rdC w p)) M' s' (catV encT (ts ++ [t])) → Gr 1 (M0.set rb (rdC w p)) M' s10 (ks.map vi) → (∀ b, blkV s10 = some b → blkV s' ≠ some b) → RS M0 rb w M' p → K s' M') : appV 4 by_ s9 (.sc (.sl (some (bt, 0)) 1 c ex k)) (M.set bt l) K := by
  refine app_term t h.g9 hbt e hb hby fun s' M' h1 h2 => ?_
  obtain ⟨q1, q2⟩ := h.g10.oth (sz' := 4) h2 h.sep h1.sub
  exact hk s' M' h1 q1 q2 ⟨h1.sub _ _ set_same, h1.sub⟩
theorem TK.push10 {by_ bt c k : Nat} {ex : Bool} {n : Int} (h9 : Gr 4 (M0.set rb (rdC w p)) M s9 (catV encT ts)) (h10 : Gr 1 (M0.set rb (rdC w p)) M s10 (ks.map vi)) (hs : ∀ b, blkV s10 = some b → blkV s9 ≠ some b) (hl : ts.length = ks.length + 1) (hbt : M bt = none) (hb : ks.length ≤ 1048576) (hby : by_ ≤ 16)
    (hk : ∀ s' M', TK M0 M' rb w p s9 s' ts (ks ++ [n]) → K s' M') : appV 1 by_ s10 (.sc (.sl (some (bt, 0)) 1 c ex k)) (M.set bt [.sc (.int .i64 n)]) K := by
  refine app_int h10 hbt (by omega) hby fun s' M' h1 h2 => ?_
  obtain ⟨q1, q2⟩ := h9.oth (sz' := 1) h2 (fun b h3 h4 => hs b h4 h3) h1.sub
  exact hk s' M' ⟨⟨h1.sub _ _ set_same, h1.sub⟩, q1, h1, fun b h3 h4 => q2 b h4 h3, by simp; omega⟩
end
theorem t_l1PickO {M0 : MH} {rb : Nat} {w s9 s10 : V} {code ks : List Int} {p kind : Int} {ts : List TermS} (hr : Rdr w code) (tk : TK M0 M rb w p s9 s10 ts ks) (h0 : 0 ≤ p) (h1 : p ≤ 1000000) (hl : ks.length ≤ 1048576) :
    VCall Try.prog n_spec_l1Pick [.sc (.ptr (some (rb, 0))), s10, .sc (.int .i64 kind)] M (fun r M' => M' = M.set rb (rdC w (p + 1)) ∧ ∃ k : Int, r = .sc (.int .i64 k)) :=
  (VCall.lendR (a1 := [.sc (.ptr (some (rb, 0)))]) (q := fun r q' => q' = p + 1 ∧ ∃ k : Int, r = .sc (.int .i64 k)) tk.g10.own (fun e => by have := tk.g10.new rb e; rw [set_same] at this; cases this) tk.rs.at_ (fun r _ ⟨_, k, h⟩ => by subst h; simp [flat])
    fun u M' hu hm' => (t_l1Pick hr hm' h0 h1 hu.li hl).mono fun r M'' ⟨q', h1, h2, k, h3, _⟩ => ⟨q', h1, h2, k, h3⟩).mono fun r M' ⟨q', h1, h2, h3⟩ => ⟨by rw [h1, h2], h3⟩
theorem t_l1Terms {rb : Nat} {w : V} {code : List Int} {p vars kind most : Int} (hr : Rdr w code) (hm : M rb = some (rdC w p)) (h0 : 0 ≤ p) (h1 : p ≤ 900000) (hv0 : 0 ≤ vars) (hv5 : vars ≤ 5) (hm1 : 1 ≤ most) (hm2 : most ≤ 12) :
    VCall Try.prog n_spec_l1Terms [.sc (.ptr (some (rb, 0))), .sc (.int .i64 vars), .sc (.int .i64 kind), .sc (.int .i64 most)] M (fun r M' => ∃ p' c, Gr 4 (M.set rb (rdC w p')) M' r c ∧ DT p 210 1 20 c p') := by
  refine VCall.plain fun R hR => v_spec_l1Terms rfl ?_
  have rs0 := RS.start hm
  refine sS0 ?_
  intro b9 hb9 b10 hb10
  have n10 := (fresh_set hb10).1
  have tk0 : TK M ((M.set b9 []).set b10 []) rb w p (.sc (.sl (some (b9, 0)) 0 0 true 4)) (.sc (.sl (some (b10, 0)) 0 0 true 1)) [] [] := by
    have rs1 := rs0.more ((Sub.refl M).set' (l := []) hb9)
    have rs2 := rs1.more ((Sub.refl (M.set b9 [])).set' (l := []) hb10)
    refine ⟨rs2, ?_, Gr.new' rs1.sub hb10 rfl, fun b h1 h2 => ?_, rfl⟩
    · exact (Gr.new' rs0.sub hb9 rfl).more ((Sub.refl _).set' hb10)
    · simp only [blkV, Option.some.injEq] at h1 h2; omega
  generalize ((M.set b9 []).set b10 []) = M1 at *
  refine (t_pick hr tk0.rs.at_ (by omega) (by omega)).mono ?_
  rintro _ M2 ⟨e2, k2, rfl, a2, b2, _⟩
  have b2 := b2 (by omega)
  have tk1 := tk0.rd' e2
  refine sS0 ?_
  refine loop_g (fun j e M' => ∃ (p' : Int) (ts : List TermS) (ks : List Int), e 0 = .sc (.ptr (some (rb, 0))) ∧ e 1 = .sc (.int .i64 vars) ∧ e 2 = .sc (.int .i64 kind) ∧ e 11 = .sc (.int .i64 (j : Nat)) ∧ TK M M' rb w p' (e 9) (e 10) ts ks ∧ (ts.length : Int) + j ≤ most + 1 ∧ p ≤ p' ∧ p' + 9 * j ≤ p + 180) (2 + k2).toNat ?_ ?_
  · have e11 : (((2 + k2).toNat : Nat) : Int) = 2 + k2 := by omega
    exact ⟨p + 1, [], [], sE0, sE0, sE0, sE1 @e11, by refine sS0 ?_; exact tk1, by simp; omega, by omega, by omega⟩
  · rintro j e M3 ⟨p3, ts, ks, q0, q1, q2, q11, tk, hc, d1, d2⟩ K hK
    refine sS4 @q0 @q1 @q2 @q11 ?_
    refine cond_dec (fun hj => ?_) (fun hj => ?_)
    · refine sS4 @q0 @q1 @q2 @q11 ?_
      intro bn hbn
      refine (t_numL [0, 1, 1, 2, 3, 4, 5, 6, 5, 6, 7, 8, 9] hr hbn tk.rs.at_ (by omega) (by omega) rfl rfl (by simp) (by simp)).mono ?_
      rintro _ M4 ⟨e4, op, hop, rfl⟩
      have tk4 := tk.rd' e4
      simp (maxSteps := 2000000) (disch := first | omega | assumption | exact idP rfl | exact idP (bL rfl)) only [go_sem, reduceIte, Nat.reduceEqDiff, wpV_kd]
      intro b13 hb13
      have off := tk4.new hb13
      have tk5 := tk4.off (x := encT ⟨op, 0, 0, 0⟩) off
      have at5 : (M4.set b13 (encT ⟨op, 0, 0, 0⟩)) b13 = some (encT ⟨op, 0, 0, 0⟩) := set_same
      change wpV _ _ _ _ (M4.set b13 (encT ⟨op, 0, 0, 0⟩))
      generalize M4.set b13 (encT ⟨op, 0, 0, 0⟩) = M5 at *
      generalize hs9 : e 9 = s9 at *
      generalize hs10 : e 10 = s10 at *
      refine midQ (fun e' M' => ∃ (p' : Int) (tt : TermS), e' 0 = .sc (.ptr (some (rb, 0))) ∧ e' 1 = .sc (.int .i64 vars) ∧ e' 2 = .sc (.int .i64 kind) ∧ e' 9 = s9 ∧ e' 10 = s10 ∧ e' 11 = .sc (.int .i64 j) ∧ e' 13 = .sc (.ptr (some (b13, 0))) ∧ M' b13 = some (encT tt) ∧ TK M M' rb w p' s9 s10 ts ks ∧ p3 + 1 ≤ p' ∧ p' ≤ p3 + 8) ?_ ?_
      · intro K' Q' hK'
        have hlen := tk5.g9.lenT
        have at5' : M5 b13 = some [.sc (.int .i64 op), .sc (.int .i64 0), .sc (.int .i64 0), .sc (.int .i64 0)] := at5
        by_cases hz : (ts.length : Int) = 0 ∨ op < 2
        · rcases Classical.em ((ts.length : Int) = 0) with hz1 | hz1
          all_goals first
            | (have hd : decide ((ts.length : Int) = 0) = true := by simp only [decide_eq_true_eq]; exact hz1
               simp (maxSteps := 2000000) (disch := first | omega | assumption | exact idP rfl | exact idP (bL rfl)) only [go_sem, reduceIte, Nat.reduceEqDiff, wpV_kd, wpV_tH, hlen, hd])
            | (have hd : decide ((ts.length : Int) = 0) = false := decide_eq_false hz1
               have hd2 : decide (op < 2) = true := decide_eq_true (hz.resolve_left hz1)
               simp (maxSteps := 2000000) (disch := first | omega | assumption | exact idP rfl | exact idP (bL rfl)) only [go_sem, reduceIte, Nat.reduceEqDiff, wpV_kd, wpV_tH, hlen, hd, hd2])
          all_goals
            refine (t_l1Number hr tk5.rs.at_ (by omega) (by omega)).mono ?_
            rintro _ M6 ⟨p6, e6, d3, d4, k6, rfl, _, _⟩
            have tk6 := tk5.rd' e6
            have at6 : M6 b13 = some [.sc (.int .i64 op), .sc (.int .i64 0), .sc (.int .i64 0), .sc (.int .i64 0)] := by rw [e6, set_ne off.n]; exact at5'
            by_cases hv : 0 < vars
            · have hdv : decide (0 < vars) = true := by simp [hv]
              by_cases ho : op = 0
              · have hdo : decide (op ≠ 0) = false := by simp [ho]
                refine sS3 @at6 @hdv @hdo ?_
                exact hK' _ _ ⟨p6, ⟨0, k6, 0, 0⟩, sE0, sE0, sE0, sE0, sE0, sE0, sE0, set_same, tk6.off off, by omega, by omega⟩
              · have hdo : decide (op ≠ 0) = true := by simp [ho]
                have tk7 := tk6.off (x := [.sc (.int .i64 0), .sc (.int .i64 k6), .sc (.int .i64 0), .sc (.int .i64 0)]) off
                refine sS3 @at6 @hdv @hdo ?_
                refine (t_pick hr tk7.rs.at_ (by omega) (by omega)).mono ?_
                rintro _ M8 ⟨e8, k8, rfl, _, _, _⟩
                have tk8 := tk7.rd' e8
                have at8 : M8 b13 = some [.sc (.int .i64 0), .sc (.int .i64 k6), .sc (.int .i64 0), .sc (.int .i64 0)] := by rw [e8, set_ne off.n]; exact set_same
                refine sS1 @at8 ?_
                exact hK' _ _ ⟨p6 + 1, ⟨1, k8, 0, 0⟩, sE0, sE0, sE0, sE0, sE0, sE0, sE0, set_same, tk8.off off, by omega, by omega⟩
            · have hdv : decide (0 < vars) = false := by simp; omega
              refine sS2 @at6 @hdv ?_
              exact hK' _ _ ⟨p6, ⟨0, k6, 0, 0⟩, sE0, sE0, sE0, sE0, sE0, sE0, sE0, set_same, tk6.off off, by omega, by omega⟩
        · have hd : decide ((ts.length : Int) = 0) = false := decide_eq_false fun h => hz (.inl h)
          have hd2 : decide (op < 2) = false := decide_eq_false fun h => hz (.inr h)
          refine sS3 @hlen @hd @hd2 ?_
          refine cond_dec (fun h7 => ?_) (fun h7 => ?_)
          all_goals
            refine sS0 ?_
            refine (t_l1PickO hr tk5 (by omega) (by omega) (by have := tk5.len; omega)).mono ?_
            rintro _ M6 ⟨e6, k6, rfl⟩
            have tk6 := tk5.rd' e6
            have at6 : M6 b13 = some [.sc (.int .i64 op), .sc (.int .i64 0), .sc (.int .i64 0), .sc (.int .i64 0)] := by rw [e6, set_ne off.n]; exact at5'
            have tk7 := tk6.off (x := [.sc (.int .i64 op), .sc (.int .i64 0), .sc (.int .i64 k6), .sc (.int .i64 0)]) off
            refine sS1 @at6 ?_
            refine (t_l1PickO hr tk7 (by omega) (by omega) (by have := tk5.len; omega)).mono ?_
            rintro _ M8 ⟨e8, k8, rfl⟩
            have tk8 := tk7.rd' e8
            have at8 : M8 b13 = some [.sc (.int .i64 op), .sc (.int .i64 0), .sc (.int .i64 k6), .sc (.int .i64 0)] := by rw [e8, set_ne off.n]; exact set_same
            refine sS1 @at8 ?_
            refine t_l1One.mono ?_
            rintro _ _ ⟨rfl, rfl⟩
            refine sS0 ?_
            refine cond_dec (fun ho => ?_) (fun ho => ?_)
            · refine sS0 ?_
              exact hK' _ _ ⟨_, ⟨op, 0, k6, k6⟩, sE0, sE0, sE0, sE0, sE0, sE0, sE0, set_same, tk8.off off, by omega, by omega⟩
            · refine sS0 ?_
              exact hK' _ _ ⟨_, ⟨op, 0, k6, k8⟩, sE0, sE0, sE0, sE0, sE0, sE0, sE0, set_same, tk8.off off, by omega, by omega⟩
      · clear tk4 tk5 at5 tk off
        rintro e' M6 ⟨p6, tt, q0, q1, q2, q9, q10, q11, q13, at6, tk, d3, d4⟩
        have at6' : M6 b13 = some [.sc (.int .i64 tt.op), .sc (.int .i64 tt.n), .sc (.int .i64 tt.a), .sc (.int .i64 tt.b)] := at6
        refine sS8 @q0 @q1 @q2 @q9 @q10 @q11 @q13 @at6' ?_
        have hkl : ks.length ≤ 40 := by have := tk.len; omega
        refine (VCall.lend1 tk.g10.own flat_eq fun u M' hu => t_l1Kind (t := tt) hu.li hkl hv0 hv5).mono ?_
        rintro _ _ ⟨rfl, rfl⟩
        refine sS8 @at6' @q0 @q1 @q2 @q9 @q10 @q11 @q13 ?_
        refine cond_dec (fun hk0 => ?_) (fun hk0 => ?_)
        · refine sS8 @at6' @q0 @q1 @q2 @q9 @q10 @q11 @q13 ?_
          intro bt hbt
          refine tk.push9 tt hbt rfl (by omega) (by omega) ?_
          intro s' M7 g9 g10 sep rs
          refine sS0 ?_
          intro bt2 hbt2
          refine TK.push10 g9 g10 sep (by simp [tk.len]) hbt2 (by omega) (by omega) ?_
          intro s2 M8 tk8
          refine sS0 ?_
          have ej : (j : Int) - 1 = ((j - 1 : Nat) : Int) := by omega
          exact hK (j - 1) _ _ (by omega) ⟨p6, _, _, sE0, sE0, sE0, sE1 @ej, by refine sS0 ?_; exact tk8, by simp; omega, by omega, by omega⟩
        · refine sS7 @q0 @q1 @q2 @q9 @q10 @q11 @q13 ?_
          have ej : (j : Int) - 1 = ((j - 1 : Nat) : Int) := by omega
          exact hK (j - 1) _ _ (by omega) ⟨p6, ts, ks, sE0, sE0, sE0, sE1 @ej, by refine sS0 ?_; exact tk, by omega, by omega, by omega⟩
    · obtain rfl : j = 0 := by omega
      generalize hs9 : e 9 = s9 at *
      generalize hs10 : e 10 = s10 at *
      clear hK
      simp (maxSteps := 2000000) (disch := first | omega | assumption | exact idP rfl | exact idP (bL rfl)) only [go_sem, reduceIte, Nat.reduceEqDiff, wpV_kd]
      refine midQ (fun e' M' => ∃ (s9 s10 : V) (ts : List TermS) (ks : List Int), e' 0 = .sc (.ptr (some (rb, 0))) ∧ e' 2 = .sc (.int .i64 kind) ∧ e' 9 = s9 ∧ e' 10 = s10 ∧ TK M M' rb w p3 s9 s10 ts ks ∧ 1 ≤ ts.length ∧ ts.length ≤ 13) ?_ ?_
      · intro K' Q' hK'
        refine sS1 @tk.g9.lenT ?_
        refine cond_dec (fun hz => ?_) (fun hz => ?_)
        · refine sS0 ?_
          intro bt hbt
          refine tk.push9 ⟨0, 1, 0, 0⟩ hbt rfl (by omega) (by omega) ?_
          intro s' M7 g9 g10 sep rs
          refine sS0 ?_
          intro bt2 hbt2
          refine TK.push10 g9 g10 sep (by simp [tk.len]) hbt2 (by have := tk.len; omega) (by omega) ?_
          intro s2 M8 tk8
          refine sS0 ?_
          exact hK' _ _ ⟨_, _, _, _, sE0, sE0, sE0, sE0, tk8, by simp, by simp; omega⟩
        · refine sS0 ?_
          exact hK' _ _ ⟨_, _, _, _, sE0, sE0, sE0, sE0, tk, by omega, by omega⟩
      · clear tk hc hs9 hs10
        rintro e' M6 ⟨s9, s10, ts, ks, q0, q2, q9, q10, tk, hc1, hc2⟩
        have tkl := tk.len
        have fin : ∀ (p' : Int) (M' : MH) (s : V) (zs : List TermS), Gr 4 (M.set rb (rdC w p')) M' s (catV encT zs) → p ≤ p' → p' ≤ p + 210 → 1 ≤ zs.length → zs.length ≤ 20 → R s M' := fun p' M' s zs h1 h2 h3 h4 h5 => hR _ _ ⟨p', _, h1, h2, h3, zs, rfl, h4, h5⟩
        have hia : iaddrV 1 s10 (.int .i64 ((ts.length : Int) - 1)) = some (.sc (.ptr (some (oB s10, ts.length - 1)))) := by
          rw [show ts.length - 1 = ((ts.length : Int) - 1).toNat by omega]
          exact tk.g10.own.iaddr (by omega) (by rw [len_vi]; omega)
        have hat := tk.g10.at (by rw [len_vi]; omega)
        have hnth : (ks.map vi)[ts.length - 1]? = some (.sc (.int .i64 (ks[ts.length - 1]'(by omega)))) := nth_vi (by omega)
        have app : ∀ (p' : Int) (M4 : MH) (op a b : Int) (Q' : V → MH → Prop) (bt : Nat), TK M M4 rb w p' s9 s10 ts ks → M4 bt = none → (∀ s' M', Gr 4 (M.set rb (rdC w p')) M' s' (catV encT (ts ++ [⟨op, 0, a, b⟩])) → Q' s' M') → appV 4 32 s9 (.sc (.sl (some (bt, 0)) 1 1 true 4)) (M4.set bt (encT ⟨op, 0, a, b⟩)) Q' := fun p' M4 op a b Q' bt h1 h2 h3 => h1.push9 ⟨op, 0, a, b⟩ h2 rfl (by omega) (by omega) fun s' M' g9 _ _ _ => h3 s' M' g9
        by_cases h2 : kind = 2
        · have hd : decide (kind = 2) = true := by simp [h2]
          refine sS9 @q0 @q2 @q9 @q10 @tk.g9.lenT @hd @hia @hat @hnth ?_
          refine cond_dec (fun hk => ?_) (fun hk => ?_)
          · refine sS0 ?_
            intro bn hbn
            refine (t_numL [5, 6] hr hbn tk.rs.at_ (by omega) (by omega) rfl rfl (by simp) (by simp)).mono ?_
            rintro _ M7 ⟨e7, op, _, rfl⟩
            have tk7 := tk.rd' e7
            refine sS0 ?_
            refine (t_l1PickO hr tk7 (by omega) (by omega) (by omega)).mono ?_
            rintro _ M8 ⟨e8, k8, rfl⟩
            have tk8 := tk7.rd' e8
            refine sS0 ?_
            intro bt hbt
            refine app _ _ op _ _ _ bt tk8 hbt ?_
            intro s' M9 g9
            refine sS0 ?_
            exact fin _ _ _ _ g9 (by omega) (by omega) (by simp) (by simp; omega)
          · have hd1 : decide (kind = 1) = false := by simp; omega
            refine sS1 @hd1 ?_
            exact fin _ _ _ _ tk.g9 (by omega) (by omega) (by omega) (by omega)
        · have hd : decide (kind = 2) = false := by simp [h2]
          by_cases h3 : kind = 1
          · have hd1 : decide (kind = 1) = true := by simp [h3]
            simp (maxSteps := 2000000) (disch := first | omega | assumption | exact idP rfl | exact idP (bL rfl)) only [go_sem, reduceIte, Nat.reduceEqDiff, wpV_kd, wpV_tH, q0, q2, q9, q10, tk.g9.lenT, hd, hd1, hia, hat, hnth]
            refine cond_dec (fun hk => ?_) (fun hk => ?_)
            · refine sS0 ?_
              refine (t_l1PickO hr tk (by omega) (by omega) (by omega)).mono ?_
              rintro _ M7 ⟨e7, k7, rfl⟩
              have tk7 := tk.rd' e7
              refine sS0 ?_
              intro bn hbn
              refine (t_numL [2, 3] hr hbn tk7.rs.at_ (by omega) (by omega) rfl rfl (by simp) (by simp)).mono ?_
              rintro _ M8 ⟨e8, op, _, rfl⟩
              have tk8 := tk7.rd' e8
              refine sS0 ?_
              refine (t_l1PickO hr tk8 (by omega) (by omega) (by omega)).mono ?_
              rintro _ M9 ⟨e9, k9, rfl⟩
              have tk9 := tk8.rd' e9
              refine sS0 ?_
              intro bt hbt
              refine app _ _ op _ _ _ bt tk9 hbt ?_
              intro s' M9 g9
              refine sS0 ?_
              exact fin _ _ _ _ g9 (by omega) (by omega) (by simp) (by simp; omega)
            · refine sS0 ?_
              exact fin _ _ _ _ tk.g9 (by omega) (by omega) (by omega) (by omega)
          · have hd1 : decide (kind = 1) = false := by simp [h3]
            refine sS7 @q0 @q2 @q9 @q10 @tk.g9.lenT @hd @hd1 ?_
            exact fin _ _ _ _ tk.g9 (by omega) (by omega) (by omega) (by omega)
end Go.M2

namespace Go.M2
open Go.Proofs
variable {M : MH}
theorem t_l2Value {rb : Nat} {w v : V} {code : List Int} {p : Int} {vs : List VarS} {i : Nat} (hr : Rdr w code) (hm : M rb = some (rdC w p)) (h0 : 0 ≤ p) (h1 : p ≤ 800000) (hv : LVar v vs) (hb : ∀ x ∈ vs, VarB x) (hl : i < vs.length) (hl2 : vs.length ≤ 5) :
    VCall Try.prog n_spec_l2Value [.sc (.ptr (some (rb, 0))), v, .sc (.int .i64 (i : Int))] M (fun r M' => ∃ p' c, Gr 4 (M.set rb (rdC w p')) M' r c ∧ DT p 220 1 20 c p') := by
  refine VCall.plain fun R hR => v_spec_l2Value rfl ?_
  have rs0 := RS.start hm
  have hvb := hb _ (List.getElem_mem hl)
  have hva : atN 3 v i = [.sc (.int .i64 vs[i].low), .sc (.int .i64 vs[i].high), .sc (.int .i64 vs[i].first)] := hv.elt hl
  obtain ⟨v1, v2, v3, v4⟩ := hvb
  refine sS0 ?_
  refine (t_pick hr rs0.at_ (by omega) (by omega)).mono ?_
  rintro _ M1 ⟨e1, k1, rfl, a1, b1, _⟩
  have rs1 := rs0.set' e1
  refine sS0 ?_
  refine cond_dec (fun hk => ?_) (fun hk => ?_)
  · (repeat' (first | ((with_reducible first | refine cond_dec (fun h => ?_) (fun h => ?_) | refine guardK_dec (fun h => ?_) (fun h => ?_) | refine guardD3_dec (fun h => ?_) (fun h => ?_)) <;> first | (exfalso; omega) | (simp (maxSteps := 2000000) (disch := first | omega | assumption | exact idP rfl | exact idP (bL rfl)) only [go_sem, reduceIte, Nat.reduceEqDiff, wpV_kd, wpV_tH, h]) | skip) | ((with_reducible first | refine cond_split (fun h => ?_) (fun h => ?_) | refine guardK_split (fun h => ?_) (fun h => ?_) | refine guardD3_split (fun h => ?_) (fun h => ?_)) <;> ((try simp only [Bool.not_eq_true', Bool.not_eq_false'] at h); first | (simp (maxSteps := 2000000) (disch := first | omega | assumption | exact idP rfl | exact idP (bL rfl)) only [go_sem, reduceIte, Nat.reduceEqDiff, wpV_kd, wpV_tH, h]) | skip)) | ((with_reducible refine (t_l2VarOf).mono ?_); rintro _ _ ⟨rfl, rfl⟩) | ((with_reducible refine (t_l2Const).mono ?_); rintro _ _ ⟨rfl, rfl⟩) | (with_reducible intro bk hbk; try have hnk := (fresh_set hbk).1) | (simp (maxSteps := 2000000) (disch := first | omega | assumption | exact idP rfl | exact idP (bL rfl)) only [go_sem, reduceIte, Nat.reduceEqDiff, wpV_kd, wpV_tH])))
    change VCall _ _ _ (M1.set bk ([2, 3].map vi)) _
    refine (t_numL [2, 3] hr hbk rs1.at_ (by omega) (by omega) rfl rfl (by simp) (by simp)).mono ?_
    rintro _ M2 ⟨e2, op, _, rfl⟩
    have rs2 := rs1.set' e2
    refine sS0 ?_
    intro b9 hb9
    change R _ (M2.set b9 (catV encT [⟨1, (i : Int), 0, 0⟩, ⟨0, 1, 0, 0⟩, ⟨op, 0, 0, 1⟩]))
    exact hR _ _ ⟨_, _, Gr.new' rs2.sub hb9 rfl, by omega, by omega, _, rfl, by simp, by simp⟩
  · refine sS0 ?_
    refine cond_dec (fun hk3 => ?_) (fun hk3 => ?_)
    · refine sS2 @hv.iaddr @hva ?_
      refine (t_pick hr rs1.at_ (by omega) (by omega)).mono ?_
      rintro _ M2 ⟨e2, k2, rfl, a2, b2, c2⟩
      have kb : k2 ≤ 40000 := by
        by_cases hc : 1 ≤ vs[i].high - vs[i].low + 1
        · have := b2 hc; omega
        · have := c2 (by omega); omega
      have rs2 := rs1.set' e2
      refine sS2 @hv.iaddr @hva ?_
      refine t_l2Const.mono ?_
      rintro _ _ ⟨rfl, rfl⟩
      refine sS2 @hv.iaddr @hva ?_
      intro b9 hb9
      change R _ (M2.set b9 (catV encT [⟨0, vs[i].low + k2, 0, 0⟩]))
      exact hR _ _ ⟨_, _, Gr.new' rs2.sub hb9 rfl, by omega, by omega, _, rfl, by simp, by simp⟩
    · refine sS0 ?_
      refine cond_dec (fun hk4 => ?_) (fun hk4 => ?_)
      · refine sS1 @hv.len ?_
        refine (t_pick hr rs1.at_ (by omega) (by omega)).mono ?_
        rintro _ M2 ⟨e2, k2, rfl, a2, b2, c2⟩
        have rs2 := rs1.set' e2
        (repeat' (first | ((with_reducible first | refine cond_dec (fun h => ?_) (fun h => ?_) | refine guardK_dec (fun h => ?_) (fun h => ?_) | refine guardD3_dec (fun h => ?_) (fun h => ?_)) <;> first | (exfalso; omega) | (simp (maxSteps := 2000000) (disch := first | omega | assumption | exact idP rfl | exact idP (bL rfl)) only [go_sem, reduceIte, Nat.reduceEqDiff, wpV_kd, wpV_tH, h]) | skip) | ((with_reducible first | refine cond_split (fun h => ?_) (fun h => ?_) | refine guardK_split (fun h => ?_) (fun h => ?_) | refine guardD3_split (fun h => ?_) (fun h => ?_)) <;> ((try simp only [Bool.not_eq_true', Bool.not_eq_false'] at h); first | (simp (maxSteps := 2000000) (disch := first | omega | assumption | exact idP rfl | exact idP (bL rfl)) only [go_sem, reduceIte, Nat.reduceEqDiff, wpV_kd, wpV_tH, h]) | skip)) | ((with_reducible refine (t_l2VarOf).mono ?_); rintro _ _ ⟨rfl, rfl⟩) | (with_reducible intro bk hbk; try have hnk := (fresh_set hbk).1) | (simp (maxSteps := 2000000) (disch := first | omega | assumption | exact idP rfl | exact idP (bL rfl)) only [go_sem, reduceIte, Nat.reduceEqDiff, wpV_kd, wpV_tH])))
        change R _ (M2.set bk (catV encT [⟨1, k2, 0, 0⟩]))
        exact hR _ _ ⟨_, _, Gr.new' rs2.sub hbk rfl, by omega, by omega, _, rfl, by simp, by simp⟩
      · refine sS1 @hv.len ?_
        refine (t_l1Terms hr rs1.at_ (by omega) (by omega) (by omega) (by omega) (by omega) (by omega)).mono ?_
        rintro r M2 ⟨p2, c, hg, d1, d2, ts, rfl, d3, d4⟩
        refine sS0 ?_
        rw [e1, set_set] at hg
        exact hR _ _ ⟨_, _, hg, by omega, by omega, _, rfl, d3, d4⟩
end Go.M2

namespace Go.M2
open Go.Proofs
variable {M : MH}
inductive RulesO : List V → List (Nat × List V) → List RuleS → Prop
  | nil : RulesO [] [] []
  | cons {a a' b c : V} {ints : List Int} {rows cells : List V} {ga fp : List (Nat × List V)} {ws : List TermS} {terms : List (List TermS)} {rs : List RuleS} : One a → Tr [a] [a'] ga → LT a' ws → OwS 1 b (ints.map vi) → OwS 1 c rows → Cs (fun ts u => LT u ts) rows terms → RulesO cells fp rs →
    RulesO (a :: b :: c :: cells) (ga ++ (fpG b (ints.map vi) ++ (fpG c rows ++ fp))) (⟨ws, ints, terms⟩ :: rs)
theorem OwS.len1 {v : V} {l : List V} (h : OwS 1 v l) : lenF (er v) = some (.int .i64 (l.length : Int)) := by
  rcases h with ⟨rfl, k, rfl⟩ | ⟨b, n, ex, rfl, h2⟩
  · rfl
  · rw [show l.length = n by omega]; rfl
theorem RulesO.len {cells : List V} {fp : List (Nat × List V)} {rs : List RuleS} (h : RulesO cells fp rs) : cells.length = rs.length * 3 := by
  induction h with
  | nil => rfl
  | cons _ _ _ _ _ _ _ ih => simp [ih]; omega
theorem RulesO.app {cells c2 : List V} {fp f2 : List (Nat × List V)} {rs r2 : List RuleS} (h : RulesO cells fp rs) (k : RulesO c2 f2 r2) : RulesO (cells ++ c2) (fp ++ f2) (rs ++ r2) := by
  induction h with
  | nil => exact k
  | cons h1 h0 h2 h3 h4 h5 _ ih => simpa [List.append_assoc] using RulesO.cons h1 h0 h2 h3 h4 h5 ih
theorem RulesO.tr {cells : List V} {fp : List (Nat × List V)} {rs : List RuleS} (h : RulesO cells fp rs) : ∃ cells', Tr cells cells' fp ∧ ∀ i (h : i < rs.length), isRule rs[i] ((cells'.drop (i * 3)).take 3) := by
  induction h with
  | nil => exact ⟨[], .nil, fun i h => by simp at h⟩
  | @cons a a' b c ints rows cells ga fp ws terms rs h1 h0 h2 h3 h4 h5 _ ih =>
    obtain ⟨cs', t1, t2⟩ := ih
    obtain ⟨ub, tb, fb⟩ := h3.tr (Tr.refl _)
    obtain ⟨uc, tc, fc⟩ := h4.tr (Tr.refl _)
    rw [List.append_nil] at tb tc
    refine ⟨a' :: ub :: uc :: cs', ?_, fun i hi => ?_⟩
    · have := h0.append (tb.append (tc.append t1))
      simpa using this
    · cases i with
      | zero => exact ⟨a', ub, uc, by simp, h2, fb.li, fc.lsC h5⟩
      | succ i =>
        have hi' : i < rs.length := by simpa using hi
        have := t2 i hi'
        rw [show (i + 1) * 3 = i * 3 + 3 by omega]
        simpa using this
theorem fpG_one {s : V} {l : List V} {b : Nat} (h : blkV s = some b) : fpG s l = [(b, l)] := by simp [fpG, h]
theorem Ow.base {M0 M : MH} {rb sz : Nat} {X l : List V} {v : V} (h : Ow sz M0 v l) (hne : blkV v ≠ some rb) (hs : Sub (M0.set rb X) M) : Ow sz M v l := by
  rcases h with ⟨e, k, e2⟩ | ⟨b, n, ex, rfl, h1, h2⟩
  · exact .inl ⟨e, k, e2⟩
  · exact .inr ⟨b, n, ex, rfl, hs _ _ (by rw [set_ne (fun e => hne (by simp [blkV, e]))]; exact h1), h2⟩
theorem Fr.lvar {u : V} {vs : List VarS} (h : Fr 3 u (catV encVar vs)) : LVar u vs := h.lc (by omega) (catV_len (sz := 3) (enc := encVar) (fun _ => rfl) vs) fun i hi => catV_at (sz := 3) (enc := encVar) (fun _ => rfl) hi
theorem Ow.lenV {M : MH} {v : V} {vs : List VarS} (h : Ow 3 M v (catV encVar vs)) : lenF (er v) = some (.int .i64 (vs.length : Int)) := by
  obtain ⟨n, h1, _, h2, _⟩ := h.len
  have := catV_len (sz := 3) (enc := encVar) (fun _ => rfl) vs
  rw [h1]
  congr 3
  omega
theorem t_l2WhenO {rb : Nat} {w v : V} {code : List Int} {p : Int} {vs : List VarS} (hr : Rdr w code) (hm : M rb = some (rdC w p)) (h0 : 0 ≤ p) (h1 : p ≤ 800000) (ho : Ow 3 M v (catV encVar vs)) (hne : blkV v ≠ some rb) (hb : ∀ x ∈ vs, VarB x) (hl : 0 < vs.length) (hl2 : vs.length ≤ 5) :
    VCall Try.prog n_spec_l2When [.sc (.ptr (some (rb, 0))), v] M (fun r M' => ∃ p', M' = M.set rb (rdC w p') ∧ p ≤ p' ∧ p' ≤ p + 10 ∧ ∃ ts, LT r ts ∧ 0 ≤ ts.length ∧ ts.length ≤ 81) :=
  VCall.frT4 (VCall.lendRG (a1 := [.sc (.ptr (some (rb, 0)))]) (a2 := []) (q := DT p 10 0 81) ho hne hm (fun c p' h => h.flat) fun u M' hu hm' => t_l2When hr hm' h0 (by omega) hu.lvar hb hl (by omega))
theorem t_l2ValueO {rb : Nat} {w v : V} {code : List Int} {p : Int} {vs : List VarS} {i : Nat} (hr : Rdr w code) (hm : M rb = some (rdC w p)) (h0 : 0 ≤ p) (h1 : p ≤ 800000) (ho : Ow 3 M v (catV encVar vs)) (hne : blkV v ≠ some rb) (hb : ∀ x ∈ vs, VarB x) (hl : i < vs.length) (hl2 : vs.length ≤ 5) :
    VCall Try.prog n_spec_l2Value [.sc (.ptr (some (rb, 0))), v, .sc (.int .i64 (i : Int))] M (fun r M' => ∃ p', M' = M.set rb (rdC w p') ∧ p ≤ p' ∧ p' ≤ p + 220 ∧ ∃ ts, LT r ts ∧ 1 ≤ ts.length ∧ ts.length ≤ 20) :=
  VCall.frT4 (VCall.lendRG (a1 := [.sc (.ptr (some (rb, 0)))]) (a2 := [.sc (.int .i64 (i : Int))]) (q := DT p 220 1 20) ho hne hm (fun c p' h => h.flat) fun u M' hu hm' => t_l2Value hr hm' h0 (by omega) hu.lvar hb hl hl2)
structure RuSt (M0 M : MH) (rb : Nat) (w : V) (p : Int) (bx : Nat) (a bI cT out : V) (ints : List Int) (rows cells : List V) (fp : List (Nat × List V)) (ws : List TermS) (terms : List (List TermS)) (rl : List RuleS) : Prop where
  rs : RS M0 rb w M p
  mem : Mem (M0.set rb (rdC w p)) M ((bx, [a, bI, cT]) :: (fpG bI (ints.map vi) ++ (fpG cT rows ++ (fpG out cells ++ fp))))
  oa : One a
  la : LT a ws
  ob : OwS 1 bI (ints.map vi)
  oc : OwS 1 cT rows
  cc : Cs (fun ts u => LT u ts) rows terms
  oo : OwS 3 out cells
  ru : RulesO cells fp rl
theorem Mem.rd' {M0 M M' : MH} {rb : Nat} {X Y : List V} {fp : List (Nat × List V)} (h : Mem (M0.set rb X) M fp) (e : M' = M.set rb Y) : Mem (M0.set rb Y) M' fp := e ▸ h.rd
section
variable {M0 M M' : MH} {rb bx : Nat} {w a bI cT out : V} {p q : Int} {ints : List Int} {rows cells : List V} {fp : List (Nat × List V)} {ws : List TermS} {terms : List (List TermS)} {rs : List RuleS} {K : V → MH → Prop}
theorem RuSt.rd' (h : RuSt M0 M rb w p bx a bI cT out ints rows cells fp ws terms rs) (e : M' = M.set rb (rdC w q)) : RuSt M0 M' rb w q bx a bI cT out ints rows cells fp ws terms rs :=
  ⟨h.rs.set' e, h.mem.rd' e, h.oa, h.la, h.ob, h.oc, h.cc, h.oo, h.ru⟩
theorem perm3 {α : Type} (x : α) (A B C : List α) : (x :: (A ++ (B ++ C))).Perm (B ++ (x :: (A ++ C))) :=
  (List.Perm.cons x (List.perm_append_comm_assoc A B C)).trans List.perm_middle.symm
theorem RuSt.pushI {by_ bt c k : Nat} {ex : Bool} {n : Int} (h : RuSt M0 M rb w p bx a bI cT out ints rows cells fp ws terms rs) (hbt : M bt = none) (hb : ints.length ≤ 1048576) (hby : by_ ≤ 16)
    (hk : ∀ s' M', M' bx = some [a, bI, cT] → One s' → RuSt M0 (M'.set bx [a, s', cT]) rb w p bx a s' cT out (ints ++ [n]) rows cells fp ws terms rs → K s' M') : appV 1 by_ bI (.sc (.sl (some (bt, 0)) 1 c ex k)) (M.set bt [.sc (.int .i64 n)]) K := by
  have m1 := h.mem.perm List.perm_middle.symm
  refine app_int (m1.gr h.ob) hbt (by omega) hby fun s' M' h1 h2 => ?_
  have m2 := (m1.app h1 h2).perm List.perm_middle
  have m3 := m2.upd (l' := [a, s', cT])
  exact hk s' M' m2.hd h1.one ⟨⟨m3.sub _ _ set_same, m3.sub⟩, m3, h.oa, h.la, h1.own.sh.1, h.oc, h.cc, h.oo, h.ru⟩
theorem RuSt.pushT {by_ bt c k : Nat} {ex : Bool} {u : V} {ts : List TermS} (h : RuSt M0 M rb w p bx a bI cT out ints rows cells fp ws terms rs) (hbt : M bt = none) (hu : LT u ts) (hb : rows.length ≤ 1048576) (hby : by_ ≤ 32)
    (hk : ∀ s' M', M' bx = some [a, bI, cT] → One s' → RuSt M0 (M'.set bx [a, bI, s']) rb w p bx a bI s' out ints (rows ++ [u]) cells fp ws (terms ++ [ts]) rs → K s' M') : appV 1 by_ cT (.sc (.sl (some (bt, 0)) 1 c ex k)) (M.set bt [u]) K := by
  have m1 := h.mem.perm (perm3 _ _ _ _)
  refine app_val (m1.gr h.oc) hbt hu.one.1 (by omega) hby fun s' M' h1 h2 => ?_
  have m2 := (m1.app h1 h2).perm (perm3 _ _ _ _).symm
  have m3 := m2.upd (l' := [a, bI, s'])
  exact hk s' M' m2.hd h1.one ⟨⟨m3.sub _ _ set_same, m3.sub⟩, m3, h.oa, h.la, h.ob, h1.own.sh.1, h.cc.snoc hu, h.oo, h.ru⟩
theorem RuSt.pushR {by_ bt c k : Nat} {ex : Bool} {l : List V} (h : RuSt M0 M rb w p bx a bI cT out ints rows cells fp ws terms rs) (hbt : M bt = none) (e : l = [a, bI, cT]) (hb : rs.length ≤ 1048576) (hby : by_ ≤ 128)
    (hk : ∀ s' M' cells' fp', Mem (M0.set rb (rdC w p)) M' (fpG s' cells' ++ fp') → OwS 3 s' cells' → RulesO cells' fp' (rs ++ [⟨ws, ints, terms⟩]) → K s' M') : appV 3 by_ out (.sc (.sl (some (bt, 0)) 1 c ex k)) (M.set bt l) K := by
  subst e
  have m1 : Mem (M0.set rb (rdC w p)) M (fpG out cells ++ (fp ++ (fpG bI (ints.map vi) ++ fpG cT rows))) := by
    refine h.mem.tail.perm ?_
    refine (List.Perm.append_left _ (List.perm_append_comm_assoc (fpG cT rows) (fpG out cells) fp)).trans ?_
    refine (List.perm_append_comm_assoc _ _ _).trans (List.Perm.append_left _ ?_)
    rw [← List.append_assoc]
    exact List.perm_append_comm
  have hcl := h.ru.len
  have hmul : (cells.length + 1) * by_ ≤ (cells.length + 1) * 128 := Nat.mul_le_mul_left _ hby
  refine gr_app1 (m1.gr h.oo) (by omega) hbt rfl (by simp [h.oa.1, h.ob.one.1, h.oc.one.1]) (by simp [mostCells]; omega) (by simp [mostCells]; omega) fun s' M' h1 h2 => ?_
  have hru : RulesO [a, bI, cT] ([] ++ (fpG bI (ints.map vi) ++ (fpG cT rows ++ []))) [⟨ws, ints, terms⟩] := .cons h.oa (.refl _) h.la h.ob h.oc h.cc .nil
  rw [List.append_nil, List.nil_append] at hru
  exact hk s' M' _ _ (m1.app h1 h2) h1.own.sh.1 (h.ru.app hru)
end
def RuleB (r : RuleS) : Prop := r.when_.length ≤ 81 ∧ r.sets.length ≤ 6 ∧ r.terms.length ≤ 6 ∧ ∀ ts ∈ r.terms, ts.length ≤ 20
theorem t_l2Rules {rb many : Nat} {w v : V} {code : List Int} {p : Int} {vs : List VarS} (hr : Rdr w code) (hm : M rb = some (rdC w p)) (h0 : 0 ≤ p) (h1 : p ≤ 700000) (ho : Ow 3 M v (catV encVar vs)) (hne : blkV v ≠ some rb) (hb : ∀ x ∈ vs, VarB x) (hl : 0 < vs.length) (hl2 : vs.length ≤ 5) (hmy : many ≤ 8) :
    VCall Try.prog n_spec_l2Rules [.sc (.ptr (some (rb, 0))), v, .sc (.int .i64 (many : Int))] M (fun r M' => ∃ p' cells fp rl, Mem (M.set rb (rdC w p')) M' (fpG r cells ++ fp) ∧ OwS 3 r cells ∧ RulesO cells fp rl ∧ p ≤ p' ∧ p' ≤ p + 12000 ∧ rl.length ≤ many ∧ ∀ r ∈ rl, RuleB r) := by
  refine VCall.plain fun R hR => v_spec_l2Rules rfl ?_
  have rs0 := RS.start hm
  have hov : ∀ {M' : MH} {X : List V}, Sub (M.set rb X) M' → Ow 3 M' v (catV encVar vs) := fun hs => ho.base hne hs
  refine sS0 ?_
  intro b7 hb7
  have m7 : Mem (M.set rb (rdC w p)) (M.set b7 []) (fpG (.sc (.sl (some (b7, 0)) 0 0 true 3)) [] ++ []) := by
    simpa [fpG, blkV] using (Gr.new' (sz := 3) (n := 0) (ex := true) rs0.sub hb7 rfl).mem
  refine loop_k (fun e M' => ∃ (i : Nat) (p' : Int) (cells : List V) (fp : List (Nat × List V)) (rl : List RuleS), i ≤ many ∧ e 0 = .sc (.ptr (some (rb, 0))) ∧ e 1 = v ∧ e 2 = .sc (.int .i64 (many : Int)) ∧ e 8 = .sc (.int .i64 (i : Int)) ∧ Mem (M.set rb (rdC w p')) M' (fpG (e 7) cells ++ fp) ∧ OwS 3 (e 7) cells ∧ RulesO cells fp rl ∧ rl.length = i ∧ (∀ r ∈ rl, RuleB r) ∧ p ≤ p' ∧ p' ≤ p + 1500 * (i : Int)) (fun e _ => ctrV many (e 8)) ?_ ?_
  · exact ⟨0, p, [], [], [], by omega, sE0, sE0, sE0, sE0, by refine sS0 ?_; exact m7, by refine sS0 ?_; exact .inr ⟨b7, 0, true, rfl, rfl⟩, .nil, rfl, fun r hr => (by cases hr), by omega, by omega⟩
  · rintro e M1 ⟨i, p1, cells, fp, rl, hi, q0, q1, q2, q8, hmem, hoo, hru, hrl, hrb, d1, d2⟩ K hK
    generalize hs7 : e 7 = out at *
    refine sS4 @q0 @q1 @q2 @q8 ?_
    refine cond_dec (fun h => ?_) (fun h => ?_)
    · have rs1 : RS M rb w M1 p1 := ⟨hmem.sub _ _ set_same, hmem.sub⟩
      refine sS4 @q0 @q1 @q2 @q8 ?_
      refine (t_l2WhenO hr rs1.at_ (by omega) (by omega) (hov rs1.sub) hne hb hl hl2).mono ?_
      rintro a M2 ⟨p2, e2, d3, d4, ws, hws, _, hwl⟩
      have hmem2 := hmem.rd' e2
      have ha := hws.one
      have ha1 := ha.1
      have ha2 := ha.2
      refine sS2 @ha1 @ha2 ?_
      intro b9 hb9
      have rs2 := rs1.set' e2
      have m9 : Mem (M.set rb (rdC w p2)) (M2.set b9 [a, nil1, nil1]) ((b9, [a, nil1, nil1]) :: (fpG nil1 (([] : List Int).map vi) ++ (fpG nil1 [] ++ (fpG out cells ++ fp)))) := by
        have hM9 : (M.set rb (rdC w p2)) b9 = none := hmem2.sub.none hb9
        simpa [fpG, blkV, nil1] using hmem2.new1 (l := [a, nil1, nil1]) hb9
      have st0 : RuSt M (M2.set b9 [a, nil1, nil1]) rb w p2 b9 a nil1 nil1 out [] [] cells fp ws [] rl := ⟨rs2.more ((Sub.refl M2).set' hb9), m9, ha, hws, .inl ⟨rfl, 0, rfl⟩, .inl ⟨rfl, 0, rfl⟩, .nil, hoo, hru⟩
      refine loop_k (fun e' M' => ∃ (k : Nat) (p' : Int) (bI cT : V) (ints : List Int) (rows : List V) (terms : List (List TermS)), k ≤ vs.length ∧ e' 0 = .sc (.ptr (some (rb, 0))) ∧ e' 1 = v ∧ e' 2 = .sc (.int .i64 (many : Int)) ∧ e' 7 = out ∧ e' 8 = .sc (.int .i64 (i : Int)) ∧ e' 9 = .sc (.ptr (some (b9, 0))) ∧ e' 10 = .sc (.int .i64 (k : Int)) ∧ RuSt M M' rb w p' b9 a bI cT out ints rows cells fp ws terms rl ∧ ints.length ≤ k ∧ terms.length ≤ k ∧ (∀ ts ∈ terms, ts.length ≤ 20) ∧ p2 ≤ p' ∧ p' ≤ p2 + 230 * (k : Int)) (fun e' _ => ctrV vs.length (e' 10)) ?_ ?_
      · exact ⟨0, p2, nil1, nil1, [], [], [], by omega, sE0, sE0, sE0, sE1 @hs7, sE0, sE0, sE0, st0, by simp, by simp, fun ts h => (by cases h), by omega, by omega⟩
      · have q8' := q8
        clear q0 q1 q2 q8 hmem hmem2 e2 st0 m9 rs2 rs1 hb9 hs7
        rintro e M3 ⟨k, p3, bI, cT, ints, rows, terms, hk, q0, q1, q2, q7, q8, q9, q10, st, hil, htl, htb, d5, d6⟩ K2 hK2
        have hat := st.mem.hd
        have hvl := (hov st.rs.sub).lenV
        refine sS8 @q0 @q1 @q2 @q7 @q8 @q9 @q10 @hvl ?_
        refine cond_dec (fun hkl => ?_) (fun hkl => ?_)
        · refine sS8 @q0 @q1 @q2 @q7 @q8 @q9 @q10 @hvl ?_
          refine (t_pick hr st.rs.at_ (by omega) (by omega)).mono ?_
          rintro _ M4 ⟨e4, k1, rfl, _, _, _⟩
          have st4 := st.rd' e4
          have hat4 := st4.mem.hd
          have hvl4 := (hov st4.rs.sub).lenV
          have hbl : lenF (er bI) = some (.int .i64 (ints.length : Int)) := by rw [st4.ob.len1, len_vi]
          have hrl2 : rows.length = terms.length := st4.cc.1
          have skip : ∀ (p' : Int) (M' : MH) (e' : EnvV), RuSt M M' rb w p' b9 a bI cT out ints rows cells fp ws terms rl → p3 ≤ p' → p' ≤ p3 + 3 → e' 0 = .sc (.ptr (some (rb, 0))) → e' 1 = v → e' 2 = .sc (.int .i64 (many : Int)) → e' 7 = out → e' 8 = .sc (.int .i64 (i : Int)) → e' 9 = .sc (.ptr (some (b9, 0))) → e' 10 = .sc (.int .i64 ((k : Int) + 1)) → K2 e' M' := fun p' M' e' h1 h2 h3 h4 h5 h6 h7 h8 h9 h10 =>
            hK2 _ _ ⟨k + 1, p', bI, cT, ints, rows, terms, by omega, h4, h5, h6, h7, h8, h9, h10, h1, by omega, by omega, htb, by omega, by omega⟩ (by rw [h10, q10]; refine sS1 @ctrV_int ?_; omega)
          by_cases c1 : k1 < 1
          · have z1 : decide (k1 < 1) = true := by simp [c1]
            simp (maxSteps := 2000000) (disch := first | omega | assumption | exact idP rfl | exact idP (bL rfl)) only [go_sem, reduceIte, Nat.reduceEqDiff, wpV_kd, wpV_tH, z1, q0, q1, q2, q7, q8, q9, q10, hvl4, hat4, hbl]
            intro bt hbt
            refine st4.pushI (n := (k : Int)) hbt (by omega) (by omega) ?_
            intro s6 M6 hat6 hone6 st6
            have o1 := hone6.1
            have o2 := hone6.2
            refine sS3 @hat6 @o1 @o2 ?_
            have hat7 := st6.mem.hd
            have hoc := st6.oc.one
            refine (t_l2ValueO (i := k) hr st6.rs.at_ (by omega) (by omega) (hov st6.rs.sub) hne hb (by omega) hl2).mono ?_
            rintro u M7 ⟨p7, e7, d7, d8, ts, hts, _, htl2⟩
            have st7 := st6.rd' e7
            have hat8 := st7.mem.hd
            have hu1 := hts.one.1
            have hu2 := hts.one.2
            refine sS3 @hat8 @hu1 @hu2 ?_
            intro bt2 hbt2
            refine st7.pushT hbt2 hts (by omega) (by omega) ?_
            intro s8 M8 hat8 hone8 st8
            have o3 := hone8.1
            have o4 := hone8.2
            refine sS3 @hat8 @o3 @o4 ?_
            refine hK2 _ _ ⟨k + 1, p7, s6, s8, _, _, _, by omega, sE0, sE0, sE0, sE0, sE0, sE0, sE0, st8, by simp; omega, by simp; omega, fun ts' h' => ?_, by omega, by omega⟩ (by refine sS2 @ctrV_int @q10 ?_; omega)
            rcases List.mem_append.1 h' with h' | h'
            · exact htb _ h'
            · rw [List.mem_singleton] at h'; subst h'; exact htl2
          · have z1 : decide (k1 < 1) = false := by simp [c1]
            by_cases c2 : (k : Int) = (vs.length : Int) - 1
            · have z2 : decide ((k : Int) = (vs.length : Int) - 1) = true := by simp [c2]
              by_cases c3 : (ints.length : Int) = 0
              · have z3 : decide ((ints.length : Int) = 0) = true := by simp only [decide_eq_true_eq]; exact c3
                simp (maxSteps := 2000000) (disch := first | omega | assumption | exact idP rfl | exact idP (bL rfl)) only [go_sem, reduceIte, Nat.reduceEqDiff, wpV_kd, wpV_tH, z1, z2, z3, q0, q1, q2, q7, q8, q9, q10, hvl4, hat4, hbl]
                refine (t_pick hr st4.rs.at_ (by omega) (by omega)).mono ?_
                rintro _ M5 ⟨e5, k5, rfl, _, _, _⟩
                have st5 := st4.rd' e5
                have hat5 := st5.mem.hd
                by_cases c4 : 0 < k5
                · have z4 : decide (0 < k5) = true := by simp [c4]
                  refine sS9 @z4 @q0 @q1 @q2 @q7 @q8 @q9 @q10 @hat5 ?_
                  intro bt hbt
                  refine st5.pushI (n := (k : Int)) hbt (by omega) (by omega) ?_
                  intro s6 M6 hat6 hone6 st6
                  have o1 := hone6.1
                  have o2 := hone6.2
                  refine sS3 @hat6 @o1 @o2 ?_
                  have hat7 := st6.mem.hd
                  have hoc := st6.oc.one
                  refine (t_l2ValueO (i := k) hr st6.rs.at_ (by omega) (by omega) (hov st6.rs.sub) hne hb (by omega) hl2).mono ?_
                  rintro u M7 ⟨p7, e7, d7, d8, ts, hts, _, htl2⟩
                  have st7 := st6.rd' e7
                  have hat8 := st7.mem.hd
                  have hu1 := hts.one.1
                  have hu2 := hts.one.2
                  refine sS3 @hat8 @hu1 @hu2 ?_
                  intro bt2 hbt2
                  refine st7.pushT hbt2 hts (by omega) (by omega) ?_
                  intro s8 M8 hat8 hone8 st8
                  have o3 := hone8.1
                  have o4 := hone8.2
                  refine sS3 @hat8 @o3 @o4 ?_
                  refine hK2 _ _ ⟨k + 1, p7, s6, s8, _, _, _, by omega, sE0, sE0, sE0, sE0, sE0, sE0, sE0, st8, by simp; omega, by simp; omega, fun ts' h' => ?_, by omega, by omega⟩ (by refine sS2 @ctrV_int @q10 ?_; omega)
                  rcases List.mem_append.1 h' with h' | h'
                  · exact htb _ h'
                  · rw [List.mem_singleton] at h'; subst h'; exact htl2
                · have z4 : decide (0 < k5) = false := by simp [c4]
                  refine sS8 @z4 @q0 @q1 @q2 @q7 @q8 @q9 @q10 ?_
                  exact skip _ _ _ st5 (by omega) (by omega) (sE0) (sE0) (sE0) (sE0) (sE0) (sE0) (sE0)
              · have z3 : decide ((ints.length : Int) = 0) = false := decide_eq_false c3
                simp (maxSteps := 2000000) (disch := first | omega | assumption | exact idP rfl | exact idP (bL rfl)) only [go_sem, reduceIte, Nat.reduceEqDiff, wpV_kd, wpV_tH, z1, z2, z3, q0, q1, q2, q7, q8, q9, q10, hvl4, hat4, hbl]
                exact skip _ _ _ st4 (by omega) (by omega) (sE0) (sE0) (sE0) (sE0) (sE0) (sE0) (sE0)
            · have z2 : decide ((k : Int) = (vs.length : Int) - 1) = false := by simp [c2]
              simp (maxSteps := 2000000) (disch := first | omega | assumption | exact idP rfl | exact idP (bL rfl)) only [go_sem, reduceIte, Nat.reduceEqDiff, wpV_kd, wpV_tH, z1, z2, q0, q1, q2, q7, q8, q9, q10, hvl4, hat4, hbl]
              exact skip _ _ _ st4 (by omega) (by omega) (sE0) (sE0) (sE0) (sE0) (sE0) (sE0) (sE0)
        · obtain rfl : k = vs.length := by omega
          refine sS8 @q0 @q1 @q2 @q7 @q8 @q9 @q10 @hat ?_
          intro bt hbt
          refine st.pushR hbt rfl (by omega) (by omega) ?_
          intro s4 M4 cells4 fp4 hm4 ho4 hr4
          refine sS0 ?_
          refine hK _ _ ⟨i + 1, p3, cells4, fp4, _, by omega, sE0, sE0, sE0, sE0, by refine sS0 ?_; exact hm4, by refine sS0 ?_; exact ho4, hr4, by simp [hrl], fun r hr' => ?_, by omega, by omega⟩ (by refine sS2 @ctrV_int @q8' ?_; omega)
          rcases List.mem_append.1 hr' with h' | h'
          · exact hrb r h'
          · rw [List.mem_singleton] at h'; subst h'
            exact ⟨hwl, by simp only; omega, by simp only; omega, htb⟩
    · obtain rfl : i = many := by omega
      refine sS0 ?_
      rw [hs7]
      exact hR _ _ ⟨p1, cells, fp, rl, hmem, hoo, hru, d1, by omega, by omega, hrb⟩
end Go.M2

namespace Go.M2
open Go.Proofs
variable {M : MH}
def VarC (v : VarS) : Prop := -100 ≤ v.low ∧ v.low ≤ 100 ∧ -100 ≤ v.high ∧ v.high ≤ 100
theorem VarC.toB {v : VarS} (h : VarC v) : VarB v := by obtain ⟨h1, h2, h3, h4⟩ := h; exact ⟨by omega, by omega, by omega, by omega⟩
structure SyO (B M : MH) (xv xr : V) (vs : List VarS) (cells : List V) (fp : List (Nat × List V)) (rl : List RuleS) (f : List (Nat × List V)) : Prop where
  mem : Mem B M (fpG xv (catV encVar vs) ++ (fpG xr cells ++ (fp ++ f)))
  ov : OwS 3 xv (catV encVar vs)
  or : OwS 3 xr cells
  ru : RulesO cells fp rl
  vb : ∀ x ∈ vs, VarC x
  v4 : vs.length ≤ 4
  r8 : rl.length ≤ 8
  rb : ∀ r ∈ rl, RuleB r
theorem Mem.rs {M0 M : MH} {rb : Nat} {w : V} {p : Int} {f : List (Nat × List V)} (h : Mem (M0.set rb (rdC w p)) M f) : RS M0 rb w M p := ⟨h.sub _ _ set_same, h.sub⟩
theorem app_var {M0 M : MH} {s : V} {K : V → MH → Prop} {by_ bt c k : Nat} {ex : Bool} {xs : List VarS} {l : List V} (t : VarS) (h : Gr 3 M0 M s (catV encVar xs)) (hbt : M bt = none) (e : l = encVar t) (hb : xs.length ≤ 1048576) (hby : by_ ≤ 64)
    (hk : ∀ s' M', Gr 3 M0 M' s' (catV encVar (xs ++ [t])) → Oth M M' s s' → K s' M') : appV 3 by_ s (.sc (.sl (some (bt, 0)) 1 c ex k)) (M.set bt l) K := by
  subst e
  have hlen : (catV encVar xs).length = xs.length * 3 := catV_len (sz := 3) (enc := encVar) (fun _ => rfl) xs
  have h1 : ((catV encVar xs).length + 1) * by_ ≤ ((catV encVar xs).length + 1) * 64 := Nat.mul_le_mul_left _ hby
  refine gr_app1 h (by omega) hbt rfl (by simp [encVar, oneV, er, oneA]) (by simp [mostCells]; omega) (by simp [mostCells]; omega) fun s' M' q1 q2 => hk s' M' (by rw [catV_snoc]; exact q1) q2
theorem OwS.lenV {v : V} {vs : List VarS} (h : OwS 3 v (catV encVar vs)) : lenF (er v) = some (.int .i64 (vs.length : Int)) := by
  have := catV_len (sz := 3) (enc := encVar) (fun _ => rfl) vs
  rcases h with ⟨h0, k, rfl⟩ | ⟨b, n, ex, rfl, h2⟩
  · rw [h0] at this
    have h9 : vs.length = 0 := by rw [List.length_nil] at this; omega
    rw [h9]; rfl
  · rw [show vs.length = n by omega]; rfl
theorem t_l2System {rb : Nat} {w : V} {code : List Int} {p most : Int} (hr : Rdr w code) (hm : M rb = some (rdC w p)) (h0 : 0 ≤ p) (h1 : p ≤ 600000) (hmo : most ≤ 400) :
    VCall Try.prog n_spec_l2System [.sc (.ptr (some (rb, 0))), .sc (.int .i64 most)] M (fun r M' => ∃ p' xv xr vs cells fp rl, r = .agg [xv, xr] ∧ SyO (M.set rb (rdC w p')) M' xv xr vs cells fp rl [] ∧ 1 ≤ vs.length ∧ p ≤ p' ∧ p' ≤ p + 13000) := by
  refine VCall.plain fun R hR => v_spec_l2System rfl ?_
  have rs0 := RS.start hm
  refine sS0 ?_
  intro b4 hb4 b5 hb5
  have n45 := (fresh_set hb5).1
  have m5 : Mem (M.set rb (rdC w p)) ((M.set b4 [nil1, nil1]).set b5 [nil1, nil1]) ((b5, [nil1, nil1]) :: (fpG nil1 (catV encVar []) ++ [(b4, [nil1, nil1])])) := by
    have q := ((Mem.nil rs0.sub).new1 (l := [nil1, nil1]) hb4).new1 (l := [nil1, nil1]) hb5
    simpa [fpG, blkV, nil1, catV] using q
  change VCall _ _ _ ((M.set b4 [nil1, nil1]).set b5 [nil1, nil1]) _
  generalize (M.set b4 [nil1, nil1]).set b5 [nil1, nil1] = M1 at *
  refine (t_pick hr m5.rs.at_ (by omega) (by omega)).mono ?_
  rintro _ M2 ⟨e2, k2, rfl, a2, b2, _⟩
  have b2 := b2 (by omega)
  have m2 := m5.rd' e2
  refine sS0 ?_
  refine loop_g (fun j e M' => ∃ (p' n : Int) (xv : V) (vs : List VarS), e 0 = .sc (.ptr (some (rb, 0))) ∧ e 1 = .sc (.int .i64 most) ∧ e 4 = .sc (.ptr (some (b4, 0))) ∧ e 5 = .sc (.ptr (some (b5, 0))) ∧ e 6 = .sc (.int .i64 n) ∧ e 7 = .sc (.int .i64 (j : Nat)) ∧ Mem (M.set rb (rdC w p')) M' ((b5, [xv, nil1]) :: (fpG xv (catV encVar vs) ++ [(b4, [nil1, nil1])])) ∧ OwS 3 xv (catV encVar vs) ∧ (∀ x ∈ vs, VarC x) ∧ vs.length + j ≤ 3 ∧ 1 ≤ n ∧ n ≤ 400 ∧ p ≤ p' ∧ p' + 3 * j ≤ p + 10) (1 + k2).toNat ?_ ?_
  · have e11 : (((1 + k2).toNat : Nat) : Int) = 1 + k2 := by omega
    exact ⟨p + 1, 1, nil1, [], sE0, sE0, sE0, sE0, sE0, sE1 @e11, m2, .inl ⟨rfl, 0, rfl⟩, fun x h => (by cases h), by simp; omega, by omega, by omega, by omega, by omega⟩
  · rintro j e M3 ⟨p3, n, xv, vs, q0, q1, q4, q5, q6, q7, hmem, hov, hvb, hc, n1, n2, d1, d2⟩ K hK
    have h5 := hmem.hd
    have ho := hov.one
    refine sS6 @q0 @q1 @q4 @q5 @q6 @q7 ?_
    refine cond_dec (fun hj => ?_) (fun hj => ?_)
    · refine sS6 @q0 @q1 @q4 @q5 @q6 @q7 ?_
      intro bn hbn
      refine (t_numL [2, 3, 2, 4, 5] hr hbn hmem.rs.at_ (by omega) (by omega) rfl rfl (by simp) (by simp)).mono ?_
      rintro _ M4 ⟨e4, sp, hsp, rfl⟩
      have sp1 : 2 ≤ sp ∧ sp ≤ 5 := by simp only [List.mem_cons, List.not_mem_nil, or_false] at hsp; omega
      have mem4 := hmem.rd' e4
      have hnl : 1 ≤ n * sp ∧ n * sp ≤ 2000 := by
        obtain ⟨s1, s2⟩ := sp1
        have : sp = 2 ∨ sp = 3 ∨ sp = 4 ∨ sp = 5 := by omega
        rcases this with rfl | rfl | rfl | rfl <;> omega
      refine sS6 @q0 @q1 @q4 @q5 @q6 @q7 ?_
      have ej : (j : Int) - 1 = ((j - 1 : Nat) : Int) := by omega
      refine cond_dec (fun hle => ?_) (fun hle => ?_)
      · refine sS6 @q0 @q1 @q4 @q5 @q6 @q7 ?_
        intro bl hbl
        refine (t_numL [0, 0, 0, -1, 2] hr hbl mem4.rs.at_ (by omega) (by omega) rfl rfl (by simp) (by simp)).mono ?_
        rintro _ M5 ⟨e5, lo, hlo, rfl⟩
        have lo1 : -1 ≤ lo ∧ lo ≤ 2 := by simp only [List.mem_cons, List.not_mem_nil, or_false] at hlo; omega
        have mem5 := mem4.rd' e5
        have h55 := mem5.hd
        refine sS1 @h55 ?_
        refine (t_pick hr mem5.rs.at_ (by omega) (by omega)).mono ?_
        rintro _ M6 ⟨e6, k6, rfl, a6, b6, _⟩
        have b6 := b6 (by omega)
        have mem6 := mem5.rd' e6
        have h66 := mem6.hd
        refine sS1 @h66 ?_
        intro bt hbt
        have m7 := mem6.perm List.perm_middle.symm
        refine app_var ⟨lo, lo + sp - 1, lo + k6⟩ (m7.gr hov) hbt rfl (by omega) (by omega) ?_
        intro s' M8 hg8 ho8
        have m8 := (m7.app hg8 ho8).perm List.perm_middle
        have h88 := m8.hd
        have o8 := hg8.one
        have o81 := o8.1
        have o82 := o8.2
        refine sS3 @h88 @o81 @o82 ?_
        refine hK (j - 1) _ _ (by omega) ⟨_, n * sp, s', _, sE0, sE0, sE0, sE0, sE0, sE1 @ej, m8.upd, hg8.own.sh.1, fun x hx => ?_, by simp; omega, by omega, by omega, by omega, by omega⟩
        rcases List.mem_append.1 hx with h' | h'
        · exact hvb x h'
        · rw [List.mem_singleton] at h'; subst h'
          exact ⟨by simp only; omega, by simp only; omega, by simp only; omega, by simp only; omega⟩
      · refine sS6 @q0 @q1 @q4 @q5 @q6 @q7 ?_
        exact hK (j - 1) _ _ (by omega) ⟨_, n, xv, vs, sE0, sE0, sE0, sE0, sE0, sE1 @ej, mem4, hov, hvb, by omega, by omega, by omega, by omega, by omega⟩
    · obtain rfl : j = 0 := by omega
      clear hK m2 e2 m5
      simp (maxSteps := 2000000) (disch := first | omega | assumption | exact idP rfl | exact idP (bL rfl)) only [go_sem, reduceIte, Nat.reduceEqDiff, wpV_kd, q0, q1, q4, q5, q6, q7]
      refine midQ (fun e' M' => ∃ (xv : V) (vs : List VarS), e' 0 = .sc (.ptr (some (rb, 0))) ∧ e' 4 = .sc (.ptr (some (b4, 0))) ∧ e' 5 = .sc (.ptr (some (b5, 0))) ∧ Mem (M.set rb (rdC w p3)) M' ((b5, [xv, nil1]) :: (fpG xv (catV encVar vs) ++ [(b4, [nil1, nil1])])) ∧ OwS 3 xv (catV encVar vs) ∧ (∀ x ∈ vs, VarC x) ∧ 1 ≤ vs.length ∧ vs.length ≤ 4) ?_ ?_
      · intro K' Q' hK'
        refine sS2 @h5 @hov.lenV ?_
        refine cond_dec (fun hz => ?_) (fun hz => ?_)
        · refine sS1 @h5 ?_
          intro bt hbt
          have m7 := hmem.perm List.perm_middle.symm
          refine app_var ⟨0, 1, 0⟩ (m7.gr hov) hbt rfl (by omega) (by omega) ?_
          intro s' M8 hg8 ho8
          have m8 := (m7.app hg8 ho8).perm List.perm_middle
          have h88 := m8.hd
          have o81 := hg8.one.1
          have o82 := hg8.one.2
          refine sS3 @h88 @o81 @o82 ?_
          refine hK' _ _ ⟨s', _, sE0, sE0, sE0, m8.upd, hg8.own.sh.1, fun x hx => ?_, by simp, by simp; omega⟩
          rcases List.mem_append.1 hx with h' | h'
          · exact hvb x h'
          · rw [List.mem_singleton] at h'; subst h'
            exact ⟨by simp only; omega, by simp only; omega, by simp only; omega, by simp only; omega⟩
        · refine sS0 ?_
          exact hK' _ _ ⟨xv, vs, sE0, sE0, sE0, hmem, hov, hvb, by omega, by omega⟩
      · clear hmem hov hvb hc h5 ho q0 q4 q5
        rintro e' M4 ⟨xv, vs, q0, q4, q5, hmem, hov, hvb, v1, v4⟩
        have h5 := hmem.hd
        refine sS4 @q0 @q4 @q5 @h5 ?_
        intro bn hbn
        refine (t_numL [1, 2, 3, 4, 2, 3, 0] hr hbn hmem.rs.at_ (by omega) (by omega) rfl rfl (by simp) (by simp)).mono ?_
        rintro _ M5 ⟨e5, my, hmy, rfl⟩
        obtain ⟨mn, rfl, hmn⟩ : ∃ mn : Nat, my = (mn : Int) ∧ mn ≤ 8 := ⟨my.toNat, by simp only [List.mem_cons, List.not_mem_nil, or_false] at hmy; omega, by simp only [List.mem_cons, List.not_mem_nil, or_false] at hmy; omega⟩
        have mem5 := hmem.rd' e5
        have h55 := mem5.hd
        refine sS4 @q0 @q4 @q5 @h55 ?_
        have m7 := mem5.perm List.perm_middle.symm
        have hgx := m7.gr hov
        refine (t_l2Rules hr mem5.rs.at_ (by omega) (by omega) hgx.own (fun e => by have := hgx.new rb e; rw [set_same] at this; cases this) (fun x hx => (hvb x hx).toB) v1 (by omega) hmn).mono ?_
        rintro xr M6 ⟨p6, cells, fp, rl, hmr, hor, hru, d3, d4, r8, rb8⟩
        have m8 := (mem5.rd (Y := rdC w p6)).add hmr
        have h66 := m8.hd
        have or1 := hor.one.1
        have or2 := hor.one.2
        refine sS5 @q4 @q5 @h66 @or1 @or2 ?_
        have m9 := m8.upd (l' := [xv, xr])
        have m10 : Mem (M.set rb (rdC w p6)) (M6.set b5 [xv, xr]) ((b4, [nil1, nil1]) :: (b5, [xv, xr]) :: (fpG xv (catV encVar vs) ++ (fpG xr cells ++ fp))) := by
          refine m9.perm ?_
          have e9 : (b5, [xv, xr]) :: (fpG xv (catV encVar vs) ++ [(b4, [nil1, nil1])]) ++ (fpG xr cells ++ fp) = (b5, [xv, xr]) :: (fpG xv (catV encVar vs) ++ (b4, [nil1, nil1]) :: (fpG xr cells ++ fp)) := by simp
          show ((b5, [xv, xr]) :: (fpG xv (catV encVar vs) ++ [(b4, [nil1, nil1])]) ++ (fpG xr cells ++ fp)).Perm _
          rw [e9]
          exact (List.Perm.cons _ List.perm_middle).trans (List.Perm.swap ..)
        have h9 := m9.hd
        have h4 := m10.hd
        have ov1 := hov.one.1
        have h4' : M6 b4 = some [nil1, nil1] := by rw [← h4, set_ne (Ne.symm n45)]
        refine sS3 @h4' @or1 @ov1 ?_
        have m11 := (m10.upd (l' := [xv, xr])).tail.tail
        exact hR _ _ ⟨p6, xv, xr, vs, cells, fp, rl, rfl, ⟨by simpa using m11, hov, hor, hru, hvb, v4, by omega, rb8⟩, v1, by omega, by omega⟩
end Go.M2

namespace Go.M2
open Go.Proofs
variable {M : MH}
def RuleN (N : Nat) (r : RuleS) : Prop := r.when_.length ≤ 81 ∧ r.sets.length ≤ N ∧ r.terms.length ≤ N ∧ ∀ ts ∈ r.terms, ts.length ≤ 81
theorem RuleN.mono {N N' : Nat} {r : RuleS} (h : RuleN N r) (hn : N ≤ N') : RuleN N' r := ⟨h.1, Nat.le_trans h.2.1 hn, Nat.le_trans h.2.2.1 hn, h.2.2.2⟩
theorem RuleB.toN {r : RuleS} (h : RuleB r) : RuleN 6 r := ⟨h.1, h.2.1, h.2.2.1, fun ts ht => Nat.le_trans (h.2.2.2 ts ht) (by omega)⟩
structure Sy5 (N : Nat) (B M : MH) (b4 b5 : Nat) (xv xr : V) (vs : List VarS) (cells : List V) (fp : List (Nat × List V)) (rl : List RuleS) : Prop where
  mem : Mem B M ((b4, [nil1, nil1]) :: (b5, [xv, xr]) :: (fpG xv (catV encVar vs) ++ (fpG xr cells ++ fp)))
  ov : OwS 3 xv (catV encVar vs)
  or : OwS 3 xr cells
  ru : RulesO cells fp rl
  vb : ∀ x ∈ vs, VarB x
  v4 : vs.length ≤ 4
  r8 : rl.length ≤ 8
  rb : ∀ r ∈ rl, RuleN N r
structure SyN (B M : MH) (xv xr : V) (vs : List VarS) (cells : List V) (fp : List (Nat × List V)) (rl : List RuleS) : Prop where
  mem : Mem B M (fpG xv (catV encVar vs) ++ (fpG xr cells ++ fp))
  ov : OwS 3 xv (catV encVar vs)
  or : OwS 3 xr cells
  ru : RulesO cells fp rl
  vb : ∀ x ∈ vs, VarB x
  v4 : vs.length ≤ 4
  r8 : rl.length ≤ 8
  rb : ∀ r ∈ rl, RuleN 7 r
section
variable {N : Nat} {B M M' : MH} {b4 b5 rb : Nat} {xv xr w : V} {vs : List VarS} {cells : List V} {fp : List (Nat × List V)} {rl : List RuleS} {q : Int} {X : List V}
theorem Sy5.rd' (h : Sy5 N (B.set rb X) M b4 b5 xv xr vs cells fp rl) (e : M' = M.set rb (rdC w q)) : Sy5 N (B.set rb (rdC w q)) M' b4 b5 xv xr vs cells fp rl := ⟨h.mem.rd' e, h.ov, h.or, h.ru, h.vb, h.v4, h.r8, h.rb⟩
theorem Sy5.at5 (h : Sy5 N B M b4 b5 xv xr vs cells fp rl) : M b5 = some [xv, xr] := h.mem.tail.hd
theorem Sy5.rs (h : Sy5 N (B.set rb (rdC w q)) M b4 b5 xv xr vs cells fp rl) : RS B rb w M q := h.mem.rs
theorem Sy5.vars (h : Sy5 N B M b4 b5 xv xr vs cells fp rl) (hl : 1 ≤ vs.length) : ∃ v0 tl bv n ex, vs = v0 :: tl ∧ xv = .sc (.sl (some (bv, 0)) n n ex 3) ∧ 1 ≤ n ∧ M bv = some (.sc (.int .i64 v0.low) :: .sc (.int .i64 v0.high) :: .sc (.int .i64 v0.first) :: catV encVar tl) ∧
    ∀ v1 : VarS, VarB v1 → Sy5 N B (M.set bv (.sc (.int .i64 v1.low) :: .sc (.int .i64 v1.high) :: .sc (.int .i64 v1.first) :: catV encVar tl)) b4 b5 xv xr (v1 :: tl) cells fp rl := by
  obtain ⟨v0, tl, rfl⟩ : ∃ v0 tl, vs = v0 :: tl := by
    cases vs with
    | nil => simp at hl
    | cons a b => exact ⟨a, b, rfl⟩
  obtain ⟨mem, ov, or, ru, vb, v4, r8, rb⟩ := h
  rcases ov with ⟨h0, _⟩ | ⟨bv, n, ex, rfl, h2⟩
  · simp [catV, encVar] at h0
  · have hcl := catV_len (sz := 3) (enc := encVar) (fun _ => rfl) (v0 :: tl)
    have hn : n = tl.length + 1 := by rw [h2] at hcl; simp at hcl; omega
    have m1 : Mem B M ((bv, catV encVar (v0 :: tl)) :: ((b4, [nil1, nil1]) :: (b5, [.sc (.sl (some (bv, 0)) n n ex 3), xr]) :: (fpG xr cells ++ fp))) := by
      refine mem.perm ?_
      rw [fpG_one (s := .sc (.sl (some (bv, 0)) n n ex 3)) rfl]
      exact (List.Perm.cons _ (List.Perm.swap ..)).trans (List.Perm.swap ..)
    refine ⟨v0, tl, bv, n, ex, rfl, rfl, by omega, m1.hd, fun v1 hv1 => ⟨?_, .inr ⟨bv, n, ex, rfl, ?_⟩, or, ru, fun x hx => ?_, by simpa using v4, r8, rb⟩⟩
    · have m2 := m1.upd (l' := catV encVar (v1 :: tl))
      refine m2.perm ?_
      rw [fpG_one (s := .sc (.sl (some (bv, 0)) n n ex 3)) rfl]
      exact ((List.Perm.cons _ (List.Perm.swap ..)).trans (List.Perm.swap ..)).symm
    · rw [catV_len (sz := 3) (enc := encVar) (fun _ => rfl) (v1 :: tl)]; simp; omega
    · rcases List.mem_cons.1 hx with rfl | hx
      · exact hv1
      · exact vb x (List.mem_cons_of_mem _ hx)
theorem Sy5.none (h : Sy5 N B M b4 b5 xv xr vs cells fp rl) : Sy5 N B (M.set b5 [nil1, xr]) b4 b5 nil1 xr [] cells fp rl := by
  have m1 := (h.mem.perm (List.Perm.swap ..)).upd (l' := [nil1, xr])
  refine ⟨?_, .inl ⟨rfl, 0, rfl⟩, h.or, h.ru, fun x hx => (by cases hx), by simp, h.r8, h.rb⟩
  have m2 := m1.perm (List.Perm.swap ..)
  have m3 : Mem B (M.set b5 [nil1, xr]) (fpG xv (catV encVar vs) ++ ((b4, [nil1, nil1]) :: (b5, [nil1, xr]) :: (fpG xr cells ++ fp))) := by
    refine m2.perm ?_
    exact (List.Perm.cons _ List.perm_middle.symm).trans List.perm_middle.symm
  simpa [fpG, blkV, nil1] using m3.right
structure Rl0 (N : Nat) (B M : MH) (b4 b5 : Nat) (xv : V) (vs : List VarS) (br n : Nat) (ex : Bool) (a a' b c : V) (cs : List V) (ints : List Int) (rows : List V) (ga fq : List (Nat × List V)) (ws : List TermS) (terms : List (List TermS)) (rt : List RuleS) : Prop where
  n1 : 1 ≤ n
  hn : (a :: b :: c :: cs).length = n * 3
  mem : Mem B M ((br, a :: b :: c :: cs) :: (b4, [nil1, nil1]) :: (b5, [xv, .sc (.sl (some (br, 0)) n n ex 3)]) :: (fpG xv (catV encVar vs) ++ (ga ++ (fpG b (ints.map vi) ++ (fpG c rows ++ fq)))))
  oa : One a
  ta : Tr [a] [a'] ga
  la : LT a' ws
  ob : OwS 1 b (ints.map vi)
  oc : OwS 1 c rows
  cc : Cs (fun ts u => LT u ts) rows terms
  ru : RulesO cs fq rt
  ov : OwS 3 xv (catV encVar vs)
  vb : ∀ x ∈ vs, VarB x
  v4 : vs.length ≤ 4
  r8 : rt.length + 1 ≤ 8
  rb0 : RuleN N ⟨ws, ints, terms⟩
  rb : ∀ r ∈ rt, RuleN N r
theorem Sy5.rules (h : Sy5 N B M b4 b5 xv xr vs cells fp rl) (hl : 0 < rl.length) : ∃ br n ex a a' b c cs ints rows ga fq ws terms rt, xr = .sc (.sl (some (br, 0)) n n ex 3) ∧ Rl0 N B M b4 b5 xv vs br n ex a a' b c cs ints rows ga fq ws terms rt := by
  obtain ⟨mem, ov, or, ru, vb, v4, r8, rb⟩ := h
  cases ru with
  | nil => simp at hl
  | @cons a a' b c ints rows cs ga fq ws terms rt h1 h0 h2 h3 h4 h5 h6 =>
    rcases or with ⟨hz, _⟩ | ⟨br, n, ex, rfl, hn⟩
    · simp at hz
    · refine ⟨br, n, ex, a, a', b, c, cs, ints, rows, ga, fq, ws, terms, rt, rfl, by simp at hn; omega, hn, ?_, h1, h0, h2, h3, h4, h5, h6, ov, vb, v4, by simpa using r8, rb _ (List.mem_cons_self ..), fun r hr => rb r (List.mem_cons_of_mem _ hr)⟩
      refine mem.perm ?_
      rw [fpG_one (s := .sc (.sl (some (br, 0)) n n ex 3)) rfl]
      exact (List.Perm.cons _ (List.Perm.cons _ List.perm_middle)).trans (List.perm_middle (l₁ := [_, _]))
variable {br n : Nat} {ex : Bool} {a a' b c : V} {cs : List V} {ints : List Int} {rows : List V} {ga fq : List (Nat × List V)} {ws : List TermS} {terms : List (List TermS)} {rt : List RuleS}
theorem Rl0.back (h : Rl0 N B M b4 b5 xv vs br n ex a a' b c cs ints rows ga fq ws terms rt) : Sy5 N B M b4 b5 xv (.sc (.sl (some (br, 0)) n n ex 3)) vs (a :: b :: c :: cs) (ga ++ (fpG b (ints.map vi) ++ (fpG c rows ++ fq))) (⟨ws, ints, terms⟩ :: rt) := by
  refine ⟨?_, h.ov, .inr ⟨br, n, ex, rfl, h.hn⟩, .cons h.oa h.ta h.la h.ob h.oc h.cc h.ru, h.vb, h.v4, by simpa using h.r8, fun r hr => ?_⟩
  · refine h.mem.perm ?_
    rw [fpG_one (s := .sc (.sl (some (br, 0)) n n ex 3)) rfl]
    exact ((List.Perm.cons _ (List.Perm.cons _ List.perm_middle)).trans (List.perm_middle (l₁ := [_, _]))).symm
  · rcases List.mem_cons.1 hr with rfl | hr
    · exact h.rb0
    · exact h.rb r hr
theorem Rl0.rd' {q : Int} {X : List V} (h : Rl0 N (B.set rb X) M b4 b5 xv vs br n ex a a' b c cs ints rows ga fq ws terms rt) (e : M' = M.set rb (rdC w q)) : Rl0 N (B.set rb (rdC w q)) M' b4 b5 xv vs br n ex a a' b c cs ints rows ga fq ws terms rt :=
  ⟨h.n1, h.hn, h.mem.rd' e, h.oa, h.ta, h.la, h.ob, h.oc, h.cc, h.ru, h.ov, h.vb, h.v4, h.r8, h.rb0, h.rb⟩
theorem Rl0.setA {bl m : Nat} {ex2 : Bool} {ts : List TermS} (h : Rl0 N B M b4 b5 xv vs br n ex a a' b c cs ints rows ga fq ws terms rt) (hbl : M bl = none) (hm : m = ts.length) (ht : ts.length ≤ 81) :
    Sy5 N B ((M.set bl (catV encT ts)).set br (.sc (.sl (some (bl, 0)) m m ex2 4) :: b :: c :: cs)) b4 b5 xv (.sc (.sl (some (br, 0)) n n ex 3)) vs (.sc (.sl (some (bl, 0)) m m ex2 4) :: b :: c :: cs) ([(bl, catV encT ts)] ++ (fpG b (ints.map vi) ++ (fpG c rows ++ fq))) (⟨ts, ints, terms⟩ :: rt) := by
  have hos : OwS 4 (.sc (.sl (some (bl, 0)) m m ex2 4)) (catV encT ts) := .inr ⟨bl, m, ex2, rfl, by rw [catV_len (sz := 4) (enc := encT) (fun _ => rfl) ts, hm]⟩
  obtain ⟨u, tu, fu⟩ := hos.tr (Tr.refl _)
  rw [List.append_nil] at tu
  refine Rl0.back (a' := u) ⟨h.n1, by simpa using h.hn, ?_, ⟨rfl, rfl⟩, tu, fu.lt, h.ob, h.oc, h.cc, h.ru, h.ov, h.vb, h.v4, h.r8, ⟨ht, h.rb0.2.1, h.rb0.2.2.1, h.rb0.2.2.2⟩, h.rb⟩
  have m1 := h.mem.new1 (l := catV encT ts) hbl
  have m2 := (m1.perm (List.Perm.swap ..)).upd (l' := .sc (.sl (some (bl, 0)) m m ex2 4) :: b :: c :: cs)
  -- the old condition is let go
  have m3 : Mem B ((M.set bl (catV encT ts)).set br (.sc (.sl (some (bl, 0)) m m ex2 4) :: b :: c :: cs)) (ga ++ ((br, .sc (.sl (some (bl, 0)) m m ex2 4) :: b :: c :: cs) :: (b4, [nil1, nil1]) :: (b5, [xv, .sc (.sl (some (br, 0)) n n ex 3)]) :: (fpG xv (catV encVar vs) ++ ([(bl, catV encT ts)] ++ (fpG b (ints.map vi) ++ (fpG c rows ++ fq)))))) := by
    refine m2.perm ?_
    have e1 : ∀ (x y z u : Nat × List V) (V1 V2 V3 : List (Nat × List V)), (x :: y :: z :: u :: (V1 ++ (V2 ++ V3))).Perm (V2 ++ (x :: z :: u :: (V1 ++ ([y] ++ V3)))) := fun x y z u V1 V2 V3 => by
      have s1 : (x :: y :: z :: u :: (V1 ++ (V2 ++ V3))).Perm (x :: z :: u :: y :: (V1 ++ (V2 ++ V3))) := List.Perm.cons _ ((List.Perm.swap ..).trans (List.Perm.cons _ (List.Perm.swap ..)))
      have s2 : (x :: z :: u :: y :: (V1 ++ (V2 ++ V3))).Perm (x :: z :: u :: (V1 ++ (V2 ++ (y :: V3)))) := by
        refine List.Perm.cons _ (List.Perm.cons _ (List.Perm.cons _ ?_))
        have := (List.perm_middle (a := y) (l₁ := V1 ++ V2) (l₂ := V3)).symm
        simpa using this
      have s3 : (x :: z :: u :: (V1 ++ (V2 ++ (y :: V3)))).Perm (V2 ++ (x :: z :: u :: (V1 ++ ([y] ++ V3)))) := by
        have := List.perm_append_comm_assoc (x :: z :: u :: V1) V2 (y :: V3)
        simpa using this
      exact s1.trans (s2.trans s3)
    exact e1 _ _ _ _ _ _ _
  have m4 := m3.right
  rw [fpG_one (s := .sc (.sl (some (bl, 0)) m m ex2 4)) rfl] at *
  exact m4
theorem Sy5.mono {N' : Nat} (h : Sy5 N B M b4 b5 xv xr vs cells fp rl) (hn : N ≤ N') : Sy5 N' B M b4 b5 xv xr vs cells fp rl := ⟨h.mem, h.ov, h.or, h.ru, h.vb, h.v4, h.r8, fun r hr => (h.rb r hr).mono hn⟩
variable {K : V → MH → Prop}
theorem perm5 {α : Type} (x y z : α) (V1 V2 F C : List α) : (x :: y :: z :: (V1 ++ (V2 ++ (F ++ C)))).Perm (F ++ (x :: y :: z :: (V1 ++ (V2 ++ C)))) := by
  have := List.perm_append_comm_assoc (x :: y :: z :: (V1 ++ V2)) F C
  simpa using this
theorem Rl0.pushB {by_ bt c' k : Nat} {ex' : Bool} {n0 : Int} (h : Rl0 N B M b4 b5 xv vs br n ex a a' b c cs ints rows ga fq ws terms rt) (hN : N ≤ 100) (hbt : M bt = none) (hby : by_ ≤ 16)
    (hk : ∀ s' M', M' br = some (a :: b :: c :: cs) → M' b5 = some [xv, .sc (.sl (some (br, 0)) n n ex 3)] → b5 ≠ br → One s' → Sy5 (N + 1) B (M'.set br (a :: s' :: c :: cs)) b4 b5 xv (.sc (.sl (some (br, 0)) n n ex 3)) vs (a :: s' :: c :: cs) (ga ++ (fpG s' ((ints ++ [n0]).map vi) ++ (fpG c rows ++ fq))) (⟨ws, ints ++ [n0], terms⟩ :: rt) → K s' M') :
    appV 1 by_ b (.sc (.sl (some (bt, 0)) 1 c' ex' k)) (M.set bt [.sc (.int .i64 n0)]) K := by
  have hi := h.rb0.2.1
  have m1 := h.mem.perm (perm5 _ _ _ _ _ _ _)
  simp only at hi
  refine app_int (m1.gr h.ob) hbt (by omega) hby fun s' M' h1 h2 => ?_
  have m2 := (m1.app h1 h2).perm (perm5 _ _ _ _ _ _ _).symm
  have m3 := m2.upd (l' := a :: s' :: c :: cs)
  refine hk s' M' m2.hd m2.tail.tail.hd (m2.ne _ (List.mem_cons_of_mem _ (List.mem_cons_self ..))) h1.one (Rl0.back ⟨h.n1, by simpa using h.hn, m3, h.oa, h.ta, h.la, h1.own.sh.1, h.oc, h.cc, h.ru, h.ov, h.vb, h.v4, h.r8, ⟨h.rb0.1, by simp; omega, Nat.le_trans h.rb0.2.2.1 (by omega), h.rb0.2.2.2⟩, fun r hr => (h.rb r hr).mono (by omega)⟩)
theorem Rl0.pushC {by_ bt bl m c' k : Nat} {ex' ex2 : Bool} {ts : List TermS} (h : Rl0 N B M b4 b5 xv vs br n ex a a' b c cs ints rows ga fq ws terms rt) (hN : N ≤ 100) (hbl : M bl = none) (hm : m = ts.length) (ht : ts.length ≤ 81) (hbt : (M.set bl (catV encT ts)) bt = none) (hby : by_ ≤ 32)
    (hk : ∀ s' M' u, M' br = some (a :: b :: c :: cs) → M' b5 = some [xv, .sc (.sl (some (br, 0)) n n ex 3)] → b5 ≠ br → One s' → Sy5 (N + 1) B (M'.set br (a :: b :: s' :: cs)) b4 b5 xv (.sc (.sl (some (br, 0)) n n ex 3)) vs (a :: b :: s' :: cs) (ga ++ (fpG b (ints.map vi) ++ (fpG s' (rows ++ [u]) ++ fq))) (⟨ws, ints, terms ++ [ts]⟩ :: rt) → K s' M') :
    appV 1 by_ c (.sc (.sl (some (bt, 0)) 1 c' ex' k)) ((M.set bl (catV encT ts)).set bt [.sc (.sl (some (bl, 0)) m m ex2 4)]) K := by
  have hi := h.rb0.2.2.1
  have hrt : rows.length = terms.length := h.cc.1
  simp only at hi
  have hs : Sub M (M.set bl (catV encT ts)) := (Sub.refl M).set' hbl
  have m0 := h.mem.more hs
  have p5 : ∀ {x y z : Nat × List V} {V1 V2 F1 F C : List (Nat × List V)}, (x :: y :: z :: (V1 ++ (V2 ++ (F1 ++ (F ++ C))))).Perm (F ++ (x :: y :: z :: (V1 ++ (V2 ++ (F1 ++ C))))) := fun {x y z V1 V2 F1 F C} => by
    have := perm5 x y z V1 (V2 ++ F1) F C
    simpa using this
  have m1 := m0.perm p5
  have hg := m1.gr h.oc
  have hrow : Gr 4 M (M.set bl (catV encT ts)) (.sc (.sl (some (bl, 0)) m m ex2 4)) (catV encT ts) := Gr.new' (Sub.refl M) hbl (by rw [catV_len (sz := 4) (enc := encT) (fun _ => rfl) ts, hm])
  have hgM := (h.mem.perm p5).gr h.oc
  have hne := hgM.ne hrow
  have hb1 : (rows.length + 1) * by_ ≤ (rows.length + 1) * 32 := Nat.mul_le_mul_left _ hby
  refine gr_appF hg (hrow.base h.mem.sub) hne hbt (by simp [mostCells]; omega) (by simp [mostCells]; omega) fun s' M' u h1 hu h2 => ?_
  have ho : Oth M M' c s' := fun i l hi hb => h2 i l (hs _ _ hi) hb (fun e => by simp only [blkV, Option.some.injEq] at e; subst e; rw [hbl] at hi; cases hi)
  have m2 := ((h.mem.perm p5).app h1 ho).perm p5.symm
  have m3 := m2.upd (l' := a :: b :: s' :: cs)
  refine hk s' M' u m2.hd m2.tail.tail.hd (m2.ne _ (List.mem_cons_of_mem _ (List.mem_cons_self ..))) h1.one (Rl0.back ⟨h.n1, by simpa using h.hn, m3, h.oa, h.ta, h.la, h.ob, h1.own.sh.1, h.cc.snoc hu.lt, h.ru, h.ov, h.vb, h.v4, h.r8, ⟨h.rb0.1, Nat.le_trans h.rb0.2.1 (by omega), by simp; omega, fun ts' hts => ?_⟩, fun r hr => (h.rb r hr).mono (by omega)⟩)
  rcases List.mem_append.1 hts with h' | h'
  · exact h.rb0.2.2.2 ts' h'
  · rw [List.mem_singleton] at h'; subst h'; exact ht
end
theorem midC {P : Program} {Q : PostV} {e : EnvV} {c : AV} {a b : IR} {K : EnvV → MH → Prop} (J : EnvV → MH → Prop) (h : ∀ (K' : EnvV → MH → Prop) (Q' : PostV), (∀ e' M', J e' M' → K' e' M') → condVV P c a b (thenQV K' Q') e M) (hk : ∀ e' M', J e' M' → K e' M') : condVV P c a b (thenQV K Q) e M := h K Q hk
theorem t_l2Any {rb : Nat} {w : V} {code : List Int} {p most : Int} (hr : Rdr w code) (hm : M rb = some (rdC w p)) (h0 : 0 ≤ p) (h1 : p ≤ 500000) (hmo : most ≤ 400) :
    VCall Try.prog n_spec_l2Any [.sc (.ptr (some (rb, 0))), .sc (.int .i64 most)] M (fun r M' => ∃ p' xv xr vs cells fp rl, r = .agg [xv, xr] ∧ SyN (M.set rb (rdC w p')) M' xv xr vs cells fp rl ∧ p ≤ p' ∧ p' ≤ p + 13010) := by
  refine VCall.plain fun R hR => v_spec_l2Any rfl ?_
  have rs0 := RS.start hm
  refine sS0 ?_
  intro b4 hb4
  have m4 : Mem (M.set rb (rdC w p)) (M.set b4 [nil1, nil1]) [(b4, [nil1, nil1])] := (Mem.nil rs0.sub).new1 hb4
  change VCall _ _ _ (M.set b4 [nil1, nil1]) _
  generalize M.set b4 [nil1, nil1] = M1 at *
  refine (t_l2System hr m4.rs.at_ (by omega) (by omega) hmo).mono ?_
  rintro _ M2 ⟨p2, xv, xr, vs, cells, fp, rl, rfl, sy, v1, d1, d2⟩
  have o1 := sy.ov.one.1
  have o2 := sy.or.one.1
  have hvc := sy.vb
  refine sS2 @o1 @o2 ?_
  intro b5 hb5
  have m5 := ((m4.rd (Y := rdC w p2)).add sy.mem).new1 (l := [xv, xr]) hb5
  have s5 : Sy5 6 (M.set rb (rdC w p2)) (M2.set b5 [xv, xr]) b4 b5 xv xr vs cells fp rl := ⟨by
    refine m5.perm ?_
    simpa using List.Perm.swap .., sy.ov, sy.or, sy.ru, fun x hx => (sy.vb x hx).toB, sy.v4, sy.r8, fun r hr => (sy.rb r hr).toN⟩
  generalize M2.set b5 [xv, xr] = M3 at *
  clear m5 m4
  refine (t_pick hr s5.rs.at_ (by omega) (by omega)).mono ?_
  rintro _ M4 ⟨e4, k4, rfl, _, _, _⟩
  have s4 := s5.rd' e4
  simp (maxSteps := 2000000) (disch := first | omega | assumption | exact idP rfl | exact idP (bL rfl)) only [go_sem, reduceIte, Nat.reduceEqDiff, wpV_kd]
  refine midC (fun e' M' => ∃ p' xv xr vs cells fp rl, e' 4 = .sc (.ptr (some (b4, 0))) ∧ e' 5 = .sc (.ptr (some (b5, 0))) ∧ Sy5 7 (M.set rb (rdC w p')) M' b4 b5 xv xr vs cells fp rl ∧ p ≤ p' ∧ p' ≤ p + 13010) ?_ ?_
  · intro K' Q' hK'
    refine cond_dec (fun hk => ?_) (fun hk => ?_)
    · have h5 := s4.at5
      refine sS0 ?_
      have z3 : Int.toNat 0 * 3 = 0 := rfl
      refine (t_pick hr s4.rs.at_ (by omega) (by omega)).mono ?_
      rintro _ M6 ⟨e6, k6, rfl, _, _, _⟩
      have s6 := s4.rd' e6
      have h6 := s6.at5
      obtain ⟨v0, tl, bv, nv, exv, rfl, rfl, hnv, hbv, upv⟩ := s6.vars v1
      refine sS0 ?_
      refine cond_dec (fun c0 => ?_) (fun c0 => ?_)
      · have hvb := s6.vb v0 (List.mem_cons_self ..)
        obtain ⟨y1, y2, y3, y4⟩ := hvb
        refine sS3 @h6 @hbv @z3 ?_
        exact hK' _ _ ⟨_, _, xr, _, cells, fp, rl, sE0, sE0, (upv ⟨v0.low, v0.high, v0.high + 1⟩ ⟨y1, y2, y3, y4⟩).mono (by omega), by omega, by omega⟩
      · refine sS0 ?_
        refine cond_dec (fun c1 => ?_) (fun c1 => ?_)
        · have hvb := s6.vb v0 (List.mem_cons_self ..)
          obtain ⟨y1, y2, y3, y4⟩ := hvb
          refine sS3 @h6 @hbv @z3 ?_
          intro bn hbn
          refine (t_numL [-1, 20, 19] hr hbn s6.rs.at_ (by omega) (by omega) rfl rfl (by simp) (by simp)).mono ?_
          rintro _ M7 ⟨e7, x7, hx7, rfl⟩
          have x71 : -1 ≤ x7 ∧ x7 ≤ 20 := by simp only [List.mem_cons, List.not_mem_nil, or_false] at hx7; omega
          have s7 := s6.rd' e7
          have h7 := s7.at5
          obtain ⟨v0', tl', bv', n', ex', g1, g2, hnv', hbv', upv'⟩ := s7.vars (by simp)
          cases g1
          cases g2
          refine sS3 @h7 @hbv' @z3 ?_
          obtain ⟨z1, z2, _, _⟩ := hvc v0 (List.mem_cons_self ..)
          exact hK' _ _ ⟨_, _, xr, _, cells, fp, rl, sE0, sE0, (upv' ⟨v0.low, v0.low + x7, v0.first⟩ ⟨by simp only; omega, by simp only; omega, by simp only; omega, by simp only; omega⟩).mono (by omega), by omega, by omega⟩
        · have hxl : lenF (er xr) = some (.int .i64 (rl.length : Int)) := by
            have hcl := s6.ru.len
            rcases s6.or with ⟨hz, q, rfl⟩ | ⟨br, n, ex, rfl, hn⟩
            · rw [hz] at hcl; have : rl.length = 0 := by rw [List.length_nil] at hcl; omega
              rw [this]; rfl
            · rw [show rl.length = n by omega]; rfl
          have z0 : decide (k6 = 0) = false := by simp [c0]
          have rest : ∀ e' : EnvV, e' 4 = .sc (.ptr (some (b4, 0))) → e' 5 = .sc (.ptr (some (b5, 0))) → K' e' M6 := fun e' h1 h2 => hK' _ _ ⟨_, _, _, _, cells, fp, rl, h1, h2, s6.mono (by omega), by omega, by omega⟩
          by_cases c2 : k6 = 2
          · have z2 : decide (k6 = 2) = true := by simp [c2]
            have y3 : decide (k6 = 3) = false := by simp [c2]
            have y4 : decide (k6 = 4) = false := by simp [c2]
            refine sS3 @z2 @h6 @hxl ?_
            refine cond_dec (fun cl => ?_) (fun cl => ?_)
            · obtain ⟨br, n, ex, a, a', b, c, cs, ints, rows, ga, fq, ws, terms, rt, rfl, r0⟩ := s6.rules (by omega)
              have hbr := r0.mem.hd
              have hn1 := r0.n1
              refine sS3 @h6 @hbr @z3 ?_
              refine t_l2Const.mono ?_
              rintro _ _ ⟨rfl, rfl⟩
              refine sS3 @h6 @hbr @z3 ?_
              intro bl hbl
              have nbr : br ≠ bl := fun e => by subst e; rw [hbl] at hbr; cases hbr
              refine sS2 @hbr @z3 ?_
              refine hK' _ _ ⟨_, _, _, _, _, _, _, sE0, sE0, (r0.setA (ts := [⟨0, 1, 0, 0⟩]) hbl rfl (by simp)).mono (by omega), by omega, by omega⟩
            · refine sS4 @y3 @y4 @h6 @hxl ?_
              refine cond_dec (fun cl2 => ?_) (fun cl2 => ?_)
              · omega
              · refine sS0 ?_
                exact rest _ (sE0) (sE0)
          · have z2 : decide (k6 = 2) = false := by simp [c2]
            by_cases c3 : k6 = 3
            · have z3' : decide (k6 = 3) = true := by simp [c3]
              have y4 : decide (k6 = 4) = false := by simp [c3]
              refine sS4 @z2 @z3' @h6 @hxl ?_
              refine cond_dec (fun cl => ?_) (fun cl => ?_)
              · obtain ⟨br, n, ex, a, a', b, c, cs, ints, rows, ga, fq, ws, terms, rt, rfl, r0⟩ := s6.rules (by omega)
                have hbr := r0.mem.hd
                have hn1 := r0.n1
                have hxv := s6.ov.lenV
                refine sS4 @h6 @hbr @z3 @hxv ?_
                intro bt hbt
                refine r0.pushB (by omega) hbt (by omega) ?_
                intro s' M8 hbr8 h58 n5r ho8 s8
                have o1 := ho8.1
                have o2 := ho8.2
                refine sS5 @h58 @hbr8 @o1 @o2 @z3 ?_
                exact hK' _ _ ⟨_, _, _, _, _, _, _, sE0, sE0, s8, by omega, by omega⟩
              · refine sS3 @y4 @h6 @hxl ?_
                refine cond_dec (fun cl2 => ?_) (fun cl2 => ?_)
                · omega
                · refine sS0 ?_
                  exact rest _ (sE0) (sE0)
            · have z3' : decide (k6 = 3) = false := by simp [c3]
              refine sS4 @z2 @z3' @h6 @hxl ?_
              refine cond_dec (fun c4 => ?_) (fun c4 => ?_)
              · refine sS1 @h6 ?_
                exact hK' _ _ ⟨_, _, _, _, cells, fp, rl, sE0, sE0, s6.none.mono (by omega), by omega, by omega⟩
              · refine sS2 @h6 @hxl ?_
                refine cond_dec (fun cl => ?_) (fun cl => ?_)
                · obtain ⟨br, n, ex, a, a', b, c, cs, ints, rows, ga, fq, ws, terms, rt, rfl, r0⟩ := s6.rules (by omega)
                  have hbr := r0.mem.hd
                  have hn1 := r0.n1
                  refine sS3 @h6 @hbr @z3 ?_
                  refine t_l2Const.mono ?_
                  rintro _ _ ⟨rfl, rfl⟩
                  refine sS3 @h6 @hbr @z3 ?_
                  intro bl hbl bt hbt
                  have nl1 : b5 ≠ bl := fun e => by subst e; rw [hbl] at h6; cases h6
                  have nl2 : br ≠ bl := fun e => by subst e; rw [hbl] at hbr; cases hbr
                  have hbt2 := (fresh_set hbt).2
                  have nl3 : b5 ≠ bt := fun e => by subst e; rw [hbt2] at h6; cases h6
                  have nl4 : br ≠ bt := fun e => by subst e; rw [hbt2] at hbr; cases hbr
                  refine sS3 @h6 @hbr @z3 ?_
                  refine r0.pushC (ts := [⟨0, 0, 0, 0⟩]) (by omega) hbl rfl (by simp) hbt (by omega) ?_
                  intro s' M8 u hbr8 h58 n5r ho8 s8
                  have o1 := ho8.1
                  have o2 := ho8.2
                  refine sS5 @h58 @hbr8 @o1 @o2 @z3 ?_
                  exact hK' _ _ ⟨_, _, _, _, _, _, _, sE0, sE0, s8, by omega, by omega⟩
                · refine sS0 ?_
                  exact rest _ (sE0) (sE0)
    · refine sS0 ?_
      exact hK' _ _ ⟨_, xv, xr, vs, cells, fp, rl, sE0, sE0, s4.mono (by omega), by omega, by omega⟩
  · rintro e' M5 ⟨p5, xv, xr, vs, cells, fp, rl, q4, q5, s5, d3, d4⟩
    have h5 := s5.at5
    have h4 := s5.mem.hd
    have o1 := s5.ov.one.1
    have o2 := s5.or.one.1
    refine sS6 @q4 @q5 @h5 @h4 @o1 @o2 ?_
    have m1 := (s5.mem.upd (l' := [xv, xr])).tail.tail
    exact hR _ _ ⟨p5, xv, xr, vs, cells, fp, rl, rfl, ⟨by simpa using m1, s5.ov, s5.or, s5.ru, s5.vb, s5.v4, s5.r8, s5.rb⟩, by omega, by omega⟩
end Go.M2

namespace Go.M2
open Go.Proofs
variable {M : MH}
structure SysDr (s : SysS) : Prop where
  v4 : s.vars.length ≤ 4
  vb : ∀ x ∈ s.vars, VarB x
  r8 : s.rules.length ≤ 8
  rb : ∀ r ∈ s.rules, RuleN 7 r
theorem SysDr.sz {s : SysS} (h : SysDr s) : SysSz s := ⟨by have := h.v4; omega, by have := h.r8; omega, fun r hr => by have := (h.rb r hr).2.1; omega⟩
theorem f_l2Any {rb : Nat} {w : V} {code : List Int} {p most : Int} (hr : Rdr w code) (hm : M rb = some (rdC w p)) (h0 : 0 ≤ p) (h1 : p ≤ 500000) (hmo : most ≤ 400) :
    VCall Try.prog n_spec_l2Any [.sc (.ptr (some (rb, 0))), .sc (.int .i64 most)] M (fun r M' => ∃ p' s, M' = M.set rb (rdC w p') ∧ p ≤ p' ∧ p' ≤ p + 13010 ∧ isSys s r ∧ SysDr s) := by
  refine VCall.frB (q := fun B r' => ∃ p' s, B = M.set rb (rdC w p') ∧ p ≤ p' ∧ p' ≤ p + 13010 ∧ isSys s r' ∧ SysDr s) ((t_l2Any hr hm h0 h1 hmo).mono ?_)
  rintro _ M' ⟨p', xv, xr, vs, cells, fp, rl, rfl, sy, d1, d2⟩
  obtain ⟨uv, tv, fv⟩ := sy.ov.tr (Tr.refl _)
  rw [List.append_nil] at tv
  obtain ⟨cells', tc, hc⟩ := sy.ru.tr
  obtain ⟨ur, tr, fr⟩ := sy.or.tr tc
  refine ⟨_, .agg [uv, ur], _, by simpa using Tr.agg (tv.append tr) .nil, sy.mem, p', ⟨vs, rl⟩, rfl, d1, d2, ⟨uv, ur, rfl, fv.lvar, fr.lc (by omega) (by rw [tc.len, sy.ru.len]) hc⟩, ⟨sy.v4, sy.vb, sy.r8, sy.rb⟩⟩
def NN (v : V) (xs : List Int) : Prop := 0 < xs.length → isNilF .sl (er v) = some false
theorem Fr.nn {v : V} {xs : List Int} (h : Fr 1 v (xs.map vi)) : NN v xs := fun hl => h.some (by simpa using hl)
theorem VCall.frI {P : Program} {f : FuncId} {args : List V} {rb : Nat} {w : V} {p d : Int} {n : Nat} (h : VCall P f args M (fun r M' => ∃ (p' : Int) (xs : List Int), Gr 1 (M.set rb (rdC w p')) M' r (xs.map vi) ∧ p ≤ p' ∧ p' ≤ p + d ∧ xs.length ≤ n)) :
    VCall P f args M (fun r M' => ∃ (p' : Int) (xs : List Int), M' = M.set rb (rdC w p') ∧ p ≤ p' ∧ p' ≤ p + d ∧ LI r xs ∧ NN r xs ∧ xs.length ≤ n) := by
  refine (VCall.frG (sz := 1) (q := fun B l => ∃ (p' : Int) (xs : List Int), B = M.set rb (rdC w p') ∧ p ≤ p' ∧ p' ≤ p + d ∧ l = xs.map vi ∧ xs.length ≤ n) (h.mono fun r M' ⟨p', xs, h1, h2, h3, h4⟩ => ⟨_, _, h1, p', xs, rfl, h2, h3, rfl, h4⟩)).mono ?_
  rintro r M' ⟨l, hf, p', xs, rfl, q1, q2, rfl, q3⟩
  exact ⟨p', xs, rfl, q1, q2, hf.li, hf.nn, q3⟩
end Go.M2

namespace Go.M2
open Go.Proofs
variable {M : MH}
def CapOk : V → Prop
  | .fs _ n c _ _ _ => n ≤ c
  | _ => True
theorem lu_take {v : V} {xs : List Int} (h : LU v xs) (hc : CapOk v) (hl : 2000 < xs.length) : ∃ u, slcV 1 none (some (.int .i64 2000)) none v = some u ∧ LU u (xs.take 2000) := by
  rcases h with ⟨rfl, k, rfl⟩ | ⟨A, c, ex, k, cs, rfl, h1, h2⟩
  · simp at hl
  · have hc : xs.length ≤ c := hc
    have e1 : (2000 : Int) ≤ (c : Int) := by omega
    have e2 : ¬ c = 0 := by omega
    have e3 : ¬ ((c = 0 ∧ ((none : Option AV).isNone = true ∧ ex = false)) ∨ (k ≠ 1 ∧ 0 ≠ 0)) := by omega
    refine ⟨.fs (some (A.b, A.o + 0 * 1)) (2000 - 0) (c - 0) (ex || false) k ((cs.drop (0 * 1)).take ((2000 - 0) * 1)), ?_, ?_⟩
    · simp only [slcV, slcF, bnds, natIn, Option.isSome_none, Bool.false_eq_true, if_false, e1, and_true, if_true]
      rw [if_pos (by omega)]
      simp only [Int.reduceToNat]
      rw [if_neg e3, if_neg e2]
      simp only
      rw [if_pos (by omega)]
    · refine .inr ⟨_, _, _, _, _, by rw [List.length_take]; congr 1; omega, by simp; omega, fun i hi => ?_⟩
      have hi2 : i < 2000 := by simp at hi; omega
      have hi3 : i < xs.length := by omega
      have h3 := h2 i hi3
      rw [List.getElem_take]
      have e4 : at1 (.fs (some (A.b, A.o + 0 * 1)) (2000 - 0) (c - 0) (ex || false) k ((cs.drop (0 * 1)).take ((2000 - 0) * 1))) i = at1 (.fs A xs.length c ex k cs) i := by
        simp [at1, List.getElem?_take, hi2]
      rw [e4]; exact h3
theorem t_l40Open {v : V} {xs : List Int} (hv : XU v xs) (hc : CapOk v) (hl : xs.length ≤ 1048576) :
    VCall Try.prog n_spec_l40Open [v] M (fun r M' => ∃ rb w code, r = .sc (.ptr (some (rb, 0))) ∧ M rb = none ∧ M' = M.set rb (rdC w 0) ∧ Rdr w code) := by
  refine VCall.plain fun R hR => v_spec_l40Open rfl ?_
  have hlen := hv.len fun _ _ h => h.len
  refine sS1 @hlen ?_
  refine cond_dec (fun h => ?_) (fun h => ?_)
  · obtain ⟨u, h1, h2⟩ := lu_take (hv.get (by omega)) hc (by omega)
    have hu := h2.one.2
    refine sS2 @h1 @hu ?_
    intro b hb
    exact hR _ _ ⟨b, u, _, rfl, hb, rfl, .inl h2, by simp; omega⟩
  · have hone : cellsV v = some [v] := by
      rcases hv with hv | ⟨rfl, _⟩
      · exact hv.one.2
      · rfl
    refine sS1 @hone ?_
    intro b hb
    exact hR _ _ ⟨b, v, _, rfl, hb, rfl, hv, by omega⟩
end Go.M2

namespace Go.M2
open Go.Proofs
variable {M : MH}
theorem isSys.two {s : SysS} {v : V} (h : isSys s v) : ∃ a b, v = .agg [a, b] ∧ oneV a = true ∧ oneV b = true := by
  obtain ⟨a, b, rfl, ha, hb⟩ := h
  exact ⟨a, b, rfl, ha.one.1, hb.one.1⟩
end Go.M2

namespace Go.M2
open Go.Proofs
variable {M : MH}
structure QO (tab : List (List Int)) (N : Nat) (st : Nat → Prop) (m : Nat → Bool) (row : List Int) : Prop where
  a : ∀ i, m i = true → i < N ∧ Rch tab st i
  b : ∀ i, st i → m i = true
  c : ∀ x ∈ row, 0 ≤ x ∧ m x.toNat = true
  d : ∀ i : Nat, m i = true → ¬ (i : Int) ∈ row → ∀ y ∈ tab.getD i [], m y.toNat = true
structure QI (tab : List (List Int)) (N : Nat) (st : Nat → Prop) (m : Nat → Bool) (row : List Int) (n j : Nat) : Prop where
  a : ∀ i, m i = true → i < N ∧ Rch tab st i
  b : ∀ i, st i → m i = true
  c : ∀ x ∈ row, 0 ≤ x ∧ m x.toNat = true
  d : ∀ i : Nat, m i = true → ¬ (i : Int) ∈ row → i ≠ n → ∀ y ∈ tab.getD i [], m y.toNat = true
  e : ∀ y ∈ (tab.getD n []).take j, m y.toNat = true
  n_ : m n = true
section
variable {tab : List (List Int)} {N : Nat} {st : Nat → Prop} {m : Nat → Bool} {row : List Int} {n j : Nat} {x : Int}
theorem QO.pop (h : QO tab N st m (x :: row)) : QI tab N st m row x.toNat 0 := by
  obtain ⟨hx0, hx1⟩ := h.c x (List.mem_cons_self ..)
  refine ⟨h.a, h.b, fun y hy => h.c y (List.mem_cons_of_mem _ hy), fun i hi hr hn => h.d i hi fun hm => ?_, fun y hy => by simp at hy, hx1⟩
  rcases List.mem_cons.1 hm with h1 | h1
  · omega
  · exact hr h1
theorem QI.done (h : QI tab N st m row n j) (hj : (tab.getD n []).length ≤ j) : QO tab N st m row := by
  refine ⟨h.a, h.b, h.c, fun i hi hr => ?_⟩
  by_cases e : i = n
  · subst e
    have := h.e
    rwa [List.take_of_length_le hj] at this
  · exact h.d i hi hr e
theorem QI.skip (h : QI tab N st m row n j) (hj : j < (tab.getD n []).length) (hm : m (tab.getD n [])[j].toNat = true) : QI tab N st m row n (j + 1) := by
  refine ⟨h.a, h.b, h.c, h.d, fun y hy => ?_, h.n_⟩
  rw [take_snoc hj, List.mem_append, List.mem_singleton] at hy
  rcases hy with h1 | rfl
  · exact h.e y h1
  · exact hm
theorem QI.push (h : QI tab N st m row n j) (hj : j < (tab.getD n []).length) (h0 : 0 ≤ (tab.getD n [])[j]) (hN : (tab.getD n [])[j].toNat < N) :
    QI tab N st (fun i => m i || decide (i = (tab.getD n [])[j].toNat)) (row ++ [(tab.getD n [])[j]]) n (j + 1) := by
  have up : ∀ i, m i = true → (m i || decide (i = (tab.getD n [])[j].toNat)) = true := fun i hi => by simp [hi]
  refine ⟨fun i hi => ?_, fun i hi => up i (h.b i hi), fun y hy => ?_, fun i hi hr hn y hy => ?_, fun y hy => ?_, up _ h.n_⟩
  · simp only [Bool.or_eq_true, decide_eq_true_eq] at hi
    rcases hi with h1 | rfl
    · exact h.a i h1
    · exact ⟨hN, .step (h.a n h.n_).2 (List.getElem_mem hj)⟩
  · rcases List.mem_append.1 hy with h1 | h1
    · exact ⟨(h.c y h1).1, up _ (h.c y h1).2⟩
    · rw [List.mem_singleton] at h1
      subst h1
      exact ⟨h0, by simp⟩
  · simp only [Bool.or_eq_true, decide_eq_true_eq] at hi
    rcases hi with h1 | h1
    · exact up _ (h.d i h1 (fun hm => hr (List.mem_append_left _ hm)) hn y hy)
    · exact absurd (List.mem_append_right _ (List.mem_singleton.2 (by omega))) hr
  · rw [take_snoc hj, List.mem_append, List.mem_singleton] at hy
    rcases hy with h1 | rfl
    · exact up _ (h.e y h1)
    · simp
theorem QO.final (h : QO tab N st m []) (i : Nat) : m i = rB tab st i := rB_closed h.b (fun i hi => (h.a i hi).2) (fun i hi => h.d i hi (by simp)) i
end
theorem Gr.wn {M0 M : MH} {v : V} {xs : List Int} (h : Gr 1 M0 M v (xs.map vi)) (h0 : 0 < xs.length) : Wn M0 M v xs := by
  rcases h.own with ⟨h1, _⟩ | ⟨b, n, ex, rfl, h1, h2⟩
  · have : xs = [] := by simpa using h1
    subst this; simp at h0
  · have hn : n = xs.length := by simp at h2; omega
    subst hn
    exact ⟨b, 0, ex, _, rfl, h1, by simp, by rw [List.drop_zero, List.take_of_length_le (by simp)], h.new b rfl, h.sub⟩
theorem Wn.base {M0 M1 M : MH} {v : V} {xs : List Int} (h : Wn M1 M v xs) (hs : Sub M0 M1) : Wn M0 M v xs := by
  obtain ⟨b, o, ex, l, rfl, h1, h2, h3, h4, h5⟩ := h
  exact ⟨b, o, ex, l, rfl, h1, h2, h3, hs.none h4, hs.trans h5⟩
end Go.M2

namespace Go.M2
open Go.Proofs
inductive Rk (tab : List (List Int)) (st : Nat → Prop) : Nat → Nat → Prop
  | zero {i : Nat} : st i → Rk tab st 0 i
  | succ {k i : Nat} {x : Int} : Rk tab st k i → x ∈ tab.getD i [] → Rk tab st (k + 1) x.toNat
open Classical in
noncomputable def dst (tab : List (List Int)) (st : Nat → Prop) (i : Nat) : Int := if ∃ k, Rk tab st k i then (leastOf fun k => Rk tab st k i : Nat) else -1
section
variable {tab : List (List Int)} {st : Nat → Prop} {i d : Nat}
theorem dst_of {k : Nat} (h : Rk tab st k i) : ∃ n : Nat, dst tab st i = (n : Int) ∧ Rk tab st n i ∧ n ≤ k := by
  have hs := leastOf_spec (p := fun k => Rk tab st k i) ⟨k, h⟩
  refine ⟨_, ?_, hs.1, hs.2 k h⟩
  unfold dst
  rw [if_pos ⟨k, h⟩]
theorem dst_ge (tab : List (List Int)) (st : Nat → Prop) (i : Nat) : -1 ≤ dst tab st i := by
  unfold dst
  split <;> omega
theorem dst_nat {n : Nat} (h : dst tab st i = (n : Int)) : Rk tab st n i ∧ ∀ k, Rk tab st k i → n ≤ k := by
  have hex : ∃ k, Rk tab st k i := by
    apply Classical.byContradiction
    intro hn
    unfold dst at h
    rw [if_neg hn] at h
    omega
  have hs := leastOf_spec (p := fun k => Rk tab st k i) hex
  have e : (leastOf fun k => Rk tab st k i) = n := by
    unfold dst at h
    rw [if_pos hex] at h
    omega
  rw [e] at hs
  exact hs
theorem dst_rch : 0 ≤ dst tab st i ↔ Rch tab st i := by
  constructor
  · intro h
    obtain ⟨n, hn⟩ : ∃ n : Nat, dst tab st i = (n : Int) := ⟨(dst tab st i).toNat, by omega⟩
    have h1 := (dst_nat hn).1
    clear hn h
    induction h1 with
    | zero h => exact .base h
    | succ _ hx ih => exact .step ih hx
  · intro h
    have : ∃ k, Rk tab st k i := by
      induction h with
      | base h => exact ⟨0, .zero h⟩
      | step _ hx ih => obtain ⟨k, hk⟩ := ih; exact ⟨k + 1, .succ hk hx⟩
    obtain ⟨k, hk⟩ := this
    obtain ⟨n, h1, _⟩ := dst_of hk
    omega
theorem dst_zero : dst tab st i = 0 ↔ st i := by
  constructor
  · intro h
    have h1 := (dst_nat (n := 0) h).1
    cases h1 with
    | zero h => exact h
  · intro h
    obtain ⟨n, h1, _, h2⟩ := dst_of (tab := tab) (.zero h)
    omega
theorem dst_pred (h : dst tab st i = ((d + 1 : Nat) : Int)) : ∃ (p : Nat) (x : Int), dst tab st p = (d : Int) ∧ x ∈ tab.getD p [] ∧ x.toNat = i := by
  obtain ⟨h1, h2⟩ := dst_nat h
  generalize hk : d + 1 = k at h1
  cases h1 with
  | zero h => omega
  | @succ k p x hp hx =>
    obtain ⟨n, q1, q2, q3⟩ := dst_of hp
    have := h2 _ (.succ q2 hx)
    exact ⟨p, x, by omega, hx, rfl⟩
theorem dst_next {x : Int} (h : dst tab st i = (d : Int)) (hx : x ∈ tab.getD i []) : 0 ≤ dst tab st x.toNat ∧ dst tab st x.toNat ≤ (d : Int) + 1 := by
  obtain ⟨n, q1, _, q2⟩ := dst_of (.succ (dst_nat h).1 hx)
  omega
theorem dst_all (h : ∀ i, dst tab st i ≠ ((d + 1 : Nat) : Int)) : ∀ i, dst tab st i ≤ (d : Int) := by
  have key : ∀ (n : Nat) (i : Nat), dst tab st i = ((d + 1 + n : Nat) : Int) → False := by
    intro n
    induction n with
    | zero => exact fun i hi => h i hi
    | succ n ih =>
      intro i hi
      obtain ⟨p, x, hp, _⟩ := dst_pred (d := d + 1 + n) hi
      exact ih p hp
  intro i
  rcases Int.lt_or_le (d : Int) (dst tab st i) with h1 | h1
  · exact (key ((dst tab st i).toNat - (d + 1)) i (by omega)).elim
  · exact h1
end
noncomputable def lv (tab : List (List Int)) (st : Nat → Prop) (d : Int) (i : Nat) : Int := if dst tab st i ≤ d then dst tab st i else -1
structure LvI (tab : List (List Int)) (N : Nat) (st : Nat → Prop) (d : Nat) (a : Nat → Bool) (n : Nat) : Prop where
  s : ∀ i, a i = true → i < N ∧ dst tab st i = ((d + 1 : Nat) : Int)
  c : ∀ p, p < n → dst tab st p = (d : Int) → ∀ y ∈ tab.getD p [], 0 ≤ lv tab st d y.toNat ∨ a y.toNat = true
noncomputable def lvA (tab : List (List Int)) (st : Nat → Prop) (d : Nat) (a : Nat → Bool) (i : Nat) : Int := if a i = true then (d : Int) + 1 else lv tab st d i
section
variable {tab : List (List Int)} {N : Nat} {st : Nat → Prop} {d n : Nat} {a : Nat → Bool}
theorem LvI.last (h : LvI tab N st d a N) (hst : ∀ i, Rch tab st i → i < N) (i : Nat) : lvA tab st d a i = lv tab st ((d : Int) + 1) i := by
  unfold lvA lv
  by_cases ha : a i = true
  · rw [if_pos ha, (h.s i ha).2, if_pos (by omega)]; omega
  · rw [if_neg ha]
    by_cases h1 : dst tab st i ≤ (d : Int)
    · rw [if_pos h1, if_pos (by omega)]
    · rw [if_neg h1]
      by_cases h2 : dst tab st i ≤ (d : Int) + 1
      · exfalso
        obtain ⟨p, x, hp, hx, rfl⟩ := dst_pred (d := d) (show dst tab st i = ((d + 1 : Nat) : Int) by omega)
        rcases h.c p (hst p (dst_rch.1 (by omega))) hp x hx with h3 | h3
        · unfold lv at h3
          rw [if_neg h1] at h3
          omega
        · exact ha h3
      · rw [if_neg h2]
theorem LvI.none (h : LvI tab N st d a N) (hst : ∀ i, Rch tab st i → i < N) (ha : ∀ i, a i = false) (i : Nat) : lvA tab st d a i = dst tab st i := by
  have hall := dst_all (tab := tab) (st := st) (d := d) fun j hj => by
    have h1 := h.last hst j
    unfold lvA lv at h1
    rw [ha j] at h1
    simp only [Bool.false_eq_true, if_false] at h1
    rw [if_neg (by omega), if_pos (by omega)] at h1
    omega
  unfold lvA lv
  rw [ha i, if_pos (hall i)]
  simp
theorem LvI.mono {a' : Nat → Bool} (h : LvI tab N st d a n) (h2 : ∀ i, a' i = true → i < N ∧ dst tab st i = ((d + 1 : Nat) : Int)) (h3 : ∀ i, a i = true → a' i = true) : LvI tab N st d a' n :=
  ⟨h2, fun p hp hd y hy => (h.c p hp hd y hy).imp id (h3 _)⟩
end
end Go.M2

namespace Go.M2
open Go.Proofs
variable {M : MH}
theorem set_vi' {bs : List Int} {i : Nat} {b : Int} : (bs.map vi).set i (.sc (.int .i64 b)) = (bs.set i b).map vi := by rw [List.map_set]; rfl
end Go.M2

namespace Go.M2
open Go.Proofs
variable {M : MH}
end Go.M2

namespace Go.M2
open Go.Proofs
variable {M : MH}
end Go.M2

namespace Go.M2
open Go.Proofs
variable {M : MH}
structure SO (tab : List (List Int)) (N : Nat) (st : Nat → Prop) (f : Nat → Int) (row : List Int) : Prop where
  a : ∀ i, 0 ≤ f i → i < N ∧ f i = dst tab st i
  m : ∀ i, f i < 0 → f i = -1
  b : ∀ i, st i → 0 ≤ f i
  c : ∀ x ∈ row, 0 ≤ x ∧ 0 ≤ f x.toNat
  d : ∀ i : Nat, 0 ≤ f i → ¬ (i : Int) ∈ row → ∀ y ∈ tab.getD i [], 0 ≤ f y.toNat
  srt : row.Pairwise fun x y => f x.toNat ≤ f y.toNat
  up : ∀ x t, row = x :: t → ∀ z ∈ t, f z.toNat ≤ f x.toNat + 1
structure SI (tab : List (List Int)) (N : Nat) (st : Nat → Prop) (f : Nat → Int) (row : List Int) (n j : Nat) : Prop where
  a : ∀ i, 0 ≤ f i → i < N ∧ f i = dst tab st i
  m : ∀ i, f i < 0 → f i = -1
  b : ∀ i, st i → 0 ≤ f i
  c : ∀ x ∈ row, 0 ≤ x ∧ 0 ≤ f x.toNat
  d : ∀ i : Nat, 0 ≤ f i → ¬ (i : Int) ∈ row → i ≠ n → ∀ y ∈ tab.getD i [], 0 ≤ f y.toNat
  e : ∀ y ∈ (tab.getD n []).take j, 0 ≤ f y.toNat
  n_ : 0 ≤ f n
  srt : row.Pairwise fun x y => f x.toNat ≤ f y.toNat
  lo : ∀ z ∈ row, f n ≤ f z.toNat
  up : ∀ z ∈ row, f z.toNat ≤ f n + 1
section
variable {tab : List (List Int)} {N : Nat} {st : Nat → Prop} {f : Nat → Int} {row : List Int} {n j : Nat} {x : Int}
theorem SO.pop (h : SO tab N st f (x :: row)) : SI tab N st f row x.toNat 0 := by
  obtain ⟨hx0, hx1⟩ := h.c x (List.mem_cons_self ..)
  obtain ⟨s1, s2⟩ := List.pairwise_cons.1 h.srt
  refine ⟨h.a, h.m, h.b, fun y hy => h.c y (List.mem_cons_of_mem _ hy), fun i hi hr hn => h.d i hi fun hm => ?_, fun y hy => by simp at hy, hx1, s2, s1, h.up x row rfl⟩
  rcases List.mem_cons.1 hm with h1 | h1
  · omega
  · exact hr h1
theorem SI.done (h : SI tab N st f row n j) (hj : (tab.getD n []).length ≤ j) : SO tab N st f row := by
  refine ⟨h.a, h.m, h.b, h.c, fun i hi hr => ?_, h.srt, fun y t ht z hz => ?_⟩
  · by_cases e : i = n
    · subst e
      have := h.e
      rwa [List.take_of_length_le hj] at this
    · exact h.d i hi hr e
  · have h1 := h.up z (by rw [ht]; exact List.mem_cons_of_mem _ hz)
    have h2 := h.lo y (by rw [ht]; exact List.mem_cons_self ..)
    omega
theorem SI.skip (h : SI tab N st f row n j) (hj : j < (tab.getD n []).length) (hm : 0 ≤ f (tab.getD n [])[j].toNat) : SI tab N st f row n (j + 1) := by
  refine ⟨h.a, h.m, h.b, h.c, h.d, fun y hy => ?_, h.n_, h.srt, h.lo, h.up⟩
  rw [take_snoc hj, List.mem_append, List.mem_singleton] at hy
  rcases hy with h1 | rfl
  · exact h.e y h1
  · exact hm
theorem SI.near (h : SI tab N st f row n j) : ∀ (k : Nat) (i : Nat), dst tab st i = (k : Int) → (k : Int) ≤ f n → 0 ≤ f i := by
  intro k
  induction k with
  | zero => exact fun i hi _ => h.b i (dst_zero.1 hi)
  | succ k ih =>
    intro i hi hk
    obtain ⟨p, y, hp, hy, rfl⟩ := dst_pred hi
    have h1 := ih p hp (by omega)
    have h2 := (h.a p h1).2
    exact h.d p h1 (fun hr => by have := h.lo _ hr; simp only [Int.toNat_natCast] at this; omega) (fun e => by subst e; omega) y hy
theorem SI.push (h : SI tab N st f row n j) (hj : j < (tab.getD n []).length) (h0 : 0 ≤ (tab.getD n [])[j]) (hN : (tab.getD n [])[j].toNat < N) (hneg : f (tab.getD n [])[j].toNat < 0) :
    SI tab N st (fun i => if i = (tab.getD n [])[j].toNat then f n + 1 else f i) (row ++ [(tab.getD n [])[j]]) n (j + 1) := by
  generalize hy : (tab.getD n [])[j] = y at *
  have hmem : y ∈ tab.getD n [] := by rw [← hy]; exact List.getElem_mem hj
  obtain ⟨hn1, hn2⟩ := h.a n h.n_
  obtain ⟨d, hd⟩ : ∃ d : Nat, f n = (d : Int) := ⟨(f n).toNat, by have := h.n_; omega⟩
  have hdn : dst tab st n = (d : Int) := by omega
  have hnx := dst_next hdn hmem
  have hdy : dst tab st y.toNat = f n + 1 := by
    by_cases hle : dst tab st y.toNat ≤ f n
    · have := h.near (dst tab st y.toNat).toNat y.toNat (by omega) (by omega)
      omega
    · omega
  have hny : n ≠ y.toNat := fun e => by have := h.n_; rw [e] at this; omega
  have hry : ∀ z ∈ row, z.toNat ≠ y.toNat := fun z hz e => by have := (h.c z hz).2; rw [e] at this; omega
  have hnn := h.n_
  have up : ∀ i, 0 ≤ f i → 0 ≤ (if i = y.toNat then f n + 1 else f i) := fun i hi => by split <;> omega
  have en : (if n = y.toNat then f n + 1 else f n) = f n := if_neg hny
  refine ⟨fun i hi => ?_, fun i hi => ?_, fun i hi => up i (h.b i hi), fun z hz => ?_, fun i hi hr hn z hz => ?_, fun z hz => ?_, up n h.n_, ?_, fun z hz => ?_, fun z hz => ?_⟩
  · by_cases e : i = y.toNat
    · subst e; rw [if_pos rfl]; exact ⟨hN, hdy.symm⟩
    · rw [if_neg e] at hi ⊢; exact h.a i hi
  · by_cases e : i = y.toNat
    · simp only [if_pos e] at hi; omega
    · simp only [if_neg e] at hi ⊢; exact h.m i hi
  · rcases List.mem_append.1 hz with h1 | h1
    · exact ⟨(h.c z h1).1, up _ (h.c z h1).2⟩
    · rw [List.mem_singleton] at h1
      subst h1
      exact ⟨h0, by simp only [if_true]; omega⟩
  · by_cases e : i = y.toNat
    · exact absurd (List.mem_append_right _ (List.mem_singleton.2 (by omega))) hr
    · simp only [if_neg e] at hi
      exact up _ (h.d i hi (fun hm => hr (List.mem_append_left _ hm)) hn z hz)
  · rw [take_snoc hj, List.mem_append, List.mem_singleton, hy] at hz
    rcases hz with h1 | rfl
    · exact up _ (h.e z h1)
    · simp only [if_true]; omega
  · rw [List.pairwise_append]
    refine ⟨h.srt.imp_of_mem fun {p q} hp hq hpq => ?_, List.pairwise_singleton .., fun p hp q hq => ?_⟩
    · simp only [if_neg (hry p hp), if_neg (hry q hq)]; exact hpq
    · rw [List.mem_singleton] at hq
      subst hq
      simp only [if_neg (hry p hp), if_true]
      exact h.up p hp
  · simp only [en]
    rcases List.mem_append.1 hz with h1 | h1
    · simp only [if_neg (hry z h1)]; exact h.lo z h1
    · rw [List.mem_singleton] at h1; subst h1; simp only [if_true]; omega
  · simp only [en]
    rcases List.mem_append.1 hz with h1 | h1
    · simp only [if_neg (hry z h1)]; exact h.up z h1
    · rw [List.mem_singleton] at h1; subst h1; simp only [if_true]; omega
theorem SO.final (h : SO tab N st f []) (i : Nat) : f i = dst tab st i := by
  have all : ∀ i, Rch tab st i → 0 ≤ f i := fun i hi => by
    induction hi with
    | base h1 => exact h.b _ h1
    | step _ hx ih => exact h.d _ ih (by simp) _ hx
  by_cases hi : 0 ≤ f i
  · exact (h.a i hi).2
  · have h1 := h.m i (by omega)
    have h2 := dst_ge tab st i
    have h3 : ¬ 0 ≤ dst tab st i := fun h4 => hi (all i (dst_rch.1 h4))
    omega
end
end Go.M2

namespace Go.M2
open Go.Proofs
variable {M : MH}
end Go.M2

namespace Go.M2
open Go.Proofs
variable {M : MH}
theorem Tr.inv1 {x : V} {l' : List V} {fp : List (Nat × List V)} (h : Tr [x] l' fp) : (l' = [x] ∧ fp = []) ∨ (∃ b o n c ex k cs cs' g, x = .sc (.sl (some (b, o)) n c ex k) ∧ l' = [.fs (some (b, o)) n c ex k (cs'.drop o)] ∧ Tr cs cs' g ∧ fp = (b, cs) :: g) ∨ (∃ a a', l' = [V.agg a'] ∧ x = .agg a) ∨ (∃ a a', l' = [V.tup a'] ∧ x = .tup a) := by
  cases h with
  | keep v h1 => cases h1; exact .inl ⟨rfl, rfl⟩
  | sl h1 h2 => cases h2; exact .inr (.inl ⟨_, _, _, _, _, _, _, _, _, rfl, rfl, h1, by simp⟩)
  | agg h1 h2 => cases h2; exact .inr (.inr (.inl ⟨_, _, rfl, rfl⟩))
  | tup h1 h2 => cases h2; exact .inr (.inr (.inr ⟨_, _, rfl, rfl⟩))
theorem Tr.uncons {x : V} {t l' : List V} {fp : List (Nat × List V)} (h : Tr (x :: t) l' fp) : ∃ x' t' f1 f2, l' = x' :: t' ∧ fp = f1 ++ f2 ∧ Tr [x] [x'] f1 ∧ Tr t t' f2 := by
  obtain ⟨a', b', f1, f2, rfl, rfl, h1, h2⟩ := Tr.split (a := [x]) (b := t) (b' := []) (by simpa using h)
  have := h1.len
  match a', this with
  | [x'], _ => exact ⟨x', b', f1, f2, rfl, rfl, h1, h2⟩
theorem take_one {cs : List V} {j : Nat} (h : j < cs.length) : cs.take (j + 1) = cs.take j ++ [cs[j]] := List.take_succ_eq_append_getElem h
structure OwnS (M0 M : MH) (s : SysS) (x y : V) (x' y' : V) (fp : List (Nat × List V)) : Prop where
  tr : Tr [x, y] [x', y'] fp
  mem : Mem M0 M fp
  fl : flatL [x, y]
  ff : ∀ q ∈ fp, flatL q.2
  lx : LVar x' s.vars
  ly : LR y' s.rules
end Go.M2

namespace Go.M2
open Go.Proofs
variable {M : MH}
theorem SysFit.sz {s : SysS} (h : SysFit s) : SysSz s := ⟨h.1, h.2.1, fun r hr => (h.2.2 r hr).2.1⟩
end Go.M2

namespace Go.M2
open Go.Proofs
variable {M : MH}
theorem Dn.nil1 {k : Nat} : Dn M M (.sc (.sl none 0 0 true k)) (fun u => LI u []) := ⟨_, [], .refl _, .nil (Sub.refl _), by simp [flat], fun q hq => (by cases hq), .nil⟩
theorem Dn.nilS {M' : MH} {k : Nat} (h : Sub M M') : Dn M M' (.sc (.sl none 0 0 true k)) (fun u => LI u []) := ⟨_, [], .refl _, .nil h, by simp [flat], fun q hq => (by cases hq), .nil⟩
theorem Gr.dnI {M' : MH} {v : V} {ys : List Int} (h : Gr 1 M M' v (ys.map vi)) : Dn M M' v (fun u => LI u ys) := h.dn (flatL_vi ys) fun u hu => hu.li
end Go.M2

namespace Go.M2
open Go.Proofs
variable {M : MH}
theorem OwnS.more {M0 M M' : MH} {s : SysS} {x y x' y' : V} {fp : List (Nat × List V)} (h : OwnS M0 M s x y x' y' fp) (hs : Sub M M') : OwnS M0 M' s x y x' y' fp := ⟨h.tr, h.mem.more hs, h.fl, h.ff, h.lx, h.ly⟩
end Go.M2

namespace Go.M2
open Go.Proofs
variable {M : MH}
end Go.M2

namespace Go.M2
open Go.Proofs
variable {M : MH}
theorem Mem.snoc1 {M0 M : MH} {b : Nat} {l : List V} {fp : List (Nat × List V)} (h : Mem M0 M fp) (hb : M0 b = none) (hm : M b = some l) (hn : ∀ p ∈ fp, p.1 ≠ b) : Mem M0 M (fp ++ [(b, l)]) := by
  refine ⟨h.sub, fun p hp => ?_, ?_, fun p hp => ?_⟩
  · rcases List.mem_append.1 hp with h1 | h1
    · exact h.new p h1
    · rw [List.mem_singleton] at h1; subst h1; exact hb
  · unfold Nd2
    rw [List.map_append, List.nodup_append]
    refine ⟨h.nd, by simp, fun a ha c hc e => ?_⟩
    obtain ⟨p, hp, rfl⟩ := List.mem_map.1 ha
    simp at hc
    exact hn p hp (by rw [e, hc])
  · rcases List.mem_append.1 hp with h1 | h1
    · exact h.at_ p h1
    · rw [List.mem_singleton] at h1; subst h1; exact hm
structure PT (M M' : MH) (b3 N : Nat) (us : List V) (mm : Nat → Int → Prop) (bd : Nat) : Prop where
  at3 : M' b3 = some us
  len : us.length = N
  sub : Sub M M'
  new : M b3 = none
  rows : ∀ (k : Nat) (u : V), us[k]? = some u → blkV u ≠ some b3 ∧ ∃ ys : List Int, Gr 1 M M' u (ys.map vi) ∧ ys.length ≤ bd ∧ ∀ x, x ∈ ys ↔ mm k x
  dis : ∀ (k k' : Nat) (u u' : V), us[k]? = some u → us[k']? = some u' → k ≠ k' → ∀ b, blkV u = some b → blkV u' ≠ some b
theorem PT.push {M1 M2 : MH} {b3 N k0 : Nat} {us : List V} {mm mm' : Nat → Int → Prop} {bd : Nat} {u s' : V} {ys : List Int} {x : Int} (h : PT M M1 b3 N us mm bd) (hu : us[k0]? = some u) (hys : ys.length ≤ bd) (hym : ∀ z, z ∈ ys ↔ mm k0 z)
    (hg : Gr 1 M M2 s' ((ys ++ [x]).map vi)) (ho : Oth M1 M2 u s') (h0 : ∀ z, mm' k0 z ↔ (mm k0 z ∨ z = x)) (h1 : ∀ k z, k ≠ k0 → (mm' k z ↔ mm k z)) :
    PT M (M2.set b3 (us.set k0 s')) b3 N (us.set k0 s') mm' (bd + 1) := by
  obtain ⟨o1, o2⟩ := ho b3 us h.at3 (h.rows k0 u hu).1
  have hk0 : k0 < us.length := (List.getElem?_eq_some_iff.1 hu).1
  refine ⟨set_same, by rw [List.length_set]; exact h.len, hg.sub.set h.new, h.new, fun k w hw => ?_, fun k k' w w' hw hw' hk => ?_⟩
  · by_cases e : k = k0
    · subst e
      rw [List.getElem?_set_self hk0] at hw
      cases hw
      refine ⟨o2, ys ++ [x], hg.setN h.new o2, by simp; omega, fun z => ?_⟩
      rw [List.mem_append, List.mem_singleton, hym, h0]
    · rw [List.getElem?_set_ne (fun e' => e e'.symm)] at hw
      obtain ⟨q1, zs, q2, q3, q4⟩ := h.rows k w hw
      obtain ⟨r1, r2⟩ := q2.oth (sz' := 1) ho (h.dis k k0 w u hw hu e) hg.sub
      exact ⟨q1, zs, r1.setN h.new q1, by omega, fun z => by rw [q4, h1 k z e]⟩
  · have key : ∀ (j : Nat) (v : V), us[j]? = some v → j ≠ k0 → (∀ b, blkV v = some b → blkV s' ≠ some b) := fun j v hv hj => by
      obtain ⟨q1, zs, q2, q3, q4⟩ := h.rows j v hv
      exact (q2.oth (sz' := 1) ho (h.dis j k0 v u hv hu hj) hg.sub).2
    by_cases e : k = k0
    · subst e
      rw [List.getElem?_set_self hk0] at hw
      cases hw
      rw [List.getElem?_set_ne (fun e' => hk e')] at hw'
      intro b hb hb'
      exact key k' w' hw' (fun e' => hk e'.symm) b hb' hb
    · rw [List.getElem?_set_ne (fun e' => e e'.symm)] at hw
      by_cases e2 : k' = k0
      · subst e2
        rw [List.getElem?_set_self hk0] at hw'
        cases hw'
        exact key k w hw e
      · rw [List.getElem?_set_ne (fun e' => e2 e'.symm)] at hw'
        exact h.dis k k' w w' hw hw' hk
theorem PT.tree {M1 : MH} {b3 N : Nat} {us : List V} {mm : Nat → Int → Prop} {bd : Nat} (h : PT M M1 b3 N us mm bd) : ∀ i, i ≤ N → ∃ us' fp tab', Tr (us.take i) us' fp ∧ Mem M M1 fp ∧ flatL (us.take i) ∧ (∀ q ∈ fp, flatL q.2) ∧ (∀ p ∈ fp, ∃ k u, k < i ∧ us[k]? = some u ∧ blkV u = some p.1) ∧ tab'.length = i ∧ Cs isL us' tab' ∧ ∀ k (hk : k < tab'.length), tab'[k].length ≤ bd ∧ ∀ x, x ∈ tab'[k] ↔ mm k x
  | 0, _ => ⟨[], [], [], .nil, .nil h.sub, by simp [flatL], fun q hq => (by cases hq), fun q hq => (by cases hq), rfl, .nil, fun k hk => (by simp at hk)⟩
  | i + 1, hi => by
    obtain ⟨us', fp, tab', t1, t2, t3, t4, t5, t6, t7, t8⟩ := PT.tree h i (by omega)
    have hiu : i < us.length := by rw [h.len]; omega
    obtain ⟨q1, ys, q2, q3, q4⟩ := h.rows i us[i] (List.getElem?_eq_getElem hiu)
    have hfl : flatL (us.take (i + 1)) := by
      rw [take_one hiu]
      exact flatL_all.2 fun w hw => by
        rcases List.mem_append.1 hw with h1 | h1
        · exact flatL_all.1 t3 w h1
        · rw [List.mem_singleton] at h1; subst h1; exact q2.own.flat
    have props : ∀ k (hk : k < (tab' ++ [ys]).length), (tab' ++ [ys])[k].length ≤ bd ∧ ∀ x, x ∈ (tab' ++ [ys])[k] ↔ mm k x := fun k hk => by
      by_cases e : k < tab'.length
      · rw [List.getElem_append_left e]; exact t8 k e
      · have hk2 : k = i := by simp at hk; omega
        subst hk2
        have hkt : tab'.length = k := t6
        simp only [List.getElem_append_right (show tab'.length ≤ k by omega), hkt, Nat.sub_self, List.getElem_cons_zero]
        exact ⟨q3, q4⟩
    have old : ∀ p ∈ fp, ∃ k u, k < i + 1 ∧ us[k]? = some u ∧ blkV u = some p.1 := fun p hp => by
      obtain ⟨k, u, h1, h2, h3⟩ := t5 p hp
      exact ⟨k, u, by omega, h2, h3⟩
    rcases q2.own with ⟨hy, kk, hu⟩ | ⟨b, n, ex, hu, hm, hl⟩
    · have hy0 : ys = [] := by simpa using hy
      refine ⟨us' ++ [us[i]], fp ++ [], tab' ++ [ys], ?_, by rw [List.append_nil]; exact t2, hfl, by rw [List.append_nil]; exact t4, by rw [List.append_nil]; exact old, by simp [t6], t7.snoc ?_, props⟩
      · rw [take_one hiu]; exact t1.append (.keep _ .nil)
      · rw [hu, hy0]; exact .inl ⟨rfl, kk, rfl⟩
    · have hne : ∀ p ∈ fp, p.1 ≠ b := fun p hp e => by
        obtain ⟨k, u, h1, h2, h3⟩ := t5 p hp
        exact h.dis k i u us[i] h2 (List.getElem?_eq_getElem hiu) (by omega) p.1 h3 (by rw [hu, e]; rfl)
      refine ⟨us' ++ [.fs (some (b, 0)) n n ex 1 ((ys.map vi).drop 0)], fp ++ ((b, ys.map vi) :: ([] ++ [])), tab' ++ [ys], ?_, by simpa using t2.snoc1 (q2.new b (by rw [hu]; rfl)) hm hne, hfl, fun q hq => ?_, fun p hp => ?_, by simp [t6], t7.snoc ?_, props⟩
      · rw [take_one hiu, hu]; exact t1.append (.sl (.refl _) .nil)
      · rcases List.mem_append.1 hq with h1 | h1
        · exact t4 q h1
        · simp at h1; subst h1; exact flatL_vi ys
      · rcases List.mem_append.1 hp with h1 | h1
        · exact old p h1
        · simp at h1; subst h1
          exact ⟨i, us[i], by omega, List.getElem?_eq_getElem hiu, by rw [hu]; rfl⟩
      · exact Fr.li (.inr ⟨_, _, _, _, _, by rw [List.drop_zero], by simpa using hl⟩)
end Go.M2

namespace Go.M2
open Go.Proofs
variable {M : MH}
theorem PT.conv {M1 : MH} {b3 N : Nat} {us : List V} {mm mm' : Nat → Int → Prop} {bd bd' : Nat} (h : PT M M1 b3 N us mm bd) (hb : bd ≤ bd') (hm : ∀ k z, mm' k z ↔ mm k z) : PT M M1 b3 N us mm' bd' :=
  ⟨h.at3, h.len, h.sub, h.new, fun k u hu => by
    obtain ⟨q1, ys, q2, q3, q4⟩ := h.rows k u hu
    exact ⟨q1, ys, q2, by omega, fun x => by rw [q4, hm]⟩, h.dis⟩
end Go.M2

namespace Go.M2
open Go.Proofs
variable {M : MH}
end Go.M2

namespace Go.M2
open Go.Proofs
variable {M : MH}
end Go.M2

namespace Go.M2
open Go.Proofs
variable {M : MH}
end Go.M2

namespace Go.M2
open Go.Proofs
def EV {α : Type} (E : α → List V → Prop) : Heap → α → List AV → Prop := fun H x cs => ∃ vs : List V, erl vs = cs ∧ okL H vs ∧ E x vs
theorem erl_len : ∀ l : List V, (erl l).length = l.length
  | [] => rfl
  | v :: t => by simp only [erl, List.length_cons, erl_len t]
theorem erl_app : ∀ a b : List V, erl (a ++ b) = erl a ++ erl b
  | [], b => rfl
  | v :: t, b => by simp only [List.cons_append, erl, erl_app t b]
theorem okL_app {H : Heap} : ∀ {a b : List V}, okL H a → okL H b → okL H (a ++ b)
  | [], b, _, h => h
  | v :: t, b, h, k => by
    simp only [List.cons_append, okL] at h ⊢
    exact ⟨h.1, okL_app h.2 k⟩
theorem lift_cells {α : Type} {E : α → List V → Prop} {H : Heap} {b sz : Nat} : ∀ {xs : List α} {o : Nat}, (∀ i (h : i < xs.length), ∃ cs, cs.length = sz ∧ Rd H b (o + i * sz) cs ∧ EV E H xs[i] cs) →
    ∃ vs : List V, vs.length = xs.length * sz ∧ Rd H b o (erl vs) ∧ okL H vs ∧ ∀ i (h : i < xs.length), E xs[i] ((vs.drop (i * sz)).take sz)
  | [], o, _ => ⟨[], by simp, Rd.nil _ _ _, by simp [okL], fun i h => by simp at h⟩
  | x :: t, o, h => by
    obtain ⟨cs, h1, h2, us, h3, h4, h5⟩ := h 0 (by simp)
    obtain ⟨vs, k1, k2, k3, k4⟩ := lift_cells (xs := t) (o := o + sz) (E := E) (H := H) (b := b) (sz := sz) (fun i hi => by
      obtain ⟨cs, q1, q2, q3⟩ := h (i + 1) (by simp; omega)
      exact ⟨cs, q1, by rw [show o + sz + i * sz = o + (i + 1) * sz by rw [Nat.succ_mul]; omega]; exact q2, by simpa using q3⟩)
    have hu : us.length = sz := by rw [← erl_len, h3]; exact h1
    refine ⟨us ++ vs, by simp [hu, k1, Nat.succ_mul]; omega, ?_, okL_app h4 k3, fun i hi => ?_⟩
    · intro i y hy
      rw [erl_app] at hy
      by_cases hlt : i < (erl us).length
      · rw [List.getElem?_append_left hlt, h3] at hy
        have := h2 i y hy
        simpa using this
      · rw [List.getElem?_append_right (by omega)] at hy
        have e1 : (erl us).length = sz := by rw [erl_len]; exact hu
        rw [e1] at hy hlt
        have := k2 (i - sz) y hy
        rwa [show o + sz + (i - sz) = o + i by omega] at this
    · cases i with
      | zero => simpa [List.take_left' hu] using h5
      | succ i =>
        have := k4 i (by simpa using hi)
        have e2 : (us ++ vs).drop ((i + 1) * sz) = vs.drop (i * sz) := by
          rw [show (i + 1) * sz = us.length + i * sz by rw [Nat.succ_mul, hu]; omega, List.drop_append]
          simp
        rw [e2]
        simpa using this
theorem lift_slice {α : Type} {E : α → List V → Prop} {H : Heap} {sz : Nat} {v : AV} {xs : List α} (h : InS sz (EV E) H v xs) : ∃ v', er v' = v ∧ okV H v' ∧ In (Lc sz E) v' xs := by
  rcases h with ⟨A, c, ex, k, rfl, h⟩ | ⟨rfl, rfl⟩
  · obtain ⟨vs, h1, h2, h3, h4⟩ := lift_cells h
    exact ⟨.fs A xs.length c ex k vs, rfl, by simp only [okV]; exact ⟨h2, h3⟩, .inl (.inr ⟨A, c, ex, k, vs, rfl, by omega, fun i hi => h4 i hi⟩)⟩
  · exact ⟨.sc .emp, rfl, by simp [okV], .inr ⟨rfl, rfl⟩⟩
def E1 {α : Type} (E : α → V → Prop) : α → List V → Prop := fun a cs => ∃ u, cs = [u] ∧ E a u
theorem lc1_ls {α : Type} {E : α → V → Prop} {v : V} {ys : List α} (h : Lc 1 (E1 E) v ys) : Ls E v ys := by
  rcases h with h | ⟨A, c, ex, k, xs, rfl, hl, h⟩
  · exact .inl h
  · refine .inr ⟨A, c, ex, k, xs, rfl, by omega, fun i hi => ?_⟩
    obtain ⟨u, h1, h2⟩ := h i hi
    have h3 : xs[i]? = some u := by
      have := congrArg (fun l => l[0]?) h1
      simpa [atN, List.getElem?_take, List.getElem?_drop] using this
    have h4 : at1 (.fs A ys.length c ex k xs) i = u := by
      simp [at1, List.getD_eq_getElem?_getD, h3]
    rw [h4]; exact h2
section
open Go.ChangeShapes Go.WideShapes Go.ChangeAt Go.RowKit
variable {HH : Type} {enc : TypeId × Value → HH} {P : Program} {W : World} {t e : TypeId} {fuel : Nat} {cs : List Value} {x : DataW HH × List MemPlace}
def LiftE {α : Type} (W : World) (E : α → List V → Prop) (a : α) (cs : List Value) : Prop := ∃ vs, erl vs = cs.map (avC W.heap.size) ∧ okL (heap0 W) vs ∧ E a vs
theorem in_list {α : Type} {E : α → List V → Prop} {good : α → Prop} {sz : Nat} (ht : P.underlying t = some (.slice e)) (hsz : P.cellsOf e = sz) (h0 : 0 < sz)
    (he : ∀ n cs x, DataW.trod enc P W 0 (fun _ => true) true n e cs = some x → ∃ a, LiftE W E a cs ∧ good a)
    (h : DataW.trod enc P W 0 (fun _ => true) true fuel t cs = some x) : ∃ xs : List α, LiftE W (E1 (fun (ys : List α) u => In (Lc sz E) u ys)) xs cs ∧ (xs.length ≤ 9223372036854775807 ∧ ∀ a ∈ xs, good a) := by
  obtain ⟨v, xs, rfl, h1, h2, h3⟩ := in_slice (E := EV E) (good := good) ht hsz h0 (fun n cs x hx => by
    obtain ⟨a, ⟨vs, h1, h2, h3⟩, h4⟩ := he n cs x hx
    exact ⟨a, ⟨vs, h1, h2, h3⟩, h4⟩) h
  obtain ⟨u, k1, k2, k3⟩ := lift_slice h1
  exact ⟨xs, ⟨[u], by simp [erl, k1], by simp only [okL]; exact ⟨k2, trivial⟩, u, rfl, k3⟩, h3, h2⟩
theorem in_list1 {α : Type} {E : α → V → Prop} {good : α → Prop} (ht : P.underlying t = some (.slice e)) (hsz : P.cellsOf e = 1)
    (he : ∀ n cs x, DataW.trod enc P W 0 (fun _ => true) true n e cs = some x → ∃ a, LiftE W (E1 E) a cs ∧ good a)
    (h : DataW.trod enc P W 0 (fun _ => true) true fuel t cs = some x) : ∃ xs : List α, LiftE W (E1 (fun (ys : List α) u => In (Ls E) u ys)) xs cs ∧ (xs.length ≤ 9223372036854775807 ∧ ∀ a ∈ xs, good a) := by
  obtain ⟨xs, ⟨vs, h1, h2, u, rfl, h3⟩, h4⟩ := in_list ht hsz (by omega) he h
  exact ⟨xs, ⟨[u], h1, h2, u, rfl, h3.imp lc1_ls id⟩, h4⟩
theorem LiftE.one {α : Type} {E : α → V → Prop} {a : α} {c : Value} (h : LiftE W (E1 E) a [c]) : ∃ u, er u = avC W.heap.size c ∧ okV (heap0 W) u ∧ E a u := by
  obtain ⟨vs, h1, h2, u, rfl, h3⟩ := h
  simp only [erl, List.map_cons, List.map_nil, List.cons.injEq, and_true] at h1
  simp only [okL] at h2
  exact ⟨u, h1, h2.1, h3⟩
end
theorem calls_of_vcall {P : Program} {f : FuncId} {vs : List Value} {vv : List V} {W : World} (h : VCall P f vv (fun _ => none) (fun r M' => (fun _ => none) = M' ∧ r = .sc (.bool true)))
    (he : vv.map er = vs.map (avT W.heap.size)) (ho : okL (heap0 W) vv) : Calls P f vs.toArray W (fun e w' => e = .returned (.bool true) ∧ Go.RowKit.Below W.heap.size W w') := by
  refine calls_of_acall ?_
  rw [← he]
  refine (h (heap0 W) (heap0 W) ⟨rfl, fun b _ => .inr rfl, fun b l hb => by cases hb⟩ ho).mono ?_
  rintro a H' ⟨r, M', F', rfl, _, _, _, _, rfl⟩
  rfl
end Go.M2

namespace Go.M2
open Go.Proofs
open Go.ChangeShapes Go.WideShapes Go.ChangeAt Go.RowKit
variable {HH : Type} {enc : TypeId × Value → HH} {W : World} {fuel : Nat} {cs : List Value} {x : DataW HH × List MemPlace}
end Go.M2

namespace Go.M2
open Go.Proofs
open Go.ChangeShapes Go.WideShapes Go.ChangeAt Go.RowKit
variable {M : MH}
variable {HH : Type} {enc : TypeId × Value → HH} {W : World} {fuel : Nat} {cs : List Value} {x : DataW HH × List MemPlace}
end Go.M2

namespace Go.M2
open Go.Proofs
variable {M : MH}
theorem Gr.out {M0 Mb M Mr : MH} {v : V} {us : List V} {fp g : List (Nat × List V)} (h : Gr 1 Mb M v us) (hm : Mem M0 Mb fp) (k : Mem M Mr g) : ∃ Mb', Gr 1 Mb' Mr v us ∧ Mem M0 Mb' (fp ++ g) := by
  have key : Sub Mb (fun i => if blkV v = some i then none else Mr i) := fun i l hi => by
    have hne : blkV v ≠ some i := fun e => by rw [h.new i e] at hi; cases hi
    simp only [hne, if_false]; exact k.sub _ _ (h.sub _ _ hi)
  refine ⟨fun i => if blkV v = some i then none else Mr i, ⟨fun i l hi => ?_, fun b hb => by simp [hb], h.own.sub k.sub⟩, hm.add ⟨key, fun p hp => h.sub.none (k.new p hp), k.nd, fun p hp => ?_⟩⟩
  · have hi : (if blkV v = some i then none else Mr i) = some l := hi
    split at hi
    · cases hi
    · exact hi
  · have hne : blkV v ≠ some p.1 := fun e => by
      have h1 := k.new p hp
      rcases h.own with ⟨rfl, q, rfl⟩ | ⟨b', n, ex, rfl, h2, _⟩
      · simp [blkV] at e
      · simp [blkV] at e; subst e; rw [h1] at h2; cases h2
    simp only [hne, if_false]; exact k.at_ p hp
def RT (M0 M : MH) (v : V) (rows : List (List Int)) : Prop :=
  ∃ us us' fp Mb, Gr 1 Mb M v us ∧ Mem M0 Mb fp ∧ Tr us us' fp ∧ flatL us ∧ (∀ q ∈ fp, flatL q.2) ∧ us.all oneV = true ∧ Cs isL us' rows
section
variable {M0 M1 M2 : MH} {v u : V} {rows : List (List Int)} {ys : List Int}
theorem RT.sub (h : RT M0 M1 v rows) : Sub M0 M1 := by
  obtain ⟨us, us', fp, Mb, hg, hm, _⟩ := h
  exact hm.sub.trans hg.sub
theorem RT.nil {k : Nat} (h : Sub M0 M1) : RT M0 M1 (.sc (.sl none 0 0 true k)) [] := ⟨[], [], [], M1, .nil (Sub.refl _), .nil h, .nil, by simp [flatL], fun q hq => (by cases hq), rfl, .nil⟩
theorem RT.len (h : RT M0 M1 v rows) : lenF (er v) = some (.int .i64 (rows.length : Int)) := by
  obtain ⟨us, us', fp, Mb, hg, hm, ht, _, _, _, hc⟩ := h
  rw [hg.len1, ← hc.1, ht.len]
theorem RT.one (h : RT M0 M1 v rows) : One v := by
  obtain ⟨us, us', fp, Mb, hg, _⟩ := h
  exact hg.one
theorem RT.more (h : RT M0 M1 v rows) (hs : Sub M1 M2) : RT M0 M2 v rows := by
  obtain ⟨us, us', fp, Mb, hg, hm, h⟩ := h
  obtain ⟨Mb', g1, m1⟩ := hg.out hm (Mem.nil hs)
  rw [List.append_nil] at m1
  exact ⟨us, us', fp, Mb', g1, m1, h⟩
theorem RT.base {Mz : MH} (h : RT M0 M1 v rows) (hs : Sub Mz M0) : RT Mz M1 v rows := by
  obtain ⟨us, us', fp, Mb, hg, hm, h⟩ := h
  exact ⟨us, us', fp, Mb, hg, hm.base hs, h⟩
theorem RT.tree (h : RT M0 M1 v rows) : ∃ v' fp, Tr [v] [v'] fp ∧ Mem M0 M1 fp ∧ flat v ∧ (∀ q ∈ fp, flatL q.2) ∧ LII v' rows := by
  obtain ⟨us, us', fp, Mb, hg, hm, ht, hf, hff, _, hc⟩ := h
  rcases hg.own with ⟨rfl, k, rfl⟩ | ⟨b, n, ex, rfl, hb, hl⟩
  · cases ht
    have : rows = [] := List.eq_nil_of_length_eq_zero hc.1.symm
    subst this
    exact ⟨_, [], .refl _, .nil (hm.sub.trans hg.sub), by simp [flat], fun q hq => (by cases hq), .nil⟩
  · have hnew : Mb b = none := hg.new b rfl
    refine ⟨.fs (some (b, 0)) n n ex 1 (us'.drop 0), (b, us) :: (fp ++ []), .sl ht .nil, ?_, by simp [flat], fun q hq => ?_, ?_⟩
    · have k : Mem Mb M1 [(b, us)] := ⟨hg.sub, fun p hp => by simp at hp; subst hp; exact hnew, by simp [Nd2], fun p hp => by simp at hp; subst hp; exact hb⟩
      rw [List.append_nil]
      exact (hm.add k).perm List.perm_append_comm
    · simp only [List.append_nil, List.mem_cons] at hq
      rcases hq with rfl | h1
      · exact hf
      · exact hff q h1
    · have := ht.len
      exact Fr.lsC (us := us') (.inr ⟨_, _, _, _, _, by rw [List.drop_zero], by omega⟩) hc
theorem RT.dn (h : RT M0 M1 v rows) : Dn M0 M1 v (fun u => LII u rows) := h.tree
theorem RT.row (h : RT M0 M1 v rows) {i : Nat} (hi : i < rows.length) : ∃ (us : List V) (u u' : V) (g : List (Nat × List V)), (∀ {k : IntKind} {a : Int}, 0 ≤ a → a < (rows.length : Int) → iaddrV 1 v (.int k a) = some (.sc (.ptr (some (oB v, a.toNat))))) ∧ M1 (oB v) = some us ∧ us[i]? = some u ∧ One u ∧ Tr [u] [u'] g ∧ Nd2 g ∧ (∀ p ∈ g, M1 p.1 = some p.2) ∧ (∀ p ∈ g, M0 p.1 = none) ∧ LI u' rows[i] := by
  obtain ⟨us, us', fp, Mb, hg, hm, ht, hf, hff, ho, hc⟩ := h
  have hul : us.length = rows.length := by rw [← ht.len]; exact hc.1
  have hiu : i < us.length := by omega
  have hsp : us = us.take i ++ (us[i] :: us.drop (i + 1)) := by rw [← List.drop_eq_getElem_cons hiu, List.take_append_drop]
  rw [hsp] at ht
  obtain ⟨a', b', f1, f2, rfl, rfl, t1, t2⟩ := Tr.split (a := us.take i) (b := us[i] :: us.drop (i + 1)) (b' := []) ht
  obtain ⟨x', r', g1, g2, rfl, rfl, t3, t4⟩ := t2.uncons
  have hal : a'.length = i := by rw [t1.len, List.length_take]; omega
  have hmg : Mem M0 Mb g1 := hm.right.left
  have h4 := hc.2 i hi
  rw [List.getElem?_append_right (by omega), hal, Nat.sub_self] at h4
  obtain ⟨w, h5, h6⟩ := h4
  simp only [List.getElem?_cons_zero, Option.some.injEq] at h5
  subst h5
  have o1 := List.all_eq_true.1 ho _ (List.getElem_mem hiu)
  have fl := flatL_all.1 hf _ (List.getElem_mem hiu)
  refine ⟨us, us[i], x', g1, fun h0 h1 => hg.own.iaddr h0 (by rw [hul]; exact h1), hg.at (by omega), List.getElem?_eq_getElem hiu, ⟨o1, ?_⟩, t3, hmg.nd, fun p hp => hg.sub _ _ (hmg.at_ p hp), hmg.new, h6⟩
  rcases t3.inv1 with ⟨h1, h2⟩ | ⟨b, o, n, c, ex, k, cs, cs', g, h0, _⟩ | ⟨a, a', _, h0⟩ | ⟨a, a', _, h0⟩
  · simp only [List.cons.injEq, and_true] at h1
    rw [← h1]; exact h6.one.2
  · rw [h0]; rfl
  · rw [h0] at o1; exact absurd o1 (by simp [oneV, er, oneA])
  · rw [h0] at o1; exact absurd o1 (by simp [oneV, er, oneA])
theorem RT.snoc {s' : V} {M' : MH} {us us' : List V} {fp g : List (Nat × List V)} {u' : V} {Mb' : MH} (h1 : Gr 1 Mb' M' s' (us ++ [u])) (m1 : Mem M0 Mb' (fp ++ g)) (ht : Tr us us' fp) (htu : Tr [u] [u'] g) (hf : flatL us) (hfu : flat u) (hff : ∀ q ∈ fp, flatL q.2) (hfg : ∀ q ∈ g, flatL q.2)
    (ho : us.all oneV = true) (hou : oneV u = true) (hc : Cs isL us' rows) (hu : LI u' ys) : RT M0 M' s' (rows ++ [ys]) := by
  refine ⟨us ++ [u], us' ++ [u'], fp ++ g, Mb', h1, m1, ht.append htu, ?_, ?_, by simp [ho, hou], hc.snoc (x := ys) hu⟩
  · exact flatL_all.2 fun w hw => by
      rcases List.mem_append.1 hw with h2 | h2
      · exact flatL_all.1 hf w h2
      · rw [List.mem_singleton] at h2; subst h2; exact hfu
  · intro w hw
    rcases List.mem_append.1 hw with h2 | h2
    · exact hff w h2
    · exact hfg w h2
end
end Go.M2

namespace Go.M2
open Go.Proofs
variable {M : MH}
end Go.M2

namespace Go.M2
open Go.Proofs
variable {M : MH}
noncomputable def inS (s : SysS) (st : List Int) : Bool := sysB s && inB s.vars st
theorem t_impInRange {v w : V} {s : SysS} {st : List Int} (hv : isSys s v) (hz : SysSz s) (hw : LI w st) : VCall Try.prog n_impl_InRange [v, w] M (fun r M' => M = M' ∧ r = .sc (.bool (inS s st))) := by
  refine VCall.pure fun R hR => v_impl_InRange rfl ?_
  have hv0 := hv
  obtain ⟨a, b, rfl, ha, hb⟩ := hv
  (repeat' (first | ((with_reducible first | refine cond_dec (fun h => ?_) (fun h => ?_) | refine guardK_dec (fun h => ?_) (fun h => ?_) | refine guardD3_dec (fun h => ?_) (fun h => ?_)) <;> first | (exfalso; omega) | (simp (maxSteps := 2000000) (disch := first | omega | assumption | exact idP rfl | exact idP (bL rfl)) only [go_sem, reduceIte, Nat.reduceEqDiff, wpV_kd, wpV_tH, h]) | skip) | ((with_reducible first | refine cond_split (fun h => ?_) (fun h => ?_) | refine guardK_split (fun h => ?_) (fun h => ?_) | refine guardD3_split (fun h => ?_) (fun h => ?_)) <;> ((try simp only [Bool.not_eq_true', Bool.not_eq_false'] at h); first | (simp (maxSteps := 2000000) (disch := first | omega | assumption | exact idP rfl | exact idP (bL rfl)) only [go_sem, reduceIte, Nat.reduceEqDiff, wpV_kd, wpV_tH, h]) | skip)) | ((with_reducible refine (t_impSystemValid hv0 hz).mono ?_); rintro _ _ ⟨rfl, rfl⟩) | (with_reducible intro bk hbk; try have hnk := (fresh_set hbk).1) | (simp (maxSteps := 2000000) (disch := first | omega | assumption | exact idP rfl | exact idP (bL rfl)) only [go_sem, reduceIte, Nat.reduceEqDiff, wpV_kd, wpV_tH])))
  · have hs := (sysB_iff s).1 h
    (repeat' (first | ((with_reducible first | refine cond_dec (fun h => ?_) (fun h => ?_) | refine guardK_dec (fun h => ?_) (fun h => ?_) | refine guardD3_dec (fun h => ?_) (fun h => ?_)) <;> first | (exfalso; omega) | (simp (maxSteps := 2000000) (disch := first | omega | assumption | exact idP rfl | exact idP (bL rfl)) only [go_sem, reduceIte, Nat.reduceEqDiff, wpV_kd, wpV_tH, h]) | skip) | ((with_reducible first | refine cond_split (fun h => ?_) (fun h => ?_) | refine guardK_split (fun h => ?_) (fun h => ?_) | refine guardD3_split (fun h => ?_) (fun h => ?_)) <;> ((try simp only [Bool.not_eq_true', Bool.not_eq_false'] at h); first | (simp (maxSteps := 2000000) (disch := first | omega | assumption | exact idP rfl | exact idP (bL rfl)) only [go_sem, reduceIte, Nat.reduceEqDiff, wpV_kd, wpV_tH, h]) | skip)) | ((with_reducible refine (t_inRange ha hw hs.v5).mono ?_); rintro _ _ ⟨rfl, rfl⟩) | (with_reducible intro bk hbk; try have hnk := (fresh_set hbk).1) | (simp (maxSteps := 2000000) (disch := first | omega | assumption | exact idP rfl | exact idP (bL rfl)) only [go_sem, reduceIte, Nat.reduceEqDiff, wpV_kd, wpV_tH])))
    exact hR _ _ (sB) (by simp [inS, h])
  · exact hR _ _ (sB) (by simp [inS, h])
theorem t_InRange {v w : V} {s : SysS} {st : List Int} (hv : isSys s v) (hw : LI w st) : VCall Try.prog n_spec_InRange [v, w] M (fun r M' => M = M' ∧ r = .sc (.bool (inS s st))) := by
  refine VCall.pure fun R hR => v_spec_InRange rfl ?_
  have hv0 := hv
  obtain ⟨a, b, rfl, ha, hb⟩ := hv
  (repeat' (first | ((with_reducible first | refine cond_dec (fun h => ?_) (fun h => ?_) | refine guardK_dec (fun h => ?_) (fun h => ?_) | refine guardD3_dec (fun h => ?_) (fun h => ?_)) <;> first | (exfalso; omega) | (simp (maxSteps := 2000000) (disch := first | omega | assumption | exact idP rfl | exact idP (bL rfl)) only [go_sem, reduceIte, Nat.reduceEqDiff, wpV_kd, wpV_tH, h]) | skip) | ((with_reducible first | refine cond_split (fun h => ?_) (fun h => ?_) | refine guardK_split (fun h => ?_) (fun h => ?_) | refine guardD3_split (fun h => ?_) (fun h => ?_)) <;> ((try simp only [Bool.not_eq_true', Bool.not_eq_false'] at h); first | (simp (maxSteps := 2000000) (disch := first | omega | assumption | exact idP rfl | exact idP (bL rfl)) only [go_sem, reduceIte, Nat.reduceEqDiff, wpV_kd, wpV_tH, h]) | skip)) | ((with_reducible refine (t_SystemValidS hv0).mono ?_); rintro _ _ ⟨rfl, rfl⟩) | (with_reducible intro bk hbk; try have hnk := (fresh_set hbk).1) | (simp (maxSteps := 2000000) (disch := first | omega | assumption | exact idP rfl | exact idP (bL rfl)) only [go_sem, reduceIte, Nat.reduceEqDiff, wpV_kd, wpV_tH])))
  · have hs := (sysB_iff s).1 h
    (repeat' (first | ((with_reducible first | refine cond_dec (fun h => ?_) (fun h => ?_) | refine guardK_dec (fun h => ?_) (fun h => ?_) | refine guardD3_dec (fun h => ?_) (fun h => ?_)) <;> first | (exfalso; omega) | (simp (maxSteps := 2000000) (disch := first | omega | assumption | exact idP rfl | exact idP (bL rfl)) only [go_sem, reduceIte, Nat.reduceEqDiff, wpV_kd, wpV_tH, h]) | skip) | ((with_reducible first | refine cond_split (fun h => ?_) (fun h => ?_) | refine guardK_split (fun h => ?_) (fun h => ?_) | refine guardD3_split (fun h => ?_) (fun h => ?_)) <;> ((try simp only [Bool.not_eq_true', Bool.not_eq_false'] at h); first | (simp (maxSteps := 2000000) (disch := first | omega | assumption | exact idP rfl | exact idP (bL rfl)) only [go_sem, reduceIte, Nat.reduceEqDiff, wpV_kd, wpV_tH, h]) | skip)) | ((with_reducible refine (t_l2In ha hw hs.v5).mono ?_); rintro _ _ ⟨rfl, rfl⟩) | (with_reducible intro bk hbk; try have hnk := (fresh_set hbk).1) | (simp (maxSteps := 2000000) (disch := first | omega | assumption | exact idP rfl | exact idP (bL rfl)) only [go_sem, reduceIte, Nat.reduceEqDiff, wpV_kd, wpV_tH])))
    exact hR _ _ (sB) (by simp [inS, h])
  · exact hR _ _ (sB) (by simp [inS, h])
theorem inS_iff {s : SysS} {st : List Int} : inS s st = true ↔ SysOk s ∧ StIn s.vars st := by
  simp [inS, sysB_iff, inB_iff]
end Go.M2

namespace Go.M2
open Go.Proofs
variable {M : MH}
theorem Tr.one1 {u u' : V} {g : List (Nat × List V)} (h : Tr [u] [u'] g) (h' : One u') : One u := by
  obtain ⟨h1, h2⟩ := h'
  rcases h.inv1 with ⟨h3, _⟩ | ⟨b, o, n, c, ex, k, cs, cs', g, rfl, _⟩ | ⟨a, a', h3, _⟩ | ⟨a, a', h3, _⟩
  · simp only [List.cons.injEq, and_true] at h3
    rw [← h3]; exact ⟨h1, h2⟩
  · exact ⟨rfl, rfl⟩
  · simp only [List.cons.injEq, and_true] at h3
    rw [h3] at h1; exact absurd h1 (by simp [oneV, er, oneA])
  · simp only [List.cons.injEq, and_true] at h3
    rw [h3] at h1; exact absurd h1 (by simp [oneV, er, oneA])
def RdI (M : MH) (v : V) (xs : List Int) : Prop := ∃ v' g, Tr [v] [v'] g ∧ Nd2 g ∧ (∀ p ∈ g, M p.1 = some p.2) ∧ LI v' xs
theorem RdI.of {v : V} {xs : List Int} (h : LI v xs) : RdI M v xs := ⟨v, [], .refl _, List.nodup_nil, fun p hp => (by cases hp), h⟩
theorem RdI.more {M' : MH} {v : V} {xs : List Int} (h : RdI M v xs) (hs : Sub M M') : RdI M' v xs := by
  obtain ⟨v', g, h1, h2, h3, h4⟩ := h
  exact ⟨v', g, h1, h2, fun p hp => hs _ _ (h3 p hp), h4⟩
theorem RdI.one {v : V} {xs : List Int} (h : RdI M v xs) : One v := by
  obtain ⟨v', g, h1, h2, h3, h4⟩ := h
  exact h1.one1 h4.one
theorem Dn.rdI {M0 : MH} {v : V} {xs : List Int} (h : Dn M0 M v (fun u => LI u xs)) : RdI M v xs := by
  obtain ⟨v', g, h1, h2, h3, h4, h5⟩ := h
  exact ⟨v', g, h1, h2.nd, h2.at_, h5⟩
theorem RdI.len {v : V} {xs : List Int} (h : RdI M v xs) : lenF (er v) = some (.int .i64 (xs.length : Int)) := by
  obtain ⟨v', g, h1, h2, h3, h4⟩ := h
  have hl := h4.len
  rcases h1.inv1 with ⟨h5, _⟩ | ⟨b, o, n, c, ex, k, cs, cs', g, rfl, h5, _⟩ | ⟨a, a', h5, rfl⟩ | ⟨a, a', h5, rfl⟩
  · simp only [List.cons.injEq, and_true] at h5
    rw [← h5]; exact hl
  · simp only [List.cons.injEq, and_true] at h5
    rw [h5] at hl; exact hl
  · simp only [List.cons.injEq, and_true] at h5
    rw [h5] at hl; simp [er, lenF] at hl
  · simp only [List.cons.injEq, and_true] at h5
    rw [h5] at hl; simp [er, lenF] at hl
theorem RT.rdI {M0 M1 : MH} {v u : V} {us : List V} {rows : List (List Int)} (h : RT M0 M1 v rows) {i : Nat} (hi : i < rows.length) (hm : M1 (oB v) = some us) (hu : us[i]? = some u) : RdI M1 u rows[i] := by
  obtain ⟨us2, u2, u', g, _, h1, h2, _, h3, h4, h5, _, h6⟩ := h.row hi
  rw [hm] at h1; cases h1
  rw [hu] at h2; cases h2
  exact ⟨u', g, h3, h4, h5, h6⟩
theorem RT.cell {M0 M1 : MH} {v : V} {rows : List (List Int)} (h : RT M0 M1 v rows) (hl : 0 < rows.length) : ∃ us, M1 (oB v) = some us ∧ us.length = rows.length ∧ ∀ i (h : i < rows.length), ∃ u, us[i]? = some u ∧ RdI M1 u rows[i] := by
  have h0 := h
  obtain ⟨us, us', fp, Mb, hg, hm, ht, hf, hff, ho, hc⟩ := h0
  have hul : us.length = rows.length := by rw [← ht.len]; exact hc.1
  have hat : M1 (oB v) = some us := hg.at (by omega)
  exact ⟨us, hat, hul, fun i hi => ⟨us[i]'(by omega), List.getElem?_eq_getElem (by omega), h.rdI hi hat (List.getElem?_eq_getElem (by omega))⟩⟩
theorem RT.iaddr {M0 M1 : MH} {v : V} {rows : List (List Int)} (h : RT M0 M1 v rows) {k : IntKind} {a : Int} (h0 : 0 ≤ a) (h1 : a < (rows.length : Int)) : iaddrV 1 v (.int k a) = some (.sc (.ptr (some (oB v, a.toNat)))) := by
  obtain ⟨us, us', fp, Mb, hg, hm, ht, hf, hff, ho, hc⟩ := h
  have hul : us.length = rows.length := by rw [← ht.len]; exact hc.1
  exact hg.own.iaddr h0 (by rw [hul]; exact h1)
noncomputable def ableB (s : SysS) (st : List Int) (k : Nat) : Bool := match s.rules[k]? with
  | some r => (useR s.vars r st).isSome
  | none => false
theorem ableB_at {s : SysS} {st : List Int} {k : Nat} (h : k < s.rules.length) : ableB s st k = (useR s.vars s.rules[k] st).isSome := by simp [ableB, h]
end Go.M2

namespace Go.M2
open Go.Proofs
variable {M : MH}
def FrStep (s : SysS) (p f : List Int) : Prop := SetOk (sizeF s.vars) f ∧ (∀ x ∈ p, x ∈ f) ∧ (∀ x ∈ nextN s p, x ∈ f)
def FrOk (s : SysS) (fs : List (List Int)) : Prop := SysOk s ∧ 1 ≤ fs.length ∧ fs.length ≤ 30 ∧ fs[0]? = some [firstN s] ∧ ∀ i (h : i + 1 < fs.length), FrStep s fs[i] fs[i + 1]
noncomputable def frB (s : SysS) (fs : List (List Int)) : Bool := @decide (FrOk s fs) (Classical.propDecidable _)
end Go.M2

namespace Go.M2
open Go.Proofs
variable {M : MH}
theorem t_usableIn {v w : V} {s : SysS} {st : List Int} (hv : isSys s v) (hs : SysOk s) (hw : LI w st) (hin : StIn s.vars st) :
    VCall Try.prog n_impl_usableIn [v, w] M (fun r M' => M = M' ∧ LI r (selL s.rules.length (ableB s st))) := by
  refine VCall.froz fun R hP hG => v_impl_usableIn rfl ?_
  have hv0 := hv
  obtain ⟨a, b, rfl, ha, hb⟩ := hv
  have h8 := hs.r8
  (repeat' (first | ((with_reducible first | refine cond_dec (fun h => ?_) (fun h => ?_) | refine guardK_dec (fun h => ?_) (fun h => ?_) | refine guardD3_dec (fun h => ?_) (fun h => ?_)) <;> first | (exfalso; omega) | (simp (maxSteps := 2000000) (disch := first | omega | assumption | exact idP rfl | exact idP (bL rfl)) only [go_sem, reduceIte, Nat.reduceEqDiff, wpV_kd, wpV_tH, h, hb.len]) | skip) | ((with_reducible first | refine cond_split (fun h => ?_) (fun h => ?_) | refine guardK_split (fun h => ?_) (fun h => ?_) | refine guardD3_split (fun h => ?_) (fun h => ?_)) <;> ((try simp only [Bool.not_eq_true', Bool.not_eq_false'] at h); first | (simp (maxSteps := 2000000) (disch := first | omega | assumption | exact idP rfl | exact idP (bL rfl)) only [go_sem, reduceIte, Nat.reduceEqDiff, wpV_kd, wpV_tH, h, hb.len]) | skip)) | (with_reducible intro bk hbk; try have hnk := (fresh_set hbk).1) | (simp (maxSteps := 2000000) (disch := first | omega | assumption | exact idP rfl | exact idP (bL rfl)) only [go_sem, reduceIte, Nat.reduceEqDiff, wpV_kd, wpV_tH, hb.len])))
  refine loop_k (fun e M' => ∃ i : Nat, i ≤ s.rules.length ∧ e 1 = w ∧ e 2 = .sc (.ptr (some (bk, 0))) ∧ e 11 = .sc (.int .i64 s.rules.length) ∧ e 12 = .sc (.int .i64 i) ∧ Gr 1 (M.set bk [a, b]) M' (e 5) ((selL i (ableB s st)).map vi)) (fun e _ => ctrV s.rules.length (e 12)) ?_ ?_
  · exact ⟨0, by omega, sT0, sT0, sT0, by refine sS0 ?_; rfl, by refine sS0 ?_; exact .nil (Sub.refl _)⟩
  · rintro e M1 ⟨i, hi, e1, e2, e11, e12, hg⟩ K hK
    have hm : M1 bk = some [a, b] := hg.sub _ _ set_same
    have hsl : (selL i (ableB s st)).length ≤ i := selL_len
    refine sS4 @e1 @e2 @e11 @e12 ?_
    refine cond_dec (fun h => ?_) (fun h => ?_)
    · have hi' : i < s.rules.length := by omega
      have hab := ableB_at (st := st) hi'
      refine sS4 @e1 @e2 @e12 @hm ?_
      refine (t_use hv0 hs hw hin hi').mono ?_
      rintro r _ ⟨rfl, hr⟩
      cases hu : useR s.vars s.rules[i] st with
      | none =>
        rw [hu] at hr hab
        simp only [uRes] at hr
        subst hr
        refine sS4 @e1 @e2 @e11 @e12 ?_
        refine hK _ _ ⟨i + 1, by omega, sT0, sT0, sT0, by refine sS0 ?_; rfl, ?_⟩ (by refine sS2 @ctrV_int @e12 ?_; omega)
        refine sS0 ?_
        rw [selL_succ, if_neg (by rw [hab]; simp)]; exact hg
      | some xs =>
        rw [hu] at hr hab
        obtain ⟨u, rfl, hu1⟩ := hr
        refine sS4 @e1 @e2 @e11 @e12 ?_
        intro bt hbt
        refine app_int hg hbt (by omega) (by omega) ?_
        intro s' M' hg' _
        refine sS0 ?_
        refine hK _ _ ⟨i + 1, by omega, sT0, sT0, sT0, by refine sS0 ?_; rfl, ?_⟩ (by refine sS2 @ctrV_int @e12 ?_; omega)
        refine sS0 ?_
        rw [selL_succ, if_pos (by rw [hab]; rfl)]; exact hg'
    · obtain rfl : i = s.rules.length := by omega
      refine sS0 ?_
      refine (VCall.give0 hg fun u M2 hu hs2 => (t_cloneInt hu.li (by omega)).mono fun r M' hr => hr.base hs2).mono ?_
      rintro r M2 hg2
      refine sS0 ?_
      exact hG _ _ 1 _ (hg2.base (sB)) fun u hu => hu.li
end Go.M2

namespace Go.M2
open Go.Proofs
variable {M : MH}
theorem t_wcInts {v w : V} {xs ys : List Int} (hv : LI v xs) (hw : LI w ys) (hl : xs.length ≤ 1048576) : VCall Try.prog n_laws_wcInts [v, w] M (fun r M' => M = M' ∧ r = .sc (.bool (decide (xs = ys)))) := by
  refine VCall.pure fun R hR => v_laws_wcInts rfl ?_
  refine sS2 @hv.len @hw.len ?_
  refine cond_dec (fun h => ?_) (fun h => ?_)
  · refine sS0 ?_
    refine hR _ _ (Sub.refl _) (by rw [decide_eq_false]; intro e; rw [e] at h; exact h rfl)
  · have hlen : xs.length = ys.length := by omega
    refine sS1 @hv.len ?_
    refine loop_k (fun e M' => M' = M ∧ ∃ i : Nat, i ≤ xs.length ∧ e 1 = w ∧ e 12 = v ∧ e 13 = .sc (.int .i64 xs.length) ∧ e 14 = .sc (.int .i64 (i : Int)) ∧ ∀ j (h1 : j < xs.length) (h2 : j < ys.length), j < i → xs[j] = ys[j]) (fun e _ => ctrV xs.length (e 14)) ?_ ?_
    · exact ⟨rfl, 0, by omega, sE0, sE0, sE0, sE0, fun j _ _ h => by omega⟩
    · rintro e _ ⟨rfl, i, hi, q1, q12, q13, q14, hj⟩ K hK
      refine sS4 @q1 @q12 @q13 @q14 ?_
      refine cond_dec (fun h2 => ?_) (fun h2 => ?_)
      · have hi' : i < xs.length := by omega
        have hi2 : i < ys.length := by omega
        simp (maxSteps := 2000000) (disch := first | omega | assumption | exact idP rfl | exact idP (bL rfl)) only [go_sem, reduceIte, Nat.reduceEqDiff, wpV_kd, wpV_tH, q1, q12, q13, q14, hv.iaddr, hv.at hi', hw.iaddr, hw.at hi2]
        refine cond_dec (fun h3 => ?_) (fun h3 => ?_)
        · refine sS0 ?_
          refine hR _ _ (Sub.refl _) (by rw [decide_eq_false]; intro e; subst e; exact h3 rfl)
        · refine sS4 @q1 @q12 @q13 @q14 ?_
          refine hK _ _ ⟨rfl, i + 1, by omega, sE0, sE0, sE0, sE0, fun j h4 h5 h6 => ?_⟩ (by refine sS2 @ctrV_int @q14 ?_; omega)
          by_cases e : j = i
          · subst e; omega
          · exact hj j h4 h5 (by omega)
      · refine sS0 ?_
        refine hR _ _ (Sub.refl _) (by rw [decide_eq_true]; exact List.ext_getElem hlen fun j h4 h5 => hj j h4 h5 (by omega))
theorem t_wcHas {v : V} {xs : List Int} {n : Int} (hv : LI v xs) (hl : xs.length ≤ 1048576) : VCall Try.prog n_laws_wcHas [v, .sc (.int .i64 n)] M (fun r M' => M = M' ∧ r = .sc (.bool (decide (n ∈ xs)))) := by
  refine VCall.pure fun R hR => v_laws_wcHas rfl ?_
  refine sS1 @hv.len ?_
  refine loop_k (fun e M' => M' = M ∧ ∃ i : Nat, i ≤ xs.length ∧ e 1 = .sc (.int .i64 n) ∧ e 7 = v ∧ e 8 = .sc (.int .i64 xs.length) ∧ e 9 = .sc (.int .i64 (i : Int)) ∧ ∀ j (h1 : j < xs.length), j < i → xs[j] ≠ n) (fun e _ => ctrV xs.length (e 9)) ?_ ?_
  · exact ⟨rfl, 0, by omega, sE0, sE0, sE0, sE0, fun j _ h => by omega⟩
  · rintro e _ ⟨rfl, i, hi, q1, q7, q8, q9, hj⟩ K hK
    refine sS4 @q1 @q7 @q8 @q9 ?_
    refine cond_dec (fun h2 => ?_) (fun h2 => ?_)
    · have hi' : i < xs.length := by omega
      simp (maxSteps := 2000000) (disch := first | omega | assumption | exact idP rfl | exact idP (bL rfl)) only [go_sem, reduceIte, Nat.reduceEqDiff, wpV_kd, wpV_tH, q1, q7, q8, q9, hv.iaddr, hv.at hi']
      refine cond_dec (fun h3 => ?_) (fun h3 => ?_)
      · refine sS0 ?_
        exact hR _ _ (Sub.refl _) (by rw [decide_eq_true]; rw [← h3]; exact List.getElem_mem hi')
      · refine sS4 @q1 @q7 @q8 @q9 ?_
        refine hK _ _ ⟨rfl, i + 1, by omega, sE0, sE0, sE0, sE0, fun j h4 h6 => ?_⟩ (by refine sS2 @ctrV_int @q9 ?_; omega)
        by_cases e : j = i
        · subst e; exact h3
        · exact hj j h4 (by omega)
    · refine sS0 ?_
      refine hR _ _ (Sub.refl _) (by rw [decide_eq_false]; intro hm; obtain ⟨j, h4, h5⟩ := List.getElem_of_mem hm; exact hj j h4 (by omega) h5)
end Go.M2

namespace Go.M2
open Go.Proofs
variable {M : MH}
inductive Bk (tab : List (List Int)) (st : Nat → Prop) : Nat → Prop
  | base {i : Nat} : st i → Bk tab st i
  | step {i : Nat} {x : Int} : x ∈ tab.getD i [] → Bk tab st x.toNat → Bk tab st i
section
variable {tab tab' : List (List Int)} {st : Nat → Prop} {i : Nat}
theorem Rch.trans {a b c : Nat} (h1 : Rch tab (fun i => i = a) b) (h2 : Rch tab (fun i => i = b) c) : Rch tab (fun i => i = a) c := by
  induction h2 with
  | base h => rw [h]; exact h1
  | step _ hx ih => exact .step ih hx
end
end Go.M2

namespace Go.M2
open Go.Proofs
variable {M : MH}
noncomputable def usF (s : SysS) (st : List Int) : List Int := selL s.rules.length (ableB s st)
noncomputable def usS (s : SysS) (st : List Int) : List Int := if inS s st = true then usF s st else []
theorem usS_len {s : SysS} {st : List Int} : (usS s st).length ≤ 8 := by
  unfold usS
  split
  · rename_i h
    have := (inS_iff.1 h).1.r8
    exact Nat.le_trans selL_len this
  · simp
theorem t_impUsableIn {v w : V} {s : SysS} {st : List Int} (hv : isSys s v) (hz : SysSz s) (hw : LI w st) : VCall Try.prog n_impl_UsableIn [v, w] M (fun r M' => M = M' ∧ LI r (usS s st)) := by
  refine VCall.pure fun R hR => v_impl_UsableIn rfl ?_
  have hv0 := hv
  obtain ⟨a, b, rfl, ha, hb⟩ := hv
  (repeat' (first | ((with_reducible first | refine cond_dec (fun h => ?_) (fun h => ?_) | refine guardK_dec (fun h => ?_) (fun h => ?_) | refine guardD3_dec (fun h => ?_) (fun h => ?_)) <;> first | (exfalso; omega) | (simp (maxSteps := 2000000) (disch := first | omega | assumption | exact idP rfl | exact idP (bL rfl)) only [go_sem, reduceIte, Nat.reduceEqDiff, wpV_kd, wpV_tH, h]) | skip) | ((with_reducible first | refine cond_split (fun h => ?_) (fun h => ?_) | refine guardK_split (fun h => ?_) (fun h => ?_) | refine guardD3_split (fun h => ?_) (fun h => ?_)) <;> ((try simp only [Bool.not_eq_true', Bool.not_eq_false'] at h); first | (simp (maxSteps := 2000000) (disch := first | omega | assumption | exact idP rfl | exact idP (bL rfl)) only [go_sem, reduceIte, Nat.reduceEqDiff, wpV_kd, wpV_tH, h]) | skip)) | ((with_reducible refine (t_impInRange hv0 hz hw).mono ?_); rintro _ _ ⟨rfl, rfl⟩) | (with_reducible intro bk hbk; try have hnk := (fresh_set hbk).1) | (simp (maxSteps := 2000000) (disch := first | omega | assumption | exact idP rfl | exact idP (bL rfl)) only [go_sem, reduceIte, Nat.reduceEqDiff, wpV_kd, wpV_tH])))
  · exact hR _ _ (sB) (by unfold usS; rw [if_neg (by rw [h]; simp)]; exact .nil)
  · obtain ⟨hs, hin⟩ := inS_iff.1 h
    refine (t_usableIn hv0 hs hw hin).mono ?_
    rintro r _ ⟨rfl, hr⟩
    refine sS0 ?_
    exact hR _ _ (sB) (by unfold usS; rw [if_pos h]; exact hr)
end Go.M2

namespace Go.M2
open Go.Proofs
variable {M : MH}
theorem t_l2Some {rb : Nat} {w v : V} {code : List Int} {p : Int} {s : SysS} (hr : Rdr w code) (hm : M rb = some (rdC w p)) (h0 : 0 ≤ p) (h1 : p ≤ 500000) (hv : isSys s v) (hd : SysDr s) :
    VCall Try.prog n_spec_l2Some [.sc (.ptr (some (rb, 0))), v] M (fun r M' => ∃ (p' : Int) (xs : List Int), M' = M.set rb (rdC w p') ∧ p ≤ p' ∧ p' ≤ p + 410 ∧ LI r xs ∧ NN r xs ∧ xs.length ≤ 1000) := by
  refine VCall.frI (VCall.plain fun R hR => v_spec_l2Some rfl ?_)
  have rs0 := RS.start hm
  have hv0 := hv
  obtain ⟨a, b, rfl, ha, hb⟩ := hv
  have h4 := hd.v4
  refine sS0 ?_
  intro b3 hb3
  have q3 : (M.set b3 [a, b]) b3 = some [a, b] := set_same
  have rs1 := rs0.more ((Sub.refl M).set' (l := [a, b]) hb3)
  generalize M.set b3 [a, b] = M1 at *
  intro b5 hb5
  have hg : Gr 1 (M.set rb (rdC w p)) (M1.set b5 []) (.sc (.sl (some (b5, 0)) 0 0 true 1)) (([] : List Int).map vi) := Gr.new' rs1.sub hb5 rfl
  have rs2 := rs1.more ((Sub.refl M1).set' (l := []) hb5)
  have q3' : (M1.set b5 []) b3 = some [a, b] := by rw [set_ne (fun e => by subst e; rw [hb5] at q3; cases q3)]; exact q3
  generalize M1.set b5 [] = M2 at *
  have n53 : blkV (.sc (.sl (some (b5, 0)) 0 0 true 1)) ≠ some b3 := fun e => by simp [blkV] at e; subst e; rw [hb5] at q3; cases q3
  have nrb : b3 ≠ rb := rs0.ne hb3
  refine loop_k (fun e M' => ∃ (i : Nat) (p' : Int) (xs : List Int), i ≤ s.vars.length ∧ e 0 = .sc (.ptr (some (rb, 0))) ∧ e 3 = .sc (.ptr (some (b3, 0))) ∧ e 6 = .sc (.int .i64 (i : Int)) ∧ Gr 1 (M.set rb (rdC w p')) M' (e 5) (xs.map vi) ∧ M' b3 = some [a, b] ∧ blkV (e 5) ≠ some b3 ∧ xs.length = i ∧ p ≤ p' ∧ p' ≤ p + i) (fun e _ => ctrV s.vars.length (e 6)) ?_ ?_
  · exact ⟨0, p, [], by omega, sE0, sE0, sE0, by refine sS0 ?_; exact hg, q3', n53, rfl, by omega, by omega⟩
  · rintro e M4 ⟨i, p4, xs, hi, q0, q3, q6, hg4, h3, hne, hxl, d1, d2⟩ K hK
    have rs4 : RS M rb w M4 p4 := ⟨hg4.sub _ _ set_same, hg4.sub⟩
    refine sS5 @q0 @q3 @q6 @h3 @ha.len ?_
    refine cond_dec (fun h => ?_) (fun h => ?_)
    · have hi' : i < s.vars.length := by omega
      have hvb := hd.vb _ (List.getElem_mem hi')
      have hva := LVar.at ha hi'
      generalize s.vars[i] = vr at *
      obtain ⟨v1, v2, v3, v4⟩ := hvb
      refine sS7 @q0 @q3 @q6 @h3 @ha.len @ha.iaddr @hva ?_
      cases hb1 : decide (0 < vr.high - vr.low + 1) with
      | false =>
        refine sS4 @hb1 @q0 @q3 @q6 ?_
        intro bt hbt
        refine app_int hg4 hbt (by omega) (by omega) ?_
        intro s' M' hg' hoth
        obtain ⟨g1, g2⟩ := hoth b3 _ h3 hne
        refine sS0 ?_
        refine hK _ _ ⟨i + 1, _, _, by omega, sE0, sE0, sE0, by refine sS0 ?_; exact hg', g1, by refine sS0 ?_; exact g2, by simp; omega, by omega, by omega⟩ (by refine sS2 @ctrV_int @q6 ?_; omega)
      | true =>
        cases hb2 : decide (vr.high - vr.low + 1 < 100) with
        | false =>
          refine sS5 @hb1 @hb2 @q0 @q3 @q6 ?_
          intro bt hbt
          refine app_int hg4 hbt (by omega) (by omega) ?_
          intro s' M' hg' hoth
          obtain ⟨g1, g2⟩ := hoth b3 _ h3 hne
          refine sS0 ?_
          refine hK _ _ ⟨i + 1, _, _, by omega, sE0, sE0, sE0, by refine sS0 ?_; exact hg', g1, by refine sS0 ?_; exact g2, by simp; omega, by omega, by omega⟩ (by refine sS2 @ctrV_int @q6 ?_; omega)
        | true =>
          rw [decide_eq_true_eq] at hb2
          have hb2' : decide (vr.high - vr.low + 1 < 100) = true := by simp; omega
          refine sS5 @hb1 @hb2' @q0 @q3 @q6 ?_
          refine (t_pick hr rs4.at_ (by omega) (by omega)).mono ?_
          rintro _ M5 ⟨e5, k5, rfl, k0, k1, k2⟩
          rw [decide_eq_true_eq] at hb1
          have k1 := k1 (by omega)
          have hg5 := hg4.rd' e5
          have h35 : M5 b3 = some [a, b] := by rw [e5, set_ne nrb]; exact h3
          refine sS3 @q0 @q3 @q6 ?_
          intro bt hbt
          refine app_int hg5 hbt (by omega) (by omega) ?_
          intro s' M' hg' hoth
          obtain ⟨g1, g2⟩ := hoth b3 _ h35 hne
          refine sS0 ?_
          refine hK _ _ ⟨i + 1, _, _, by omega, sE0, sE0, sE0, by refine sS0 ?_; exact hg', g1, by refine sS0 ?_; exact g2, by simp; omega, by omega, by omega⟩ (by refine sS2 @ctrV_int @q6 ?_; omega)
    · obtain rfl : i = s.vars.length := by omega
      refine sS1 @q0 ?_
      refine (t_pick hr rs4.at_ (by omega) (by omega)).mono ?_
      rintro _ M5 ⟨e5, k5, rfl, _, _, _⟩
      have hg5 := hg4.rd' e5
      have h35 : M5 b3 = some [a, b] := by rw [e5, set_ne nrb]; exact h3
      have rs5 := rs4.set' e5
      refine sS0 ?_
      refine cond_dec (fun h5 => ?_) (fun h5 => ?_)
      · refine sS1 @q0 ?_
        refine (t_pick hr rs5.at_ (by omega) (by omega)).mono ?_
        rintro _ M6 ⟨e6, k6, rfl, _, _, _⟩
        have hg6 := hg5.rd' e6
        have h36 : M6 b3 = some [a, b] := by rw [e6, set_ne nrb]; exact h35
        have app0 : ∀ (n : Int) (bt : Nat) (K2 : V → MH → Prop), M6 bt = none → (∀ s' M', Gr 1 (M.set rb (rdC w (p4 + 1 + 1))) M' s' ((xs ++ [n]).map vi) → K2 s' M') → appV 1 8 (e 5) (.sc (.sl (some (bt, 0)) 1 1 true 1)) (M6.set bt [.sc (.int .i64 n)]) K2 := fun n bt K2 hbt hk =>
          app_int hg6 hbt (by omega) (by omega) fun s' M' hg' _ => hk s' M' hg'
        have hl5 := hg6.len1
        rw [len_vi] at hl5
        cases hk6 : decide (k6 = 0) with
        | true =>
          refine sS1 @hk6 ?_
          intro bt hbt
          refine app0 _ bt _ hbt fun s' M' hg' => ?_
          refine sS0 ?_
          exact hR _ _ ⟨_, _, hg', by omega, by omega, by simp; omega⟩
        | false =>
          cases hx0 : decide ((xs.length : Int) = 0) with
          | true =>
            refine sS3 @hk6 @hl5 @hx0 ?_
            intro bt hbt
            refine app0 _ bt _ hbt fun s' M' hg' => ?_
            refine sS0 ?_
            exact hR _ _ ⟨_, _, hg', by omega, by omega, by simp; omega⟩
          | false =>
            rw [decide_eq_false_iff_not] at hx0
            have hx0' : decide ((xs.length : Int) = 0) = false := decide_eq_false (by omega)
            have hi0 : 0 < s.vars.length := by omega
            have hvb := hd.vb _ (List.getElem_mem hi0)
            have hva := LVar.at ha hi0
            obtain ⟨v1, v2, v3, v4⟩ := hvb
            have hia : ∀ {z : IntKind} {a : Int}, 0 ≤ a → a < (xs.length : Int) → iaddrV 1 (e 5) (.int z a) = some (.sc (.ptr (some (oB (e 5), a.toNat)))) := fun q1 q2 => hg6.own.iaddr q1 (by rw [len_vi]; exact q2)
            have hm6 := hg6.at (by rw [len_vi]; omega)
            have hso : 0 < (xs.map vi).length := by rw [len_vi]; omega
            have hset := hg6.setO (l' := (xs.set 0 (s.vars[0].high + 1)).map vi) (by rw [len_vi]; omega) (by rw [len_vi, len_vi, List.length_set])
            simp (maxSteps := 2000000) (disch := first | omega | assumption | exact idP rfl | exact idP (bL rfl)) only [go_sem, reduceIte, Nat.reduceEqDiff, wpV_kd, wpV_tH, hk6, hl5, hx0', h36, ha.iaddr, hva, hia, hm6, hso, set_vi', Int.toNat_zero]
            exact hR _ _ ⟨_, _, hset, by omega, by omega, by rw [List.length_set]; omega⟩
      · refine sS0 ?_
        exact hR _ _ ⟨_, _, hg5, by omega, by omega, by omega⟩
theorem t_DrawUse {v : V} {xs : List Int} (hv : XU v xs) (hc : CapOk v) (hl : xs.length ≤ 1048576) :
    VCall Try.prog n_spec_DrawUse [v] M (fun r M' => M = M' ∧ ∃ sv xv s ys k, r = .tup [sv, xv, .sc (.int .i64 k)] ∧ isSys s sv ∧ SysDr s ∧ LI xv ys ∧ NN xv ys ∧ ys.length ≤ 1000 ∧ -1 ≤ k ∧ k ≤ 10) := by
  refine VCall.pure fun R hR => v_spec_DrawUse rfl ?_
  refine sS0 ?_
  intro b2 hb2
  refine (t_l40Open hv hc hl).mono ?_
  rintro _ M1 ⟨rb, w, code, rfl, hrb, rfl, hr⟩
  have hs0 : Sub M ((M.set b2 [nil1, nil1]).set rb (rdC w 0)) := ((Sub.refl M).set' hb2).set' hrb
  have hz2 := hb2
  have hzr : M rb = none := (fresh_set hrb).2
  have n2 : b2 ≠ rb := fun e => by rw [← e] at hrb; simp [MH.set] at hrb
  have h2 : ((M.set b2 [nil1, nil1]).set rb (rdC w 0)) b2 = some [nil1, nil1] := by rw [set_ne n2]; exact set_same
  have hm : ((M.set b2 [nil1, nil1]).set rb (rdC w 0)) rb = some (rdC w 0) := set_same
  change contK _ _ _ _ _ _ _ ((M.set b2 [nil1, nil1]).set rb (rdC w 0))
  generalize hM1 : (M.set b2 [nil1, nil1]).set rb (rdC w 0) = M1 at *
  refine sS0 ?_
  refine (f_l2Any hr hm (by omega) (by omega) (by omega)).mono ?_
  rintro sv M2 ⟨p2, s, e2, d1, d2, hs, hd⟩
  have hs' := hs
  obtain ⟨a, b, rfl, ha, hb⟩ := hs'
  have o1 := ha.one.1
  have o2 := hb.one.1
  have h8 := hd.r8
  have h22 : M2 b2 = some [nil1, nil1] := by rw [e2, set_ne n2]; exact h2
  have hm2 : M2 rb = some (rdC w p2) := by rw [e2]; exact set_same
  have hs2 : Sub M M2 := by rw [e2]; exact hs0.set hzr
  refine sS3 @h22 @o1 @o2 ?_
  intro b6 hb6
  have n6 : b6 ≠ rb := fun e => by subst e; rw [hm2] at hb6; cases hb6
  have n26 : b2 ≠ b6 := fun e => by subst e; rw [h22] at hb6; cases hb6
  have h6 : (M2.set b6 [a, b]) b6 = some [a, b] := set_same
  have hm3 : (M2.set b6 [a, b]) rb = some (rdC w p2) := by rw [set_ne (Ne.symm n6)]; exact hm2
  have h23 : (M2.set b6 [a, b]) b2 = some [nil1, nil1] := by rw [set_ne n26]; exact h22
  have hs3 : Sub M (M2.set b6 [a, b]) := hs2.set' hb6
  generalize M2.set b6 [a, b] = M3 at *
  refine (t_l2Some hr hm3 (by omega) (by omega) hs hd).mono ?_
  rintro xv M4 ⟨p4, ys, e4, d3, d4, hx, hnn, hyl⟩
  have h64 : M4 b6 = some [a, b] := by rw [e4, set_ne n6]; exact h6
  have h24 : M4 b2 = some [nil1, nil1] := by rw [e4, set_ne n2]; exact h23
  have hm4 : M4 rb = some (rdC w p4) := by rw [e4]; exact set_same
  have hs4 : Sub M M4 := by rw [e4]; exact hs3.set hzr
  refine sS2 @h64 @hb.len ?_
  refine (t_pick hr hm4 (by omega) (by omega)).mono ?_
  rintro _ M5 ⟨e5, k5, rfl, a5, b5, _⟩
  have b5 := b5 (by omega)
  have h65 : M5 b6 = some [a, b] := by rw [e5, set_ne n6]; exact h64
  have h25 : M5 b2 = some [nil1, nil1] := by rw [e5, set_ne n2]; exact h24
  have hm5 : M5 rb = some (rdC w (p4 + 1)) := by rw [e5]; exact set_same
  have hs5 : Sub M M5 := by rw [e5]; exact hs4.set hzr
  refine sS1 @h65 ?_
  refine (t_pick hr hm5 (by omega) (by omega)).mono ?_
  rintro _ M6 ⟨e6, k6, rfl, a6, b6', _⟩
  have b6' := b6' (by omega)
  have h66 : M6 b6 = some [a, b] := by rw [e6, set_ne n6]; exact h65
  have h26 : M6 b2 = some [nil1, nil1] := by rw [e6, set_ne n2]; exact h25
  have hm6 : M6 rb = some (rdC w (p4 + 1 + 1)) := by rw [e6]; exact set_same
  have hs6 : Sub M M6 := by rw [e6]; exact hs5.set hzr
  refine sS1 @h66 ?_
  intro bn hbn
  refine (t_numL [k5, 0, 0, k6, -1, 1] hr hbn hm6 (by omega) (by omega) rfl rfl (by simp) (by simp)).mono ?_
  rintro _ M7 ⟨e7, k, hk, rfl⟩
  have h67 : M7 b6 = some [a, b] := by rw [e7, set_ne n6]; exact h66
  have h27 : M7 b2 = some [nil1, nil1] := by rw [e7, set_ne n2]; exact h26
  have hs7 : Sub M M7 := by rw [e7]; exact hs6.set hzr
  refine sS4 @h67 @h27 @o1 @o2 ?_
  exact hR _ _ (hs7.set hz2) ⟨_, _, s, ys, k, rfl, hs, hd, hx, hnn, hyl, by simp only [List.mem_cons, List.not_mem_nil, or_false] at hk; omega, by simp only [List.mem_cons, List.not_mem_nil, or_false] at hk; omega⟩
end Go.M2

namespace Go.M2
open Go.Proofs
variable {M : MH}
noncomputable def useT (s : SysS) (st : List Int) (k : Int) : Option (List Int) := if inS s st = true ∧ 0 ≤ k ∧ k < (s.rules.length : Int) then (match s.rules[k.toNat]? with | some r => useR s.vars r st | none => none) else none
theorem useT_at {s : SysS} {st : List Int} {k : Nat} (h : inS s st = true) (hk : k < s.rules.length) : useT s st (k : Int) = useR s.vars s.rules[k] st := by
  unfold useT
  rw [if_pos ⟨h, by omega, by omega⟩, Int.toNat_natCast, List.getElem?_eq_getElem hk]
theorem t_impUse {v w : V} {s : SysS} {st : List Int} {k : Int} (hv : isSys s v) (hz : SysSz s) (hw : LI w st) : VCall Try.prog n_impl_Use [v, w, .sc (.int .i64 k)] M (fun r M' => M = M' ∧ uRes r (useT s st k)) := by
  refine VCall.pure fun R hR => v_impl_Use rfl ?_
  have hv0 := hv
  obtain ⟨a, b, rfl, ha, hb⟩ := hv
  have hr8 := hz.2.1
  refine sS0 ?_
  intro b3 hb3
  refine (t_impInRange hv0 hz hw).mono ?_
  rintro _ _ ⟨rfl, rfl⟩
  cases h : inS s st with
  | false =>
    refine sS1 @h ?_
    refine hR _ _ (sB) ?_
    unfold useT
    rw [if_neg (by rw [h]; simp)]
    rfl
  | true =>
    obtain ⟨hs, hin⟩ := inS_iff.1 h
    refine sS2 @h @hb.len ?_
    refine t_in.mono ?_
    rintro _ _ ⟨rfl, rfl⟩
    refine sS0 ?_
    refine cond_split (fun h5 => ?_) (fun h5 => ?_)
    · refine sS0 ?_
      refine hR _ _ (sB) ?_
      unfold useT
      rw [if_neg (by simp at h5; omega)]
      rfl
    · have hk : 0 ≤ k ∧ k ≤ (s.rules.length : Int) - 1 := by simpa using h5
      obtain ⟨n, rfl⟩ : ∃ n : Nat, k = (n : Int) := ⟨k.toNat, by omega⟩
      refine sS0 ?_
      refine (t_use hv0 hs hw hin (k := n) (by omega)).mono ?_
      rintro r _ ⟨rfl, hr⟩
      rw [← useT_at h (by omega)] at hr
      cases hu : useT s st (n : Int) with
      | none =>
        rw [hu] at hr
        simp only [uRes] at hr
        subst hr
        refine sS0 ?_
        exact hR _ _ (sB) (by rw [hu]; rfl)
      | some x =>
        rw [hu] at hr
        simp only [uRes] at hr
        obtain ⟨u, rfl, hu2⟩ := hr
        refine sS0 ?_
        exact hR _ _ (sB) (by rw [hu]; exact ⟨u, rfl, hu2⟩)
end Go.M2

namespace Go.M2
open Go.Proofs Go.Shelf Go.Sort
variable {w0 w : World} {ρ : Nat → BI} {H : Heap}
theorem HI.growA : ∀ (l : List Obj) {w : World}, HI w0 ρ H w → HI w0 ρ H (Sort.grow w l.toArray) ∧ Evol ρ H w ρ H (Sort.grow w l.toArray)
  | [], w, h => by
    have e : Sort.grow w ([] : List Obj).toArray = w := Sort.grow_empty w
    rw [e]; exact ⟨h, Evol.refl _ _ _⟩
  | o :: t, w, h => by
    have e : Sort.grow w (o :: t).toArray = Sort.grow (w.alloc o) t.toArray := by
      rw [Sort.alloc_eq_grow, Sort.grow_grow]
      congr 1
      simp
    rw [e]
    obtain ⟨h1, h2⟩ := HI.growA t (h.grow o)
    exact ⟨h1, (Evol.grow ρ H w o).trans h2⟩
theorem take_set_drop {α : Type} {ys zs : List α} (hl : ys.length = zs.length) {k : Nat} (hk : k < ys.length) : (ys.take k ++ zs.drop k).set k ys[k] = ys.take (k + 1) ++ zs.drop (k + 1) := by
  rw [List.set_append_right _ _ (by simp; omega), List.length_take, Nat.min_eq_left (by omega), Nat.sub_self, List.drop_eq_getElem_cons (by omega : k < zs.length), List.set_cons_zero, List.take_succ_eq_append_getElem hk, List.append_assoc]
  rfl
theorem HI.putInts {b : Nat} {zs : List Int} {rest : List AV} (h : HI w0 ρ H w) (hb : b < H.size) (hblk : H.blk b = .cells (zs.map (AV.int .i64) ++ rest) true) {ys : List Int} (hl : ys.length = zs.length) :
    ∀ k, k ≤ ys.length → HI w0 ρ (H.upd b (.cells ((ys.take k ++ zs.drop k).map (AV.int .i64) ++ rest) true)) (Sort.putRow (Value.int .i64) w (ρ b).blk (ρ b).off (ys.take k ++ zs.drop k).toArray) ∧
      Evol ρ H w ρ (H.upd b (.cells ((ys.take k ++ zs.drop k).map (AV.int .i64) ++ rest) true)) (Sort.putRow (Value.int .i64) w (ρ b).blk (ρ b).off (ys.take k ++ zs.drop k).toArray)
  | 0, _ => by
    simp only [List.take_zero, List.drop_zero, List.nil_append]
    have e : H.upd b (.cells (zs.map (AV.int .i64) ++ rest) true) = H := by
      cases H with
      | mk n f =>
        simp only [Heap.upd, Heap.mk.injEq, true_and]
        funext b'
        split
        · rename_i e; subst e; exact hblk.symm
        · rfl
    obtain ⟨o1, o2, cs, t, o3, o4⟩ := h.own b _ hb hblk
    have e2 : Sort.putRow (Value.int .i64) w (ρ b).blk (ρ b).off zs.toArray = w := by
      refine Sort.mapBlock_id w _ _ fun c e fr hc => ?_
      rw [o3] at hc
      cases hc
      apply Array.ext_getElem?
      intro k
      simp only [Sort.putCells, Array.getElem?_mapIdx]
      cases hk : cs[k]? with
      | none => rfl
      | some y =>
        simp only [Option.map_some]
        split
        · rename_i hr
          obtain ⟨r1, r2⟩ := hr
          have hz : k - (ρ b).off < zs.length := by simpa using (by omega : k - (ρ b).off < zs.toArray.size)
          obtain ⟨v, hv, hr⟩ := h.cell b _ true hb hblk (k - (ρ b).off) (AV.int .i64 (zs[k - (ρ b).off]'hz)) (by
            rw [List.getElem?_append_left (by simpa using hz)]; simp [hz])
          rw [show (ρ b).off + (k - (ρ b).off) = k by omega] at hv
          simp only [World.cell?, o3] at hv
          have hv : cs[k]? = some v := by simpa using hv
          rw [hk] at hv
          cases hv
          cases hr
          rw [getElem!_pos _ _ (by simpa using hz)]
          simp
        · rfl
    rw [e, e2]; exact ⟨h, Evol.refl _ _ _⟩
  | k + 1, hk => by
    obtain ⟨h1, h2⟩ := HI.putInts h hb hblk hl k (by omega)
    have hk' : k < ys.length := hk
    have hsz := (h1.own b _ hb (Heap.upd_blk_same _ _ _)).2.1
    have hst := take_set_drop hl hk'
    have hlen : (ys.take k ++ zs.drop k).length = ys.length := by simp; omega
    have h3 := h1.write (c := ((ys.take k ++ zs.drop k).map (AV.int .i64) ++ rest)) hb (Heap.upd_blk_same _ _ _) k (by simp at hsz; omega) ((ys.take (k + 1) ++ zs.drop (k + 1)).map (AV.int .i64) ++ rest) (by simp at hsz ⊢; omega) (.int .i64 ys[k])
      (fun j y hy hj => by
        rw [← hst, List.map_set, ← List.set_append_left _ _ (by simp; omega), List.getElem?_set_ne (by omega)] at hy
        exact hy)
      (fun y hy => by
        rw [← hst, List.map_set, ← List.set_append_left _ _ (by simp; omega), List.getElem?_set_self (by simp; omega)] at hy
        cases hy; exact .int _ _)
    have hd : (ys.take k ++ zs.drop k).toArray.setIfInBounds k ys[k] = (ys.take (k + 1) ++ zs.drop (k + 1)).toArray := by rw [← hst]; simp
    have hp := Sort.putRow_set (Value.int .i64) w (ρ b).blk (ρ b).off (ys.take k ++ zs.drop k).toArray k ys[k] (by simp; omega)
    rw [hd] at hp
    obtain ⟨_, _, h4, h5⟩ := h3
    rw [hp, Heap.upd_upd] at h4 h5
    exact ⟨h4, h2.trans h5⟩
def sortI (zs : List Int) : List Int := zs.mergeSort fun x y => decide (x ≤ y)
theorem sortI_len {zs : List Int} : (sortI zs).length = zs.length := by simp [sortI]
theorem a_Sort {P : Program} {rn : Ren} (Ly : Lays.n189 P rn) (hcb : callable P (rn.f 189) = true) {b n c : Nat} {ex : Bool} {zs : List Int} {rest : List AV}
    (hb : H.rwCells b = some (zs.map (AV.int .i64) ++ rest)) (hn : n = zs.length) (h62 : zs.length < 4611686018427387904) :
    ACall P (rn.f 189) [.sl (some (b, 0)) n c ex 1] H (fun r H' => r = .tup [] ∧ H' = H.upd b (.cells ((sortI zs).map (AV.int .i64) ++ rest) true)) := by
  subst hn
  obtain ⟨hbs, hblk⟩ := Heap.rwCells_blk hb
  refine ⟨hcb, fun w0 ρ w vs hi hvs => ?_⟩
  obtain ⟨v, t, rfl, hv, ht⟩ := hvs.uncons
  have := ht.unnil; subst this
  generalize hq : (AV.sl (some (b, 0)) zs.length c ex 1) = q at hv
  cases hv <;> cases hq
  rename_i c' h1 h2 h3 h4 h5
  obtain ⟨o1, o2, cs, t, o3, o4⟩ := hi.own b _ hbs hblk
  have hH : Sort.Holds (Value.int .i64) w (ρ b).blk ((ρ b).off + 0) zs.toArray := by
    intro j hj
    have hj : j < zs.length := by simpa using hj
    obtain ⟨v, hv, hr⟩ := hi.cell b _ true hbs hblk j (AV.int .i64 zs[j]) (by rw [List.getElem?_append_left (by simpa using hj)]; simp [hj])
    cases hr
    refine ⟨?_, by simp [World.frozen?, o3]⟩
    rw [Nat.add_zero, hv, getElem!_pos _ _ (by simpa using hj)]
    simp
  have hc := Any.slices_Sort_int Ly (ρ b).blk ((ρ b).off + 0) c' zs w hH (hi.bound b hbs) h62
  refine (show Calls P (rn.f 189) #[.slice (some ⟨(ρ b).blk, (ρ b).off + 0, none⟩) zs.length c'] w _ from hc).mono ?_
  rintro e w' ⟨rfl, N, os, rfl⟩
  have d1 : HI w0 ρ H (Sort.ahead w N) := hi.drawn _
  have d2 : Evol ρ H w ρ H (Sort.ahead w N) := Evol.drawn ρ H w _
  obtain ⟨p1, p2⟩ := d1.putInts hbs hblk (ys := sortI zs) sortI_len (sortI zs).length (Nat.le_refl _)
  have e0 : (sortI zs).take (sortI zs).length ++ zs.drop (sortI zs).length = sortI zs := by rw [List.take_length, sortI_len, List.drop_length, List.append_nil]
  rw [e0] at p1 p2
  obtain ⟨g1, g2⟩ := HI.growA os.toList p1
  refine ⟨.tup [], _, ρ, .tuple #[], rfl, .tup [] #[] rfl (fun i x v h => by simp at h), (d2.trans p2).trans g2, g1, rfl, rfl⟩
theorem a_SortNone {P : Program} {rn : Ren} (Ly : Lays.n189 P rn) (hcb : callable P (rn.f 189) = true) {k : Nat} :
    ACall P (rn.f 189) [.sl none 0 0 true k] H (fun r H' => r = .tup [] ∧ H' = H) := by
  refine ⟨hcb, fun w0 ρ w vs hi hvs => ?_⟩
  obtain ⟨v, t, rfl, hv, ht⟩ := hvs.uncons
  have := ht.unnil; subst this
  cases hv
  refine (show Calls P (rn.f 189) #[.slice none 0 0] w _ from Any.slices_Sort_int_none Ly none 0 w).mono ?_
  rintro e w' ⟨rfl, rfl⟩
  exact ⟨.tup [], H, ρ, .tuple #[], rfl, .tup [] #[] rfl (fun i x v h => by simp at h), Evol.refl _ _ _, hi, rfl, rfl⟩
theorem erl_vi (l : List Int) : erl (l.map vi) = l.map (AV.int .i64) := by
  rw [erl_map, List.map_map]
  exact List.map_congr_left fun a _ => by simp [vi, er]
theorem v_Sort {P : Program} {rn : Ren} (Ly : Lays.n189 P rn) (hcb : callable P (rn.f 189) = true) {M : MH} {b n c : Nat} {ex : Bool} {zs : List Int} {rest : List V}
    (hm : M b = some (zs.map vi ++ rest)) (hn : n = zs.length) (h62 : zs.length < 4611686018427387904) :
    VCall P (rn.f 189) [.sc (.sl (some (b, 0)) n c ex 1)] M (fun r M' => r = .tup [] ∧ M' = M.set b ((sortI zs).map vi ++ rest)) := by
  intro H F hs hok
  have hb := hs.rw hm
  rw [erl_append, erl_vi] at hb
  have e : [V.sc (.sl (some (b, 0)) n c ex 1)].map er = [.sl (some (b, 0)) n c ex 1] := by simp [er]
  rw [e]
  refine (a_Sort Ly hcb hb hn h62).mono ?_
  rintro r H' ⟨rfl, rfl⟩
  have hl : okL F ((sortI zs).map vi ++ rest) := (flatL_vi _).ok.append ((hs.ok hm).sub fun v hv => List.mem_append_right _ hv)
  refine ⟨.tup [], _, F, by simp [er, erl], by simp [okV, okL], Le.refl F, ?_, rfl, rfl⟩
  have := hs.upd hm hl
  rwa [erl_append, erl_vi] at this
theorem g_Sort {P : Program} {rn : Ren} (Ly : Lays.n189 P rn) (hcb : callable P (rn.f 189) = true) {M0 M : MH} {v : V} {zs : List Int} (hg : Gr 1 M0 M v (zs.map vi)) (h62 : zs.length < 4611686018427387904) :
    VCall P (rn.f 189) [v] M (fun r M' => r = .tup [] ∧ Gr 1 M0 M' v ((sortI zs).map vi) ∧ ∀ q, blkV v ≠ some q → M' q = M q) := by
  rcases hg.own with ⟨h1, k, rfl⟩ | ⟨b, n, ex, rfl, h2, h3⟩
  · have hz : zs = [] := by simpa using h1
    subst hz
    intro H F hs hok
    have e : [V.sc (.sl none 0 0 true k)].map er = [.sl none 0 0 true k] := by simp [er]
    rw [e]
    refine (a_SortNone Ly hcb).mono ?_
    rintro r H' ⟨rfl, rfl⟩
    exact ⟨.tup [], M, F, by simp [er, erl], by simp [okV, okL], Le.refl F, hs, rfl, by simpa [sortI] using hg, fun _ _ => rfl⟩
  · refine (v_Sort Ly hcb (rest := []) (by simpa using h2) (by simpa using h3.symm) h62).mono ?_
    rintro r M' ⟨rfl, rfl⟩
    refine ⟨rfl, ?_, fun q hq => set_ne fun e => hq (by subst e; rfl)⟩
    rw [List.append_nil]
    exact hg.set (by simp [sortI_len])
end Go.M2

namespace Go.M2
open Go.Proofs
variable {M : MH}
def tAt (l : List TermS) (i : Nat) : TermS := l.getD i ⟨0, 0, 0, 0⟩
theorem tAt_eq {l : List TermS} {i : Nat} (h : i < l.length) : tAt l i = l[i] := by simp [tAt, h]
def TOk (vars : Int) (l : List TermS) : Prop := ∀ i, i < l.length → 0 ≤ (tAt l i).op ∧ (tAt l i).op ≤ 9 ∧ ((tAt l i).op = 1 → 0 ≤ (tAt l i).n ∧ (tAt l i).n < vars) ∧ (2 ≤ (tAt l i).op → 0 ≤ (tAt l i).a ∧ (tAt l i).a < (i : Int) ∧ 0 ≤ (tAt l i).b ∧ (tAt l i).b < (i : Int))
theorem TOk.of {vars : Int} {l : List TermS} {ks : List Int} (h : kindsF vars l = some ks) : TOk vars l ∧ 1 ≤ l.length ∧ l.length ≤ 40 := by
  unfold kindsF at h
  split at h
  · rename_i hc
    obtain ⟨h1, h2⟩ := kindsGo_at h
    refine ⟨fun i hi => ?_, hc.2.2.1, hc.2.2.2⟩
    obtain ⟨h3, h4⟩ := h2 i hi (by omega)
    rw [tAt_eq hi]
    rw [← h3] at h4
    have hl : (ks.take i).length = i := by simp; omega
    unfold kind1 at h4
    rw [hl] at h4
    repeat' split at h4
    all_goals first | exact absurd rfl h4 | omega
  · cases h
def ndK (l : List TermS) : Nat → Nat → Bool
  | 0, i => decide (i + 1 = l.length)
  | j + 1, i => ndK l j i || ((ndK l j (l.length - 1 - j) && decide (2 ≤ (tAt l (l.length - 1 - j)).op)) && (decide (i = (tAt l (l.length - 1 - j)).a.toNat) || decide (i = (tAt l (l.length - 1 - j)).b.toNat)))
def ndA (l : List TermS) : Nat → Bool := ndK l l.length
theorem ndK_keep {vars : Int} {l : List TermS} (h : TOk vars l) {i j : Nat} : ∀ {k : Nat}, j + k ≤ l.length → l.length ≤ i + j + 1 → ndK l (j + k) i = ndK l j i
  | 0, _, _ => rfl
  | k + 1, h1, h2 => by
    rw [← Nat.add_assoc, ndK, ndK_keep h (by omega) h2]
    cases h3 : ndK l (j + k) (l.length - 1 - (j + k)) && decide (2 ≤ (tAt l (l.length - 1 - (j + k))).op) with
    | false => simp
    | true =>
      simp only [Bool.and_eq_true, decide_eq_true_eq] at h3
      obtain ⟨_, _, _, h4⟩ := h (l.length - 1 - (j + k)) (by omega)
      obtain ⟨a1, a2, a3, a4⟩ := h4 h3.2
      have e1 : decide (i = (tAt l (l.length - 1 - (j + k))).a.toNat) = false := by simp; omega
      have e2 : decide (i = (tAt l (l.length - 1 - (j + k))).b.toNat) = false := by simp; omega
      rw [e1, e2]; simp
theorem ndK_last {vars : Int} {l : List TermS} (h : TOk vars l) {j : Nat} (hj : j < l.length) : ndK l j (l.length - 1 - j) = ndA l (l.length - 1 - j) := by
  unfold ndA
  have := ndK_keep h (i := l.length - 1 - j) (j := j) (k := l.length - j) (by omega) (by omega)
  rw [← this]; congr 1; omega
def isV (l : List TermS) (v i : Nat) : Bool := (ndA l i && decide ((tAt l i).op = 1)) && decide ((tAt l i).n = (v : Int))
def usP (l : List TermS) (v : Nat) : Bool := (List.range l.length).any (isV l v)
def usK (l : List TermS) (j v : Nat) : Bool := (List.range j).any fun k => isV l v (l.length - 1 - k)
theorem usK_succ {l : List TermS} {j v : Nat} : usK l (j + 1) v = (usK l j v || isV l v (l.length - 1 - j)) := by
  unfold usK; rw [List.range_succ, List.any_append]; simp
theorem usK_all {l : List TermS} {v : Nat} : usK l l.length v = usP l v := by
  unfold usK usP
  rw [Bool.eq_iff_iff, List.any_eq_true, List.any_eq_true]
  constructor
  · rintro ⟨k, hk, h⟩
    rw [List.mem_range] at hk
    exact ⟨l.length - 1 - k, List.mem_range.2 (by omega), h⟩
  · rintro ⟨k, hk, h⟩
    rw [List.mem_range] at hk
    exact ⟨l.length - 1 - k, List.mem_range.2 (by omega), by rw [show l.length - 1 - (l.length - 1 - k) = k by omega]; exact h⟩
def toP (r : RuleS) (v : Nat) : Bool := usP r.when_ v || r.terms.any fun t => usP t v
def toF (n : Nat) (r : RuleS) : List Int := selL n (toP r)
def catU (n : Nat) (w : List TermS) (ts : List (List TermS)) : List Int := selL n (usP w) ++ (ts.map fun t => selL n (usP t)).flatten
theorem catU_snoc {n : Nat} {w : List TermS} {ts : List (List TermS)} {t : List TermS} : catU n w (ts ++ [t]) = catU n w ts ++ selL n (usP t) := by simp [catU]
theorem catU_len {n : Nat} {w : List TermS} {ts : List (List TermS)} : (catU n w ts).length ≤ n * (ts.length + 1) := by
  unfold catU
  rw [List.length_append, List.length_flatten]
  have h1 : (selL n (usP w)).length ≤ n := selL_len
  have : (((ts.map fun t => selL n (usP t)).map List.length)).sum ≤ n * ts.length := by
    induction ts with
    | nil => simp
    | cons t ts ih =>
      have h2 : (selL n (usP t)).length ≤ n := selL_len
      simp only [List.map_cons, List.sum_cons, List.length_cons, Nat.mul_add, Nat.mul_one]
      omega
  rw [Nat.mul_add, Nat.mul_one]; omega
theorem mem_catU {n : Nat} {r : RuleS} {x : Int} : x ∈ catU n r.when_ r.terms ↔ x ∈ toF n r := by
  unfold catU toF
  rw [List.mem_append, mem_selL, List.mem_flatten, mem_selL]
  constructor
  · rintro (⟨i, h1, h2, h3⟩ | ⟨l, hl, hx⟩)
    · exact ⟨i, h1, by simp [toP, h2], h3⟩
    · obtain ⟨t, ht, rfl⟩ := List.mem_map.1 hl
      obtain ⟨i, h1, h2, h3⟩ := mem_selL.1 hx
      refine ⟨i, h1, ?_, h3⟩
      simp only [toP, Bool.or_eq_true, List.any_eq_true]
      exact .inr ⟨t, ht, h2⟩
  · rintro ⟨i, h1, h2, h3⟩
    simp only [toP, Bool.or_eq_true, List.any_eq_true] at h2
    rcases h2 with h2 | ⟨t, ht, h2⟩
    · exact .inl ⟨i, h1, h2, h3⟩
    · exact .inr ⟨_, List.mem_map_of_mem ht, mem_selL.2 ⟨i, h1, h2, h3⟩⟩
def compF : List Int → List Int
  | [] => []
  | x :: t => match t with
    | [] => [x]
    | y :: _ => if x = y then compF t else x :: compF t
theorem compF_snoc : ∀ {l : List Int} {y x : Int}, compF (l ++ [y] ++ [x]) = if y = x then compF (l ++ [y]) else compF (l ++ [y]) ++ [x]
  | [], y, x => by
    simp only [List.nil_append, List.singleton_append, compF]
    split
    · rename_i e; rw [e]
    · rfl
  | [a], y, x => by
    simp only [List.singleton_append, List.cons_append, List.nil_append, compF]
    repeat' split
    all_goals (try subst_vars; rfl)
  | a :: b :: t, y, x => by
    have ih := compF_snoc (l := b :: t) (y := y) (x := x)
    simp only [List.cons_append] at ih ⊢
    rw [compF, compF, ih]
    split <;> split <;> simp
theorem compF_take {l : List Int} {m : Nat} (hm : 0 < m) (h : m < l.length) : compF (l.take (m + 1)) = if l[m] = l[m - 1] then compF (l.take m) else compF (l.take m) ++ [l[m]] := by
  obtain ⟨k, rfl⟩ : ∃ k, m = k + 1 := ⟨m - 1, by omega⟩
  have e1 : l.take (k + 1) = l.take k ++ [l[k]] := take_snoc (by omega)
  have e2 : l.take (k + 1 + 1) = l.take (k + 1) ++ [l[k + 1]] := take_snoc h
  rw [e2, e1, compF_snoc]
  simp only [Nat.add_sub_cancel]
  by_cases e : l[k] = l[k + 1]
  · rw [if_pos e, if_pos e.symm]
  · rw [if_neg e, if_neg (fun h => e h.symm)]
theorem compF_id {l : List Int} : ∀ {m : Nat}, m ≤ l.length → (∀ i (h : i < l.length), 0 < i → i < m → l[i] ≠ l[i - 1]) → compF (l.take m) = l.take m
  | 0, _, _ => by simp [compF]
  | 1, h, _ => by rw [take_snoc (by omega)]; simp [compF]
  | m + 2, h, hk => by
    rw [compF_take (by omega) (by omega), if_neg (by have := hk (m + 1) (by omega) (by omega) (by omega); simpa using this), compF_id (by omega) fun i h1 h2 h3 => hk i h1 h2 (by omega), take_snoc (i := m + 1) (by omega)]
theorem mem_compF {l : List Int} {x : Int} : x ∈ compF l ↔ x ∈ l := by
  induction l with
  | nil => simp [compF]
  | cons y t ih =>
    cases t with
    | nil => simp [compF]
    | cons z t =>
      rw [compF]
      split
      · rename_i e; subst e; rw [ih]; simp
      · rw [List.mem_cons, ih]
        exact List.mem_cons.symm
theorem compF_asc {l : List Int} (h : l.Pairwise (· ≤ ·)) : (compF l).Pairwise (· < ·) := by
  induction l with
  | nil => simp [compF]
  | cons y t ih =>
    have h2 := List.pairwise_cons.1 h
    cases t with
    | nil => simp [compF]
    | cons z t =>
      rw [compF]
      split
      · exact ih h2.2
      · rename_i hne
        refine List.pairwise_cons.2 ⟨fun b hb => ?_, ih h2.2⟩
        rw [mem_compF] at hb
        have h3 := h2.1 z (List.mem_cons_self ..)
        rcases List.mem_cons.1 hb with rfl | hb
        · omega
        · have := (List.pairwise_cons.1 h2.2).1 b hb; omega
theorem asc_eq : ∀ {a b : List Int}, a.Pairwise (· < ·) → b.Pairwise (· < ·) → (∀ x, x ∈ a ↔ x ∈ b) → a = b
  | [], [], _, _, _ => rfl
  | [], y :: t, _, _, h => absurd ((h y).2 (List.mem_cons_self ..)) (by simp)
  | x :: s, [], _, _, h => absurd ((h x).1 (List.mem_cons_self ..)) (by simp)
  | x :: s, y :: t, ha, hb, h => by
    have ha2 := List.pairwise_cons.1 ha
    have hb2 := List.pairwise_cons.1 hb
    have e : x = y := by
      rcases List.mem_cons.1 ((h x).1 (List.mem_cons_self ..)) with e | h1
      · exact e
      · rcases List.mem_cons.1 ((h y).2 (List.mem_cons_self ..)) with e | h2
        · exact e.symm
        · have := ha2.1 y h2; have := hb2.1 x h1; omega
    subst e
    rw [asc_eq ha2.2 hb2.2 fun z => ?_]
    constructor
    · intro hz
      rcases List.mem_cons.1 ((h z).1 (List.mem_cons_of_mem _ hz)) with e | h1
      · subst e; have := ha2.1 z hz; omega
      · exact h1
    · intro hz
      rcases List.mem_cons.1 ((h z).2 (List.mem_cons_of_mem _ hz)) with e | h1
      · subst e; have := hb2.1 z hz; omega
      · exact h1
theorem selL_asc {n : Nat} {p : Nat → Bool} : (selL n p).Pairwise (· < ·) := by
  unfold selL
  rw [List.pairwise_map]
  exact (List.Pairwise.filter _ List.pairwise_lt_range).imp fun h => by omega
theorem sortI_sorted {l : List Int} : (sortI l).Pairwise (· ≤ ·) := by
  have := List.pairwise_mergeSort (le := fun x y : Int => decide (x ≤ y)) (fun a b c h1 h2 => by simp at h1 h2 ⊢; omega) (fun a b => by simp; omega) l
  exact this.imp fun h => by simpa using h
theorem mem_sortI {l : List Int} {x : Int} : x ∈ sortI l ↔ x ∈ l := (List.mergeSort_perm l _).mem_iff
theorem comp_catU {n : Nat} {r : RuleS} : compF (sortI (catU n r.when_ r.terms)) = toF n r :=
  asc_eq (compF_asc sortI_sorted) selL_asc fun x => by rw [mem_compF, mem_sortI, mem_catU]
end Go.M2

namespace Go.M2
open Go.Proofs
variable {M : MH}
theorem setAtG_lo {α : Type} : ∀ {c l : List α} {o i : Nat}, i < o → (setAtG l o c)[i]? = l[i]?
  | [], l, o, i, _ => rfl
  | x :: t, l, o, i, h => by rw [setAtG, setAtG_lo (by omega), List.getElem?_set_ne (by omega)]
theorem t_Compact {b n : Nat} {ex : Bool} {zs : List Int} (hm : M b = some (zs.map vi)) (hn : zs.length = n) (hl : n ≤ 1048576) :
    VCall Try.prog n_slices_Compact_Sint_int [.sc (.sl (some (b, 0)) n n ex 1)] M (fun r M' => ∃ rest, r = .sc (.sl (some (b, 0)) (compF zs).length n ex 1) ∧ M' = M.set b ((compF zs).map vi ++ rest)) := by
  refine VCall.plain fun R hR => v_slices_Compact_Sint_int rfl ?_
  have idm := set_id hm
  have same : compF zs = zs → R (.sc (.sl (some (b, 0)) n n ex 1)) M := fun h => hR _ _ ⟨[], by rw [h, hn], by rw [h, List.append_nil, idm]⟩
  refine sS0 ?_
  refine cond_dec (fun h => ?_) (fun h => ?_)
  · refine sS0 ?_
    refine same ?_
    have := compF_id (l := zs) (m := zs.length) (Nat.le_refl _) fun i h1 h2 h3 => by omega
    rwa [List.take_length] at this
  · refine sS0 ?_
    refine loop_k (fun e M' => M = M' ∧ ∃ k : Nat, 1 ≤ k ∧ k ≤ n ∧ e 0 = .sc (.sl (some (b, 0)) n n ex 1) ∧ e 3 = .sc (.int .i64 k) ∧ ∀ i (h : i < zs.length), 0 < i → i < k → zs[i] ≠ zs[i - 1]) (fun e _ => ctrV n (e 3)) ?_ ?_
    · exact ⟨rfl, 1, by omega, by omega, sT0, by refine sS0 ?_; rfl, fun i h1 h2 h3 => by omega⟩
    · rintro e _ ⟨rfl, k, hk1, hk, e0, e3, hne⟩ K hK
      refine sS2 @e0 @e3 ?_
      refine cond_dec (fun h => ?_) (fun h => ?_)
      · have h1 : k < zs.length := by omega
        have h2 : k - 1 < zs.length := by omega
        have et : (k : Int) - 1 = ((k - 1 : Nat) : Int) := by omega
        have g1 := nth_vi h1
        have g2 := nth_vi h2
        refine sS6 @e0 @e3 @hm @et @g1 @g2 ?_
        refine cond_dec (fun heq => ?_) (fun heq => ?_)
        · have hs1 : slcV 1 (some (.int .i64 (k : Int))) none none (.sc (.sl (some (b, 0)) n n ex 1)) = some (.sc (.sl (some (b, k)) (n - k) (n - k) ex 1)) := by
            rw [slc_lo (by omega) (by omega) (by omega) (by omega)]; simp
          have base : compF (zs.take (k + 1)) = zs.take k := by
            rw [compF_take hk1 h1, if_pos heq]
            exact compF_id (by omega) fun i q1 q2 q3 => hne i q1 q2 (by omega)
          refine sS3 @e0 @e3 @hs1 ?_
          refine loop_k (fun e M' => ∃ (j kc : Nat) (L : List V), 1 ≤ j ∧ k + j ≤ n ∧ e 0 = .sc (.sl (some (b, 0)) n n ex 1) ∧ e 3 = .sc (.int .i64 kc) ∧ e 4 = .sc (.sl (some (b, k)) (n - k) (n - k) ex 1) ∧ e 5 = .sc (.int .i64 j) ∧ M' = M.set b L ∧ L.length = n ∧
            kc = (compF (zs.take (k + j))).length ∧ kc < k + j ∧ L.take kc = (compF (zs.take (k + j))).map vi ∧ ∀ i, k + j ≤ i + 1 → L[i]? = (zs.map vi)[i]?) (fun e _ => ctrV (n - k) (e 5)) ?_ ?_
          · refine ⟨1, k, zs.map vi, by omega, by omega, sT0, sT0, sT0, by refine sS0 ?_; rfl, idm.symm, by simp; omega, by rw [base]; simp; omega, by omega, by rw [base, List.map_take], fun i hi => rfl⟩
          · rintro e _ ⟨j, kc, L, hj1, hj, e0, e3, e4, e5, rfl, hL, hkc, hkj, hT, hD⟩ K2 hK2
            have hmb : (M.set b L) b = some L := set_same
            refine sS4 @e0 @e3 @e4 @e5 ?_
            have hzl : (zs.map vi).length = n := by simp; omega
            refine cond_dec (fun h => ?_) (fun h => ?_)
            · have q1 : k + j < zs.length := by omega
              have q2 : k + j - 1 < zs.length := by omega
              have r1 : L[k + j]? = some (.sc (.int .i64 zs[k + j])) := by rw [hD _ (by omega)]; exact nth_vi q1
              have r2 : L[k + (j - 1)]? = some (.sc (.int .i64 zs[k + j - 1])) := by rw [show k + (j - 1) = k + j - 1 by omega, hD _ (by omega)]; exact nth_vi q2
              have et2 : (j : Int) - 1 = ((j - 1 : Nat) : Int) := by omega
              have ct := compF_take (l := zs) (m := k + j) (by omega) q1
              refine sS8 @e0 @e3 @e4 @e5 @hmb @et2 @r1 @r2 ?_
              refine cond_dec (fun hq => ?_) (fun hq => ?_)
              · rw [if_neg hq] at ct
                refine sS6 @e0 @e3 @e4 @e5 @hmb @r1 ?_
                refine hK2 _ _ ⟨j + 1, kc + 1, L.set kc (.sc (.int .i64 zs[k + j])), by omega, by omega, sT0, by refine sS0 ?_; rfl, sT0, by refine sS0 ?_; rfl, rfl, by simp [hL], ?_, by omega, ?_, fun i hi => ?_⟩ (by refine sS2 @ctrV_int @e5 ?_; omega)
                · rw [← Nat.add_assoc, ct, List.length_append, ← hkc]; rfl
                · rw [← Nat.add_assoc, ct, take_snoc (by rw [List.length_set]; omega), List.take_set_of_le (Nat.le_refl _), hT, List.getElem_set_self, app_vi]
                · rw [List.getElem?_set_ne (by omega)]; exact hD i (by omega)
              · have hq := Decidable.not_not.1 hq
                rw [if_pos hq] at ct
                refine sS4 @e0 @e3 @e4 @e5 ?_
                refine hK2 _ _ ⟨j + 1, kc, L, by omega, by omega, sT0, sT0, sT0, by refine sS0 ?_; rfl, rfl, hL, ?_, by omega, ?_, fun i hi => hD i (by omega)⟩ (by refine sS2 @ctrV_int @e5 ?_; omega)
                · rw [← Nat.add_assoc, ct]; exact hkc
                · rw [← Nat.add_assoc, ct]; exact hT
            · obtain rfl : j = n - k := by omega
              have ej : k + (n - k) = zs.length := by omega
              rw [ej, List.take_length] at hT hkc
              have hs2 : slcV 1 (some (.int .i64 (kc : Int))) none none (.sc (.sl (some (b, 0)) n n ex 1)) = some (.sc (.sl (some (b, kc)) (n - kc) (n - kc) ex 1)) := by
                rw [slc_lo (by omega) (by omega) (by omega) (by omega)]; simp
              have hs3 : slcV 1 none (some (.int .i64 (kc : Int))) none (.sc (.sl (some (b, 0)) n n ex 1)) = some (.sc (.sl (some (b, 0)) kc n ex 1)) := by
                rw [slc_hi (by omega) (by omega) (by omega)]; simp
              refine sS3 @e0 @e3 @hs2 ?_
              simp only [clearV, hmb]
              rw [if_neg (by omega)]
              refine ⟨rfl, by simp; omega, ?_⟩
              refine sS1 @hs3 ?_
              refine hR _ _ ⟨(setAtG L kc ((zeros [AV.int .i64 0] (n - kc)).map .sc)).drop kc, by rw [hkc], ?_⟩
              congr 1
              rw [← hT]
              apply List.ext_getElem?
              intro i
              by_cases hi : i < kc
              · rw [setAtG_lo hi, List.getElem?_append_left (by simp; omega), List.getElem?_take, if_pos hi]
              · rw [List.getElem?_append_right (by simp; omega), List.getElem?_drop, List.length_take, Nat.min_eq_left (by omega), show kc + (i - kc) = i by omega]
        · refine sS2 @e0 @e3 ?_
          refine hK _ _ ⟨rfl, k + 1, by omega, by omega, sT0, by refine sS0 ?_; rfl, fun i q1 q2 q3 => ?_⟩ (by refine sS2 @ctrV_int @e3 ?_; omega)
          by_cases e : i = k
          · subst e; exact heq
          · exact hne i q1 q2 (by omega)
      · obtain rfl : k = n := by omega
        refine sS1 @e0 ?_
        refine same ?_
        have := compF_id (l := zs) (m := zs.length) (Nat.le_refl _) fun i h1 h2 h3 => hne i h1 h2 (by omega)
        rwa [List.take_length] at this
def dnV (v : V) : Nat := match er v with
  | .int _ i => (i + 1).toNat
  | _ => 0
@[go_sem] theorem dnV_int {k : IntKind} {i : Int} : dnV (.sc (.int k i)) = (i + 1).toNat := by simp [dnV, er]
end Go.M2

namespace Go.M2
open Go.Proofs Go.Shelf
set_option maxRecDepth 100000
def sort_ren : Ren := ⟨fun | 125 => 112 | 128 => 133 | 129 => 134 | 189 => 93 | 215 => 137 | 216 => 130 | 257 => 111 | 294 => 124 | 295 => 125 | 296 => 126 | 297 => 127 | 298 => 128 | 299 => 129 | 300 => 131 | 301 => 132 | 328 => 145 | 329 => 146 | 330 => 147 | 331 => 148 | 332 => 149 | 343 => 156 | n => n, fun | 0 => 0 | 3 => 3 | 4 => 4 | 5 => 5 | 9 => 9 | 28 => 27 | 46 => 112 | 51 => 127 | 53 => 129 | 131 => 102 | 182 => 119 | 183 => 120 | 218 => 137 | 222 => 141 | 228 => 148 | 229 => 149 | n => n, fun n => n⟩
theorem lays189 : Lays.n189 Try.prog sort_ren where
  mixed := by kernel_rfl
  f125 := Try.func112.trans (congrArg some (by kernel_rfl))
  f128 := Try.func133.trans (congrArg some (by kernel_rfl))
  f129 := Try.func134.trans (congrArg some (by kernel_rfl))
  f189 := Try.func93.trans (congrArg some (by kernel_rfl))
  f215 := Try.func137.trans (congrArg some (by kernel_rfl))
  f216 := Try.func130.trans (congrArg some (by kernel_rfl))
  f257 := Try.func111.trans (congrArg some (by kernel_rfl))
  f294 := Try.func124.trans (congrArg some (by kernel_rfl))
  f295 := Try.func125.trans (congrArg some (by kernel_rfl))
  f296 := Try.func126.trans (congrArg some (by kernel_rfl))
  f297 := Try.func127.trans (congrArg some (by kernel_rfl))
  f298 := Try.func128.trans (congrArg some (by kernel_rfl))
  f299 := Try.func129.trans (congrArg some (by kernel_rfl))
  f300 := Try.func131.trans (congrArg some (by kernel_rfl))
  f301 := Try.func132.trans (congrArg some (by kernel_rfl))
  f328 := Try.func145.trans (congrArg some (by kernel_rfl))
  f329 := Try.func146.trans (congrArg some (by kernel_rfl))
  f330 := Try.func147.trans (congrArg some (by kernel_rfl))
  f331 := Try.func148.trans (congrArg some (by kernel_rfl))
  f332 := Try.func149.trans (congrArg some (by kernel_rfl))
  f343 := Try.func156.trans (congrArg some (by kernel_rfl))
  t0 := Try.underlying0
  a0 := Try.isAgg0
  z0 := Try.sizeOf0
  v0 := Try.zeroValue0
  t3 := Try.underlying3
  a3 := Try.isAgg3
  z3 := Try.sizeOf3
  v3 := Try.zeroValue3
  t4 := Try.underlying4
  a4 := Try.isAgg4
  z4 := Try.sizeOf4
  v4 := Try.zeroValue4
  t5 := Try.underlying5
  a5 := Try.isAgg5
  z5 := Try.sizeOf5
  v5 := Try.zeroValue5
  t9 := Try.underlying9
  a9 := Try.isAgg9
  z9 := Try.sizeOf9
  v9 := Try.zeroValue9
  t28 := Try.underlying27
  a28 := Try.isAgg27
  z28 := Try.sizeOf27
  v28 := Try.zeroValue27
  t46 := Try.underlying112
  a46 := Try.isAgg112
  z46 := Try.sizeOf112
  v46 := Try.zeroValue112
  t51 := Try.underlying127
  a51 := Try.isAgg127
  z51 := Try.sizeOf127
  v51 := Try.zeroValue127
  t53 := Try.underlying129
  a53 := Try.isAgg129
  z53 := Try.sizeOf129
  v53 := Try.zeroValue129
  t131 := Try.underlying102
  a131 := Try.isAgg102
  z131 := Try.sizeOf102
  v131 := Try.zeroValue102
  t182 := Try.underlying119
  a182 := Try.isAgg119
  z182 := Try.sizeOf119
  v182 := Try.zeroValue119
  t183 := Try.underlying120
  a183 := Try.isAgg120
  z183 := Try.sizeOf120
  v183 := Try.zeroValue120
  t218 := Try.underlying137
  a218 := Try.isAgg137
  z218 := Try.sizeOf137
  v218 := Try.zeroValue137
  t222 := Try.underlying141
  a222 := Try.isAgg141
  z222 := Try.sizeOf141
  v222 := Try.zeroValue141
  t228 := Try.underlying148
  a228 := Try.isAgg148
  z228 := Try.sizeOf148
  v228 := Try.zeroValue148
  t229 := Try.underlying149
  a229 := Try.isAgg149
  z229 := Try.sizeOf149
  v229 := Try.zeroValue149
theorem t_SortInts {M0 M : MH} {v : V} {zs : List Int} (hg : Gr 1 M0 M v (zs.map vi)) (hl : zs.length < 4611686018427387904) :
    VCall Try.prog n_slices_Sort_Sint_int [v] M (fun r M' => r = .tup [] ∧ Gr 1 M0 M' v ((sortI zs).map vi) ∧ ∀ q, blkV v ≠ some q → M' q = M q) :=
  g_Sort lays189 (by kernel_rfl) hg hl
end Go.M2

namespace Go.M2
open Go.Proofs
variable {M : MH}
theorem mkL_at {n : Nat} {p : Nat → Bool} {i : Nat} (h : i < n) : ((mkL n p).map vb)[i]? = some (.sc (.bool (p i))) := by
  have h2 : i < (mkL n p).length := by rw [mkL_len]; exact h
  rw [nth_vb h2, mkL_get]
theorem mkL_lenv {n : Nat} {p : Nat → Bool} : ((mkL n p).map vb).length = n := by rw [len_vb', mkL_len]
theorem mkL_setv {n k : Nat} {p q : Nat → Bool} (h : ∀ i, i < n → q i = (p i || decide (i = k))) : ((mkL n p).map vb).set k (.sc (.bool true)) = (mkL n q).map vb := by rw [set_vb', mkL_set h]
theorem mkE {n : Nat} {p q : Nat → Bool} (h : ∀ i, i < n → p i = q i) : some ((mkL n p).map vb) = some ((mkL n q).map vb) := by rw [mkL_ext h]
theorem ndK_succ {l : List TermS} {j i : Nat} : ndK l (j + 1) i = (ndK l j i || ((ndK l j (l.length - 1 - j) && decide (2 ≤ (tAt l (l.length - 1 - j)).op)) && (decide (i = (tAt l (l.length - 1 - j)).a.toNat) || decide (i = (tAt l (l.length - 1 - j)).b.toNat)))) := rfl
theorem t_usedBy {v : V} {ts : List TermS} {nv : Nat} {ks : List Int} (hv : LT v ts) (hk : kindsF nv ts = some ks) (h5 : nv ≤ 5) :
    VCall Try.prog n_impl_usedBy [v, .sc (.int .i64 nv)] M (fun r M' => Gr 1 M M' r ((selL nv (usP ts)).map vi)) := by
  obtain ⟨hok, h1, h40⟩ := TOk.of hk
  refine VCall.plain fun R hR => v_impl_usedBy rfl ?_
  refine sS1 @hv.len ?_
  refine mks3 (by omega) (by simp [mostCells]; omega) (by simp [mostCells]; omega) ?_
  intro b5 hb5
  refine sS0 ?_
  refine mks3 (by omega) (by simp [mostCells]; omega) (by simp [mostCells]; omega) ?_
  intro b6 hb6
  simp (maxSteps := 2000000) (disch := first | omega | assumption | exact idP rfl | exact idP (bL rfl)) only [go_sem, reduceIte, Nat.reduceEqDiff, wpV_kd, wpV_tH, hv.len, zeros_vb', mkL_none]
  obtain ⟨n65, hM6⟩ := fresh_set hb6
  have hb6' := hM6
  have s1 : Sub M ((M.set b5 ((mkL ts.length fun _ => false).map vb)).set b6 ((mkL nv fun _ => false).map vb)) := ((Sub.refl M).set hb5).set hM6
  have q5 : ((M.set b5 ((mkL ts.length fun _ => false).map vb)).set b6 ((mkL nv fun _ => false).map vb)) b5 = some ((mkL ts.length fun _ => false).map vb) := by rw [set_ne (Ne.symm n65)]; exact set_same
  have q6 : ((M.set b5 ((mkL ts.length fun _ => false).map vb)).set b6 ((mkL nv fun _ => false).map vb)) b6 = some ((mkL nv fun _ => false).map vb) := set_same
  generalize (M.set b5 ((mkL ts.length fun _ => false).map vb)).set b6 ((mkL nv fun _ => false).map vb) = M1 at *
  have e1 : ((ts.length : Int) - 1).toNat = ts.length - 1 := by omega
  have hst : ((mkL ts.length fun _ => false).map vb).set (ts.length - 1) (.sc (.bool true)) = (mkL ts.length (ndK ts 0)).map vb := mkL_setv fun i hi => by
    simp only [ndK, Bool.false_or, decide_eq_decide]; omega
  have hl5 : ts.length - 1 + 1 ≤ ((mkL ts.length fun _ => false).map vb).length := by rw [mkL_lenv]; omega
  refine sS4 @q5 @e1 @hst @hv.len ?_
  refine loop_k (fun e M' => ∃ j : Nat, j ≤ ts.length ∧ e 0 = v ∧ e 5 = .sc (.sl (some (b5, 0)) ts.length ts.length true 1) ∧ e 6 = .sc (.sl (some (b6, 0)) nv nv true 1) ∧ e 7 = .sc (.int .i64 ((ts.length : Int) - 1 - j)) ∧ Sub M M' ∧
    M' b5 = some ((mkL ts.length (ndK ts j)).map vb) ∧ M' b6 = some ((mkL nv (usK ts j)).map vb)) (fun e _ => dnV (e 7)) ?_ ?_
  · refine ⟨0, by omega, sT0, sT0, sT0, by refine sS0 ?_; exact eqI (by omega), s1.set hb5, set_same, ?_⟩
    rw [set_ne n65, q6]
    congr 1
  · rintro e M2 ⟨j, hj, e0, e5, e6, e7, hsub, m5, m6⟩ K hK
    refine sS4 @e0 @e5 @e6 @e7 ?_
    refine cond_dec (fun h => ?_) (fun h => ?_)
    · have hi' : ts.length - 1 - j < ts.length := by omega
      have hnl := ndK_last hok (j := j) (by omega)
      have hns := fun x => ndK_succ (l := ts) (j := j) (i := x)
      have hus : ∀ w, usK ts (j + 1) w = _ := fun w => usK_succ
      obtain ⟨o1, o2, o3, o4⟩ := hok _ hi'
      have hat : atN 4 v (ts.length - 1 - j) = encT ts[ts.length - 1 - j] := hv.elt hi'
      rw [← tAt_eq hi'] at hat
      have et : (ts.length : Int) - 1 - j = ((ts.length - 1 - j : Nat) : Int) := by omega
      have g5 : ((mkL ts.length (ndK ts j)).map vb)[ts.length - 1 - j]? = some (.sc (.bool (ndA ts (ts.length - 1 - j)))) := by rw [mkL_at hi', hnl]
      unfold isV at hus
      generalize hI : ts.length - 1 - j = i at *
      generalize tAt ts i = t at *
      simp (maxSteps := 2000000) (disch := first | omega | assumption | exact idP rfl | exact idP (bL rfl)) only [go_sem, reduceIte, Nat.reduceEqDiff, wpV_kd, wpV_tH, e0, e5, e6, e7, et, hv.iaddr, hat, encT]
      intro b8 hb8
      have n58 : b5 ≠ b8 := fun e => by subst e; rw [m5] at hb8; cases hb8
      have n68 : b6 ≠ b8 := fun e => by subst e; rw [m6] at hb8; cases hb8
      have p5 := set_ne (l := [V.sc (AV.int IntKind.i64 t.op), V.sc (AV.int IntKind.i64 t.n), V.sc (AV.int IntKind.i64 t.a), V.sc (AV.int IntKind.i64 t.b)]) (M := M2) n58
      have p6 := set_ne (l := [V.sc (AV.int IntKind.i64 t.op), V.sc (AV.int IntKind.i64 t.n), V.sc (AV.int IntKind.i64 t.a), V.sc (AV.int IntKind.i64 t.b)]) (M := M2) n68
      have p8 := set_same (l := [V.sc (AV.int IntKind.i64 t.op), V.sc (AV.int IntKind.i64 t.n), V.sc (AV.int IntKind.i64 t.a), V.sc (AV.int IntKind.i64 t.b)]) (M := M2) (b := b8)
      have hs8 : Sub M (M2.set b8 [V.sc (AV.int IntKind.i64 t.op), V.sc (AV.int IntKind.i64 t.n), V.sc (AV.int IntKind.i64 t.a), V.sc (AV.int IntKind.i64 t.b)]) := hsub.set' hb8
      rw [m5] at p5
      rw [m6] at p6
      generalize M2.set b8 [V.sc (AV.int IntKind.i64 t.op), V.sc (AV.int IntKind.i64 t.n), V.sc (AV.int IntKind.i64 t.a), V.sc (AV.int IntKind.i64 t.b)] = M3 at *
      have e9 : (i : Int) - 1 = (ts.length : Int) - 1 - ((j + 1 : Nat) : Int) := by omega
      -- nothing is marked
      have same : (ndA ts i && decide (2 ≤ t.op)) = false → (ndA ts i && decide (t.op = 1)) = false → M3 b5 = some ((mkL ts.length (ndK ts (j + 1))).map vb) ∧ M3 b6 = some ((mkL nv (usK ts (j + 1))).map vb) := fun z1 z2 => by
        rw [p5, p6]
        exact ⟨mkE fun x _ => by rw [hns x, hnl, z1]; simp, mkE fun x _ => by rw [hus x, z2]; simp⟩
      cases hA : ndA ts i with
      | false =>
        rw [hA] at g5 same
        obtain ⟨k5, k6⟩ := same rfl rfl
        refine sS3 @p5 @g5 @et ?_
        exact hK _ _ ⟨j + 1, by omega, sT0, sT0, sT0, by refine sS0 ?_; exact eqI e9, hs8, k5, k6⟩ (by simp (maxSteps := 2000000) (disch := first | omega | assumption | exact idP rfl | exact idP (bL rfl)) only [go_sem, reduceIte, Nat.reduceEqDiff, wpV_kd, wpV_tH, dnV_int, e7]; omega)
      | true =>
        rw [hA] at g5 same hus hnl
        rw [hnl] at hns
        refine sS4 @p5 @g5 @p8 @et ?_
        refine cond_dec (fun z0 => ?_) (fun z0 => ?_)
        · obtain ⟨k5, k6⟩ := same (by simp; omega) (by simp; omega)
          refine sS0 ?_
          exact hK _ _ ⟨j + 1, by omega, sT0, sT0, sT0, by refine sS0 ?_; exact eqI e9, hs8, k5, k6⟩ (by simp (maxSteps := 2000000) (disch := first | omega | assumption | exact idP rfl | exact idP (bL rfl)) only [go_sem, reduceIte, Nat.reduceEqDiff, wpV_kd, wpV_tH, dnV_int, e7]; omega)
        · refine sS1 @p8 ?_
          refine cond_dec (fun z1 => ?_) (fun z1 => ?_)
          · obtain ⟨v1, v2⟩ := o3 z1
            have k5 : M3 b5 = some ((mkL ts.length (ndK ts (j + 1))).map vb) := by
              rw [p5]
              have z2 : decide (2 ≤ t.op) = false := by simp; omega
              exact mkE fun x _ => by rw [hns x, z2]; simp
            have ku : ((mkL nv (usK ts j)).map vb).set t.n.toNat (.sc (.bool true)) = (mkL nv (usK ts (j + 1))).map vb := mkL_setv fun x _ => by
              rw [hus, z1]
              simp only [decide_true, Bool.true_and]
              congr 1
              rw [decide_eq_decide]; omega
            have hl6 : t.n.toNat + 1 ≤ ((mkL nv (usK ts j)).map vb).length := by rw [mkL_lenv]; omega
            refine sS3 @p8 @p6 @ku ?_
            exact hK _ _ ⟨j + 1, by omega, sT0, sT0, sT0, by refine sS0 ?_; exact eqI e9, hs8.set hb6', by rw [set_ne (Ne.symm n65)]; exact k5, set_same⟩ (by simp (maxSteps := 2000000) (disch := first | omega | assumption | exact idP rfl | exact idP (bL rfl)) only [go_sem, reduceIte, Nat.reduceEqDiff, wpV_kd, wpV_tH, dnV_int, e7]; omega)
          · obtain ⟨a1, a2, a3, a4⟩ := o4 (by omega)
            have k6 : M3 b6 = some ((mkL nv (usK ts (j + 1))).map vb) := by
              rw [p6]
              have z2 : decide (t.op = 1) = false := by simpa using z1
              exact mkE fun x _ => by rw [hus x, z2]; simp
            have hl5 : t.a.toNat + 1 ≤ ((mkL ts.length (ndK ts j)).map vb).length := by rw [mkL_lenv]; omega
            have hl5b : t.b.toNat + 1 ≤ (((mkL ts.length (ndK ts j)).map vb).set t.a.toNat (.sc (.bool true))).length := by rw [List.length_set, mkL_lenv]; omega
            have k5 : (((mkL ts.length (ndK ts j)).map vb).set t.a.toNat (.sc (.bool true))).set t.b.toNat (.sc (.bool true)) = (mkL ts.length (ndK ts (j + 1))).map vb := by
              rw [mkL_setv (q := fun x => ndK ts j x || decide (x = t.a.toNat)) fun x _ => rfl]
              have z2 : decide (2 ≤ t.op) = true := by simp; omega
              exact mkL_setv fun x _ => by rw [hns x, z2]; simp [Bool.or_assoc]
            refine sS3 @p8 @p5 @k5 ?_
            exact hK _ _ ⟨j + 1, by omega, sT0, sT0, sT0, by refine sS0 ?_; exact eqI e9, hs8.set hb5, set_same, by rw [set_ne n65]; exact k6⟩ (by simp (maxSteps := 2000000) (disch := first | omega | assumption | exact idP rfl | exact idP (bL rfl)) only [go_sem, reduceIte, Nat.reduceEqDiff, wpV_kd, wpV_tH, dnV_int, e7]; omega)
    · obtain rfl : j = ts.length := by omega
      have hu : (mkL nv (usK ts ts.length)).map vb = (mkL nv (usP ts)).map vb := congrArg (List.map vb) (mkL_ext fun x _ => usK_all)
      rw [hu] at m6
      refine sS1 @e6 ?_
      refine loop_k (fun e M' => ∃ i : Nat, i ≤ nv ∧ e 60 = .sc (.sl (some (b6, 0)) nv nv true 1) ∧ e 61 = .sc (.int .i64 nv) ∧ e 62 = .sc (.int .i64 i) ∧ Gr 1 M2 M' (e 9) ((selL i (usP ts)).map vi)) (fun e _ => ctrV nv (e 62)) ?_ ?_
      · exact ⟨0, by omega, sT0, sT0, by refine sS0 ?_; rfl, by refine sS0 ?_; exact .nil (Sub.refl _)⟩
      · rintro e M3 ⟨i, hi, e60, e61, e62, hg⟩ K3 hK3
        have hsl : (selL i (usP ts)).length ≤ i := selL_len
        have m63 := hg.sub _ _ m6
        refine sS3 @e60 @e61 @e62 ?_
        refine cond_dec (fun h => ?_) (fun h => ?_)
        · have hi2 : i < nv := by omega
          have g6 := mkL_at (p := usP ts) hi2
          refine sS5 @e60 @e61 @e62 @m63 @g6 ?_
          refine cond_split (fun h2 => ?_) (fun h2 => ?_)
          · refine sS3 @e60 @e61 @e62 ?_
            intro bt hbt
            refine app_int hg hbt (by omega) (by omega) ?_
            intro s' M' hg' _
            refine sS3 @e60 @e61 @e62 ?_
            exact hK3 _ _ ⟨i + 1, by omega, sT0, sT0, by refine sS0 ?_; rfl, by refine sS0 ?_; rw [selL_succ, if_pos h2]; exact hg'⟩ (by refine sS2 @ctrV_int @e62 ?_; omega)
          · refine sS3 @e60 @e61 @e62 ?_
            exact hK3 _ _ ⟨i + 1, by omega, sT0, sT0, by refine sS0 ?_; rfl, by refine sS0 ?_; rw [selL_succ, if_neg (by simpa using h2)]; exact hg⟩ (by refine sS2 @ctrV_int @e62 ?_; omega)
        · obtain rfl : i = nv := by omega
          refine sS0 ?_
          refine (VCall.give0 hg fun u M4 hu hs2 => (t_cloneInt hu.li (by omega)).mono fun r M' hr => hr.base hs2).mono ?_
          rintro r M4 hg2
          refine sS0 ?_
          exact hR _ _ (hg2.base hsub)
theorem Ow.cells {l : List V} {v : V} (h : Ow 1 M v l) : lenS v = some l.length ∧ cellsS (l.length * 1) v M = some l := by
  rcases h with ⟨rfl, k, rfl⟩ | ⟨b, n, ex, rfl, h2, h3⟩
  · exact ⟨rfl, by simp [cellsS]⟩
  · have : n = l.length := by omega
    subst this
    refine ⟨rfl, ?_⟩
    simp only [cellsS, h2]
    split
    · rename_i h0; have : l = [] := List.eq_nil_of_length_eq_zero (by omega)
      rw [this]
    · rw [if_pos (by omega)]; simp
theorem vi_one {l : List Int} : (l.map vi).all oneV = true := by
  rw [List.all_eq_true]
  intro x hx
  obtain ⟨n, _, rfl⟩ := List.mem_map.1 hx
  rfl
theorem app_ints {M0 : MH} {s x : V} {K : V → MH → Prop} {by_ : Nat} {xs ys : List Int} (h : Gr 1 M0 M s (xs.map vi)) (hx : Ow 1 M x (ys.map vi)) (hb : xs.length + ys.length ≤ 68719476736) (hby : by_ ≤ 16)
    (hk : ∀ s' M', Gr 1 M0 M' s' ((xs ++ ys).map vi) → Oth M M' s s' → K s' M') : appV 1 by_ s x M K := by
  obtain ⟨h1, h2⟩ := hx.cells
  refine gr_appS h (by omega) h1 h2 (by simp) vi_one ?_ (by simp [mostCells]; omega) fun s' M' q1 q2 => hk s' M' (by rw [List.map_append]; exact q1) q2
  have : ((xs.map vi).length + (ys.map vi).length) * by_ ≤ ((xs.map vi).length + (ys.map vi).length) * 16 := Nat.mul_le_mul_left _ hby
  simp [mostCells] at this ⊢; omega
theorem t_Compact2 {M0 : MH} {v : V} {zs : List Int} (hg : Gr 1 M0 M v (zs.map vi)) (hl : zs.length ≤ 1048576) :
    VCall Try.prog n_slices_Compact_Sint_int [v] M (fun r M' => ∃ M2 u, (∀ {f : FuncId} {R : V → MH → Prop}, VCall Try.prog f [u] M2 R → VCall Try.prog f [r] M' R) ∧ Sub M0 M2 ∧ LI u (compF zs)) := by
  rcases hg.own with ⟨h1, k, rfl⟩ | ⟨b, n, ex, rfl, h2, h3⟩
  · have hz : zs = [] := by simpa using h1
    subst hz
    refine VCall.plain fun R hR => v_slices_Compact_Sint_int rfl ?_
    refine sS0 ?_
    exact hR _ _ ⟨M, _, fun h => h, hg.sub, .nil⟩
  · have hn : zs.length = n := by simpa using h3
    refine (t_Compact h2 hn (by omega)).mono ?_
    rintro r M' ⟨rest, rfl, rfl⟩
    have hb := hg.new b rfl
    refine ⟨_, _, fun h => VCall.give (.sl set_same (.refl _ _) (.refl _ _)) h, ?_, Ls.mk rfl (by simp) fun i hi => ⟨.sc (.int .i64 (compF zs)[i]), ?_, rfl⟩⟩
    · intro i l hi
      have hne : i ≠ b := fun e => by subst e; rw [hb] at hi; cases hi
      rw [del_ne hne, set_ne hne]; exact hg.sub i l hi
    · rw [List.drop_zero, List.getElem?_append_left (by simpa using hi)]
      exact nth_vi hi
theorem t_touchedBy {v : V} {s : SysS} {k : Nat} (hv : isSys s v) (hs : SysOk s) (hk : k < s.rules.length) :
    VCall Try.prog n_impl_touchedBy [v, .sc (.int .i64 k)] M (fun r M' => Gr 1 M M' r ((toF s.vars.length s.rules[k]).map vi)) := by
  obtain ⟨a, b, rfl, ha, hb⟩ := hv
  obtain ⟨x, y, z, hat, hx, hy, hz⟩ := hb.elt hk
  have h5 := hs.v5
  obtain ⟨hw2, hst, hsets⟩ := hs.rules _ (List.getElem_mem hk)
  obtain ⟨kw, hkw⟩ := kind_some hw2
  have hx1 := hx.one.1
  have hy1 := hy.one.1
  have hz1 := hz.one.1
  refine VCall.plain fun R hR => v_impl_touchedBy rfl ?_
  refine sS3 @hb.len @hb.iaddr @hat ?_
  intro b2 hb2 b5 hb5
  obtain ⟨n52, hM5⟩ := fresh_set hb5
  have q2 : ((M.set b2 [a, b]).set b5 [x, y, z]) b2 = some [a, b] := by rw [set_ne (Ne.symm n52)]; exact set_same
  have q5 : ((M.set b2 [a, b]).set b5 [x, y, z]) b5 = some [x, y, z] := set_same
  have s1 : Sub M ((M.set b2 [a, b]).set b5 [x, y, z]) := sB
  generalize (M.set b2 [a, b]).set b5 [x, y, z] = M1 at *
  refine sS3 @q2 @q5 @ha.len ?_
  refine (t_usedBy hx hkw (by omega)).mono ?_
  intro r0 M2 hg0
  have m2 := hg0.sub _ _ q2
  have m5 := hg0.sub _ _ q5
  refine sS3 @m2 @m5 @hz.len ?_
  have tl : s.rules[k].terms.length ≤ 5 := by have := hst; have := sets_le hsets (by omega); omega
  refine loop_k (fun e M' => ∃ i : Nat, i ≤ s.rules[k].terms.length ∧ e 2 = .sc (.ptr (some (b2, 0))) ∧ e 21 = z ∧ e 22 = .sc (.int .i64 s.rules[k].terms.length) ∧ e 23 = .sc (.int .i64 i) ∧ Gr 1 M1 M' (e 6) ((catU s.vars.length s.rules[k].when_ (s.rules[k].terms.take i)).map vi)) (fun e _ => ctrV s.rules[k].terms.length (e 23)) ?_ ?_
  · exact ⟨0, by omega, sT0, sT0, sT0, by refine sS0 ?_; rfl, by refine sS0 ?_; simpa [catU] using hg0⟩
  · rintro e M3 ⟨i, hi, e2, e21, e22, e23, hg⟩ K hK
    have p2 := hg.sub _ _ q2
    have hcl := catU_len (n := s.vars.length) (w := s.rules[k].when_) (ts := s.rules[k].terms.take i)
    rw [List.length_take, Nat.min_eq_left hi] at hcl
    have hcl2 : s.vars.length * (i + 1) ≤ 5 * (i + 1) := Nat.mul_le_mul_right _ h5
    refine sS4 @e2 @e21 @e22 @e23 ?_
    refine cond_dec (fun h => ?_) (fun h => ?_)
    · have hi' : i < s.rules[k].terms.length := by omega
      obtain ⟨ki, hki⟩ := kind_some (hsets.kind (by omega) hi')
      refine sS7 @e2 @e21 @e22 @e23 @hz.iaddr @p2 @ha.len ?_
      refine (t_usedBy (hz.elt hi') hki (by omega)).mono ?_
      intro r1 M4 hg1
      have hsl : (selL s.vars.length (usP s.rules[k].terms[i])).length ≤ s.vars.length := selL_len
      refine sS0 ?_
      refine app_ints (hg.more hg1.sub) hg1.own (by omega) (by omega) ?_
      intro s' M5 hg5 hoth
      refine sS4 @e2 @e21 @e22 @e23 ?_
      refine hK _ _ ⟨i + 1, by omega, sT0, sT0, sT0, by refine sS0 ?_; rfl, ?_⟩ (by refine sS2 @ctrV_int @e23 ?_; omega)
      refine sS0 ?_
      rw [take_snoc hi', catU_snoc]; exact hg5
    · obtain rfl : i = s.rules[k].terms.length := by omega
      rw [List.take_length] at hg hcl
      refine sS0 ?_
      refine (t_SortInts hg (by omega)).mono ?_
      rintro _ M4 ⟨rfl, hg4, -⟩
      refine sS0 ?_
      refine (t_Compact2 hg4 (by rw [sortI_len]; omega)).mono ?_
      rintro r4 M5 ⟨M6, u, hgive, hs6, hu⟩
      refine sS0 ?_
      rw [comp_catU] at hu
      have htl : (toF s.vars.length s.rules[k]).length ≤ s.vars.length := selL_len
      refine (hgive (t_cloneInt hu (by omega))).mono ?_
      intro r6 M7 hg7
      refine sS0 ?_
      exact hR _ _ (hg7.base (s1.trans hs6))
end Go.M2

namespace Go.M2
open Go.Proofs
variable {M : MH}
structure TrS where
  states : List (List Int)
  rules : List Int
def isTr (t : TrS) (u : V) : Prop := ∃ x y, u = .agg [x, y] ∧ LII x t.states ∧ LI y t.rules
theorem Dn.more {M0 M1 M2 : MH} {v : V} {p : V → Prop} (h : Dn M0 M1 v p) (hs : Sub M1 M2) : Dn M0 M2 v p := by
  obtain ⟨r', fp, h1, h2, h3⟩ := h
  exact ⟨r', fp, h1, h2.more hs, h3⟩
theorem Dn.base {Mz M0 M1 : MH} {v : V} {p : V → Prop} (h : Dn M0 M1 v p) (hs : Sub Mz M0) : Dn Mz M1 v p := by
  obtain ⟨r', fp, h1, h2, h3⟩ := h
  exact ⟨r', fp, h1, h2.base hs, h3⟩
theorem Dn.setB {M0 Mb M1 : MH} {v : V} {p : V → Prop} {b : Nat} {l l0 : List V} (h : Dn Mb M1 v p) (hb : Mb b = some l0) (h0 : M0 b = none) (hs : Sub M0 Mb) : Dn M0 (M1.set b l) v p := by
  obtain ⟨r', fp, h1, h2, h3⟩ := h
  refine ⟨r', fp, h1, ⟨(hs.trans h2.sub).set h0, fun q hq => hs.none (h2.new q hq), h2.nd, fun q hq => ?_⟩, h3⟩
  have hne : q.1 ≠ b := fun e => by have := h2.new q hq; rw [e, hb] at this; cases this
  rw [set_ne hne]; exact h2.at_ q hq
theorem Dn.agg2 {M0 M1 M2 : MH} {x y : V} {p q : V → Prop} (h : Dn M0 M1 x p) (k : Dn M1 M2 y q) : Dn M0 M2 (.agg [x, y]) (fun u => ∃ x' y', u = .agg [x', y'] ∧ p x' ∧ q y') := by
  obtain ⟨x', f, t1, m1, f1, g1, h1⟩ := h
  obtain ⟨y', g, t2, m2, f2, g2, h2⟩ := k
  refine ⟨.agg [x', y'], f ++ g, ?_, m1.add m2, by simp [flat, flatL, f1, f2], fun r hr => ?_, x', y', rfl, h1, h2⟩
  · have := Tr.agg (t1.append t2) Tr.nil
    simpa using this
  · rcases List.mem_append.1 hr with h3 | h3
    · exact g1 r h3
    · exact g2 r h3
structure TB (Mb M : MH) (b6 : Nat) (S : List (List Int)) (Rl : List Int) (ul ur : V) : Prop where
  sub : Sub Mb M
  new6 : Mb b6 = none
  at6 : M b6 = some [ul, ur]
  rx : ∃ us us' fp, Ow 1 M ul us ∧ Tr us us' fp ∧ Nd2 fp ∧ (∀ p ∈ fp, M p.1 = some p.2) ∧ (∀ p ∈ fp, Mb p.1 = none ∧ p.1 ≠ b6 ∧ blkV ul ≠ some p.1 ∧ blkV ur ≠ some p.1) ∧ flatL us ∧ (∀ q ∈ fp, flatL q.2) ∧ us.all oneV = true ∧ Cs isL us' S
  newl : ∀ b, blkV ul = some b → Mb b = none ∧ b ≠ b6 ∧ blkV ur ≠ some b
  owr : Ow 1 M ur (Rl.map vi)
  newr : ∀ b, blkV ur = some b → Mb b = none ∧ b ≠ b6
section
variable {Mb M1 M2 : MH} {b6 : Nat} {S : List (List Int)} {Rl ys : List Int} {ul ur u : V}
theorem Ow.blk {sz : Nat} {v : V} {l : List V} (h : Ow sz M v l) {b : Nat} (hb : blkV v = some b) : M b = some l := by
  rcases h with ⟨_, k, rfl⟩ | ⟨b', n, ex, rfl, h2, _⟩
  · simp [blkV] at hb
  · simp [blkV] at hb; subst hb; exact h2
theorem Ow.to {sz : Nat} {M' : MH} {v : V} {l : List V} (h : Ow sz M v l) (hs : ∀ b, blkV v = some b → M' b = M b) : Ow sz M' v l := by
  rcases h with h | ⟨b', n, ex, rfl, h2, h3⟩
  · exact .inl h
  · exact .inr ⟨b', n, ex, rfl, by rw [hs b' rfl]; exact h2, h3⟩
theorem Ow.gr {v : V} {l : List V} (h : Ow 1 M v l) : Gr 1 (fun i => if blkV v = some i then none else M i) M v l :=
  ⟨fun i l hi => by
    have hi : (if blkV v = some i then none else M i) = some l := hi
    split at hi
    · cases hi
    · exact hi, fun b hb => by simp [hb], h⟩
theorem TB.more (h : TB Mb M1 b6 S Rl ul ur) (hs : Sub M1 M2) : TB Mb M2 b6 S Rl ul ur := by
  obtain ⟨us, us', fp, h1, h2, h3, h4, h5⟩ := h.rx
  exact ⟨h.sub.trans hs, h.new6, hs _ _ h.at6, ⟨us, us', fp, h1.sub hs, h2, h3, fun p hp => hs _ _ (h4 p hp), h5⟩, h.newl, h.owr.sub hs, h.newr⟩
theorem TB.lenS (h : TB Mb M1 b6 S Rl ul ur) : lenF (er ul) = some (.int .i64 (S.length : Int)) := by
  obtain ⟨us, us', fp, h1, h2, _, _, _, _, _, _, hc⟩ := h.rx
  rw [h1.len1, ← hc.1, h2.len]
theorem TB.iaddr (h : TB Mb M1 b6 S Rl ul ur) {k : IntKind} {a : Int} (h0 : 0 ≤ a) (h1 : a < (S.length : Int)) : iaddrV 1 ul (.int k a) = some (.sc (.ptr (some (oB ul, a.toNat)))) := by
  obtain ⟨us, us', fp, h2, h3, _, _, _, _, _, _, hc⟩ := h.rx
  have hul : us.length = S.length := by rw [← h3.len]; exact hc.1
  exact h2.iaddr h0 (by rw [hul]; exact h1)
theorem TB.cell (h : TB Mb M1 b6 S Rl ul ur) (hl : 0 < S.length) : ∃ us, M1 (oB ul) = some us ∧ us.length = S.length ∧ ∀ i (h : i < S.length), ∃ u, us[i]? = some u ∧ RdI M1 u S[i] := by
  obtain ⟨us, us', fp, h1, ht, hnd, hat, _, hf, hff, ho, hc⟩ := h.rx
  have hul : us.length = S.length := by rw [← ht.len]; exact hc.1
  refine ⟨us, h1.at (by omega), hul, fun i hi => ?_⟩
  have hiu : i < us.length := by omega
  have hsp : us = us.take i ++ (us[i] :: us.drop (i + 1)) := by rw [← List.drop_eq_getElem_cons hiu, List.take_append_drop]
  rw [hsp] at ht
  obtain ⟨a', b', f1, f2, rfl, rfl, t1, t2⟩ := Tr.split (a := us.take i) (b := us[i] :: us.drop (i + 1)) (b' := []) ht
  obtain ⟨x', r', g1, g2, rfl, rfl, t3, t4⟩ := t2.uncons
  have hal : a'.length = i := by rw [t1.len, List.length_take]; omega
  have h4 := hc.2 i hi
  rw [List.getElem?_append_right (by omega), hal, Nat.sub_self] at h4
  obtain ⟨w, h5, h6⟩ := h4
  simp only [List.getElem?_cons_zero, Option.some.injEq] at h5
  subst h5
  exact ⟨us[i], List.getElem?_eq_getElem hiu, x', g1, t3, (Nd2.append (Nd2.append hnd).2.1).1, fun p hp => hat p (List.mem_append_right _ (List.mem_append_left _ hp)), h6⟩
theorem TB.box (h : RT Mb M1 ul S) (hb : M1 b6 = none) : TB Mb (M1.set b6 [ul, .sc (.sl none 0 0 true 0)]) b6 S [] ul (.sc (.sl none 0 0 true 0)) := by
  obtain ⟨us, us', fp, Mc, hg, hm, ht, hf, hff, hos, hc⟩ := h
  have hs : Sub M1 (M1.set b6 [ul, .sc (.sl none 0 0 true 0)]) := (Sub.refl M1).set' hb
  have hs0 : Sub Mb M1 := hm.sub.trans hg.sub
  have hne : ∀ b l, M1 b = some l → b ≠ b6 := fun b l hl e => by rw [e, hb] at hl; cases hl
  refine ⟨hs0.trans hs, hs0.none hb, set_same, ⟨us, us', fp, hg.own.sub hs, ht, hm.nd, fun p hp => hs _ _ (hg.sub _ _ (hm.at_ p hp)), fun p hp => ⟨hm.new p hp, hne _ _ (hg.sub _ _ (hm.at_ p hp)), fun e => ?_, by simp [blkV]⟩, hf, hff, hos, hc⟩, fun b hb2 => ⟨hm.sub.none (hg.new b hb2), hne _ _ (hg.own.blk hb2), by simp [blkV]⟩, .inl ⟨rfl, 0, rfl⟩, fun b hb2 => by simp [blkV] at hb2⟩
  have h1 := hg.new p.1 e
  rw [hm.at_ p hp] at h1; cases h1
theorem TB.dnS (h : TB Mb M1 b6 S Rl ul ur) : Dn (Mb.set b6 [ul, ur]) M1 ul (fun u => LII u S) := by
  obtain ⟨us, us', fp, h1, ht, hnd, hat, hnew, hf, hff, hos, hc⟩ := h.rx
  have hs : Sub (Mb.set b6 [ul, ur]) M1 := fun i l hi => by
    by_cases e : i = b6
    · subst e; rw [set_same] at hi; cases hi; exact h.at6
    · rw [set_ne e] at hi; exact h.sub _ _ hi
  have hR : RT (Mb.set b6 [ul, ur]) M1 ul S := by
    refine ⟨us, us', fp, _, h1.gr, ⟨fun i l hi => ?_, fun p hp => ?_, hnd, fun p hp => ?_⟩, ht, hf, hff, hos, hc⟩
    · have hne : blkV ul ≠ some i := fun e => by
        by_cases e6 : i = b6
        · exact (h.newl i e).2.1 e6
        · rw [set_ne e6, (h.newl i e).1] at hi; cases hi
      simp only [hne, if_false]; exact hs i l hi
    · obtain ⟨n1, n2, n3, n4⟩ := hnew p hp
      rw [set_ne n2]; exact n1
    · obtain ⟨n1, n2, n3, n4⟩ := hnew p hp
      simp only [n3, if_false]; exact hat p hp
  exact hR.dn
theorem TB.dn (h : TB Mb M1 b6 S Rl ul ur) : Dn (Mb.set b6 [ul, ur]) M1 (.agg [ul, ur]) (isTr ⟨S, Rl⟩) := by
  obtain ⟨us, us', fp, h1, ht, hnd, hat, hnew, hf, hff, hos, hc⟩ := h.rx
  have d1 := h.dnS
  have g := h.owr.gr
  -- the states stand on what is not the rules' block
  have hs : Sub (Mb.set b6 [ul, ur]) M1 := fun i l hi => by
    by_cases e : i = b6
    · subst e; rw [set_same] at hi; cases hi; exact h.at6
    · rw [set_ne e] at hi; exact h.sub _ _ hi
  have hR : RT (Mb.set b6 [ul, ur]) (fun i => if blkV ur = some i then none else M1 i) ul S := by
    have h1' : Ow 1 (fun i => if blkV ur = some i then none else M1 i) ul us := h1.to fun b hb => by simp [(h.newl b hb).2.2]
    refine ⟨us, us', fp, _, h1'.gr, ⟨fun i l hi => ?_, fun p hp => ?_, hnd, fun p hp => ?_⟩, ht, hf, hff, hos, hc⟩
    · have hn1 : blkV ul ≠ some i := fun e => by
        by_cases e6 : i = b6
        · exact (h.newl i e).2.1 e6
        · rw [set_ne e6, (h.newl i e).1] at hi; cases hi
      have hn2 : blkV ur ≠ some i := fun e => by
        by_cases e6 : i = b6
        · exact (h.newr i e).2 e6
        · rw [set_ne e6, (h.newr i e).1] at hi; cases hi
      simp only [hn1, hn2, if_false]; exact hs i l hi
    · obtain ⟨n1, n2, n3, n4⟩ := hnew p hp
      rw [set_ne n2]; exact n1
    · obtain ⟨n1, n2, n3, n4⟩ := hnew p hp
      simp only [n3, n4, if_false]; exact hat p hp
  exact hR.dn.agg2 g.dnI
end
end Go.M2

namespace Go.M2
open Go.Proofs
variable {M : MH}
end Go.M2

namespace Go.M2
open Go.Proofs
variable {M : MH}
end Go.M2

namespace Go.M2
open Go.Proofs
variable {M : MH}
theorem Dn.tupM {M0 M1 M2 : MH} {x y : V} {p q : V → Prop} (h : Dn M0 M1 x p) (k : Dn M1 M2 y q) : Dn M0 M2 (.tup [x, y]) (fun u => ∃ x' y', u = .tup [x', y'] ∧ p x' ∧ q y') := by
  obtain ⟨x', f, t1, m1, f1, g1, h1⟩ := h
  obtain ⟨y', g, t2, m2, f2, g2, h2⟩ := k
  refine ⟨.tup [x', y'], f ++ g, ?_, m1.add m2, by simp [flat, flatL, f1, f2], fun r hr => ?_, x', y', rfl, h1, h2⟩
  · have := Tr.tup (t1.append t2) Tr.nil
    simpa using this
  · rcases List.mem_append.1 hr with h3 | h3
    · exact g1 r h3
    · exact g2 r h3
def rOk (s : SysS) (k : Int) : Bool := decide (0 ≤ k ∧ k ≤ (s.rules.length : Int) - 1)
def ruleAt (s : SysS) (k : Int) : RuleS := s.rules.getD k.toNat ⟨[], [], []⟩
theorem ruleAt_eq {s : SysS} {n : Nat} (h : n < s.rules.length) : ruleAt s (n : Int) = s.rules[n] := by simp [ruleAt, h]
noncomputable def touF (s : SysS) (k : Int) : List Int × List Int := if sysB s = true ∧ rOk s k = true then ((ruleAt s k).sets, toF s.vars.length (ruleAt s k)) else ([], [])
def isTou (q : List Int × List Int) (u : V) : Prop := ∃ x y, u = .tup [x, y] ∧ LI x q.1 ∧ LI y q.2
theorem touF_no {s : SysS} {k : Int} (h : ¬ (sysB s = true ∧ rOk s k = true)) : touF s k = ([], []) := by unfold touF; rw [if_neg h]
theorem touF_yes {s : SysS} {n : Nat} (h1 : sysB s = true) (h : n < s.rules.length) : touF s (n : Int) = (s.rules[n].sets, toF s.vars.length s.rules[n]) := by
  unfold touF; rw [if_pos ⟨h1, by simp [rOk]; omega⟩, ruleAt_eq h]
theorem nilTou {M' : MH} (h : Sub M M') : Dn M M' (.tup [.sc (.sl none 0 0 true 0), .sc (.sl none 0 0 true 0)]) (isTou ([], [])) := (Dn.nilS h).tupM Dn.nil1
theorem o_impTouchedBy {v : V} {s : SysS} {k : Int} (hv : isSys s v) (hz : SysSz s) :
    VCall Try.prog n_impl_TouchedBy [v, .sc (.int .i64 k)] M (fun r M' => Dn M M' r (isTou (touF s k))) := by
  refine VCall.plain fun R hR => v_impl_TouchedBy rfl ?_
  have hv0 := hv
  obtain ⟨a, b, rfl, ha, hb⟩ := hv
  have nope : ∀ M', Sub M M' → ¬ (sysB s = true ∧ rOk s k = true) → R (.tup [.sc (.sl none 0 0 true 0), .sc (.sl none 0 0 true 0)]) M' := fun M' h1 h2 => hR _ _ (by rw [touF_no h2]; exact nilTou h1)
  refine sS0 ?_
  intro b2 hb2
  have q2 : (M.set b2 [a, b]) b2 = some [a, b] := set_same
  have s1 : Sub M (M.set b2 [a, b]) := (Sub.refl M).set' hb2
  generalize M.set b2 [a, b] = M1 at *
  refine (t_impSystemValid hv0 hz).mono ?_
  rintro _ _ ⟨rfl, rfl⟩
  cases h1 : sysB s with
  | false =>
    refine sS0 ?_
    exact nope _ s1 (by simp [h1])
  | true =>
    have hs := (sysB_iff s).1 h1
    have h8 := hs.r8
    refine sS2 @q2 @hb.len ?_
    refine t_in.mono ?_
    rintro _ _ ⟨rfl, rfl⟩
    cases h2 : rOk s k with
    | false =>
      have h2' := h2
      unfold rOk at h2'
      refine sS1 @h2' ?_
      exact nope _ s1 (by simp [h2])
    | true =>
      have h2' := h2
      unfold rOk at h2'
      refine sS1 @h2' ?_
      obtain ⟨h3, h4⟩ := of_decide_eq_true h2'
      obtain ⟨n, rfl⟩ : ∃ n : Nat, k = n := ⟨k.toNat, by omega⟩
      have hn : n < s.rules.length := by omega
      obtain ⟨x, y, z, hat, hx, hy, hz'⟩ := hb.elt hn
      obtain ⟨hw2, hst, hsets⟩ := hs.rules _ (List.getElem_mem hn)
      have h5 := hs.v5
      have hle := sets_le hsets (by omega)
      refine sS3 @q2 @hb.iaddr @hat ?_
      refine (t_cloneInt hy (by omega)).mono ?_
      intro r1 M2 hg1
      have m2 := hg1.sub _ _ q2
      refine sS1 @m2 ?_
      refine (t_touchedBy hv0 hs hn).mono ?_
      intro r2 M3 hg2
      refine sS0 ?_
      refine hR _ _ ?_
      rw [touF_yes h1 hn]
      exact (hg1.dnI.base s1).tupM hg2.dnI
end Go.M2

namespace Go.M2
open Go.Proofs
variable {M : MH}
theorem t_specUse {v w : V} {s : SysS} {st : List Int} {k : Int} (hv : isSys s v) (hw : LI w st) : VCall Try.prog n_spec_Use [v, w, .sc (.int .i64 k)] M (fun r M' => M = M' ∧ uRes r (useT s st k)) := by
  refine VCall.pure fun R hR => v_spec_Use rfl ?_
  have hv0 := hv
  obtain ⟨a, b, rfl, ha, hb⟩ := hv
  refine sS0 ?_
  intro b3 hb3
  have q3 : (M.set b3 [a, b]) b3 = some [a, b] := set_same
  have s1 : Sub M (M.set b3 [a, b]) := (Sub.refl M).set' hb3
  generalize M.set b3 [a, b] = M1 at *
  refine (t_InRange hv0 hw).mono ?_
  rintro _ _ ⟨rfl, rfl⟩
  cases h : inS s st with
  | false =>
    refine sS0 ?_
    refine hR _ _ s1 ?_
    unfold useT
    rw [if_neg (by rw [h]; simp)]
    rfl
  | true =>
    obtain ⟨hs, hin⟩ := inS_iff.1 h
    have h8 := hs.r8
    refine sS2 @q3 @hb.len ?_
    refine t_l1In.mono ?_
    rintro _ _ ⟨rfl, rfl⟩
    cases h5 : decide (0 ≤ k ∧ k ≤ (s.rules.length : Int) - 1) with
    | false =>
      refine sS1 @h5 ?_
      refine hR _ _ s1 ?_
      unfold useT
      rw [if_neg (by simp at h5; omega)]
      rfl
    | true =>
      obtain ⟨k0, k1⟩ := of_decide_eq_true h5
      obtain ⟨n, rfl⟩ : ∃ n : Nat, k = (n : Int) := ⟨k.toNat, by omega⟩
      have hn : n < s.rules.length := by omega
      refine sS2 @h5 @q3 ?_
      refine (t_l2Use hv0 hs hw hin hn).mono ?_
      rintro r _ ⟨rfl, hr⟩
      rw [← useT_at h hn] at hr
      cases hu : useT s st (n : Int) with
      | none =>
        rw [hu] at hr
        simp only [lRes] at hr
        subst hr
        have z : decide ((0 : Int) < 0) = false := rfl
        refine sS1 @z ?_
        exact hR _ _ s1 (by rw [hu]; rfl)
      | some x =>
        rw [hu] at hr
        have hr : LI r x := hr
        have hxl : 0 < x.length := by
          rw [useT_at h hn] at hu
          have := (useR_in hu).1
          have := hs.v1
          omega
        have z : decide ((0 : Int) < (x.length : Int)) = true := by simp; omega
        refine sS2 @hr.len @z ?_
        exact hR _ _ s1 (by rw [hu]; exact ⟨r, rfl, hr⟩)
theorem setsF_other {st : List Int} {terms : List (List TermS)} {sets : List Int} {v : Nat} : ∀ n, (∀ i, i < n → (sets.getD i 0).toNat ≠ v) → (setsF st terms sets n)[v]? = st[v]?
  | 0, _ => rfl
  | n + 1, h => by
    rw [setsF, List.getElem?_set_ne (h n (by omega)), setsF_other n fun i hi => h i (by omega)]
theorem useT_parts {s : SysS} {st xs : List Int} {k : Int} (h : useT s st k = some xs) : inS s st = true ∧ ∃ n : Nat, k = n ∧ ∃ hn : n < s.rules.length, useR s.vars s.rules[n] st = some xs := by
  unfold useT at h
  split at h
  · rename_i hc
    obtain ⟨h1, h2, h3⟩ := hc
    have hn : k.toNat < s.rules.length := by omega
    rw [List.getElem?_eq_getElem hn] at h
    exact ⟨h1, k.toNat, by omega, hn, h⟩
  · cases h
theorem useR_keep {vars : List VarS} {r : RuleS} {st xs : List Int} (h : useR vars r st = some xs) (hs : SetsOk (vars.length : Int) r) {v : Nat} (hv : v < st.length) (hx : v < xs.length) (hne : xs[v] ≠ st[v]) : (v : Int) ∈ r.sets := by
  unfold useR at h
  split at h
  · cases h
  · split at h
    · cases h
      refine Classical.byContradiction fun hn => hne ?_
      have := setsF_other (st := st) (terms := r.terms) (sets := r.sets) (v := v) r.sets.length fun i hi e => hn (by
        have h1 := (hs i hi).1
        rw [getD_eq hi] at e
        have : (v : Int) = r.sets[i] := by omega
        rw [this]; exact List.getElem_mem hi)
      rw [List.getElem?_eq_getElem hx, List.getElem?_eq_getElem hv] at this
      exact Option.some.inj this
    · cases h
theorem law_UseSets {v : V} {xs : List Int} (hv : XU v xs) (hx : LenOk xs) (hc : CapOk v) :
    VCall Try.prog n_laws_FnUseSets [v] M (fun r M' => M = M' ∧ r = .sc (.bool true)) := by
  refine VCall.pure fun R hR => v_laws_FnUseSets rfl ?_
  unfold LenOk at hx
  have hlen := hv.len fun _ _ h => h.len
  (repeat' (first | ((with_reducible first | refine cond_dec (fun h => ?_) (fun h => ?_) | refine guardK_dec (fun h => ?_) (fun h => ?_) | refine guardD3_dec (fun h => ?_) (fun h => ?_)) <;> first | (exfalso; omega) | (simp (maxSteps := 2000000) (disch := first | omega | assumption | exact idP rfl | exact idP (bL rfl)) only [go_sem, reduceIte, Nat.reduceEqDiff, wpV_kd, wpV_tH, h, hlen]) | skip) | ((with_reducible first | refine cond_split (fun h => ?_) (fun h => ?_) | refine guardK_split (fun h => ?_) (fun h => ?_) | refine guardD3_split (fun h => ?_) (fun h => ?_)) <;> ((try simp only [Bool.not_eq_true', Bool.not_eq_false'] at h); first | (simp (maxSteps := 2000000) (disch := first | omega | assumption | exact idP rfl | exact idP (bL rfl)) only [go_sem, reduceIte, Nat.reduceEqDiff, wpV_kd, wpV_tH, h, hlen]) | skip)) | (with_reducible intro bk hbk; try have hnk := (fresh_set hbk).1) | (simp (maxSteps := 2000000) (disch := first | omega | assumption | exact idP rfl | exact idP (bL rfl)) only [go_sem, reduceIte, Nat.reduceEqDiff, wpV_kd, wpV_tH, hlen])))
  · exact hR _ _ (sB) rfl
  · refine (t_DrawUse hv hc (by omega)).mono ?_
    rintro _ _ ⟨rfl, sv, xv, s, ys, k, rfl, hs, hd, hx, hnn, hyl, hk1, hk2⟩
    have hs0 := hs
    obtain ⟨a, b, rfl, o1, o2⟩ := hs.two
    refine sS2 @o1 @o2 ?_
    intro b3 hb3
    have h3 : (M.set b3 [a, b]) b3 = some [a, b] := set_same
    have hsub : Sub M (M.set b3 [a, b]) := (Sub.refl M).set' hb3
    generalize M.set b3 [a, b] = M1 at *
    refine (t_impUse hs0 hd.sz hx).mono ?_
    rintro r5 _ ⟨rfl, hr5⟩
    cases hu : useT s ys k with
    | none =>
      rw [hu] at hr5
      simp only [uRes] at hr5
      subst hr5
      refine sS1 @h3 ?_
      refine (t_specUse hs0 hx).mono ?_
      rintro q5 _ ⟨rfl, hq5⟩
      rw [hu] at hq5
      simp only [uRes] at hq5
      subst hq5
      have zf : (!(false == false)) = false := rfl
      have zg : (false == false) = true := rfl
      have en : decide (([] : List Int) = []) = true := rfl
      refine sS1 @zf ?_
      refine (t_wcInts (xs := []) (ys := []) .nil .nil (by simp)).mono ?_
      rintro _ _ ⟨rfl, rfl⟩
      have ze : decide ((0 : Int) = 0) = true := rfl
      refine sS3 @en @zg @ze ?_
      exact hR _ _ hsub rfl
    | some y =>
      rw [hu] at hr5
      simp only [uRes] at hr5
      obtain ⟨u, rfl, hu1⟩ := hr5
      refine sS1 @h3 ?_
      refine (t_specUse hs0 hx).mono ?_
      rintro q5 _ ⟨rfl, hq5⟩
      rw [hu] at hq5
      simp only [uRes] at hq5
      obtain ⟨u2, rfl, hu2⟩ := hq5
      obtain ⟨hin, n, rfl, hn, hur⟩ := useT_parts hu
      obtain ⟨hsok, hst⟩ := inS_iff.1 hin
      have hsets := (hsok.rules _ (List.getElem_mem hn)).2.2
      have hyl2 := (useR_in hur).1
      have hvl := hst.1
      have h5 := hsok.v5
      have h8 := hsok.r8
      have zf : (!(true == true)) = false := rfl
      refine sS1 @zf ?_
      refine (t_wcInts hu1 hu2 (by omega)).mono ?_
      rintro _ _ ⟨rfl, rfl⟩
      have en : decide (y = y) = true := by simp
      refine sS2 @en @h3 ?_
      refine (VCall.frT (o_impTouchedBy hs0 hd.sz)).mono ?_
      rintro _ _ ⟨rfl, tx, ty, rfl, htx, hty⟩
      have hsb : sysB s = true := (sysB_iff s).2 hsok
      rw [touF_yes hsb hn] at htx
      simp only at htx
      have hle := sets_le hsets (by omega)
      refine sS1 @hx.len ?_
      refine loop_k (fun e M' => M1 = M' ∧ ∃ i : Nat, i ≤ ys.length ∧ e 3 = .sc (.ptr (some (b3, 0))) ∧ e 4 = xv ∧ e 5 = .sc (.int .i64 n) ∧ e 6 = u ∧ e 10 = tx ∧ e 69 = .sc (.int .i64 ys.length) ∧ e 70 = .sc (.int .i64 i)) (fun e _ => ctrV ys.length (e 70)) ?_ ?_
      · exact ⟨rfl, 0, by omega, sE0, sE0, sE0, sE0, sE0, sE0, sE0⟩
      · rintro e _ ⟨rfl, i, hi, q3, q4, q5, q6, q10, q69, q70⟩ K hK
        refine sS7 @q3 @q4 @q5 @q6 @q10 @q69 @q70 ?_
        refine cond_dec (fun h => ?_) (fun h => ?_)
        · have hi' : i < ys.length := by omega
          have hi2 : i < y.length := by omega
          simp (maxSteps := 2000000) (disch := first | omega | assumption | exact idP rfl | exact idP (bL rfl)) only [go_sem, reduceIte, Nat.reduceEqDiff, wpV_kd, wpV_tH, q3, q4, q5, q6, q10, q69, q70, hu1.iaddr, hu1.at hi2, hx.iaddr, hx.at hi']
          cases hd2 : decide (¬ y[i] = ys[i]) with
          | false =>
            refine sS8 @hd2 @q3 @q4 @q5 @q6 @q10 @q69 @q70 ?_
            exact hK _ _ ⟨rfl, i + 1, by omega, sE0, sE0, sE0, sE0, sE0, sE0, sE0⟩ (by refine sS2 @ctrV_int @q70 ?_; omega)
          | true =>
            have hne : ¬ y[i] = ys[i] := of_decide_eq_true hd2
            have hmem := useR_keep hur hsets hi' hi2 hne
            have hdm : decide ((i : Int) ∈ s.rules[n].sets) = true := by simpa using hmem
            refine sS1 @hd2 ?_
            refine (t_wcHas htx (by omega)).mono ?_
            rintro _ _ ⟨rfl, rfl⟩
            refine sS8 @hdm @q3 @q4 @q5 @q6 @q10 @q69 @q70 ?_
            exact hK _ _ ⟨rfl, i + 1, by omega, sE0, sE0, sE0, sE0, sE0, sE0, sE0⟩ (by refine sS2 @ctrV_int @q70 ?_; omega)
        · obtain rfl : i = ys.length := by omega
          refine sS5 @q3 @q4 @q5 @q6 @h3 ?_
          refine (t_impInRange hs0 hd.sz hu1).mono ?_
          rintro _ _ ⟨rfl, rfl⟩
          have hin2 : inS s y = true := inS_iff.2 ⟨hsok, useR_in hur⟩
          refine sS2 @hin2 @h3 ?_
          refine (t_impUsableIn hs0 hd.sz hx).mono ?_
          rintro w _ ⟨rfl, hw⟩
          have hul := usS_len (s := s) (st := ys)
          have hmu : decide ((n : Int) ∈ usS s ys) = true := by
            rw [decide_eq_true_eq]
            unfold usS usF
            rw [if_pos hin, mem_selL]
            exact ⟨n, hn, by rw [ableB_at hn, hur]; rfl, rfl⟩
          refine sS0 ?_
          refine (t_wcHas hw (by omega)).mono ?_
          rintro _ _ ⟨rfl, rfl⟩
          refine sS1 @hmu ?_
          exact hR _ _ hsub rfl
end Go.M2

namespace Go.M2
open Go.Proofs
open Go.ChangeShapes Go.WideShapes Go.ChangeAt Go.RowKit
variable {HH : Type} {enc : TypeId × Value → HH} {P : Program} {W : World} {t e : TypeId} {fuel : Nat} {cs : List Value} {x : DataW HH × List MemPlace}
theorem in_u8 (ht : P.underlying t = some (.int .u8)) (h : DataW.trod enc P W 0 (fun _ => true) true fuel t cs = some x) : ∃ n, LiftE W (E1 isU) n cs ∧ True := by
  obtain ⟨n, rfl, _, h3⟩ := DataW.trod_int ht h
  have h4 : IntKind.u8.min ≤ n ∧ n ≤ IntKind.u8.max := by simpa [Lit.wf] using h3
  have e1 : IntKind.u8.min = 0 := by decide
  have e2 : IntKind.u8.max = 255 := by decide
  exact ⟨n, ⟨[.sc (.int .u8 n)], rfl, by simp [okL, okV], _, rfl, rfl, by omega, by omega⟩, trivial⟩
theorem avC_cap {N : Nat} {u : V} {v : Value} (h : er u = avC N v) : CapOk u := by
  cases u <;> try trivial
  rename_i A n c ex k l
  simp only [er] at h
  unfold avC at h
  show n ≤ c
  split at h <;> try cases h
  · split at h
    · rename_i h1
      cases h
      exact h1.2.2
    · split at h <;> cases h
  · exact Nat.le_refl _
theorem up_bytes (ht : P.underlying t = some (.slice e)) (he : P.underlying e = some (.int .u8)) (hsz : P.cellsOf e = 1) {v : Value} (hv : ∀ a, v ≠ .agg a) (h : DataW.trod enc P W 0 (fun _ => true) true fuel t v.cells.toList = some x) :
    ∃ ns : List Int, (∃ u, er u = avT W.heap.size v ∧ okV (heap0 W) u ∧ XU u ns ∧ CapOk u) ∧ ns.length ≤ 9223372036854775807 := by
  obtain ⟨ns, e, g, _⟩ := in_list1 (E := isU) (good := fun _ => True) ht hsz (fun n cs x h => in_u8 he h) h
  have hc : v.cells.toList = [v] := by
    cases v <;> first | rfl | exact absurd rfl (hv _)
  rw [hc] at e
  obtain ⟨u, p, q, r⟩ := e.one
  refine ⟨ns, ⟨u, ?_, q, r, avC_cap p⟩, g⟩
  rw [p]
  unfold avT
  split
  · rename_i a; exact absurd rfl (hv a)
  · rfl
end Go.M2
