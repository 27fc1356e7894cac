/- For every input, the law FnExactRoundFair returns true and leaves its input as it was: the given statement. Conditions: none beyond those of the given row. -/
import Derived.Test.YtkojebodimpfaaaKq7
import Derived.Test.YtkojebodimpfaaaRows
import Derived.WalkKit
import Derived.ProofKit
import Derived.OpenShut
import Derived.ShutString
import Derived.ChangeOld
import Derived.Below
import Derived.SizedLaws
set_option linter.unusedVariables false
set_option linter.unusedSimpArgs false
set_option maxRecDepth 10000
set_option maxHeartbeats 4000000
namespace Go.Proofs.Ytkojebodimpfaaa
open Go.ChangeShapes Go.WideShapes Go.ChangeAt Go.RowKit Go.M2
theorem own : ownKnob Try.prog.godebug = none := by kernel_rfl
theorem laidOut : laidOutB Try.prog = true := by kernel_rfl
set_option maxRecDepth 100000 in
theorem wide_struct {W : World} {base : Nat} {v : Value} (h : Value.okWide Try.prog W .any base 25 v) : ∃ cs, v = .agg cs := by
  simp only [Value.okWide, Try.underlying25] at h
  obtain ⟨cs, h1, _⟩ := h
  exact ⟨cs, h1⟩
set_option maxRecDepth 100000 in
theorem wide_ints {W : World} {base : Nat} {v : Value} (h : Value.okWide Try.prog W .any base 26 v) : ∀ a, v ≠ .agg a := by
  rintro a rfl
  simp [Value.okWide, Try.underlying26, Cell.okWide, Cell.ok] at h
set_option maxRecDepth 100000 in
theorem lifted (os : Os) (started : os.Started) (H : Type) (enc : TypeId × Value → H) :
    ReturnsInHanded {} Try.checked os 7 .any (Rows.fnExactRoundFairSpec.pre6 enc Try.prog Try.f7 Rows.fnExactRoundFairRow.domain false) (Rows.fnExactRoundFairSpec.post enc Try.prog Try.f7 false true false false) := by
  refine returnsInHanded_of_change_sized (C := Try.checked) own started (by kernel_rfl) Try.func7
    (ChangeSpec.witness6 (enc := enc) (C := Try.checked) false ⟨#[], #[.agg #[.slice none 0 0, .slice none 0 0], .slice none 0 0, .slice none 0 0, .slice none 0 0, .slice none 0 0], []⟩ 8 (by kernel_rfl) (by kernel_rfl) (by kernel_rfl) (by kernel_rfl)) ?_
  intro W base args ds gs before hval0 hW hcnd hsz0 _
  have hval : ∀ (j : Nat) t v, Try.f7.params[j]? = some t → args[j]? = some v → Value.okWide Try.prog W .any base t v := hval0
  have hW' := hW
  obtain ⟨p, q, hA0, hV, rfl, hfz, hnd⟩ := hW
  have hA : DataW.TrodAll enc Try.prog W 0 (fun _ => true) true Try.f7.params.toList args.toList ds p := hA0
  rw [Try.params7] at hA hval
  obtain ⟨v0, vs0, d0, ds0, p0, q0, hargs, rfl, rfl, h0, r0⟩ := trodAll_cons hA
  obtain ⟨v1, vs1, d1, ds1, p1, q1, rfl, rfl, rfl, h1, r1⟩ := trodAll_cons r0
  obtain ⟨v2, vs2, d2, ds2, p2, q2, rfl, rfl, rfl, h2, r2⟩ := trodAll_cons r1
  obtain ⟨v3, vs3, d3, ds3, p3, q3, rfl, rfl, rfl, h3, r3⟩ := trodAll_cons r2
  obtain ⟨v4, vs4, d4, ds4, p4, q4, rfl, rfl, rfl, h4, r4⟩ := trodAll_cons r3
  obtain ⟨rfl, rfl, rfl⟩ := trodAll_nil r4
  obtain rfl : args = #[v0, v1, v2, v3, v4] := by cases args; simp_all
  obtain ⟨rfl, rfl⟩ := trodVars_none hV
  have k0 := h0
  have k1 := h1
  have k2 := h2
  have k3 := h3
  have k4 := h4
  have lt0 : ∀ x ∈ p0, x.block < W.heap.size := by obtain ⟨m, hm⟩ := k0; exact DataW.trod_lt m _ _ _ hm
  have lt1 : ∀ x ∈ p1, x.block < W.heap.size := by obtain ⟨m, hm⟩ := k1; exact DataW.trod_lt m _ _ _ hm
  have lt2 : ∀ x ∈ p2, x.block < W.heap.size := by obtain ⟨m, hm⟩ := k2; exact DataW.trod_lt m _ _ _ hm
  have lt3 : ∀ x ∈ p3, x.block < W.heap.size := by obtain ⟨m, hm⟩ := k3; exact DataW.trod_lt m _ _ _ hm
  have lt4 : ∀ x ∈ p4, x.block < W.heap.size := by obtain ⟨m, hm⟩ := k4; exact DataW.trod_lt m _ _ _ hm
  obtain ⟨s0, ⟨u0, e0, o0, x0⟩, g0⟩ : ∃ s : SysS, UpV W (fun (s : SysS) u => isSysX s u) s v0 ∧ SysLen s := by
    obtain ⟨m, hm⟩ := h0
    exact up_system (wide_struct (hval 0 25 v0 rfl rfl)) hm
  obtain ⟨s1, ⟨u1, e1, o1, x1⟩, g1⟩ : ∃ ns : List Int, UpV W (fun (ns : List Int) u => XI u ns) ns v1 ∧ LenOk ns := by
    obtain ⟨m, hm⟩ := h1
    exact up_ints (wide_ints (hval 1 26 v1 rfl rfl)) hm
  obtain ⟨s2, ⟨u2, e2, o2, x2⟩, g2⟩ : ∃ ns : List Int, UpV W (fun (ns : List Int) u => XI u ns) ns v2 ∧ LenOk ns := by
    obtain ⟨m, hm⟩ := h2
    exact up_ints (wide_ints (hval 2 26 v2 rfl rfl)) hm
  obtain ⟨s3, ⟨u3, e3, o3, x3⟩, g3⟩ : ∃ ns : List Int, UpV W (fun (ns : List Int) u => XI u ns) ns v3 ∧ LenOk ns := by
    obtain ⟨m, hm⟩ := h3
    exact up_ints (wide_ints (hval 3 26 v3 rfl rfl)) hm
  obtain ⟨s4, ⟨u4, e4, o4, x4⟩, g4⟩ : ∃ ns : List Int, UpV W (fun (ns : List Int) u => XI u ns) ns v4 ∧ LenOk ns := by
    obtain ⟨m, hm⟩ := h4
    exact up_ints (wide_ints (hval 4 26 v4 rfl rfl)) hm
  clear hA0 hval0 hsz0
  refine (calls_of_vcall (P := Try.prog) (f := 7) (vs := [v0, v1, v2, v3, v4]) (vv := [u0, u1, u2, u3, u4]) (W := W) (law_RoundFair x0 g0 x1 g1 x2 g2 x3 g3 x4 g4) (by simp [e0, e1, e2, e3, e4]) (by simp only [okL]; exact ⟨o0, o1, o2, o3, o4, trivial⟩)).mono fun e W' ⟨he, bel⟩ => ?_
  subst he
  exact ⟨_, rfl, _, _, _, [], _, [], hW', trodAll_mk1 (shut_bool Try.underlying4 _), trodAll_cons_mk (Below.trod laidOut (by kernel_rfl) (of_decide_eq_true (by kernel_rfl)) k0 bel lt0) (trodAll_cons_mk (Below.trod laidOut (by kernel_rfl) (of_decide_eq_true (by kernel_rfl)) k1 bel lt1) (trodAll_cons_mk (Below.trod laidOut (by kernel_rfl) (of_decide_eq_true (by kernel_rfl)) k2 bel lt2) (trodAll_cons_mk (Below.trod laidOut (by kernel_rfl) (of_decide_eq_true (by kernel_rfl)) k3 bel lt3) (trodAll_cons_mk (Below.trod laidOut (by kernel_rfl) (of_decide_eq_true (by kernel_rfl)) k4 bel lt4) trodAll_mk0)))), rfl, bel.frame _, fun h => by cases h⟩
theorem over : Rows.fnExactRoundFairRow.holds Try.pinned (OpenSpec.ofChange Rows.fnExactRoundFairSpec) :=
  OpenClaim.holds_of_wide 7 Try.f7 rfl rfl rfl rfl rfl rfl rfl ⟨rfl, rfl, rfl, rfl, rfl⟩ rfl rfl rfl rfl rfl (by kernel_rfl) Try.func7 (by kernel_rfl)
    (of_decide_eq_true (by kernel_rfl)) (by unfold Func.isWrapper; first | (rw [if_pos (by decide +kernel)]; kernel_rfl) | (rw [if_neg (by decide +kernel)]; exact ⟨rfl, rfl⟩))
    (fun os started H enc _ => lifted os started H enc)
theorem FnExactRoundFair_holds : Rows.FnExactRoundFairSaid := over
end Go.Proofs.Ytkojebodimpfaaa
