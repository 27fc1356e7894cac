/- For every input, the law FnExactWithoutRounds returns true and leaves its input as it was: the given statement. Conditions: none beyond those of the given row. -/
import Derived.Test.YtbghdkclhbenkaaWR6
import Derived.Test.YtbghdkclhbenkaaRows
import Derived.WalkKit
import Derived.ProofKit
import Derived.OpenShut
import Derived.ShutString
import Derived.ChangeOld
import Derived.Below
import Derived.SizedLaws
set_option linter.unusedVariables false
set_option linter.unusedSimpArgs false
set_option maxRecDepth 10000
set_option maxHeartbeats 4000000
namespace Go.Proofs.Ytbghdkclhbenkaa
open Go.ChangeShapes Go.WideShapes Go.ChangeAt Go.RowKit Go.M2
theorem own : ownKnob Try.prog.godebug = none := by kernel_rfl
theorem laidOut : laidOutB Try.prog = true := by kernel_rfl
set_option maxRecDepth 100000 in
theorem wide_struct {W : World} {base : Nat} {v : Value} (h : Value.okWide Try.prog W .any base 25 v) : ∃ cs, v = .agg cs := by
  simp only [Value.okWide, Try.underlying25] at h
  obtain ⟨cs, h1, _⟩ := h
  exact ⟨cs, h1⟩
set_option maxRecDepth 100000 in
theorem wide_trace {W : World} {base : Nat} {v : Value} (h : Value.okWide Try.prog W .any base 29 v) : ∃ cs, v = .agg cs := by
  simp only [Value.okWide, Try.underlying29] at h
  obtain ⟨cs, h1, _⟩ := h
  exact ⟨cs, h1⟩
set_option maxRecDepth 100000 in
theorem lifted (os : Os) (started : os.Started) (H : Type) (enc : TypeId × Value → H) :
    ReturnsInHanded {} Try.checked os 3 .any (Rows.fnExactWithoutRoundsSpec.pre6 enc Try.prog Try.f3 Rows.fnExactWithoutRoundsRow.domain false) (Rows.fnExactWithoutRoundsSpec.post enc Try.prog Try.f3 false true false false) := by
  refine returnsInHanded_of_change_sized (C := Try.checked) own started (by kernel_rfl) Try.func3
    (ChangeSpec.witness6 (enc := enc) (C := Try.checked) false ⟨#[], #[.agg #[.slice none 0 0, .slice none 0 0], .agg #[.slice none 0 0, .slice none 0 0]], []⟩ 8 (by kernel_rfl) (by kernel_rfl) (by kernel_rfl) (by kernel_rfl)) ?_
  intro W base args ds gs before hval0 hW hcnd hsz0 _
  have hval : ∀ (j : Nat) t v, Try.f3.params[j]? = .some t → args[j]? = .some v → Value.okWide Try.prog W .any base t v := hval0
  have hW' := hW
  obtain ⟨p, q, hA0, hV, rfl, hfz, hnd⟩ := hW
  have hA : DataW.TrodAll enc Try.prog W 0 (fun _ => true) true Try.f3.params.toList args.toList ds p := hA0
  rw [Try.params3] at hA hval
  obtain ⟨v0, vs0, d0, ds0, p0, q0, hargs, rfl, rfl, h0, r0⟩ := trodAll_cons hA
  obtain ⟨v1, vs1, d1, ds1, p1, q1, rfl, rfl, rfl, h1, r1⟩ := trodAll_cons r0
  obtain ⟨rfl, rfl, rfl⟩ := trodAll_nil r1
  obtain rfl : args = #[v0, v1] := by cases args; simp_all
  obtain ⟨rfl, rfl⟩ := trodVars_none hV
  have k0 := h0
  have k1 := h1
  have lt0 : ∀ x ∈ p0, x.block < W.heap.size := by obtain ⟨m, hm⟩ := k0; exact DataW.trod_lt m _ _ _ hm
  have lt1 : ∀ x ∈ p1, x.block < W.heap.size := by obtain ⟨m, hm⟩ := k1; exact DataW.trod_lt m _ _ _ hm
  obtain ⟨s0, ⟨u0, e0, o0, x0⟩, g0⟩ : ∃ s : SysS, UpV W (fun (s : SysS) u => isSysX s u) s v0 ∧ SysLen s := by
    obtain ⟨m, hm⟩ := h0
    exact up_system (wide_struct (hval 0 25 v0 rfl rfl)) hm
  obtain ⟨s1, ⟨u1, e1, o1, x1⟩, g1⟩ : ∃ t : TrS, UpV W (fun (t : TrS) u => isTrX t u) t v1 ∧ TrLen t := by
    obtain ⟨m, hm⟩ := h1
    exact up_trace (wide_trace (hval 1 29 v1 rfl rfl)) hm
  clear hA0 hval0 hsz0
  refine (calls_of_vcall (P := Try.prog) (f := 3) (vs := [v0, v1]) (vv := [u0, u1]) (W := W) (law_WithoutRounds x0 g0 x1 g1) (by simp [e0, e1]) (by simp only [okL]; exact ⟨o0, o1, trivial⟩)).mono fun e W' ⟨he, bel⟩ => ?_
  subst he
  exact ⟨_, rfl, _, _, _, [], _, [], hW', trodAll_mk1 (shut_bool Try.underlying4 _), trodAll_cons_mk (Below.trod laidOut (by kernel_rfl) (of_decide_eq_true (by kernel_rfl)) k0 bel lt0) (trodAll_cons_mk (Below.trod laidOut (by kernel_rfl) (of_decide_eq_true (by kernel_rfl)) k1 bel lt1) trodAll_mk0), rfl, bel.frame _, fun h => by cases h⟩
theorem over : Rows.fnExactWithoutRoundsRow.holds Try.pinned (OpenSpec.ofChange Rows.fnExactWithoutRoundsSpec) :=
  OpenClaim.holds_of_wide 3 Try.f3 rfl rfl rfl rfl rfl rfl rfl ⟨rfl, rfl, rfl, rfl, rfl⟩ rfl rfl rfl rfl rfl (by kernel_rfl) Try.func3 (by kernel_rfl)
    (of_decide_eq_true (by kernel_rfl)) (by unfold Func.isWrapper; first | (rw [if_pos (by decide +kernel)]; kernel_rfl) | (rw [if_neg (by decide +kernel)]; exact ⟨rfl, rfl⟩))
    (fun os started H enc _ => lifted os started H enc)
theorem FnExactWithoutRounds_holds : Rows.FnExactWithoutRoundsSaid := over
end Go.Proofs.Ytbghdkclhbenkaa
