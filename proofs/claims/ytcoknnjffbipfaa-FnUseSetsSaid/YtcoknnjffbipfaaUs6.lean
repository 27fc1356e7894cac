/- For every input, the law FnUseSets returns true and leaves its input as it was: the given statement. Conditions: none beyond those of the given row. -/
import Derived.Test.YtcoknnjffbipfaaUs5
import Derived.Test.YtcoknnjffbipfaaRows
import Derived.Test.YtcoknnjffbipfaaChecked
import Derived.WalkKit
import Derived.ProofKit
import Derived.OpenShut
import Derived.ShutString
import Derived.ChangeOld
import Derived.Below
import Derived.SizedLaws
set_option linter.unusedVariables false
set_option linter.unusedSimpArgs false
set_option maxRecDepth 10000
set_option maxHeartbeats 4000000
namespace Go.Proofs.Ytcoknnjffbipfaa
open Go.ChangeShapes Go.WideShapes Go.ChangeAt Go.RowKit Go.M2
theorem own : ownKnob Try.prog.godebug = none := by kernel_rfl
theorem laidOut : laidOutB Try.prog = true := by kernel_rfl
set_option maxRecDepth 100000 in
theorem wide_bytes {W : World} {base : Nat} {v : Value} (h : Value.okWide Try.prog W .any base 22 v) : ∀ a, v ≠ .agg a := by
  rintro a rfl
  simp [Value.okWide, Try.underlying22, Cell.okWide, Cell.ok] at h
set_option maxRecDepth 100000 in
theorem lifted (os : Os) (started : os.Started) (H : Type) (enc : TypeId × Value → H) :
    ReturnsInHanded {} Try.checked os 4 .any (Rows.fnUseSetsSpec.pre6 enc Try.prog Try.f4 Rows.fnUseSetsRow.domain false) (Rows.fnUseSetsSpec.post enc Try.prog Try.f4 false true false false) := by
  refine returnsInHanded_of_change_sized (C := Try.checked) own started (by kernel_rfl) Try.func4
    (ChangeSpec.witness6 (enc := enc) (C := Try.checked) false ⟨#[], #[.slice none 0 0], []⟩ 8 (by kernel_rfl) (by kernel_rfl) (by kernel_rfl) (by kernel_rfl)) ?_
  intro W base args ds gs before hval0 hW hcnd hsz0 _
  have hval : ∀ (j : Nat) t v, Try.f4.params[j]? = some t → args[j]? = some v → Value.okWide Try.prog W .any base t v := hval0
  have hW' := hW
  obtain ⟨p, q, hA0, hV, rfl, hfz, hnd⟩ := hW
  have hA : DataW.TrodAll enc Try.prog W 0 (fun _ => true) true Try.f4.params.toList args.toList ds p := hA0
  rw [Try.params4] at hA hval
  obtain ⟨v0, vs0, d0, ds0, p0, q0, hargs, rfl, rfl, h0, r0⟩ := trodAll_cons hA
  obtain ⟨rfl, rfl, rfl⟩ := trodAll_nil r0
  obtain rfl : args = #[v0] := by cases args; simp_all
  obtain ⟨rfl, rfl⟩ := trodVars_none hV
  have k0 := h0
  have lt0 : ∀ x ∈ p0, x.block < W.heap.size := by obtain ⟨m, hm⟩ := k0; exact DataW.trod_lt m _ _ _ hm
  obtain ⟨s0, ⟨u0, e0, o0, x0⟩, g0⟩ : ∃ ns : List Int, (∃ u, er u = avT W.heap.size v0 ∧ okV (heap0 W) u ∧ XU u ns ∧ CapOk u) ∧ ns.length ≤ 9223372036854775807 := by
    obtain ⟨m, hm⟩ := h0
    exact up_bytes Try.underlying22 Try.underlying5 (by kernel_rfl) (wide_bytes (hval 0 22 v0 rfl rfl)) hm
  clear hA0 hval0 hsz0
  refine (calls_of_vcall (P := Try.prog) (f := 4) (vs := [v0]) (vv := [u0]) (W := W) (law_UseSets x0.1 g0 x0.2) (by simp [e0]) (by simp only [okL]; exact ⟨o0, trivial⟩)).mono fun e W' ⟨he, bel⟩ => ?_
  subst he
  exact ⟨_, rfl, _, _, _, [], _, [], hW', trodAll_mk1 (shut_bool Try.underlying4 _), trodAll_cons_mk (Below.trod laidOut (by kernel_rfl) (of_decide_eq_true (by kernel_rfl)) k0 bel lt0) trodAll_mk0, rfl, bel.frame _, fun h => by cases h⟩
theorem over : Rows.fnUseSetsRow.holds Try.pinned (OpenSpec.ofChange Rows.fnUseSetsSpec) :=
  OpenClaim.holds_of_wide 4 Try.f4 rfl rfl rfl rfl rfl rfl rfl ⟨rfl, rfl, rfl, rfl, rfl⟩ rfl rfl rfl rfl rfl (by kernel_rfl) Try.func4 (by kernel_rfl)
    (of_decide_eq_true (by kernel_rfl)) (by unfold Func.isWrapper; first | (rw [if_pos (by decide +kernel)]; kernel_rfl) | (rw [if_neg (by decide +kernel)]; exact ⟨rfl, rfl⟩))
    (fun os started H enc _ => lifted os started H enc)
theorem FnUseSets_holds : Rows.FnUseSetsSaid := over
end Go.Proofs.Ytcoknnjffbipfaa
