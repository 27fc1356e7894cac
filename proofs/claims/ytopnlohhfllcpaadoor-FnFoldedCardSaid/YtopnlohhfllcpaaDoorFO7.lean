/- For every input, the law FnFolded returns true and leaves its input as it was: the given row, and its card. Conditions: none beyond those of the given row. -/
import Derived.Test.YtopnlohhfllcpaaDoorFO6
import Derived.Test.YtopnlohhfllcpaaDoorRows
import Derived.Test.YtopnlohhfllcpaaDoorChecked
import Derived.Test.YtopnlohhfllcpaaDoorTie
import Derived.Test.YtopnlohhfllcpaaDoorCards
import Derived.WalkKit
import Derived.ProofKit
import Derived.OpenShut
import Derived.ShutString
import Derived.ChangeOld
import Derived.Below
import Derived.SizedLaws
import Derived.LaidMore
import Derived.SevenTiedAt
set_option linter.unusedVariables false
set_option linter.unusedSimpArgs false
set_option maxRecDepth 10000
set_option maxHeartbeats 4000000
namespace Go.Proofs.YtopnlohhfllcpaaDoor
open Go.ChangeShapes Go.WideShapes Go.ChangeAt Go.RowKit Go.M2
set_option maxRecDepth 100000 in
theorem wide_bytes {W : World} {base : Nat} {v : Value} (h : Value.okWide Tryd.prog W .any base 37 v) : ∀ a, v ≠ .agg a := by
  rintro a rfl
  simp [Value.okWide, Tryd.underlying37, Cell.okWide, Cell.ok] at h
set_option maxRecDepth 100000 in
theorem lifted (os : Os) (started : os.Started) (H : Type) (enc : TypeId × Value → H) :
    ReturnsInHanded {} Tryd.checked os 6 .any (fun w args => (Rows.fnFoldedSpec.pre enc Tryd.prog Tryd.f6 [] false w args ∧ laidMetH Tryd.prog laidL w) ∧ sizedMet enc Tryd.prog Tryd.f6 (OpenSpec.ofChange Rows.fnFoldedSpec) false w args) (Rows.fnFoldedSpec.post enc Tryd.prog Tryd.f6 false true false false) := by
  refine returnsInHanded_of_change_and (C := Tryd.checked) (X := fun w _ => laidMetH Tryd.prog laidL w) (fun _ _ _ hh h => h.of_heap hh) own started (by kernel_rfl) Tryd.func6
    (ChangeSpec.witness_shaped (enc := enc) (C := Tryd.checked) (os := os) (X := fun w _ => laidMetH Tryd.prog laidL w) false (World.doorLaid Tryd.prog 24 os) #[.slice none 0 0] 8 rfl (World.shaped_of_RefB (by kernel_rfl) (by kernel_rfl)) (by kernel_rfl) (by kernel_rfl) (by kernel_rfl) (door_met os _)) ?_
  intro W base args ds gs before hval0 hW hcnd hsz0 hL _
  have hval : ∀ (j : Nat) t v, Tryd.f6.params[j]? = .some t → args[j]? = .some v → Value.okWide Tryd.prog W .any base t v := hval0
  have hW' := hW
  obtain ⟨p, q, hA0, hV, rfl, hfz, hnd⟩ := hW
  have hA : DataW.TrodAll enc Tryd.prog W 0 (fun _ => true) true Tryd.f6.params.toList args.toList ds p := hA0
  rw [Tryd.params6] at hA hval
  obtain ⟨v0, vs0, d0, ds0, p0, q0, hargs, rfl, rfl, h0, r0⟩ := trodAll_cons hA
  obtain ⟨rfl, rfl, rfl⟩ := trodAll_nil r0
  obtain rfl : args = #[v0] := by cases args; simp_all
  obtain ⟨rfl, rfl⟩ := trodVars_none hV
  have k0 := h0
  have lt0 : ∀ x ∈ p0, x.block < W.heap.size := by obtain ⟨m, hm⟩ := k0; exact DataW.trod_lt m _ _ _ hm
  obtain ⟨s0, ⟨u0, e0, o0, x0⟩, g0⟩ : ∃ ns : List Int, (∃ u, er u = avT W.heap.size v0 ∧ okV (heap0 W) u ∧ XU u ns ∧ CapOk u) ∧ ns.length ≤ 9223372036854775807 := by
    obtain ⟨m, hm⟩ := h0
    exact up_bytes Tryd.underlying37 Tryd.underlying5 (by kernel_rfl) (wide_bytes (hval 0 37 v0 rfl rfl)) hm
  clear hA0 hval0 hsz0
  refine (calls_of_vcall (P := Tryd.prog) (f := 6) (vs := [v0]) (vv := [u0]) (W := W) (law_Folded x0.1 g0 x0.2) (by simp [e0]) (by simp only [okL]; exact ⟨o0, trivial⟩) (hT := tab_of_laid hL)).mono fun e W' ⟨he, bel⟩ => ?_
  subst he
  exact ⟨_, rfl, _, _, _, [], _, [], hW', trodAll_mk1 (shut_bool Tryd.underlying4 _), trodAll_cons_mk (Below.trod laidOut (by kernel_rfl) (of_decide_eq_true (by kernel_rfl)) k0 bel lt0) trodAll_mk0, rfl, bel.frame _, fun h => by cases h⟩
theorem over : Rows.fnFoldedRow.holds Tryd.pinned (OpenSpec.ofChange Rows.fnFoldedSpec) :=
  OpenClaim.holds_of_wide 6 Tryd.f6 rfl rfl rfl rfl rfl rfl rfl ⟨rfl, rfl, rfl, rfl, rfl⟩ rfl rfl rfl rfl rfl (by kernel_rfl) Tryd.func6 (by kernel_rfl)
    (of_decide_eq_true (by kernel_rfl)) (by unfold Func.isWrapper; first | (rw [if_pos (by decide +kernel)]; kernel_rfl) | (rw [if_neg (by decide +kernel)]; exact ⟨rfl, rfl⟩))
    (fun os started H enc _ => lifted os started H enc)
theorem FnFoldedCard_holds : Rows.FnFoldedCardSaid :=
  Claim7.holds_tied_plain_at .later [] [.data, .data, .data] true (true, "489a0ec3d5935fd64d8a7baf96ff36a02fa427ba737183ed4fa4cc1cd331284a") false
    over (fun _ h => by cases h) (by kernel_rfl) (fun _ h => by cases h) fnFolded_row_tie rfl ⟨rfl, rfl⟩ (by kernel_rfl) rfl
    (fun f fn hf hfn => by
      obtain rfl : f = 6 := Option.some.inj ((show Tryd.prog.funcNamed "loop.example/wholecheck/laws.FnFolded" = .some 6 by kernel_rfl).symm.trans hf) |>.symm
      obtain rfl : fn = Tryd.f6 := (Option.some.inj (Tryd.func6.symm.trans hfn)).symm
      exact ⟨by kernel_rfl, fun j t ht => by
        rw [Tryd.params6] at ht
        have hm : t ∈ [37] := by have := Array.mem_of_getElem? ht; simpa using this
        have hall : ([37].all fun u => !Tryd.prog.wantsStandIn u) = true := by kernel_rfl
        exact (show Tryd.prog.wantsStandIn t = false by simpa using List.all_eq_true.1 hall t hm)⟩)
    (by kernel_rfl)
end Go.Proofs.YtopnlohhfllcpaaDoor
