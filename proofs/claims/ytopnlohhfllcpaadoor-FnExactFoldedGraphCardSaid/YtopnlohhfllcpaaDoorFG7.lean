/- For every input, the law FnExactFoldedGraph returns true and leaves its input as it was: the given row, and its card. Conditions: none beyond those of the given row. -/
import Derived.Test.YtopnlohhfllcpaaDoorFG6
import Derived.Test.YtopnlohhfllcpaaDoorRows
import Derived.Test.YtopnlohhfllcpaaDoorChecked
import Derived.Test.YtopnlohhfllcpaaDoorTie
import Derived.Test.YtopnlohhfllcpaaDoorCards
import Derived.WalkKit
import Derived.ProofKit
import Derived.OpenShut
import Derived.ShutString
import Derived.ChangeOld
import Derived.Below
import Derived.SizedLaws
import Derived.LaidMore
import Derived.SevenTiedAt
set_option linter.unusedVariables false
set_option linter.unusedSimpArgs false
set_option maxRecDepth 10000
set_option maxHeartbeats 4000000
namespace Go.Proofs.YtopnlohhfllcpaaDoor
open Go.ChangeShapes Go.WideShapes Go.ChangeAt Go.RowKit Go.M2
set_option maxRecDepth 100000 in
theorem wide_graph {W : World} {base : Nat} {v : Value} (h : Value.okWide Tryd.prog W .any base 24 v) : ∃ cs, v = .agg cs := by
  simp only [Value.okWide, Tryd.underlying24] at h
  obtain ⟨cs, h1, _⟩ := h
  exact ⟨cs, h1⟩
set_option maxRecDepth 100000 in
theorem wide_int {W : World} {base : Nat} {v : Value} (h : Value.okWide Tryd.prog W .any base 3 v) : ∃ n, v = .int .i64 n := by
  cases v <;> simp [Value.okWide, Tryd.underlying3, Cell.okWide, Cell.ok] at h
  obtain ⟨rfl, _⟩ := h
  exact ⟨_, rfl⟩
set_option maxRecDepth 100000 in
theorem lifted (os : Os) (started : os.Started) (H : Type) (enc : TypeId × Value → H) :
    ReturnsInHanded {} Tryd.checked os 7 .any (fun w args => (Rows.fnExactFoldedGraphSpec.pre enc Tryd.prog Tryd.f7 [] false w args ∧ laidMetH Tryd.prog laidL w) ∧ sizedMet enc Tryd.prog Tryd.f7 (OpenSpec.ofChange Rows.fnExactFoldedGraphSpec) false w args) (Rows.fnExactFoldedGraphSpec.post enc Tryd.prog Tryd.f7 false true false false) := by
  refine returnsInHanded_of_change_and (C := Tryd.checked) (X := fun w _ => laidMetH Tryd.prog laidL w) (fun _ _ _ hh h => h.of_heap hh) own started (by kernel_rfl) Tryd.func7
    (ChangeSpec.witness_shaped (enc := enc) (C := Tryd.checked) (os := os) (X := fun w _ => laidMetH Tryd.prog laidL w) false (World.doorLaid Tryd.prog 24 os) #[.agg #[.slice none 0 0, .int .i64 0, .slice none 0 0], .int .i64 0] 8 rfl (World.shaped_of_RefB (by kernel_rfl) (by kernel_rfl)) (by kernel_rfl) (by kernel_rfl) (by kernel_rfl) (door_met os _)) ?_
  intro W base args ds gs before hval0 hW hcnd hsz0 hL _
  have hval : ∀ (j : Nat) t v, Tryd.f7.params[j]? = .some t → args[j]? = .some v → Value.okWide Tryd.prog W .any base t v := hval0
  have hW' := hW
  obtain ⟨p, q, hA0, hV, rfl, hfz, hnd⟩ := hW
  have hA : DataW.TrodAll enc Tryd.prog W 0 (fun _ => true) true Tryd.f7.params.toList args.toList ds p := hA0
  rw [Tryd.params7] at hA hval
  obtain ⟨v0, vs0, d0, ds0, p0, q0, hargs, rfl, rfl, h0, r0⟩ := trodAll_cons hA
  obtain ⟨v1, vs1, d1, ds1, p1, q1, rfl, rfl, rfl, h1, r1⟩ := trodAll_cons r0
  obtain ⟨rfl, rfl, rfl⟩ := trodAll_nil r1
  obtain rfl : args = #[v0, v1] := by cases args; simp_all
  obtain ⟨rfl, rfl⟩ := trodVars_none hV
  have k0 := h0
  have k1 := h1
  have lt0 : ∀ x ∈ p0, x.block < W.heap.size := by obtain ⟨m, hm⟩ := k0; exact DataW.trod_lt m _ _ _ hm
  have lt1 : ∀ x ∈ p1, x.block < W.heap.size := by obtain ⟨m, hm⟩ := k1; exact DataW.trod_lt m _ _ _ hm
  obtain ⟨s0, ⟨u0, e0, o0, x0⟩, g0⟩ : ∃ g : GrS, UpV W (fun (g : GrS) u => isGrX g u) g v0 ∧ GrLen g := by
    obtain ⟨m, hm⟩ := h0
    exact up_graph (wide_graph (hval 0 24 v0 rfl rfl)) hm
  obtain ⟨s1, ⟨u1, e1, o1, x1⟩, g1⟩ : ∃ n : Int, UpV W (fun (n : Int) u => u = V.sc (.int .i64 n)) n v1 ∧ True := by
    obtain ⟨m, hm⟩ := h1
    obtain ⟨n, e⟩ := wide_int (hval 1 3 v1 rfl rfl)
    subst e
    exact ⟨n, ⟨V.sc (.int .i64 n), by simp [er, avT, avC], by simp [okV], rfl⟩, trivial⟩
  subst x1
  clear hA0 hval0 hsz0
  refine (calls_of_vcall (P := Tryd.prog) (f := 7) (vs := [v0, v1]) (vv := [u0, .sc (.int .i64 s1)]) (W := W) (law_FoldedGraph x0 g0) (by simp [e0, e1]) (by simp only [okL]; exact ⟨o0, o1, trivial⟩) (hT := tab_of_laid hL)).mono fun e W' ⟨he, bel⟩ => ?_
  subst he
  exact ⟨_, rfl, _, _, _, [], _, [], hW', trodAll_mk1 (shut_bool Tryd.underlying4 _), trodAll_cons_mk (Below.trod laidOut (by kernel_rfl) (of_decide_eq_true (by kernel_rfl)) k0 bel lt0) (trodAll_cons_mk (Below.trod laidOut (by kernel_rfl) (of_decide_eq_true (by kernel_rfl)) k1 bel lt1) trodAll_mk0), rfl, bel.frame _, fun h => by cases h⟩
theorem over : Rows.fnExactFoldedGraphRow.holds Tryd.pinned (OpenSpec.ofChange Rows.fnExactFoldedGraphSpec) :=
  OpenClaim.holds_of_wide 7 Tryd.f7 rfl rfl rfl rfl rfl rfl rfl ⟨rfl, rfl, rfl, rfl, rfl⟩ rfl rfl rfl rfl rfl (by kernel_rfl) Tryd.func7 (by kernel_rfl)
    (of_decide_eq_true (by kernel_rfl)) (by unfold Func.isWrapper; first | (rw [if_pos (by decide +kernel)]; kernel_rfl) | (rw [if_neg (by decide +kernel)]; exact ⟨rfl, rfl⟩))
    (fun os started H enc _ => lifted os started H enc)
theorem FnExactFoldedGraphCard_holds : Rows.FnExactFoldedGraphCardSaid :=
  Claim7.holds_tied_plain_at .later [] [.data, .data, .data] true (true, "489a0ec3d5935fd64d8a7baf96ff36a02fa427ba737183ed4fa4cc1cd331284a") false
    over (fun _ h => by cases h) (by kernel_rfl) (fun _ h => by cases h) fnExactFoldedGraph_row_tie rfl ⟨rfl, rfl⟩ (by kernel_rfl) rfl
    (fun f fn hf hfn => by
      obtain rfl : f = 7 := Option.some.inj ((show Tryd.prog.funcNamed "loop.example/wholecheck/laws.FnExactFoldedGraph" = .some 7 by kernel_rfl).symm.trans hf) |>.symm
      obtain rfl : fn = Tryd.f7 := (Option.some.inj (Tryd.func7.symm.trans hfn)).symm
      exact ⟨by kernel_rfl, fun j t ht => by
        rw [Tryd.params7] at ht
        have hm : t ∈ [24, 3] := by have := Array.mem_of_getElem? ht; simpa using this
        have hall : ([24, 3].all fun u => !Tryd.prog.wantsStandIn u) = true := by kernel_rfl
        exact (show Tryd.prog.wantsStandIn t = false by simpa using List.all_eq_true.1 hall t hm)⟩)
    (by kernel_rfl)
end Go.Proofs.YtopnlohhfllcpaaDoor
