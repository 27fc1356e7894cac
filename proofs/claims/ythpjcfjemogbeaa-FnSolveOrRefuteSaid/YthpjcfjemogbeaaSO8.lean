/- For every input, the law FnSolveOrRefute returns true and leaves its input as it was: the given statement. Conditions: none beyond those of the given row. -/
import Derived.Test.YthpjcfjemogbeaaSO7
import Derived.Test.YthpjcfjemogbeaaRows
import Derived.Test.YthpjcfjemogbeaaChecked
import Derived.WalkKit
import Derived.ProofKit
import Derived.OpenShut
import Derived.ShutString
import Derived.ChangeOld
import Derived.Below
import Derived.SizedLaws
set_option linter.unusedVariables false
set_option linter.unusedSimpArgs false
set_option maxRecDepth 10000
set_option maxHeartbeats 4000000
namespace Go.Proofs.Ythpjcfjemogbeaa
open Go.ChangeShapes Go.WideShapes Go.ChangeAt Go.RowKit Go.M2
theorem own : ownKnob Try.prog.godebug = none := by kernel_rfl
theorem laidOut : laidOutB Try.prog = true := by kernel_rfl
set_option maxRecDepth 100000 in
theorem wide_bytes {W : World} {base : Nat} {v : Value} (h : Value.okWide Try.prog W .any base 39 v) : ∀ a, v ≠ .agg a := by
  rintro a rfl
  simp [Value.okWide, Try.underlying39, Cell.okWide, Cell.ok] at h
theorem avC_capB {N : Nat} {v : Value} : ∀ A n c ex k, avC N v = .sl A n c ex k → n ≤ c := by
  intro A n c ex k h
  unfold avC at h
  split at h <;> try cases h
  · split at h
    · rename_i h1
      cases h
      exact h1.2.2
    · split at h <;> cases h
  · exact Nat.le_refl _
theorem up_bytes {HH : Type} {enc : TypeId × Value → HH} {W : World} {fuel : Nat} {x : DataW HH × List MemPlace} {v : Value} (hv : ∀ a, v ≠ .agg a) (h : DataW.trod enc Try.prog W 0 (fun _ => true) true fuel 39 v.cells.toList = some x) :
    ∃ ns : List Int, IsB (heap0 W) (avT W.heap.size v) ns ∧ ns.length ≤ 9223372036854775807 ∧ ∀ A n c ex k, avT W.heap.size v = .sl A n c ex k → n ≤ c := by
  obtain ⟨u, ns, e, h1, _, h3⟩ := in_slice (E := EB) (good := fun _ => True) (sz := 1) Try.underlying39 (by kernel_rfl) (by omega) (fun n cs x hx => by
    obtain ⟨n, rfl, _, h3⟩ := DataW.trod_int Try.underlying5 hx
    have h4 : IntKind.u8.min ≤ n ∧ n ≤ IntKind.u8.max := by simpa [Lit.wf] using h3
    have e1 : IntKind.u8.min = 0 := by decide
    have e2 : IntKind.u8.max = 255 := by decide
    exact ⟨n, ⟨rfl, by omega, by omega⟩, trivial⟩) h
  have hc : v.cells.toList = [v] := by
    cases v <;> first | rfl | exact absurd rfl (hv _)
  rw [hc] at e
  obtain rfl : v = u := by injection e
  have ha : avT W.heap.size v = avC W.heap.size v := by
    unfold avT
    split
    · rename_i a; exact absurd rfl (hv a)
    · rfl
  rw [ha]
  exact ⟨ns, h1, h3, avC_capB⟩
set_option maxRecDepth 100000 in
theorem lifted (os : Os) (started : os.Started) (H : Type) (enc : TypeId × Value → H) :
    ReturnsInHanded {} Try.checked os 9 .any (Rows.fnSolveOrRefuteSpec.pre6 enc Try.prog Try.f9 Rows.fnSolveOrRefuteRow.domain false) (Rows.fnSolveOrRefuteSpec.post enc Try.prog Try.f9 false true false false) := by
  refine returnsInHanded_of_change_sized (C := Try.checked) own started (by kernel_rfl) Try.func9
    (ChangeSpec.witness6 (enc := enc) (C := Try.checked) false ⟨#[], #[.slice none 0 0], []⟩ 8 (by kernel_rfl) (by kernel_rfl) (by kernel_rfl) (by kernel_rfl)) ?_
  intro W base args ds gs before hval0 hW hcnd hsz0 _
  have hval : ∀ (j : Nat) t v, Try.f9.params[j]? = some t → args[j]? = some v → Value.okWide Try.prog W .any base t v := hval0
  have hW' := hW
  obtain ⟨p, q, hA0, hV, rfl, hfz, hnd⟩ := hW
  have hA : DataW.TrodAll enc Try.prog W 0 (fun _ => true) true Try.f9.params.toList args.toList ds p := hA0
  rw [Try.params9] at hA hval
  obtain ⟨v0, vs0, d0, ds0, p0, q0, hargs, rfl, rfl, h0, r0⟩ := trodAll_cons hA
  obtain ⟨rfl, rfl, rfl⟩ := trodAll_nil r0
  obtain rfl : args = #[v0] := by cases args; simp_all
  obtain ⟨rfl, rfl⟩ := trodVars_none hV
  have k0 := h0
  have lt0 : ∀ x ∈ p0, x.block < W.heap.size := by obtain ⟨m, hm⟩ := k0; exact DataW.trod_lt m _ _ _ hm
  obtain ⟨s0, x0, g0, c0⟩ : ∃ ns : List Int, IsB (heap0 W) (avT W.heap.size v0) ns ∧ ns.length ≤ 9223372036854775807 ∧ ∀ A n c ex k, avT W.heap.size v0 = .sl A n c ex k → n ≤ c := by
    obtain ⟨m, hm⟩ := h0
    exact up_bytes (wide_bytes (hval 0 39 v0 rfl rfl)) hm
  clear hA0 hval0 hsz0
  refine (calls_of_acall (P := Try.prog) (f := 9) (vs := [v0]) (W := W) (by rw [List.map_cons, List.map_nil]; exact law_SolveOrRefute x0 c0 g0)).mono fun e W' ⟨he, bel⟩ => ?_
  subst he
  exact ⟨_, rfl, _, _, _, [], _, [], hW', trodAll_mk1 (shut_bool Try.underlying4 _), trodAll_cons_mk (Below.trod laidOut (by kernel_rfl) (of_decide_eq_true (by kernel_rfl)) k0 bel lt0) trodAll_mk0, rfl, bel.frame _, fun h => by cases h⟩
theorem over : Rows.fnSolveOrRefuteRow.holds Try.pinned (OpenSpec.ofChange Rows.fnSolveOrRefuteSpec) :=
  OpenClaim.holds_of_wide 9 Try.f9 rfl rfl rfl rfl rfl rfl rfl ⟨rfl, rfl, rfl, rfl, rfl⟩ rfl rfl rfl rfl rfl (by kernel_rfl) Try.func9 (by kernel_rfl)
    (of_decide_eq_true (by kernel_rfl)) (by unfold Func.isWrapper; first | (rw [if_pos (by decide +kernel)]; kernel_rfl) | (rw [if_neg (by decide +kernel)]; exact ⟨rfl, rfl⟩))
    (fun os started H enc _ => lifted os started H enc)
theorem FnSolveOrRefute_holds : Rows.FnSolveOrRefuteSaid := over
end Go.Proofs.Ythpjcfjemogbeaa
