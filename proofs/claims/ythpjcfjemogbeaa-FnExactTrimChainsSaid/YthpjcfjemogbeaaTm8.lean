/- For every input, the law FnExactTrimChains returns true and leaves its input as it was: the given statement. Conditions: none beyond those of the given row. -/
import Derived.Test.YthpjcfjemogbeaaTm7
import Derived.Test.YthpjcfjemogbeaaRows
import Derived.Test.YthpjcfjemogbeaaChecked
import Derived.WalkKit
import Derived.ProofKit
import Derived.OpenShut
import Derived.ShutString
import Derived.ChangeOld
import Derived.Below
import Derived.SizedLaws
set_option linter.unusedVariables false
set_option linter.unusedSimpArgs false
set_option maxRecDepth 10000
set_option maxHeartbeats 4000000
namespace Go.Proofs.Ythpjcfjemogbeaa
open Go.ChangeShapes Go.WideShapes Go.ChangeAt Go.RowKit Go.M2
theorem own : ownKnob Try.prog.godebug = none := by kernel_rfl
theorem laidOut : laidOutB Try.prog = true := by kernel_rfl
set_option maxRecDepth 100000 in
theorem wide_struct {W : World} {base : Nat} {v : Value} (h : Value.okWide Try.prog W .any base 24 v) : ∃ cs, v = .agg cs := by
  simp only [Value.okWide, Try.underlying24] at h
  obtain ⟨cs, h1, _⟩ := h
  exact ⟨cs, h1⟩
theorem up_clauses {HH : Type} {enc : TypeId × Value → HH} {W : World} {fuel : Nat} {x : DataW HH × List MemPlace} {v : Value} (hv : ∃ a, v = .agg a) (h : DataW.trod enc Try.prog W 0 (fun _ => true) true fuel 24 v.cells.toList = some x) :
    ∃ (n : Int) (w : AV) (xss : List (List Int)), avT W.heap.size v = .agg [.int .i64 n, w] ∧ InS 1 (EN 1 EI) (heap0 W) w xss ∧ xss.length ≤ 9223372036854775807 ∧ ∀ xs ∈ xss, xs.length ≤ 9223372036854775807 := by
  obtain ⟨cs, rfl⟩ := hv
  have c1 : Try.prog.cellsOf 3 = 1 := by kernel_rfl
  have c2 : Try.prog.cellsOf 22 = 1 := by kernel_rfl
  have c3 : Try.prog.cellsOf 44 = 1 := by kernel_rfl
  obtain ⟨xs, n, _, _, hl, hxl, hf⟩ := DataW.trod_struct Try.underlying24 h
  have hxl : xs.length = 2 := hxl
  have hl : cs.toList.length = 2 := hl.trans (by kernel_rfl)
  obtain ⟨a, b, hab⟩ : ∃ a b, cs.toList = [a, b] := by
    match hcs : cs.toList, hl with
    | [a, b], _ => exact ⟨a, b, rfl⟩
  have f0 := hf 0 ⟨ "Atoms", 3, 0, false, "", "", 0⟩ rfl
  have f1 := hf 1 ⟨ "List", 22, 1, false, "", "", 8⟩ rfl
  rw [List.getElem?_eq_getElem (by omega)] at f0 f1
  simp only [Value.cells, hab, c1, c2, List.drop_zero, List.drop_succ_cons, List.take_succ_cons, List.take_zero] at f0 f1
  obtain ⟨i, e0, _, _⟩ := in_int Try.underlying3 f0
  obtain ⟨w, xss, e1, hin, hgood, hlen⟩ := in_slice (α := List Int) (E := EN 1 EI) (good := fun xs => xs.length ≤ 9223372036854775807) (sz := 1) Try.underlying22 c3 (by omega) (fun n cs x h => by
    obtain ⟨v, xs, rfl, hin, _, hl⟩ := in_slice (α := Int) (E := EI) (good := fun _ => True) (sz := 1) Try.underlying44 c1 (by omega) (fun n cs x h => by
      obtain ⟨i, rfl, _⟩ := in_int Try.underlying3 h
      exact ⟨i, rfl, trivial⟩) h
    exact ⟨xs, ⟨_, rfl, hin⟩, hl⟩) f1
  simp only [List.cons.injEq, and_true] at e0 e1
  subst e0 e1
  exact ⟨i, _, xss, by simp [avT, hab, avC], hin, hlen, hgood⟩
set_option maxRecDepth 100000 in
theorem wide_chains {W : World} {base : Nat} {v : Value} (h : Value.okWide Try.prog W .any base 25 v) : ∀ a, v ≠ .agg a := by
  rintro a rfl
  simp [Value.okWide, Try.underlying25, Cell.okWide, Cell.ok] at h
set_option maxRecDepth 100000 in
theorem up_chains {HH : Type} {enc : TypeId × Value → HH} {W : World} {fuel : Nat} {x : DataW HH × List MemPlace} {v : Value} (hv : ∀ a, v ≠ .agg a) (h : DataW.trod enc Try.prog W 0 (fun _ => true) true fuel 25 v.cells.toList = some x) :
    ∃ (w : AV) (cs : List Ch), avT W.heap.size v = w ∧ InS 5 ENCh (heap0 W) w cs ∧ cs.length ≤ 9223372036854775807 ∧ ∀ x ∈ cs, x.cl.length ≤ 9223372036854775807 := by
  have c1 : Try.prog.cellsOf 3 = 1 := by kernel_rfl
  have c3 : Try.prog.cellsOf 44 = 1 := by kernel_rfl
  have c5 : Try.prog.cellsOf 66 = 5 := by kernel_rfl
  obtain ⟨w, xs, e1, hin, hgood, hlen⟩ := in_slice (α := Ch) (E := ENCh) (good := fun x => x.cl.length ≤ 9223372036854775807) (sz := 5) Try.underlying25 c5 (by omega) (fun n cs x h => by
    obtain ⟨xs, n, _, _, hl, hxl, hf⟩ := DataW.trod_struct Try.underlying66 h
    have hxl : xs.length = 5 := hxl
    have hl : cs.length = 5 := hl.trans c5
    obtain ⟨a, b, c, d, e, rfl⟩ : ∃ a b c d e, cs = [a, b, c, d, e] := by
      match cs, hl with
      | [a, b, c, d, e], _ => exact ⟨a, b, c, d, e, rfl⟩
    have f0 := hf 0 ⟨ "From", 3, 0, false, "", "", 0⟩ rfl
    have f1 := hf 1 ⟨ "Left", 3, 1, false, "", "", 8⟩ rfl
    have f2 := hf 2 ⟨ "Right", 3, 2, false, "", "", 16⟩ rfl
    have f3 := hf 3 ⟨ "Atom", 3, 3, false, "", "", 24⟩ rfl
    have f4 := hf 4 ⟨ "Clause", 44, 4, false, "", "", 32⟩ rfl
    rw [List.getElem?_eq_getElem (by omega)] at f0 f1 f2 f3 f4
    simp only [c1, c3, List.drop_zero, List.drop_succ_cons, List.take_succ_cons, List.take_zero] at f0 f1 f2 f3 f4
    obtain ⟨i0, e0, _, _⟩ := in_int Try.underlying3 f0
    obtain ⟨i1, e1, _, _⟩ := in_int Try.underlying3 f1
    obtain ⟨i2, e2, _, _⟩ := in_int Try.underlying3 f2
    obtain ⟨i3, e3, _, _⟩ := in_int Try.underlying3 f3
    obtain ⟨v, ys, e4, hin, _, hl4⟩ := in_slice (α := Int) (E := EI) (good := fun _ => True) (sz := 1) Try.underlying44 c1 (by omega) (fun n cs x h => by
      obtain ⟨i, rfl, _⟩ := in_int Try.underlying3 h
      exact ⟨i, rfl, trivial⟩) f4
    simp only [List.cons.injEq, and_true] at e0 e1 e2 e3 e4
    subst e0 e1 e2 e3 e4
    exact ⟨⟨i0, i1, i2, i3, ys⟩, ⟨_, rfl, hin⟩, hl4⟩) h
  have hc : v.cells.toList = [v] := by
    cases v <;> first | rfl | exact absurd rfl (hv _)
  rw [hc] at e1
  simp only [List.cons.injEq, and_true] at e1
  subst e1
  refine ⟨_, xs, rfl, ?_, hlen, hgood⟩
  have ea : avT W.heap.size v = avC W.heap.size v := by
    unfold avT
    split
    · rename_i a; exact absurd rfl (hv a)
    · rfl
  rw [ea]; exact hin
set_option maxRecDepth 100000 in
theorem lifted (os : Os) (started : os.Started) (H : Type) (enc : TypeId × Value → H) :
    ReturnsInHanded {} Try.checked os 12 .any (Rows.fnExactTrimChainsSpec.pre6 enc Try.prog Try.f12 Rows.fnExactTrimChainsRow.domain false) (Rows.fnExactTrimChainsSpec.post enc Try.prog Try.f12 false true false false) := by
  refine returnsInHanded_of_change_sized (C := Try.checked) own started (by kernel_rfl) Try.func12
    (ChangeSpec.witness6 (enc := enc) (C := Try.checked) false ⟨#[], #[.agg #[.int .i64 0, .slice none 0 0], .slice none 0 0], []⟩ 8 (by kernel_rfl) (by kernel_rfl) (by kernel_rfl) (by kernel_rfl)) ?_
  intro W base args ds gs before hval0 hW hcnd hsz0 _
  have hval : ∀ (j : Nat) t v, Try.f12.params[j]? = some t → args[j]? = some v → Value.okWide Try.prog W .any base t v := hval0
  have hW' := hW
  obtain ⟨p, q, hA0, hV, rfl, hfz, hnd⟩ := hW
  have hA : DataW.TrodAll enc Try.prog W 0 (fun _ => true) true Try.f12.params.toList args.toList ds p := hA0
  rw [Try.params12] at hA hval
  obtain ⟨v0, vs0, d0, ds0, p0, q0, hargs, rfl, rfl, h0, r0⟩ := trodAll_cons hA
  obtain ⟨v1, vs1, d1, ds1, p1, q1, rfl, rfl, rfl, h1, r1⟩ := trodAll_cons r0
  obtain ⟨rfl, rfl, rfl⟩ := trodAll_nil r1
  obtain rfl : args = #[v0, v1] := by cases args; simp_all
  obtain ⟨rfl, rfl⟩ := trodVars_none hV
  have k0 := h0
  have k1 := h1
  have lt1 : ∀ x ∈ p1, x.block < W.heap.size := by obtain ⟨m, hm⟩ := k1; exact DataW.trod_lt m _ _ _ hm
  have lt0 : ∀ x ∈ p0, x.block < W.heap.size := by obtain ⟨m, hm⟩ := k0; exact DataW.trod_lt m _ _ _ hm
  obtain ⟨n, w, xss, e0, hin, hl, hxl⟩ : ∃ (n : Int) (w : AV) (xss : List (List Int)), avT W.heap.size v0 = .agg [.int .i64 n, w] ∧ InS 1 (EN 1 EI) (heap0 W) w xss ∧ xss.length ≤ 9223372036854775807 ∧ ∀ xs ∈ xss, xs.length ≤ 9223372036854775807 := by
    obtain ⟨m, hm⟩ := h0
    exact up_clauses (wide_struct (hval 0 24 v0 rfl rfl)) hm
  obtain ⟨w1, cs, e1, hin1, hl1, hxl1⟩ : ∃ (w : AV) (cs : List Ch), avT W.heap.size v1 = w ∧ InS 5 ENCh (heap0 W) w cs ∧ cs.length ≤ 9223372036854775807 ∧ ∀ x ∈ cs, x.cl.length ≤ 9223372036854775807 := by
    obtain ⟨m, hm⟩ := h1
    exact up_chains (wide_chains (hval 1 25 v1 rfl rfl)) hm
  clear hA0 hval0 hsz0
  refine (calls_of_acall (P := Try.prog) (f := 12) (vs := [v0, v1]) (W := W) (by rw [List.map_cons, List.map_cons, List.map_nil, e0, e1]; exact law_TrimChains hin hl hxl hin1 hl1 hxl1)).mono fun e W' ⟨he, bel⟩ => ?_
  subst he
  exact ⟨_, rfl, _, _, _, [], _, [], hW', trodAll_mk1 (shut_bool Try.underlying4 _), trodAll_cons_mk (Below.trod laidOut (by kernel_rfl) (of_decide_eq_true (by kernel_rfl)) k0 bel lt0) (trodAll_cons_mk (Below.trod laidOut (by kernel_rfl) (of_decide_eq_true (by kernel_rfl)) k1 bel lt1) trodAll_mk0), rfl, bel.frame _, fun h => by cases h⟩
theorem over : Rows.fnExactTrimChainsRow.holds Try.pinned (OpenSpec.ofChange Rows.fnExactTrimChainsSpec) :=
  OpenClaim.holds_of_wide 12 Try.f12 rfl rfl rfl rfl rfl rfl rfl ⟨rfl, rfl, rfl, rfl, rfl⟩ rfl rfl rfl rfl rfl (by kernel_rfl) Try.func12 (by kernel_rfl)
    (of_decide_eq_true (by kernel_rfl)) (by unfold Func.isWrapper; first | (rw [if_pos (by decide +kernel)]; kernel_rfl) | (rw [if_neg (by decide +kernel)]; exact ⟨rfl, rfl⟩))
    (fun os started H enc _ => lifted os started H enc)
theorem FnExactTrimChains_holds : Rows.FnExactTrimChainsSaid := over
end Go.Proofs.Ythpjcfjemogbeaa
