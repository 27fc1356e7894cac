/-
  No cell of these rows narrows 'for every input' (looked for: loops, veiled, ifaces, maps, wideKeys, modest, calm, conditions, laid).
  DERIVED. THE GIVEN ROWS OF THIS SEAT. 11 by the template 'for every input the law returns true; each argument reads behind the call as it read before'; 0 by the template 'total and deterministic' (their statements: YthpjcfjemogbeaaTotals.lean).
  GIVEN WITH THE SEED: the statements are not yours to turn. If you find one false, say at which input.
  Laid BY PROGRAM, IN A SANDBOX (cutbox-rows.mjs): the forced cells as the released guide's own fill.sh prints them over the translation 92ae56755cdfaa0c… (all of the seat's roots in one cut). By AI agents, Wed Nov 11 2026. No macro, syntax, notation, axiom, sorry.
-/
import Derived.Test.YthpjcfjemogbeaaChecked
import GoSem.Claim
import GoSem.ClaimJoined
import GoSem.ClaimMapViews
import Derived.JoinedTies
import Derived.KernelRfl
namespace Go.Proofs.Ythpjcfjemogbeaa
/- THE CELL 'sum', in the pinned program and in every row, IS THE sha256 OF THE DUMP (.gsa) THAT YthpjcfjemogbeaaProg.lean LOADS. Nothing in Lean hashes anything: it is a label: what it is worth is what the hold of that sum in a sandbox is worth. -/
noncomputable def Try.pinned : Pinned := { name := "ythpjcfjemogbeaa", sum := "92ae56755cdfaa0cebcf3aedca4ea9f41f042efac381303d1452838c2899b5df", checked := Try.checked }
namespace Rows
def none {H : Type} : Left H := { results := [], args := [] }

/-- 'laws.FnExactCheckChains': WHATEVER THE INPUT: true; the input reads as it did. -/
def fnExactCheckChainsSpec : ChangeSpec := { name := "fnExactCheckChains", fn := fun _ => fun
  | [d1, d2] => { results := [.lit (.bool true)], args := [d1, d2] }
  | _ => none }
def fnExactCheckChainsRow : OpenClaim := { program := "ythpjcfjemogbeaa", sum := "92ae56755cdfaa0cebcf3aedca4ea9f41f042efac381303d1452838c2899b5df", func := "loop.example/wholecheck/laws.FnExactCheckChains", spec := "fnExactCheckChains", unfollowed := true, recurses := true, apart := false }
def FnExactCheckChainsSaid : Prop := fnExactCheckChainsRow.holds Try.pinned (OpenSpec.ofChange fnExactCheckChainsSpec)

/-- ITS FALSE NEIGHBOUR: 'it returns false'. Refute it at one input. -/
def fnExactCheckChainsWrong : ChangeSpec := { name := "fnExactCheckChains", fn := fun _ => fun
  | [d1, d2] => { results := [.lit (.bool false)], args := [d1, d2] }
  | _ => none }
def FnExactCheckChainsWrongFalsely : Prop := fnExactCheckChainsRow.holds Try.pinned (OpenSpec.ofChange fnExactCheckChainsWrong)

/-- 'laws.FnExactDecide': WHATEVER THE INPUT: true; the input reads as it did. -/
def fnExactDecideSpec : ChangeSpec := { name := "fnExactDecide", fn := fun _ => fun
  | [d] => { results := [.lit (.bool true)], args := [d] }
  | _ => none }
def fnExactDecideRow : OpenClaim := { program := "ythpjcfjemogbeaa", sum := "92ae56755cdfaa0cebcf3aedca4ea9f41f042efac381303d1452838c2899b5df", func := "loop.example/wholecheck/laws.FnExactDecide", spec := "fnExactDecide", unfollowed := true, recurses := true, apart := false }
def FnExactDecideSaid : Prop := fnExactDecideRow.holds Try.pinned (OpenSpec.ofChange fnExactDecideSpec)

/-- ITS FALSE NEIGHBOUR: 'it returns false'. Refute it at one input. -/
def fnExactDecideWrong : ChangeSpec := { name := "fnExactDecide", fn := fun _ => fun
  | [d] => { results := [.lit (.bool false)], args := [d] }
  | _ => none }
def FnExactDecideWrongFalsely : Prop := fnExactDecideRow.holds Try.pinned (OpenSpec.ofChange fnExactDecideWrong)

/-- 'laws.FnRefuteSteps': WHATEVER THE INPUT: true; the input reads as it did. -/
def fnRefuteStepsSpec : ChangeSpec := { name := "fnRefuteSteps", fn := fun _ => fun
  | [d] => { results := [.lit (.bool true)], args := [d] }
  | _ => none }
def fnRefuteStepsRow : OpenClaim := { program := "ythpjcfjemogbeaa", sum := "92ae56755cdfaa0cebcf3aedca4ea9f41f042efac381303d1452838c2899b5df", func := "loop.example/wholecheck/laws.FnRefuteSteps", spec := "fnRefuteSteps", unfollowed := true, recurses := true, apart := false }
def FnRefuteStepsSaid : Prop := fnRefuteStepsRow.holds Try.pinned (OpenSpec.ofChange fnRefuteStepsSpec)

/-- ITS FALSE NEIGHBOUR: 'it returns false'. Refute it at one input. -/
def fnRefuteStepsWrong : ChangeSpec := { name := "fnRefuteSteps", fn := fun _ => fun
  | [d] => { results := [.lit (.bool false)], args := [d] }
  | _ => none }
def FnRefuteStepsWrongFalsely : Prop := fnRefuteStepsRow.holds Try.pinned (OpenSpec.ofChange fnRefuteStepsWrong)

/-- 'laws.FnExactSolve': WHATEVER THE INPUT: true; the input reads as it did. -/
def fnExactSolveSpec : ChangeSpec := { name := "fnExactSolve", fn := fun _ => fun
  | [d] => { results := [.lit (.bool true)], args := [d] }
  | _ => none }
def fnExactSolveRow : OpenClaim := { program := "ythpjcfjemogbeaa", sum := "92ae56755cdfaa0cebcf3aedca4ea9f41f042efac381303d1452838c2899b5df", func := "loop.example/wholecheck/laws.FnExactSolve", spec := "fnExactSolve", unfollowed := true, recurses := true, apart := false }
def FnExactSolveSaid : Prop := fnExactSolveRow.holds Try.pinned (OpenSpec.ofChange fnExactSolveSpec)

/-- ITS FALSE NEIGHBOUR: 'it returns false'. Refute it at one input. -/
def fnExactSolveWrong : ChangeSpec := { name := "fnExactSolve", fn := fun _ => fun
  | [d] => { results := [.lit (.bool false)], args := [d] }
  | _ => none }
def FnExactSolveWrongFalsely : Prop := fnExactSolveRow.holds Try.pinned (OpenSpec.ofChange fnExactSolveWrong)

/-- 'laws.FnExactRefute': WHATEVER THE INPUT: true; the input reads as it did. -/
def fnExactRefuteSpec : ChangeSpec := { name := "fnExactRefute", fn := fun _ => fun
  | [d] => { results := [.lit (.bool true)], args := [d] }
  | _ => none }
def fnExactRefuteRow : OpenClaim := { program := "ythpjcfjemogbeaa", sum := "92ae56755cdfaa0cebcf3aedca4ea9f41f042efac381303d1452838c2899b5df", func := "loop.example/wholecheck/laws.FnExactRefute", spec := "fnExactRefute", unfollowed := true, recurses := true, apart := false }
def FnExactRefuteSaid : Prop := fnExactRefuteRow.holds Try.pinned (OpenSpec.ofChange fnExactRefuteSpec)

/-- ITS FALSE NEIGHBOUR: 'it returns false'. Refute it at one input. -/
def fnExactRefuteWrong : ChangeSpec := { name := "fnExactRefute", fn := fun _ => fun
  | [d] => { results := [.lit (.bool false)], args := [d] }
  | _ => none }
def FnExactRefuteWrongFalsely : Prop := fnExactRefuteRow.holds Try.pinned (OpenSpec.ofChange fnExactRefuteWrong)

/-- 'laws.FnFirstValues': WHATEVER THE INPUT: true; the input reads as it did. -/
def fnFirstValuesSpec : ChangeSpec := { name := "fnFirstValues", fn := fun _ => fun
  | [d] => { results := [.lit (.bool true)], args := [d] }
  | _ => none }
def fnFirstValuesRow : OpenClaim := { program := "ythpjcfjemogbeaa", sum := "92ae56755cdfaa0cebcf3aedca4ea9f41f042efac381303d1452838c2899b5df", func := "loop.example/wholecheck/laws.FnFirstValues", spec := "fnFirstValues", unfollowed := true, recurses := true, apart := false }
def FnFirstValuesSaid : Prop := fnFirstValuesRow.holds Try.pinned (OpenSpec.ofChange fnFirstValuesSpec)

/-- ITS FALSE NEIGHBOUR: 'it returns false'. Refute it at one input. -/
def fnFirstValuesWrong : ChangeSpec := { name := "fnFirstValues", fn := fun _ => fun
  | [d] => { results := [.lit (.bool false)], args := [d] }
  | _ => none }
def FnFirstValuesWrongFalsely : Prop := fnFirstValuesRow.holds Try.pinned (OpenSpec.ofChange fnFirstValuesWrong)

/-- 'laws.FnSolveOrRefute': WHATEVER THE INPUT: true; the input reads as it did. -/
def fnSolveOrRefuteSpec : ChangeSpec := { name := "fnSolveOrRefute", fn := fun _ => fun
  | [d] => { results := [.lit (.bool true)], args := [d] }
  | _ => none }
def fnSolveOrRefuteRow : OpenClaim := { program := "ythpjcfjemogbeaa", sum := "92ae56755cdfaa0cebcf3aedca4ea9f41f042efac381303d1452838c2899b5df", func := "loop.example/wholecheck/laws.FnSolveOrRefute", spec := "fnSolveOrRefute", unfollowed := true, recurses := true, apart := false }
def FnSolveOrRefuteSaid : Prop := fnSolveOrRefuteRow.holds Try.pinned (OpenSpec.ofChange fnSolveOrRefuteSpec)

/-- ITS FALSE NEIGHBOUR: 'it returns false'. Refute it at one input. -/
def fnSolveOrRefuteWrong : ChangeSpec := { name := "fnSolveOrRefute", fn := fun _ => fun
  | [d] => { results := [.lit (.bool false)], args := [d] }
  | _ => none }
def FnSolveOrRefuteWrongFalsely : Prop := fnSolveOrRefuteRow.holds Try.pinned (OpenSpec.ofChange fnSolveOrRefuteWrong)

/-- 'laws.FnExactNeededIn': WHATEVER THE INPUT: true; the input reads as it did. -/
def fnExactNeededInSpec : ChangeSpec := { name := "fnExactNeededIn", fn := fun _ => fun
  | [d1, d2] => { results := [.lit (.bool true)], args := [d1, d2] }
  | _ => none }
def fnExactNeededInRow : OpenClaim := { program := "ythpjcfjemogbeaa", sum := "92ae56755cdfaa0cebcf3aedca4ea9f41f042efac381303d1452838c2899b5df", func := "loop.example/wholecheck/laws.FnExactNeededIn", spec := "fnExactNeededIn", unfollowed := true, recurses := true, apart := false }
def FnExactNeededInSaid : Prop := fnExactNeededInRow.holds Try.pinned (OpenSpec.ofChange fnExactNeededInSpec)

/-- ITS FALSE NEIGHBOUR: 'it returns false'. Refute it at one input. -/
def fnExactNeededInWrong : ChangeSpec := { name := "fnExactNeededIn", fn := fun _ => fun
  | [d1, d2] => { results := [.lit (.bool false)], args := [d1, d2] }
  | _ => none }
def FnExactNeededInWrongFalsely : Prop := fnExactNeededInRow.holds Try.pinned (OpenSpec.ofChange fnExactNeededInWrong)

/-- 'laws.FnCheckProof': WHATEVER THE INPUT: true; the input reads as it did. -/
def fnCheckProofSpec : ChangeSpec := { name := "fnCheckProof", fn := fun _ => fun
  | [d] => { results := [.lit (.bool true)], args := [d] }
  | _ => none }
def fnCheckProofRow : OpenClaim := { program := "ythpjcfjemogbeaa", sum := "92ae56755cdfaa0cebcf3aedca4ea9f41f042efac381303d1452838c2899b5df", func := "loop.example/wholecheck/laws.FnCheckProof", spec := "fnCheckProof", unfollowed := true, recurses := true, apart := false }
def FnCheckProofSaid : Prop := fnCheckProofRow.holds Try.pinned (OpenSpec.ofChange fnCheckProofSpec)

/-- ITS FALSE NEIGHBOUR: 'it returns false'. Refute it at one input. -/
def fnCheckProofWrong : ChangeSpec := { name := "fnCheckProof", fn := fun _ => fun
  | [d] => { results := [.lit (.bool false)], args := [d] }
  | _ => none }
def FnCheckProofWrongFalsely : Prop := fnCheckProofRow.holds Try.pinned (OpenSpec.ofChange fnCheckProofWrong)

/-- 'laws.FnExactTrimChains': WHATEVER THE INPUT: true; the input reads as it did. -/
def fnExactTrimChainsSpec : ChangeSpec := { name := "fnExactTrimChains", fn := fun _ => fun
  | [d1, d2] => { results := [.lit (.bool true)], args := [d1, d2] }
  | _ => none }
def fnExactTrimChainsRow : OpenClaim := { program := "ythpjcfjemogbeaa", sum := "92ae56755cdfaa0cebcf3aedca4ea9f41f042efac381303d1452838c2899b5df", func := "loop.example/wholecheck/laws.FnExactTrimChains", spec := "fnExactTrimChains", unfollowed := true, recurses := true, apart := false }
def FnExactTrimChainsSaid : Prop := fnExactTrimChainsRow.holds Try.pinned (OpenSpec.ofChange fnExactTrimChainsSpec)

/-- ITS FALSE NEIGHBOUR: 'it returns false'. Refute it at one input. -/
def fnExactTrimChainsWrong : ChangeSpec := { name := "fnExactTrimChains", fn := fun _ => fun
  | [d1, d2] => { results := [.lit (.bool false)], args := [d1, d2] }
  | _ => none }
def FnExactTrimChainsWrongFalsely : Prop := fnExactTrimChainsRow.holds Try.pinned (OpenSpec.ofChange fnExactTrimChainsWrong)

/-- 'laws.FnNeededIn': WHATEVER THE INPUT: true; the input reads as it did. -/
def fnNeededInSpec : ChangeSpec := { name := "fnNeededIn", fn := fun _ => fun
  | [d] => { results := [.lit (.bool true)], args := [d] }
  | _ => none }
def fnNeededInRow : OpenClaim := { program := "ythpjcfjemogbeaa", sum := "92ae56755cdfaa0cebcf3aedca4ea9f41f042efac381303d1452838c2899b5df", func := "loop.example/wholecheck/laws.FnNeededIn", spec := "fnNeededIn", unfollowed := true, recurses := true, apart := false }
def FnNeededInSaid : Prop := fnNeededInRow.holds Try.pinned (OpenSpec.ofChange fnNeededInSpec)

/-- ITS FALSE NEIGHBOUR: 'it returns false'. Refute it at one input. -/
def fnNeededInWrong : ChangeSpec := { name := "fnNeededIn", fn := fun _ => fun
  | [d] => { results := [.lit (.bool false)], args := [d] }
  | _ => none }
def FnNeededInWrongFalsely : Prop := fnNeededInRow.holds Try.pinned (OpenSpec.ofChange fnNeededInWrong)

/- THE SECOND FORM. 'bulk': how many values and letters a reading holds, each counted each time it is reached (what is shared counts as often as it is met; a slice's spare places count too). A statement '..UptoSaid' is the law's where the arguments, and the package variables that the reading takes, are together of bulk at most 1048576: NARROWER than '..Said'. Prove '..Said' where nothing that the law and all that it calls make is longer than what came in: it says more and counts as full. Else prove '..UptoSaid'. A law counts once. -/
mutual
def uptoBulk {H : Type} : DataW H → Nat
  | .lit (.string bytes) => bytes.length + 1
  | .lit _ => 1
  | .nil => 1
  | .ptr d => uptoBulk d + 1
  | .slice elems spare => uptoBulkAll elems + uptoBulkAll spare + 1
  | .agg parts => uptoBulkAll parts + 1
  | .iface _ d => uptoBulk d + 1
  | .map entries => uptoBulkEntries entries + 1
  | .held _ => 1
def uptoBulkAll {H : Type} : List (DataW H) → Nat
  | [] => 0
  | d :: r => uptoBulk d + uptoBulkAll r
def uptoBulkEntries {H : Type} : List (Lit × DataW H) → Nat
  | [] => 0
  | x :: r => uptoBulkEntry x + uptoBulkEntries r
def uptoBulkEntry {H : Type} : Lit × DataW H → Nat
  | (.string bytes, d) => bytes.length + uptoBulk d + 1
  | (_, d) => uptoBulk d + 1
 end
def uptoSmall : (H : Type) → List (DataW H) → Bool := fun _ ds => decide (uptoBulkAll ds ≤ 1048576)
def OpenSpec.upto (s : _root_.Go.ChangeSpec) : _root_.Go.OpenSpec := { _root_.Go.OpenSpec.ofChange s with cond := some uptoSmall }

/-- 'laws.FnExactCheckChains', WHERE WHAT IT READS IS OF BULK AT MOST 1048576: true; the input reads as it did. -/
def fnExactCheckChainsUptoRow : OpenClaim := { program := "ythpjcfjemogbeaa", sum := "92ae56755cdfaa0cebcf3aedca4ea9f41f042efac381303d1452838c2899b5df", func := "loop.example/wholecheck/laws.FnExactCheckChains", spec := "fnExactCheckChains", unfollowed := true, recurses := true, apart := false, narrowed := true }
def FnExactCheckChainsUptoSaid : Prop := fnExactCheckChainsUptoRow.holds Try.pinned (OpenSpec.upto fnExactCheckChainsSpec)

/-- 'laws.FnExactDecide', WHERE WHAT IT READS IS OF BULK AT MOST 1048576: true; the input reads as it did. -/
def fnExactDecideUptoRow : OpenClaim := { program := "ythpjcfjemogbeaa", sum := "92ae56755cdfaa0cebcf3aedca4ea9f41f042efac381303d1452838c2899b5df", func := "loop.example/wholecheck/laws.FnExactDecide", spec := "fnExactDecide", unfollowed := true, recurses := true, apart := false, narrowed := true }
def FnExactDecideUptoSaid : Prop := fnExactDecideUptoRow.holds Try.pinned (OpenSpec.upto fnExactDecideSpec)

/-- 'laws.FnRefuteSteps', WHERE WHAT IT READS IS OF BULK AT MOST 1048576: true; the input reads as it did. -/
def fnRefuteStepsUptoRow : OpenClaim := { program := "ythpjcfjemogbeaa", sum := "92ae56755cdfaa0cebcf3aedca4ea9f41f042efac381303d1452838c2899b5df", func := "loop.example/wholecheck/laws.FnRefuteSteps", spec := "fnRefuteSteps", unfollowed := true, recurses := true, apart := false, narrowed := true }
def FnRefuteStepsUptoSaid : Prop := fnRefuteStepsUptoRow.holds Try.pinned (OpenSpec.upto fnRefuteStepsSpec)

/-- 'laws.FnExactSolve', WHERE WHAT IT READS IS OF BULK AT MOST 1048576: true; the input reads as it did. -/
def fnExactSolveUptoRow : OpenClaim := { program := "ythpjcfjemogbeaa", sum := "92ae56755cdfaa0cebcf3aedca4ea9f41f042efac381303d1452838c2899b5df", func := "loop.example/wholecheck/laws.FnExactSolve", spec := "fnExactSolve", unfollowed := true, recurses := true, apart := false, narrowed := true }
def FnExactSolveUptoSaid : Prop := fnExactSolveUptoRow.holds Try.pinned (OpenSpec.upto fnExactSolveSpec)

/-- 'laws.FnExactRefute', WHERE WHAT IT READS IS OF BULK AT MOST 1048576: true; the input reads as it did. -/
def fnExactRefuteUptoRow : OpenClaim := { program := "ythpjcfjemogbeaa", sum := "92ae56755cdfaa0cebcf3aedca4ea9f41f042efac381303d1452838c2899b5df", func := "loop.example/wholecheck/laws.FnExactRefute", spec := "fnExactRefute", unfollowed := true, recurses := true, apart := false, narrowed := true }
def FnExactRefuteUptoSaid : Prop := fnExactRefuteUptoRow.holds Try.pinned (OpenSpec.upto fnExactRefuteSpec)

/-- 'laws.FnFirstValues', WHERE WHAT IT READS IS OF BULK AT MOST 1048576: true; the input reads as it did. -/
def fnFirstValuesUptoRow : OpenClaim := { program := "ythpjcfjemogbeaa", sum := "92ae56755cdfaa0cebcf3aedca4ea9f41f042efac381303d1452838c2899b5df", func := "loop.example/wholecheck/laws.FnFirstValues", spec := "fnFirstValues", unfollowed := true, recurses := true, apart := false, narrowed := true }
def FnFirstValuesUptoSaid : Prop := fnFirstValuesUptoRow.holds Try.pinned (OpenSpec.upto fnFirstValuesSpec)

/-- 'laws.FnSolveOrRefute', WHERE WHAT IT READS IS OF BULK AT MOST 1048576: true; the input reads as it did. -/
def fnSolveOrRefuteUptoRow : OpenClaim := { program := "ythpjcfjemogbeaa", sum := "92ae56755cdfaa0cebcf3aedca4ea9f41f042efac381303d1452838c2899b5df", func := "loop.example/wholecheck/laws.FnSolveOrRefute", spec := "fnSolveOrRefute", unfollowed := true, recurses := true, apart := false, narrowed := true }
def FnSolveOrRefuteUptoSaid : Prop := fnSolveOrRefuteUptoRow.holds Try.pinned (OpenSpec.upto fnSolveOrRefuteSpec)

/-- 'laws.FnExactNeededIn', WHERE WHAT IT READS IS OF BULK AT MOST 1048576: true; the input reads as it did. -/
def fnExactNeededInUptoRow : OpenClaim := { program := "ythpjcfjemogbeaa", sum := "92ae56755cdfaa0cebcf3aedca4ea9f41f042efac381303d1452838c2899b5df", func := "loop.example/wholecheck/laws.FnExactNeededIn", spec := "fnExactNeededIn", unfollowed := true, recurses := true, apart := false, narrowed := true }
def FnExactNeededInUptoSaid : Prop := fnExactNeededInUptoRow.holds Try.pinned (OpenSpec.upto fnExactNeededInSpec)

/-- 'laws.FnCheckProof', WHERE WHAT IT READS IS OF BULK AT MOST 1048576: true; the input reads as it did. -/
def fnCheckProofUptoRow : OpenClaim := { program := "ythpjcfjemogbeaa", sum := "92ae56755cdfaa0cebcf3aedca4ea9f41f042efac381303d1452838c2899b5df", func := "loop.example/wholecheck/laws.FnCheckProof", spec := "fnCheckProof", unfollowed := true, recurses := true, apart := false, narrowed := true }
def FnCheckProofUptoSaid : Prop := fnCheckProofUptoRow.holds Try.pinned (OpenSpec.upto fnCheckProofSpec)

/-- 'laws.FnExactTrimChains', WHERE WHAT IT READS IS OF BULK AT MOST 1048576: true; the input reads as it did. -/
def fnExactTrimChainsUptoRow : OpenClaim := { program := "ythpjcfjemogbeaa", sum := "92ae56755cdfaa0cebcf3aedca4ea9f41f042efac381303d1452838c2899b5df", func := "loop.example/wholecheck/laws.FnExactTrimChains", spec := "fnExactTrimChains", unfollowed := true, recurses := true, apart := false, narrowed := true }
def FnExactTrimChainsUptoSaid : Prop := fnExactTrimChainsUptoRow.holds Try.pinned (OpenSpec.upto fnExactTrimChainsSpec)

/-- 'laws.FnNeededIn', WHERE WHAT IT READS IS OF BULK AT MOST 1048576: true; the input reads as it did. -/
def fnNeededInUptoRow : OpenClaim := { program := "ythpjcfjemogbeaa", sum := "92ae56755cdfaa0cebcf3aedca4ea9f41f042efac381303d1452838c2899b5df", func := "loop.example/wholecheck/laws.FnNeededIn", spec := "fnNeededIn", unfollowed := true, recurses := true, apart := false, narrowed := true }
def FnNeededInUptoSaid : Prop := fnNeededInUptoRow.holds Try.pinned (OpenSpec.upto fnNeededInSpec)

end Rows
end Go.Proofs.Ythpjcfjemogbeaa
