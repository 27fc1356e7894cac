/-
  No cell of these rows narrows 'for every input' (looked for: loops, veiled, ifaces, maps, wideKeys, modest, calm, conditions, laid).
  DERIVED. THE GIVEN ROWS OF THIS SEAT. 11 by the template 'for every input the law returns true; each argument reads behind the call as it read before'; 0 by the template 'total and deterministic' (their statements: YtpglaahejpkkdaaGreatTotals.lean).
  GIVEN WITH THE SEED: the statements are not yours to turn. If you find one false, say at which input.
  Laid BY PROGRAM, IN A SANDBOX (cutbox-rows.mjs): the forced cells as the released guide's own fill.sh prints them over the translation 6330fada56203d87… (all of the seat's roots in one cut). By AI agents, Wed Nov 11 2026. No macro, syntax, notation, axiom, sorry.
-/
import Derived.Test.YtpglaahejpkkdaaGreatChecked
import GoSem.Claim
import GoSem.ClaimJoined
import GoSem.ClaimMapViews
import Derived.JoinedTies
import Derived.KernelRfl
namespace Go.Proofs.YtpglaahejpkkdaaGreat
/- THE CELL 'sum', in the pinned program and in every row, IS THE sha256 OF THE DUMP (.gsa) THAT YtpglaahejpkkdaaGreatProg.lean LOADS. Nothing in Lean hashes anything: it is a label: what it is worth is what the hold of that sum in a sandbox is worth. -/
noncomputable def Tryz.pinned : Pinned := { name := "ytpglaahejpkkdaagreat", sum := "6330fada56203d8795c02d97803e8f1f4604f617b452367dc1442f4330c93d36", checked := Tryz.checked }
namespace Rows
def none {H : Type} : Left H := { results := [], args := [] }

/-- 'laws.FnExactNextNumbers': WHATEVER THE INPUT: true; the input reads as it did. -/
def fnExactNextNumbersSpec : ChangeSpec := { name := "fnExactNextNumbers", fn := fun _ => fun
  | [d1, d2] => { results := [.lit (.bool true)], args := [d1, d2] }
  | _ => none }
def fnExactNextNumbersRow : OpenClaim := { program := "ytpglaahejpkkdaagreat", sum := "6330fada56203d8795c02d97803e8f1f4604f617b452367dc1442f4330c93d36", func := "loop.example/wholecheck/laws.FnExactNextNumbers", spec := "fnExactNextNumbers", inPlace := ["slices.overlaps[[]int]"], unfollowed := true, recurses := true, apart := false }
def FnExactNextNumbersSaid : Prop := fnExactNextNumbersRow.holds Tryz.pinned (OpenSpec.ofChange fnExactNextNumbersSpec)

/-- ITS FALSE NEIGHBOUR: 'it returns false'. Refute it at one input. -/
def fnExactNextNumbersWrong : ChangeSpec := { name := "fnExactNextNumbers", fn := fun _ => fun
  | [d1, d2] => { results := [.lit (.bool false)], args := [d1, d2] }
  | _ => none }
def FnExactNextNumbersWrongFalsely : Prop := fnExactNextNumbersRow.holds Tryz.pinned (OpenSpec.ofChange fnExactNextNumbersWrong)

/-- 'laws.FnExactPastNumbers': WHATEVER THE INPUT: true; the input reads as it did. -/
def fnExactPastNumbersSpec : ChangeSpec := { name := "fnExactPastNumbers", fn := fun _ => fun
  | [d1, d2] => { results := [.lit (.bool true)], args := [d1, d2] }
  | _ => none }
def fnExactPastNumbersRow : OpenClaim := { program := "ytpglaahejpkkdaagreat", sum := "6330fada56203d8795c02d97803e8f1f4604f617b452367dc1442f4330c93d36", func := "loop.example/wholecheck/laws.FnExactPastNumbers", spec := "fnExactPastNumbers", inPlace := ["slices.overlaps[[]int]"], unfollowed := true, recurses := true, apart := false }
def FnExactPastNumbersSaid : Prop := fnExactPastNumbersRow.holds Tryz.pinned (OpenSpec.ofChange fnExactPastNumbersSpec)

/-- ITS FALSE NEIGHBOUR: 'it returns false'. Refute it at one input. -/
def fnExactPastNumbersWrong : ChangeSpec := { name := "fnExactPastNumbers", fn := fun _ => fun
  | [d1, d2] => { results := [.lit (.bool false)], args := [d1, d2] }
  | _ => none }
def FnExactPastNumbersWrongFalsely : Prop := fnExactPastNumbersRow.holds Tryz.pinned (OpenSpec.ofChange fnExactPastNumbersWrong)

/-- 'laws.FnExactStuckStates': WHATEVER THE INPUT: true; the input reads as it did. -/
def fnExactStuckStatesSpec : ChangeSpec := { name := "fnExactStuckStates", fn := fun _ => fun
  | [d] => { results := [.lit (.bool true)], args := [d] }
  | _ => none }
def fnExactStuckStatesRow : OpenClaim := { program := "ytpglaahejpkkdaagreat", sum := "6330fada56203d8795c02d97803e8f1f4604f617b452367dc1442f4330c93d36", func := "loop.example/wholecheck/laws.FnExactStuckStates", spec := "fnExactStuckStates", inPlace := ["slices.overlaps[[]int]"], unfollowed := true, recurses := true, apart := false }
def FnExactStuckStatesSaid : Prop := fnExactStuckStatesRow.holds Tryz.pinned (OpenSpec.ofChange fnExactStuckStatesSpec)

/-- ITS FALSE NEIGHBOUR: 'it returns false'. Refute it at one input. -/
def fnExactStuckStatesWrong : ChangeSpec := { name := "fnExactStuckStates", fn := fun _ => fun
  | [d] => { results := [.lit (.bool false)], args := [d] }
  | _ => none }
def FnExactStuckStatesWrongFalsely : Prop := fnExactStuckStatesRow.holds Tryz.pinned (OpenSpec.ofChange fnExactStuckStatesWrong)

/-- 'laws.FnExactReachOf': WHATEVER THE INPUT: true; the input reads as it did. -/
def fnExactReachOfSpec : ChangeSpec := { name := "fnExactReachOf", fn := fun _ => fun
  | [d] => { results := [.lit (.bool true)], args := [d] }
  | _ => none }
def fnExactReachOfRow : OpenClaim := { program := "ytpglaahejpkkdaagreat", sum := "6330fada56203d8795c02d97803e8f1f4604f617b452367dc1442f4330c93d36", func := "loop.example/wholecheck/laws.FnExactReachOf", spec := "fnExactReachOf", inPlace := ["slices.overlaps[[]int]"], unfollowed := true, recurses := true, apart := false }
def FnExactReachOfSaid : Prop := fnExactReachOfRow.holds Tryz.pinned (OpenSpec.ofChange fnExactReachOfSpec)

/-- ITS FALSE NEIGHBOUR: 'it returns false'. Refute it at one input. -/
def fnExactReachOfWrong : ChangeSpec := { name := "fnExactReachOf", fn := fun _ => fun
  | [d] => { results := [.lit (.bool false)], args := [d] }
  | _ => none }
def FnExactReachOfWrongFalsely : Prop := fnExactReachOfRow.holds Tryz.pinned (OpenSpec.ofChange fnExactReachOfWrong)

/-- 'laws.FnExactStepsTo': WHATEVER THE INPUT: true; the input reads as it did. -/
def fnExactStepsToSpec : ChangeSpec := { name := "fnExactStepsTo", fn := fun _ => fun
  | [d] => { results := [.lit (.bool true)], args := [d] }
  | _ => none }
def fnExactStepsToRow : OpenClaim := { program := "ytpglaahejpkkdaagreat", sum := "6330fada56203d8795c02d97803e8f1f4604f617b452367dc1442f4330c93d36", func := "loop.example/wholecheck/laws.FnExactStepsTo", spec := "fnExactStepsTo", inPlace := ["slices.overlaps[[]int]"], unfollowed := true, recurses := true, apart := false }
def FnExactStepsToSaid : Prop := fnExactStepsToRow.holds Tryz.pinned (OpenSpec.ofChange fnExactStepsToSpec)

/-- ITS FALSE NEIGHBOUR: 'it returns false'. Refute it at one input. -/
def fnExactStepsToWrong : ChangeSpec := { name := "fnExactStepsTo", fn := fun _ => fun
  | [d] => { results := [.lit (.bool false)], args := [d] }
  | _ => none }
def FnExactStepsToWrongFalsely : Prop := fnExactStepsToRow.holds Tryz.pinned (OpenSpec.ofChange fnExactStepsToWrong)

/-- 'laws.FnExactClosed': WHATEVER THE INPUT: true; the input reads as it did. -/
def fnExactClosedSpec : ChangeSpec := { name := "fnExactClosed", fn := fun _ => fun
  | [d1, d2] => { results := [.lit (.bool true)], args := [d1, d2] }
  | _ => none }
def fnExactClosedRow : OpenClaim := { program := "ytpglaahejpkkdaagreat", sum := "6330fada56203d8795c02d97803e8f1f4604f617b452367dc1442f4330c93d36", func := "loop.example/wholecheck/laws.FnExactClosed", spec := "fnExactClosed", inPlace := ["slices.overlaps[[]int]"], unfollowed := true, recurses := true, apart := false }
def FnExactClosedSaid : Prop := fnExactClosedRow.holds Tryz.pinned (OpenSpec.ofChange fnExactClosedSpec)

/-- ITS FALSE NEIGHBOUR: 'it returns false'. Refute it at one input. -/
def fnExactClosedWrong : ChangeSpec := { name := "fnExactClosed", fn := fun _ => fun
  | [d1, d2] => { results := [.lit (.bool false)], args := [d1, d2] }
  | _ => none }
def FnExactClosedWrongFalsely : Prop := fnExactClosedRow.holds Tryz.pinned (OpenSpec.ofChange fnExactClosedWrong)

/-- 'laws.FnExactAlways': WHATEVER THE INPUT: true; the input reads as it did. -/
def fnExactAlwaysSpec : ChangeSpec := { name := "fnExactAlways", fn := fun _ => fun
  | [d1, d2] => { results := [.lit (.bool true)], args := [d1, d2] }
  | _ => none }
def fnExactAlwaysRow : OpenClaim := { program := "ytpglaahejpkkdaagreat", sum := "6330fada56203d8795c02d97803e8f1f4604f617b452367dc1442f4330c93d36", func := "loop.example/wholecheck/laws.FnExactAlways", spec := "fnExactAlways", inPlace := ["slices.overlaps[[]int]"], unfollowed := true, recurses := true, apart := false }
def FnExactAlwaysSaid : Prop := fnExactAlwaysRow.holds Tryz.pinned (OpenSpec.ofChange fnExactAlwaysSpec)

/-- ITS FALSE NEIGHBOUR: 'it returns false'. Refute it at one input. -/
def fnExactAlwaysWrong : ChangeSpec := { name := "fnExactAlways", fn := fun _ => fun
  | [d1, d2] => { results := [.lit (.bool false)], args := [d1, d2] }
  | _ => none }
def FnExactAlwaysWrongFalsely : Prop := fnExactAlwaysRow.holds Tryz.pinned (OpenSpec.ofChange fnExactAlwaysWrong)

/-- 'laws.FnExactProves': WHATEVER THE INPUT: true; the input reads as it did. -/
def fnExactProvesSpec : ChangeSpec := { name := "fnExactProves", fn := fun _ => fun
  | [d1, d2, d3] => { results := [.lit (.bool true)], args := [d1, d2, d3] }
  | _ => none }
def fnExactProvesRow : OpenClaim := { program := "ytpglaahejpkkdaagreat", sum := "6330fada56203d8795c02d97803e8f1f4604f617b452367dc1442f4330c93d36", func := "loop.example/wholecheck/laws.FnExactProves", spec := "fnExactProves", inPlace := ["slices.overlaps[[]int]"], unfollowed := true, recurses := true, apart := false }
def FnExactProvesSaid : Prop := fnExactProvesRow.holds Tryz.pinned (OpenSpec.ofChange fnExactProvesSpec)

/-- ITS FALSE NEIGHBOUR: 'it returns false'. Refute it at one input. -/
def fnExactProvesWrong : ChangeSpec := { name := "fnExactProves", fn := fun _ => fun
  | [d1, d2, d3] => { results := [.lit (.bool false)], args := [d1, d2, d3] }
  | _ => none }
def FnExactProvesWrongFalsely : Prop := fnExactProvesRow.holds Tryz.pinned (OpenSpec.ofChange fnExactProvesWrong)

/-- 'laws.FnExactHoldsWithin': WHATEVER THE INPUT: true; the input reads as it did. -/
def fnExactHoldsWithinSpec : ChangeSpec := { name := "fnExactHoldsWithin", fn := fun _ => fun
  | [d1, d2, d3] => { results := [.lit (.bool true)], args := [d1, d2, d3] }
  | _ => none }
def fnExactHoldsWithinRow : OpenClaim := { program := "ytpglaahejpkkdaagreat", sum := "6330fada56203d8795c02d97803e8f1f4604f617b452367dc1442f4330c93d36", func := "loop.example/wholecheck/laws.FnExactHoldsWithin", spec := "fnExactHoldsWithin", inPlace := ["slices.overlaps[[]int]"], unfollowed := true, recurses := true, apart := false }
def FnExactHoldsWithinSaid : Prop := fnExactHoldsWithinRow.holds Tryz.pinned (OpenSpec.ofChange fnExactHoldsWithinSpec)

/-- ITS FALSE NEIGHBOUR: 'it returns false'. Refute it at one input. -/
def fnExactHoldsWithinWrong : ChangeSpec := { name := "fnExactHoldsWithin", fn := fun _ => fun
  | [d1, d2, d3] => { results := [.lit (.bool false)], args := [d1, d2, d3] }
  | _ => none }
def FnExactHoldsWithinWrongFalsely : Prop := fnExactHoldsWithinRow.holds Tryz.pinned (OpenSpec.ofChange fnExactHoldsWithinWrong)

/-- 'laws.FnExactShownWithin': WHATEVER THE INPUT: true; the input reads as it did. -/
def fnExactShownWithinSpec : ChangeSpec := { name := "fnExactShownWithin", fn := fun _ => fun
  | [d1, d2, d3] => { results := [.lit (.bool true)], args := [d1, d2, d3] }
  | _ => none }
def fnExactShownWithinRow : OpenClaim := { program := "ytpglaahejpkkdaagreat", sum := "6330fada56203d8795c02d97803e8f1f4604f617b452367dc1442f4330c93d36", func := "loop.example/wholecheck/laws.FnExactShownWithin", spec := "fnExactShownWithin", inPlace := ["slices.overlaps[[]int]"], unfollowed := true, recurses := true, apart := false }
def FnExactShownWithinSaid : Prop := fnExactShownWithinRow.holds Tryz.pinned (OpenSpec.ofChange fnExactShownWithinSpec)

/-- ITS FALSE NEIGHBOUR: 'it returns false'. Refute it at one input. -/
def fnExactShownWithinWrong : ChangeSpec := { name := "fnExactShownWithin", fn := fun _ => fun
  | [d1, d2, d3] => { results := [.lit (.bool false)], args := [d1, d2, d3] }
  | _ => none }
def FnExactShownWithinWrongFalsely : Prop := fnExactShownWithinRow.holds Tryz.pinned (OpenSpec.ofChange fnExactShownWithinWrong)

/-- 'laws.FnExactFramesValid': WHATEVER THE INPUT: true; the input reads as it did. -/
def fnExactFramesValidSpec : ChangeSpec := { name := "fnExactFramesValid", fn := fun _ => fun
  | [d1, d2] => { results := [.lit (.bool true)], args := [d1, d2] }
  | _ => none }
def fnExactFramesValidRow : OpenClaim := { program := "ytpglaahejpkkdaagreat", sum := "6330fada56203d8795c02d97803e8f1f4604f617b452367dc1442f4330c93d36", func := "loop.example/wholecheck/laws.FnExactFramesValid", spec := "fnExactFramesValid", inPlace := ["slices.overlaps[[]int]"], unfollowed := true, recurses := true, apart := false }
def FnExactFramesValidSaid : Prop := fnExactFramesValidRow.holds Tryz.pinned (OpenSpec.ofChange fnExactFramesValidSpec)

/-- ITS FALSE NEIGHBOUR: 'it returns false'. Refute it at one input. -/
def fnExactFramesValidWrong : ChangeSpec := { name := "fnExactFramesValid", fn := fun _ => fun
  | [d1, d2] => { results := [.lit (.bool false)], args := [d1, d2] }
  | _ => none }
def FnExactFramesValidWrongFalsely : Prop := fnExactFramesValidRow.holds Tryz.pinned (OpenSpec.ofChange fnExactFramesValidWrong)

/- THE SECOND FORM. 'bulk': how many values and letters a reading holds, each counted each time it is reached (what is shared counts as often as it is met; a slice's spare places count too). A statement '..UptoSaid' is the law's where the arguments, and the package variables that the reading takes, are together of bulk at most 1048576: NARROWER than '..Said'. Prove '..Said' where nothing that the law and all that it calls make is longer than what came in: it says more and counts as full. Else prove '..UptoSaid'. A law counts once. -/
mutual
def uptoBulk {H : Type} : DataW H → Nat
  | .lit (.string bytes) => bytes.length + 1
  | .lit _ => 1
  | .nil => 1
  | .ptr d => uptoBulk d + 1
  | .slice elems spare => uptoBulkAll elems + uptoBulkAll spare + 1
  | .agg parts => uptoBulkAll parts + 1
  | .iface _ d => uptoBulk d + 1
  | .map entries => uptoBulkEntries entries + 1
  | .held _ => 1
def uptoBulkAll {H : Type} : List (DataW H) → Nat
  | [] => 0
  | d :: r => uptoBulk d + uptoBulkAll r
def uptoBulkEntries {H : Type} : List (Lit × DataW H) → Nat
  | [] => 0
  | x :: r => uptoBulkEntry x + uptoBulkEntries r
def uptoBulkEntry {H : Type} : Lit × DataW H → Nat
  | (.string bytes, d) => bytes.length + uptoBulk d + 1
  | (_, d) => uptoBulk d + 1
 end
def uptoSmall : (H : Type) → List (DataW H) → Bool := fun _ ds => decide (uptoBulkAll ds ≤ 1048576)
def OpenSpec.upto (s : _root_.Go.ChangeSpec) : _root_.Go.OpenSpec := { _root_.Go.OpenSpec.ofChange s with cond := some uptoSmall }

/-- 'laws.FnExactNextNumbers', WHERE WHAT IT READS IS OF BULK AT MOST 1048576: true; the input reads as it did. -/
def fnExactNextNumbersUptoRow : OpenClaim := { program := "ytpglaahejpkkdaagreat", sum := "6330fada56203d8795c02d97803e8f1f4604f617b452367dc1442f4330c93d36", func := "loop.example/wholecheck/laws.FnExactNextNumbers", spec := "fnExactNextNumbers", inPlace := ["slices.overlaps[[]int]"], unfollowed := true, recurses := true, apart := false, narrowed := true }
def FnExactNextNumbersUptoSaid : Prop := fnExactNextNumbersUptoRow.holds Tryz.pinned (OpenSpec.upto fnExactNextNumbersSpec)

/-- 'laws.FnExactPastNumbers', WHERE WHAT IT READS IS OF BULK AT MOST 1048576: true; the input reads as it did. -/
def fnExactPastNumbersUptoRow : OpenClaim := { program := "ytpglaahejpkkdaagreat", sum := "6330fada56203d8795c02d97803e8f1f4604f617b452367dc1442f4330c93d36", func := "loop.example/wholecheck/laws.FnExactPastNumbers", spec := "fnExactPastNumbers", inPlace := ["slices.overlaps[[]int]"], unfollowed := true, recurses := true, apart := false, narrowed := true }
def FnExactPastNumbersUptoSaid : Prop := fnExactPastNumbersUptoRow.holds Tryz.pinned (OpenSpec.upto fnExactPastNumbersSpec)

/-- 'laws.FnExactStuckStates', WHERE WHAT IT READS IS OF BULK AT MOST 1048576: true; the input reads as it did. -/
def fnExactStuckStatesUptoRow : OpenClaim := { program := "ytpglaahejpkkdaagreat", sum := "6330fada56203d8795c02d97803e8f1f4604f617b452367dc1442f4330c93d36", func := "loop.example/wholecheck/laws.FnExactStuckStates", spec := "fnExactStuckStates", inPlace := ["slices.overlaps[[]int]"], unfollowed := true, recurses := true, apart := false, narrowed := true }
def FnExactStuckStatesUptoSaid : Prop := fnExactStuckStatesUptoRow.holds Tryz.pinned (OpenSpec.upto fnExactStuckStatesSpec)

/-- 'laws.FnExactReachOf', WHERE WHAT IT READS IS OF BULK AT MOST 1048576: true; the input reads as it did. -/
def fnExactReachOfUptoRow : OpenClaim := { program := "ytpglaahejpkkdaagreat", sum := "6330fada56203d8795c02d97803e8f1f4604f617b452367dc1442f4330c93d36", func := "loop.example/wholecheck/laws.FnExactReachOf", spec := "fnExactReachOf", inPlace := ["slices.overlaps[[]int]"], unfollowed := true, recurses := true, apart := false, narrowed := true }
def FnExactReachOfUptoSaid : Prop := fnExactReachOfUptoRow.holds Tryz.pinned (OpenSpec.upto fnExactReachOfSpec)

/-- 'laws.FnExactStepsTo', WHERE WHAT IT READS IS OF BULK AT MOST 1048576: true; the input reads as it did. -/
def fnExactStepsToUptoRow : OpenClaim := { program := "ytpglaahejpkkdaagreat", sum := "6330fada56203d8795c02d97803e8f1f4604f617b452367dc1442f4330c93d36", func := "loop.example/wholecheck/laws.FnExactStepsTo", spec := "fnExactStepsTo", inPlace := ["slices.overlaps[[]int]"], unfollowed := true, recurses := true, apart := false, narrowed := true }
def FnExactStepsToUptoSaid : Prop := fnExactStepsToUptoRow.holds Tryz.pinned (OpenSpec.upto fnExactStepsToSpec)

/-- 'laws.FnExactClosed', WHERE WHAT IT READS IS OF BULK AT MOST 1048576: true; the input reads as it did. -/
def fnExactClosedUptoRow : OpenClaim := { program := "ytpglaahejpkkdaagreat", sum := "6330fada56203d8795c02d97803e8f1f4604f617b452367dc1442f4330c93d36", func := "loop.example/wholecheck/laws.FnExactClosed", spec := "fnExactClosed", inPlace := ["slices.overlaps[[]int]"], unfollowed := true, recurses := true, apart := false, narrowed := true }
def FnExactClosedUptoSaid : Prop := fnExactClosedUptoRow.holds Tryz.pinned (OpenSpec.upto fnExactClosedSpec)

/-- 'laws.FnExactAlways', WHERE WHAT IT READS IS OF BULK AT MOST 1048576: true; the input reads as it did. -/
def fnExactAlwaysUptoRow : OpenClaim := { program := "ytpglaahejpkkdaagreat", sum := "6330fada56203d8795c02d97803e8f1f4604f617b452367dc1442f4330c93d36", func := "loop.example/wholecheck/laws.FnExactAlways", spec := "fnExactAlways", inPlace := ["slices.overlaps[[]int]"], unfollowed := true, recurses := true, apart := false, narrowed := true }
def FnExactAlwaysUptoSaid : Prop := fnExactAlwaysUptoRow.holds Tryz.pinned (OpenSpec.upto fnExactAlwaysSpec)

/-- 'laws.FnExactProves', WHERE WHAT IT READS IS OF BULK AT MOST 1048576: true; the input reads as it did. -/
def fnExactProvesUptoRow : OpenClaim := { program := "ytpglaahejpkkdaagreat", sum := "6330fada56203d8795c02d97803e8f1f4604f617b452367dc1442f4330c93d36", func := "loop.example/wholecheck/laws.FnExactProves", spec := "fnExactProves", inPlace := ["slices.overlaps[[]int]"], unfollowed := true, recurses := true, apart := false, narrowed := true }
def FnExactProvesUptoSaid : Prop := fnExactProvesUptoRow.holds Tryz.pinned (OpenSpec.upto fnExactProvesSpec)

/-- 'laws.FnExactHoldsWithin', WHERE WHAT IT READS IS OF BULK AT MOST 1048576: true; the input reads as it did. -/
def fnExactHoldsWithinUptoRow : OpenClaim := { program := "ytpglaahejpkkdaagreat", sum := "6330fada56203d8795c02d97803e8f1f4604f617b452367dc1442f4330c93d36", func := "loop.example/wholecheck/laws.FnExactHoldsWithin", spec := "fnExactHoldsWithin", inPlace := ["slices.overlaps[[]int]"], unfollowed := true, recurses := true, apart := false, narrowed := true }
def FnExactHoldsWithinUptoSaid : Prop := fnExactHoldsWithinUptoRow.holds Tryz.pinned (OpenSpec.upto fnExactHoldsWithinSpec)

/-- 'laws.FnExactShownWithin', WHERE WHAT IT READS IS OF BULK AT MOST 1048576: true; the input reads as it did. -/
def fnExactShownWithinUptoRow : OpenClaim := { program := "ytpglaahejpkkdaagreat", sum := "6330fada56203d8795c02d97803e8f1f4604f617b452367dc1442f4330c93d36", func := "loop.example/wholecheck/laws.FnExactShownWithin", spec := "fnExactShownWithin", inPlace := ["slices.overlaps[[]int]"], unfollowed := true, recurses := true, apart := false, narrowed := true }
def FnExactShownWithinUptoSaid : Prop := fnExactShownWithinUptoRow.holds Tryz.pinned (OpenSpec.upto fnExactShownWithinSpec)

/-- 'laws.FnExactFramesValid', WHERE WHAT IT READS IS OF BULK AT MOST 1048576: true; the input reads as it did. -/
def fnExactFramesValidUptoRow : OpenClaim := { program := "ytpglaahejpkkdaagreat", sum := "6330fada56203d8795c02d97803e8f1f4604f617b452367dc1442f4330c93d36", func := "loop.example/wholecheck/laws.FnExactFramesValid", spec := "fnExactFramesValid", inPlace := ["slices.overlaps[[]int]"], unfollowed := true, recurses := true, apart := false, narrowed := true }
def FnExactFramesValidUptoSaid : Prop := fnExactFramesValidUptoRow.holds Tryz.pinned (OpenSpec.upto fnExactFramesValidSpec)

end Rows
end Go.Proofs.YtpglaahejpkkdaaGreat
