/-
  No cell of these rows narrows 'for every input' (looked for: loops, veiled, ifaces, maps, wideKeys, modest, calm, conditions, laid).
  DERIVED. THE GIVEN ROWS OF THIS SEAT. 5 by the template 'for every input the law returns true; each argument reads behind the call as it read before'; 0 by the template 'total and deterministic' (their statements: YtkojebodimpfaaaTotals.lean).
  GIVEN WITH THE SEED: the statements are not yours to turn. If you find one false, say at which input.
  Laid BY PROGRAM, IN A SANDBOX (cutbox-rows.mjs): the forced cells as the released guide's own fill.sh prints them over the translation 73892cf6e68cb3b6… (all of the seat's roots in one cut). By AI agents, Wed Nov 11 2026. No macro, syntax, notation, axiom, sorry.
-/
import Derived.Test.YtkojebodimpfaaaChecked
import GoSem.Claim
import GoSem.ClaimJoined
import GoSem.ClaimMapViews
import Derived.JoinedTies
import Derived.KernelRfl
namespace Go.Proofs.Ytkojebodimpfaaa
/- THE CELL 'sum', in the pinned program and in every row, IS THE sha256 OF THE DUMP (.gsa) THAT YtkojebodimpfaaaProg.lean LOADS. Nothing in Lean hashes anything: it is a label: what it is worth is what the hold of that sum in a sandbox is worth. -/
noncomputable def Try.pinned : Pinned := { name := "ytkojebodimpfaaa", sum := "73892cf6e68cb3b68a27a75a0ef69740c5052bb86450132b9f0022b8629d00b5", checked := Try.checked }
namespace Rows
def none {H : Type} : Left H := { results := [], args := [] }

/-- 'laws.FnExactNextStates': WHATEVER THE INPUT: true; the input reads as it did. -/
def fnExactNextStatesSpec : ChangeSpec := { name := "fnExactNextStates", fn := fun _ => fun
  | [d1, d2] => { results := [.lit (.bool true)], args := [d1, d2] }
  | _ => none }
def fnExactNextStatesRow : OpenClaim := { program := "ytkojebodimpfaaa", sum := "73892cf6e68cb3b68a27a75a0ef69740c5052bb86450132b9f0022b8629d00b5", func := "loop.example/wholecheck/laws.FnExactNextStates", spec := "fnExactNextStates", inPlace := ["slices.overlaps[[]int]"], unfollowed := true, recurses := true, apart := false }
def FnExactNextStatesSaid : Prop := fnExactNextStatesRow.holds Try.pinned (OpenSpec.ofChange fnExactNextStatesSpec)

/-- ITS FALSE NEIGHBOUR: 'it returns false'. Refute it at one input. -/
def fnExactNextStatesWrong : ChangeSpec := { name := "fnExactNextStates", fn := fun _ => fun
  | [d1, d2] => { results := [.lit (.bool false)], args := [d1, d2] }
  | _ => none }
def FnExactNextStatesWrongFalsely : Prop := fnExactNextStatesRow.holds Try.pinned (OpenSpec.ofChange fnExactNextStatesWrong)

/-- 'laws.FnExactRoundFrom': WHATEVER THE INPUT: true; the input reads as it did. -/
def fnExactRoundFromSpec : ChangeSpec := { name := "fnExactRoundFrom", fn := fun _ => fun
  | [d1, d2, d3] => { results := [.lit (.bool true)], args := [d1, d2, d3] }
  | _ => none }
def fnExactRoundFromRow : OpenClaim := { program := "ytkojebodimpfaaa", sum := "73892cf6e68cb3b68a27a75a0ef69740c5052bb86450132b9f0022b8629d00b5", func := "loop.example/wholecheck/laws.FnExactRoundFrom", spec := "fnExactRoundFrom", unfollowed := true, recurses := true, apart := false }
def FnExactRoundFromSaid : Prop := fnExactRoundFromRow.holds Try.pinned (OpenSpec.ofChange fnExactRoundFromSpec)

/-- ITS FALSE NEIGHBOUR: 'it returns false'. Refute it at one input. -/
def fnExactRoundFromWrong : ChangeSpec := { name := "fnExactRoundFrom", fn := fun _ => fun
  | [d1, d2, d3] => { results := [.lit (.bool false)], args := [d1, d2, d3] }
  | _ => none }
def FnExactRoundFromWrongFalsely : Prop := fnExactRoundFromRow.holds Try.pinned (OpenSpec.ofChange fnExactRoundFromWrong)

/-- 'laws.FnExactTraceOf': WHATEVER THE INPUT: true; the input reads as it did. -/
def fnExactTraceOfSpec : ChangeSpec := { name := "fnExactTraceOf", fn := fun _ => fun
  | [d1, d2] => { results := [.lit (.bool true)], args := [d1, d2] }
  | _ => none }
def fnExactTraceOfRow : OpenClaim := { program := "ytkojebodimpfaaa", sum := "73892cf6e68cb3b68a27a75a0ef69740c5052bb86450132b9f0022b8629d00b5", func := "loop.example/wholecheck/laws.FnExactTraceOf", spec := "fnExactTraceOf", unfollowed := true, recurses := true, apart := false }
def FnExactTraceOfSaid : Prop := fnExactTraceOfRow.holds Try.pinned (OpenSpec.ofChange fnExactTraceOfSpec)

/-- ITS FALSE NEIGHBOUR: 'it returns false'. Refute it at one input. -/
def fnExactTraceOfWrong : ChangeSpec := { name := "fnExactTraceOf", fn := fun _ => fun
  | [d1, d2] => { results := [.lit (.bool false)], args := [d1, d2] }
  | _ => none }
def FnExactTraceOfWrongFalsely : Prop := fnExactTraceOfRow.holds Try.pinned (OpenSpec.ofChange fnExactTraceOfWrong)

/-- 'laws.FnExactWithoutRounds': WHATEVER THE INPUT: true; the input reads as it did. -/
def fnExactWithoutRoundsSpec : ChangeSpec := { name := "fnExactWithoutRounds", fn := fun _ => fun
  | [d1, d2] => { results := [.lit (.bool true)], args := [d1, d2] }
  | _ => none }
def fnExactWithoutRoundsRow : OpenClaim := { program := "ytkojebodimpfaaa", sum := "73892cf6e68cb3b68a27a75a0ef69740c5052bb86450132b9f0022b8629d00b5", func := "loop.example/wholecheck/laws.FnExactWithoutRounds", spec := "fnExactWithoutRounds", unfollowed := true, recurses := true, apart := false }
def FnExactWithoutRoundsSaid : Prop := fnExactWithoutRoundsRow.holds Try.pinned (OpenSpec.ofChange fnExactWithoutRoundsSpec)

/-- ITS FALSE NEIGHBOUR: 'it returns false'. Refute it at one input. -/
def fnExactWithoutRoundsWrong : ChangeSpec := { name := "fnExactWithoutRounds", fn := fun _ => fun
  | [d1, d2] => { results := [.lit (.bool false)], args := [d1, d2] }
  | _ => none }
def FnExactWithoutRoundsWrongFalsely : Prop := fnExactWithoutRoundsRow.holds Try.pinned (OpenSpec.ofChange fnExactWithoutRoundsWrong)

/-- 'laws.FnExactRoundFair': WHATEVER THE INPUT: true; the input reads as it did. -/
def fnExactRoundFairSpec : ChangeSpec := { name := "fnExactRoundFair", fn := fun _ => fun
  | [d1, d2, d3, d4, d5] => { results := [.lit (.bool true)], args := [d1, d2, d3, d4, d5] }
  | _ => none }
def fnExactRoundFairRow : OpenClaim := { program := "ytkojebodimpfaaa", sum := "73892cf6e68cb3b68a27a75a0ef69740c5052bb86450132b9f0022b8629d00b5", func := "loop.example/wholecheck/laws.FnExactRoundFair", spec := "fnExactRoundFair", unfollowed := true, recurses := true, apart := false }
def FnExactRoundFairSaid : Prop := fnExactRoundFairRow.holds Try.pinned (OpenSpec.ofChange fnExactRoundFairSpec)

/-- ITS FALSE NEIGHBOUR: 'it returns false'. Refute it at one input. -/
def fnExactRoundFairWrong : ChangeSpec := { name := "fnExactRoundFair", fn := fun _ => fun
  | [d1, d2, d3, d4, d5] => { results := [.lit (.bool false)], args := [d1, d2, d3, d4, d5] }
  | _ => none }
def FnExactRoundFairWrongFalsely : Prop := fnExactRoundFairRow.holds Try.pinned (OpenSpec.ofChange fnExactRoundFairWrong)

/- THE SECOND FORM. 'bulk': how many values and letters a reading holds, each counted each time it is reached (what is shared counts as often as it is met; a slice's spare places count too). A statement '..UptoSaid' is the law's where the arguments, and the package variables that the reading takes, are together of bulk at most 1048576: NARROWER than '..Said'. Prove '..Said' where nothing that the law and all that it calls make is longer than what came in: it says more and counts as full. Else prove '..UptoSaid'. A law counts once. -/
mutual
def uptoBulk {H : Type} : DataW H → Nat
  | .lit (.string bytes) => bytes.length + 1
  | .lit _ => 1
  | .nil => 1
  | .ptr d => uptoBulk d + 1
  | .slice elems spare => uptoBulkAll elems + uptoBulkAll spare + 1
  | .agg parts => uptoBulkAll parts + 1
  | .iface _ d => uptoBulk d + 1
  | .map entries => uptoBulkEntries entries + 1
  | .held _ => 1
def uptoBulkAll {H : Type} : List (DataW H) → Nat
  | [] => 0
  | d :: r => uptoBulk d + uptoBulkAll r
def uptoBulkEntries {H : Type} : List (Lit × DataW H) → Nat
  | [] => 0
  | x :: r => uptoBulkEntry x + uptoBulkEntries r
def uptoBulkEntry {H : Type} : Lit × DataW H → Nat
  | (.string bytes, d) => bytes.length + uptoBulk d + 1
  | (_, d) => uptoBulk d + 1
 end
def uptoSmall : (H : Type) → List (DataW H) → Bool := fun _ ds => decide (uptoBulkAll ds ≤ 1048576)
def OpenSpec.upto (s : _root_.Go.ChangeSpec) : _root_.Go.OpenSpec := { _root_.Go.OpenSpec.ofChange s with cond := some uptoSmall }

/-- 'laws.FnExactNextStates', WHERE WHAT IT READS IS OF BULK AT MOST 1048576: true; the input reads as it did. -/
def fnExactNextStatesUptoRow : OpenClaim := { program := "ytkojebodimpfaaa", sum := "73892cf6e68cb3b68a27a75a0ef69740c5052bb86450132b9f0022b8629d00b5", func := "loop.example/wholecheck/laws.FnExactNextStates", spec := "fnExactNextStates", inPlace := ["slices.overlaps[[]int]"], unfollowed := true, recurses := true, apart := false, narrowed := true }
def FnExactNextStatesUptoSaid : Prop := fnExactNextStatesUptoRow.holds Try.pinned (OpenSpec.upto fnExactNextStatesSpec)

/-- 'laws.FnExactRoundFrom', WHERE WHAT IT READS IS OF BULK AT MOST 1048576: true; the input reads as it did. -/
def fnExactRoundFromUptoRow : OpenClaim := { program := "ytkojebodimpfaaa", sum := "73892cf6e68cb3b68a27a75a0ef69740c5052bb86450132b9f0022b8629d00b5", func := "loop.example/wholecheck/laws.FnExactRoundFrom", spec := "fnExactRoundFrom", unfollowed := true, recurses := true, apart := false, narrowed := true }
def FnExactRoundFromUptoSaid : Prop := fnExactRoundFromUptoRow.holds Try.pinned (OpenSpec.upto fnExactRoundFromSpec)

/-- 'laws.FnExactTraceOf', WHERE WHAT IT READS IS OF BULK AT MOST 1048576: true; the input reads as it did. -/
def fnExactTraceOfUptoRow : OpenClaim := { program := "ytkojebodimpfaaa", sum := "73892cf6e68cb3b68a27a75a0ef69740c5052bb86450132b9f0022b8629d00b5", func := "loop.example/wholecheck/laws.FnExactTraceOf", spec := "fnExactTraceOf", unfollowed := true, recurses := true, apart := false, narrowed := true }
def FnExactTraceOfUptoSaid : Prop := fnExactTraceOfUptoRow.holds Try.pinned (OpenSpec.upto fnExactTraceOfSpec)

/-- 'laws.FnExactWithoutRounds', WHERE WHAT IT READS IS OF BULK AT MOST 1048576: true; the input reads as it did. -/
def fnExactWithoutRoundsUptoRow : OpenClaim := { program := "ytkojebodimpfaaa", sum := "73892cf6e68cb3b68a27a75a0ef69740c5052bb86450132b9f0022b8629d00b5", func := "loop.example/wholecheck/laws.FnExactWithoutRounds", spec := "fnExactWithoutRounds", unfollowed := true, recurses := true, apart := false, narrowed := true }
def FnExactWithoutRoundsUptoSaid : Prop := fnExactWithoutRoundsUptoRow.holds Try.pinned (OpenSpec.upto fnExactWithoutRoundsSpec)

/-- 'laws.FnExactRoundFair', WHERE WHAT IT READS IS OF BULK AT MOST 1048576: true; the input reads as it did. -/
def fnExactRoundFairUptoRow : OpenClaim := { program := "ytkojebodimpfaaa", sum := "73892cf6e68cb3b68a27a75a0ef69740c5052bb86450132b9f0022b8629d00b5", func := "loop.example/wholecheck/laws.FnExactRoundFair", spec := "fnExactRoundFair", unfollowed := true, recurses := true, apart := false, narrowed := true }
def FnExactRoundFairUptoSaid : Prop := fnExactRoundFairUptoRow.holds Try.pinned (OpenSpec.upto fnExactRoundFairSpec)

end Rows
end Go.Proofs.Ytkojebodimpfaaa
