/-
  No cell of these rows narrows 'for every input' (looked for: loops, veiled, ifaces, maps, wideKeys, modest, calm, conditions, laid).
  DERIVED. THE GIVEN ROWS OF THIS SEAT. 5 by the template 'for every input the law returns true; each argument reads behind the call as it read before'; 0 by the template 'total and deterministic' (their statements: YtopdgbopmjcdbaaTotals.lean).
  GIVEN WITH THE SEED: the statements are not yours to turn. If you find one false, say at which input.
  Laid BY PROGRAM, IN A SANDBOX (cutbox-rows.mjs): the forced cells as the released guide's own fill.sh prints them over the translation 3400b1f5a386e596… (all of the seat's roots in one cut). By AI agents, Wed Nov 11 2026. No macro, syntax, notation, axiom, sorry.
-/
import Derived.Test.YtopdgbopmjcdbaaChecked
import GoSem.Claim
import GoSem.ClaimJoined
import GoSem.ClaimMapViews
import Derived.JoinedTies
import Derived.KernelRfl
namespace Go.Proofs.Ytopdgbopmjcdbaa
/- THE CELL 'sum', in the pinned program and in every row, IS THE sha256 OF THE DUMP (.gsa) THAT YtopdgbopmjcdbaaProg.lean LOADS. Nothing in Lean hashes anything: it is a label: what it is worth is what the hold of that sum in a sandbox is worth. -/
noncomputable def Try.pinned : Pinned := { name := "ytopdgbopmjcdbaa", sum := "3400b1f5a386e596ad7ed00c0bc0060fad4134c71253a8591bfb1acfcae433f3", checked := Try.checked }
namespace Rows
def none {H : Type} : Left H := { results := [], args := [] }

/-- 'laws.FnExactCubesOf': WHATEVER THE INPUT: true; the input reads as it did. -/
def fnExactCubesOfSpec : ChangeSpec := { name := "fnExactCubesOf", fn := fun _ => fun
  | [d1, d2] => { results := [.lit (.bool true)], args := [d1, d2] }
  | _ => none }
def fnExactCubesOfRow : OpenClaim := { program := "ytopdgbopmjcdbaa", sum := "3400b1f5a386e596ad7ed00c0bc0060fad4134c71253a8591bfb1acfcae433f3", func := "loop.example/wholecheck/laws.FnExactCubesOf", spec := "fnExactCubesOf", unfollowed := true, recurses := true, apart := false }
def FnExactCubesOfSaid : Prop := fnExactCubesOfRow.holds Try.pinned (OpenSpec.ofChange fnExactCubesOfSpec)

/-- ITS FALSE NEIGHBOUR: 'it returns false'. Refute it at one input. -/
def fnExactCubesOfWrong : ChangeSpec := { name := "fnExactCubesOf", fn := fun _ => fun
  | [d1, d2] => { results := [.lit (.bool false)], args := [d1, d2] }
  | _ => none }
def FnExactCubesOfWrongFalsely : Prop := fnExactCubesOfRow.holds Try.pinned (OpenSpec.ofChange fnExactCubesOfWrong)

/-- 'laws.FnExactWithoutRounds': WHATEVER THE INPUT: true; the input reads as it did. -/
def fnExactWithoutRoundsSpec : ChangeSpec := { name := "fnExactWithoutRounds", fn := fun _ => fun
  | [d1, d2] => { results := [.lit (.bool true)], args := [d1, d2] }
  | _ => none }
def fnExactWithoutRoundsRow : OpenClaim := { program := "ytopdgbopmjcdbaa", sum := "3400b1f5a386e596ad7ed00c0bc0060fad4134c71253a8591bfb1acfcae433f3", func := "loop.example/wholecheck/laws.FnExactWithoutRounds", spec := "fnExactWithoutRounds", unfollowed := true, recurses := true, apart := false }
def FnExactWithoutRoundsSaid : Prop := fnExactWithoutRoundsRow.holds Try.pinned (OpenSpec.ofChange fnExactWithoutRoundsSpec)

/-- ITS FALSE NEIGHBOUR: 'it returns false'. Refute it at one input. -/
def fnExactWithoutRoundsWrong : ChangeSpec := { name := "fnExactWithoutRounds", fn := fun _ => fun
  | [d1, d2] => { results := [.lit (.bool false)], args := [d1, d2] }
  | _ => none }
def FnExactWithoutRoundsWrongFalsely : Prop := fnExactWithoutRoundsRow.holds Try.pinned (OpenSpec.ofChange fnExactWithoutRoundsWrong)

/-- 'laws.FnExactRulesApart': WHATEVER THE INPUT: true; the input reads as it did. -/
def fnExactRulesApartSpec : ChangeSpec := { name := "fnExactRulesApart", fn := fun _ => fun
  | [d1, d2, d3] => { results := [.lit (.bool true)], args := [d1, d2, d3] }
  | _ => none }
def fnExactRulesApartRow : OpenClaim := { program := "ytopdgbopmjcdbaa", sum := "3400b1f5a386e596ad7ed00c0bc0060fad4134c71253a8591bfb1acfcae433f3", func := "loop.example/wholecheck/laws.FnExactRulesApart", spec := "fnExactRulesApart", unfollowed := true, recurses := true, apart := false }
def FnExactRulesApartSaid : Prop := fnExactRulesApartRow.holds Try.pinned (OpenSpec.ofChange fnExactRulesApartSpec)

/-- ITS FALSE NEIGHBOUR: 'it returns false'. Refute it at one input. -/
def fnExactRulesApartWrong : ChangeSpec := { name := "fnExactRulesApart", fn := fun _ => fun
  | [d1, d2, d3] => { results := [.lit (.bool false)], args := [d1, d2, d3] }
  | _ => none }
def FnExactRulesApartWrongFalsely : Prop := fnExactRulesApartRow.holds Try.pinned (OpenSpec.ofChange fnExactRulesApartWrong)

/-- 'laws.FnExactTouchedBy': WHATEVER THE INPUT: true; the input reads as it did. -/
def fnExactTouchedBySpec : ChangeSpec := { name := "fnExactTouchedBy", fn := fun _ => fun
  | [d1, d2] => { results := [.lit (.bool true)], args := [d1, d2] }
  | _ => none }
def fnExactTouchedByRow : OpenClaim := { program := "ytopdgbopmjcdbaa", sum := "3400b1f5a386e596ad7ed00c0bc0060fad4134c71253a8591bfb1acfcae433f3", func := "loop.example/wholecheck/laws.FnExactTouchedBy", spec := "fnExactTouchedBy", unfollowed := true, recurses := true, apart := false }
def FnExactTouchedBySaid : Prop := fnExactTouchedByRow.holds Try.pinned (OpenSpec.ofChange fnExactTouchedBySpec)

/-- ITS FALSE NEIGHBOUR: 'it returns false'. Refute it at one input. -/
def fnExactTouchedByWrong : ChangeSpec := { name := "fnExactTouchedBy", fn := fun _ => fun
  | [d1, d2] => { results := [.lit (.bool false)], args := [d1, d2] }
  | _ => none }
def FnExactTouchedByWrongFalsely : Prop := fnExactTouchedByRow.holds Try.pinned (OpenSpec.ofChange fnExactTouchedByWrong)

/-- 'laws.FnExactWakersOf': WHATEVER THE INPUT: true; the input reads as it did. -/
def fnExactWakersOfSpec : ChangeSpec := { name := "fnExactWakersOf", fn := fun _ => fun
  | [d1, d2] => { results := [.lit (.bool true)], args := [d1, d2] }
  | _ => none }
def fnExactWakersOfRow : OpenClaim := { program := "ytopdgbopmjcdbaa", sum := "3400b1f5a386e596ad7ed00c0bc0060fad4134c71253a8591bfb1acfcae433f3", func := "loop.example/wholecheck/laws.FnExactWakersOf", spec := "fnExactWakersOf", unfollowed := true, recurses := true, apart := false }
def FnExactWakersOfSaid : Prop := fnExactWakersOfRow.holds Try.pinned (OpenSpec.ofChange fnExactWakersOfSpec)

/-- ITS FALSE NEIGHBOUR: 'it returns false'. Refute it at one input. -/
def fnExactWakersOfWrong : ChangeSpec := { name := "fnExactWakersOf", fn := fun _ => fun
  | [d1, d2] => { results := [.lit (.bool false)], args := [d1, d2] }
  | _ => none }
def FnExactWakersOfWrongFalsely : Prop := fnExactWakersOfRow.holds Try.pinned (OpenSpec.ofChange fnExactWakersOfWrong)

/- THE SECOND FORM. 'bulk': how many values and letters a reading holds, each counted each time it is reached (what is shared counts as often as it is met; a slice's spare places count too). A statement '..UptoSaid' is the law's where the arguments, and the package variables that the reading takes, are together of bulk at most 1048576: NARROWER than '..Said'. Prove '..Said' where nothing that the law and all that it calls make is longer than what came in: it says more and counts as full. Else prove '..UptoSaid'. A law counts once. -/
mutual
def uptoBulk {H : Type} : DataW H → Nat
  | .lit (.string bytes) => bytes.length + 1
  | .lit _ => 1
  | .nil => 1
  | .ptr d => uptoBulk d + 1
  | .slice elems spare => uptoBulkAll elems + uptoBulkAll spare + 1
  | .agg parts => uptoBulkAll parts + 1
  | .iface _ d => uptoBulk d + 1
  | .map entries => uptoBulkEntries entries + 1
  | .held _ => 1
def uptoBulkAll {H : Type} : List (DataW H) → Nat
  | [] => 0
  | d :: r => uptoBulk d + uptoBulkAll r
def uptoBulkEntries {H : Type} : List (Lit × DataW H) → Nat
  | [] => 0
  | x :: r => uptoBulkEntry x + uptoBulkEntries r
def uptoBulkEntry {H : Type} : Lit × DataW H → Nat
  | (.string bytes, d) => bytes.length + uptoBulk d + 1
  | (_, d) => uptoBulk d + 1
 end
def uptoSmall : (H : Type) → List (DataW H) → Bool := fun _ ds => decide (uptoBulkAll ds ≤ 1048576)
def OpenSpec.upto (s : _root_.Go.ChangeSpec) : _root_.Go.OpenSpec := { _root_.Go.OpenSpec.ofChange s with cond := some uptoSmall }

/-- 'laws.FnExactCubesOf', WHERE WHAT IT READS IS OF BULK AT MOST 1048576: true; the input reads as it did. -/
def fnExactCubesOfUptoRow : OpenClaim := { program := "ytopdgbopmjcdbaa", sum := "3400b1f5a386e596ad7ed00c0bc0060fad4134c71253a8591bfb1acfcae433f3", func := "loop.example/wholecheck/laws.FnExactCubesOf", spec := "fnExactCubesOf", unfollowed := true, recurses := true, apart := false, narrowed := true }
def FnExactCubesOfUptoSaid : Prop := fnExactCubesOfUptoRow.holds Try.pinned (OpenSpec.upto fnExactCubesOfSpec)

/-- 'laws.FnExactWithoutRounds', WHERE WHAT IT READS IS OF BULK AT MOST 1048576: true; the input reads as it did. -/
def fnExactWithoutRoundsUptoRow : OpenClaim := { program := "ytopdgbopmjcdbaa", sum := "3400b1f5a386e596ad7ed00c0bc0060fad4134c71253a8591bfb1acfcae433f3", func := "loop.example/wholecheck/laws.FnExactWithoutRounds", spec := "fnExactWithoutRounds", unfollowed := true, recurses := true, apart := false, narrowed := true }
def FnExactWithoutRoundsUptoSaid : Prop := fnExactWithoutRoundsUptoRow.holds Try.pinned (OpenSpec.upto fnExactWithoutRoundsSpec)

/-- 'laws.FnExactRulesApart', WHERE WHAT IT READS IS OF BULK AT MOST 1048576: true; the input reads as it did. -/
def fnExactRulesApartUptoRow : OpenClaim := { program := "ytopdgbopmjcdbaa", sum := "3400b1f5a386e596ad7ed00c0bc0060fad4134c71253a8591bfb1acfcae433f3", func := "loop.example/wholecheck/laws.FnExactRulesApart", spec := "fnExactRulesApart", unfollowed := true, recurses := true, apart := false, narrowed := true }
def FnExactRulesApartUptoSaid : Prop := fnExactRulesApartUptoRow.holds Try.pinned (OpenSpec.upto fnExactRulesApartSpec)

/-- 'laws.FnExactTouchedBy', WHERE WHAT IT READS IS OF BULK AT MOST 1048576: true; the input reads as it did. -/
def fnExactTouchedByUptoRow : OpenClaim := { program := "ytopdgbopmjcdbaa", sum := "3400b1f5a386e596ad7ed00c0bc0060fad4134c71253a8591bfb1acfcae433f3", func := "loop.example/wholecheck/laws.FnExactTouchedBy", spec := "fnExactTouchedBy", unfollowed := true, recurses := true, apart := false, narrowed := true }
def FnExactTouchedByUptoSaid : Prop := fnExactTouchedByUptoRow.holds Try.pinned (OpenSpec.upto fnExactTouchedBySpec)

/-- 'laws.FnExactWakersOf', WHERE WHAT IT READS IS OF BULK AT MOST 1048576: true; the input reads as it did. -/
def fnExactWakersOfUptoRow : OpenClaim := { program := "ytopdgbopmjcdbaa", sum := "3400b1f5a386e596ad7ed00c0bc0060fad4134c71253a8591bfb1acfcae433f3", func := "loop.example/wholecheck/laws.FnExactWakersOf", spec := "fnExactWakersOf", unfollowed := true, recurses := true, apart := false, narrowed := true }
def FnExactWakersOfUptoSaid : Prop := fnExactWakersOfUptoRow.holds Try.pinned (OpenSpec.upto fnExactWakersOfSpec)

end Rows
end Go.Proofs.Ytopdgbopmjcdbaa
