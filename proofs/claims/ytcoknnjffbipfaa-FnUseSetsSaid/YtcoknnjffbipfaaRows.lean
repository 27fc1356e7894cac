/-
  No cell of these rows narrows 'for every input' (looked for: loops, veiled, ifaces, maps, wideKeys, modest, calm, conditions, laid).
  DERIVED. THE GIVEN ROWS OF THIS SEAT. 4 by the template 'for every input the law returns true; each argument reads behind the call as it read before'; 0 by the template 'total and deterministic' (their statements: YtcoknnjffbipfaaTotals.lean).
  GIVEN WITH THE SEED: the statements are not yours to turn. If you find one false, say at which input.
  Laid BY PROGRAM, IN A SANDBOX (cutbox-rows.mjs): the forced cells as the released guide's own fill.sh prints them over the translation eca12b91a63d00b1… (all of the seat's roots in one cut). By AI agents, Wed Nov 11 2026. No macro, syntax, notation, axiom, sorry.
-/
import Derived.Test.YtcoknnjffbipfaaChecked
import GoSem.Claim
import GoSem.ClaimJoined
import GoSem.ClaimMapViews
import Derived.JoinedTies
import Derived.KernelRfl
namespace Go.Proofs.Ytcoknnjffbipfaa
/- THE CELL 'sum', in the pinned program and in every row, IS THE sha256 OF THE DUMP (.gsa) THAT YtcoknnjffbipfaaProg.lean LOADS. Nothing in Lean hashes anything: it is a label: what it is worth is what the hold of that sum in a sandbox is worth. -/
noncomputable def Try.pinned : Pinned := { name := "ytcoknnjffbipfaa", sum := "eca12b91a63d00b11e604b00abb3fc01b966ffa0f654b5dd6468333ab0734887", checked := Try.checked }
namespace Rows
def none {H : Type} : Left H := { results := [], args := [] }

/-- 'laws.FnPastNext': WHATEVER THE INPUT: true; the input reads as it did. -/
def fnPastNextSpec : ChangeSpec := { name := "fnPastNext", fn := fun _ => fun
  | [d] => { results := [.lit (.bool true)], args := [d] }
  | _ => none }
def fnPastNextRow : OpenClaim := { program := "ytcoknnjffbipfaa", sum := "eca12b91a63d00b11e604b00abb3fc01b966ffa0f654b5dd6468333ab0734887", func := "loop.example/wholecheck/laws.FnPastNext", spec := "fnPastNext", inPlace := ["slices.overlaps[[]int]"], unfollowed := true, recurses := true, apart := false }
def FnPastNextSaid : Prop := fnPastNextRow.holds Try.pinned (OpenSpec.ofChange fnPastNextSpec)

/-- ITS FALSE NEIGHBOUR: 'it returns false'. Refute it at one input. -/
def fnPastNextWrong : ChangeSpec := { name := "fnPastNext", fn := fun _ => fun
  | [d] => { results := [.lit (.bool false)], args := [d] }
  | _ => none }
def FnPastNextWrongFalsely : Prop := fnPastNextRow.holds Try.pinned (OpenSpec.ofChange fnPastNextWrong)

/-- 'laws.FnUseSets': WHATEVER THE INPUT: true; the input reads as it did. -/
def fnUseSetsSpec : ChangeSpec := { name := "fnUseSets", fn := fun _ => fun
  | [d] => { results := [.lit (.bool true)], args := [d] }
  | _ => none }
def fnUseSetsRow : OpenClaim := { program := "ytcoknnjffbipfaa", sum := "eca12b91a63d00b11e604b00abb3fc01b966ffa0f654b5dd6468333ab0734887", func := "loop.example/wholecheck/laws.FnUseSets", spec := "fnUseSets", unfollowed := true, recurses := true, apart := false }
def FnUseSetsSaid : Prop := fnUseSetsRow.holds Try.pinned (OpenSpec.ofChange fnUseSetsSpec)

/-- ITS FALSE NEIGHBOUR: 'it returns false'. Refute it at one input. -/
def fnUseSetsWrong : ChangeSpec := { name := "fnUseSets", fn := fun _ => fun
  | [d] => { results := [.lit (.bool false)], args := [d] }
  | _ => none }
def FnUseSetsWrongFalsely : Prop := fnUseSetsRow.holds Try.pinned (OpenSpec.ofChange fnUseSetsWrong)

/-- 'laws.FnLasso': WHATEVER THE INPUT: true; the input reads as it did. -/
def fnLassoSpec : ChangeSpec := { name := "fnLasso", fn := fun _ => fun
  | [d] => { results := [.lit (.bool true)], args := [d] }
  | _ => none }
def fnLassoRow : OpenClaim := { program := "ytcoknnjffbipfaa", sum := "eca12b91a63d00b11e604b00abb3fc01b966ffa0f654b5dd6468333ab0734887", func := "loop.example/wholecheck/laws.FnLasso", spec := "fnLasso", unfollowed := true, recurses := true, apart := false }
def FnLassoSaid : Prop := fnLassoRow.holds Try.pinned (OpenSpec.ofChange fnLassoSpec)

/-- ITS FALSE NEIGHBOUR: 'it returns false'. Refute it at one input. -/
def fnLassoWrong : ChangeSpec := { name := "fnLasso", fn := fun _ => fun
  | [d] => { results := [.lit (.bool false)], args := [d] }
  | _ => none }
def FnLassoWrongFalsely : Prop := fnLassoRow.holds Try.pinned (OpenSpec.ofChange fnLassoWrong)

/-- 'laws.FnNextAll': WHATEVER THE INPUT: true; the input reads as it did. -/
def fnNextAllSpec : ChangeSpec := { name := "fnNextAll", fn := fun _ => fun
  | [d] => { results := [.lit (.bool true)], args := [d] }
  | _ => none }
def fnNextAllRow : OpenClaim := { program := "ytcoknnjffbipfaa", sum := "eca12b91a63d00b11e604b00abb3fc01b966ffa0f654b5dd6468333ab0734887", func := "loop.example/wholecheck/laws.FnNextAll", spec := "fnNextAll", inPlace := ["slices.overlaps[[]int]"], unfollowed := true, recurses := true, apart := false }
def FnNextAllSaid : Prop := fnNextAllRow.holds Try.pinned (OpenSpec.ofChange fnNextAllSpec)

/-- ITS FALSE NEIGHBOUR: 'it returns false'. Refute it at one input. -/
def fnNextAllWrong : ChangeSpec := { name := "fnNextAll", fn := fun _ => fun
  | [d] => { results := [.lit (.bool false)], args := [d] }
  | _ => none }
def FnNextAllWrongFalsely : Prop := fnNextAllRow.holds Try.pinned (OpenSpec.ofChange fnNextAllWrong)

/- THE SECOND FORM. 'bulk': how many values and letters a reading holds, each counted each time it is reached (what is shared counts as often as it is met; a slice's spare places count too). A statement '..UptoSaid' is the law's where the arguments, and the package variables that the reading takes, are together of bulk at most 1048576: NARROWER than '..Said'. Prove '..Said' where nothing that the law and all that it calls make is longer than what came in: it says more and counts as full. Else prove '..UptoSaid'. A law counts once. -/
mutual
def uptoBulk {H : Type} : DataW H → Nat
  | .lit (.string bytes) => bytes.length + 1
  | .lit _ => 1
  | .nil => 1
  | .ptr d => uptoBulk d + 1
  | .slice elems spare => uptoBulkAll elems + uptoBulkAll spare + 1
  | .agg parts => uptoBulkAll parts + 1
  | .iface _ d => uptoBulk d + 1
  | .map entries => uptoBulkEntries entries + 1
  | .held _ => 1
def uptoBulkAll {H : Type} : List (DataW H) → Nat
  | [] => 0
  | d :: r => uptoBulk d + uptoBulkAll r
def uptoBulkEntries {H : Type} : List (Lit × DataW H) → Nat
  | [] => 0
  | x :: r => uptoBulkEntry x + uptoBulkEntries r
def uptoBulkEntry {H : Type} : Lit × DataW H → Nat
  | (.string bytes, d) => bytes.length + uptoBulk d + 1
  | (_, d) => uptoBulk d + 1
 end
def uptoSmall : (H : Type) → List (DataW H) → Bool := fun _ ds => decide (uptoBulkAll ds ≤ 1048576)
def OpenSpec.upto (s : _root_.Go.ChangeSpec) : _root_.Go.OpenSpec := { _root_.Go.OpenSpec.ofChange s with cond := some uptoSmall }

/-- 'laws.FnPastNext', WHERE WHAT IT READS IS OF BULK AT MOST 1048576: true; the input reads as it did. -/
def fnPastNextUptoRow : OpenClaim := { program := "ytcoknnjffbipfaa", sum := "eca12b91a63d00b11e604b00abb3fc01b966ffa0f654b5dd6468333ab0734887", func := "loop.example/wholecheck/laws.FnPastNext", spec := "fnPastNext", inPlace := ["slices.overlaps[[]int]"], unfollowed := true, recurses := true, apart := false, narrowed := true }
def FnPastNextUptoSaid : Prop := fnPastNextUptoRow.holds Try.pinned (OpenSpec.upto fnPastNextSpec)

/-- 'laws.FnUseSets', WHERE WHAT IT READS IS OF BULK AT MOST 1048576: true; the input reads as it did. -/
def fnUseSetsUptoRow : OpenClaim := { program := "ytcoknnjffbipfaa", sum := "eca12b91a63d00b11e604b00abb3fc01b966ffa0f654b5dd6468333ab0734887", func := "loop.example/wholecheck/laws.FnUseSets", spec := "fnUseSets", unfollowed := true, recurses := true, apart := false, narrowed := true }
def FnUseSetsUptoSaid : Prop := fnUseSetsUptoRow.holds Try.pinned (OpenSpec.upto fnUseSetsSpec)

/-- 'laws.FnLasso', WHERE WHAT IT READS IS OF BULK AT MOST 1048576: true; the input reads as it did. -/
def fnLassoUptoRow : OpenClaim := { program := "ytcoknnjffbipfaa", sum := "eca12b91a63d00b11e604b00abb3fc01b966ffa0f654b5dd6468333ab0734887", func := "loop.example/wholecheck/laws.FnLasso", spec := "fnLasso", unfollowed := true, recurses := true, apart := false, narrowed := true }
def FnLassoUptoSaid : Prop := fnLassoUptoRow.holds Try.pinned (OpenSpec.upto fnLassoSpec)

/-- 'laws.FnNextAll', WHERE WHAT IT READS IS OF BULK AT MOST 1048576: true; the input reads as it did. -/
def fnNextAllUptoRow : OpenClaim := { program := "ytcoknnjffbipfaa", sum := "eca12b91a63d00b11e604b00abb3fc01b966ffa0f654b5dd6468333ab0734887", func := "loop.example/wholecheck/laws.FnNextAll", spec := "fnNextAll", inPlace := ["slices.overlaps[[]int]"], unfollowed := true, recurses := true, apart := false, narrowed := true }
def FnNextAllUptoSaid : Prop := fnNextAllUptoRow.holds Try.pinned (OpenSpec.upto fnNextAllSpec)

end Rows
end Go.Proofs.Ytcoknnjffbipfaa
