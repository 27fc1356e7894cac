/-
  No cell of these rows narrows 'for every input' (looked for: loops, veiled, ifaces, maps, wideKeys, modest, calm, conditions, laid).
  DERIVED. THE GIVEN ROWS OF THIS SEAT. 4 by the template 'for every input the law returns true; each argument reads behind the call as it read before'; 0 by the template 'total and deterministic' (their statements: YtcoknnjffbipfaaGreatTotals.lean).
  GIVEN WITH THE SEED: the statements are not yours to turn. If you find one false, say at which input.
  Laid BY PROGRAM, IN A SANDBOX (cutbox-rows.mjs): the forced cells as the released guide's own fill.sh prints them over the translation 08c9429be86e2072… (all of the seat's roots in one cut). By AI agents, Wed Nov 11 2026. No macro, syntax, notation, axiom, sorry.
-/
import Derived.Test.YtcoknnjffbipfaaGreatChecked
import GoSem.Claim
import GoSem.ClaimJoined
import GoSem.ClaimMapViews
import Derived.JoinedTies
import Derived.KernelRfl
namespace Go.Proofs.YtcoknnjffbipfaaGreat
/- THE CELL 'sum', in the pinned program and in every row, IS THE sha256 OF THE DUMP (.gsa) THAT YtcoknnjffbipfaaGreatProg.lean LOADS. Nothing in Lean hashes anything: it is a label: what it is worth is what the hold of that sum in a sandbox is worth. -/
noncomputable def Tryz.pinned : Pinned := { name := "ytcoknnjffbipfaagreat", sum := "08c9429be86e207260cb6413875c60021cf1cfd880f98394b77255313eb30b2e", checked := Tryz.checked }
namespace Rows
def none {H : Type} : Left H := { results := [], args := [] }

/-- 'laws.FnComponents': WHATEVER THE INPUT: true; the input reads as it did. -/
def fnComponentsSpec : ChangeSpec := { name := "fnComponents", fn := fun _ => fun
  | [d] => { results := [.lit (.bool true)], args := [d] }
  | _ => none }
def fnComponentsRow : OpenClaim := { program := "ytcoknnjffbipfaagreat", sum := "08c9429be86e207260cb6413875c60021cf1cfd880f98394b77255313eb30b2e", func := "loop.example/wholecheck/laws.FnComponents", spec := "fnComponents", inPlace := ["slices.overlaps[[]int]"], unfollowed := true, recurses := true, apart := false }
def FnComponentsSaid : Prop := fnComponentsRow.holds Tryz.pinned (OpenSpec.ofChange fnComponentsSpec)

/-- ITS FALSE NEIGHBOUR: 'it returns false'. Refute it at one input. -/
def fnComponentsWrong : ChangeSpec := { name := "fnComponents", fn := fun _ => fun
  | [d] => { results := [.lit (.bool false)], args := [d] }
  | _ => none }
def FnComponentsWrongFalsely : Prop := fnComponentsRow.holds Tryz.pinned (OpenSpec.ofChange fnComponentsWrong)

/-- 'laws.FnBackAhead': WHATEVER THE INPUT: true; the input reads as it did. -/
def fnBackAheadSpec : ChangeSpec := { name := "fnBackAhead", fn := fun _ => fun
  | [d] => { results := [.lit (.bool true)], args := [d] }
  | _ => none }
def fnBackAheadRow : OpenClaim := { program := "ytcoknnjffbipfaagreat", sum := "08c9429be86e207260cb6413875c60021cf1cfd880f98394b77255313eb30b2e", func := "loop.example/wholecheck/laws.FnBackAhead", spec := "fnBackAhead", inPlace := ["slices.overlaps[[]int]"], unfollowed := true, recurses := true, apart := false }
def FnBackAheadSaid : Prop := fnBackAheadRow.holds Tryz.pinned (OpenSpec.ofChange fnBackAheadSpec)

/-- ITS FALSE NEIGHBOUR: 'it returns false'. Refute it at one input. -/
def fnBackAheadWrong : ChangeSpec := { name := "fnBackAhead", fn := fun _ => fun
  | [d] => { results := [.lit (.bool false)], args := [d] }
  | _ => none }
def FnBackAheadWrongFalsely : Prop := fnBackAheadRow.holds Tryz.pinned (OpenSpec.ofChange fnBackAheadWrong)

/-- 'laws.FnLooplessTo': WHATEVER THE INPUT: true; the input reads as it did. -/
def fnLooplessToSpec : ChangeSpec := { name := "fnLooplessTo", fn := fun _ => fun
  | [d] => { results := [.lit (.bool true)], args := [d] }
  | _ => none }
def fnLooplessToRow : OpenClaim := { program := "ytcoknnjffbipfaagreat", sum := "08c9429be86e207260cb6413875c60021cf1cfd880f98394b77255313eb30b2e", func := "loop.example/wholecheck/laws.FnLooplessTo", spec := "fnLooplessTo", inPlace := ["slices.overlaps[[]int]"], unfollowed := true, recurses := true, apart := false }
def FnLooplessToSaid : Prop := fnLooplessToRow.holds Tryz.pinned (OpenSpec.ofChange fnLooplessToSpec)

/-- ITS FALSE NEIGHBOUR: 'it returns false'. Refute it at one input. -/
def fnLooplessToWrong : ChangeSpec := { name := "fnLooplessTo", fn := fun _ => fun
  | [d] => { results := [.lit (.bool false)], args := [d] }
  | _ => none }
def FnLooplessToWrongFalsely : Prop := fnLooplessToRow.holds Tryz.pinned (OpenSpec.ofChange fnLooplessToWrong)

/-- 'laws.FnCanReach': WHATEVER THE INPUT: true; the input reads as it did. -/
def fnCanReachSpec : ChangeSpec := { name := "fnCanReach", fn := fun _ => fun
  | [d] => { results := [.lit (.bool true)], args := [d] }
  | _ => none }
def fnCanReachRow : OpenClaim := { program := "ytcoknnjffbipfaagreat", sum := "08c9429be86e207260cb6413875c60021cf1cfd880f98394b77255313eb30b2e", func := "loop.example/wholecheck/laws.FnCanReach", spec := "fnCanReach", inPlace := ["slices.overlaps[[]int]"], unfollowed := true, recurses := true, apart := false }
def FnCanReachSaid : Prop := fnCanReachRow.holds Tryz.pinned (OpenSpec.ofChange fnCanReachSpec)

/-- ITS FALSE NEIGHBOUR: 'it returns false'. Refute it at one input. -/
def fnCanReachWrong : ChangeSpec := { name := "fnCanReach", fn := fun _ => fun
  | [d] => { results := [.lit (.bool false)], args := [d] }
  | _ => none }
def FnCanReachWrongFalsely : Prop := fnCanReachRow.holds Tryz.pinned (OpenSpec.ofChange fnCanReachWrong)

/- THE SECOND FORM. 'bulk': how many values and letters a reading holds, each counted each time it is reached (what is shared counts as often as it is met; a slice's spare places count too). A statement '..UptoSaid' is the law's where the arguments, and the package variables that the reading takes, are together of bulk at most 1048576: NARROWER than '..Said'. Prove '..Said' where nothing that the law and all that it calls make is longer than what came in: it says more and counts as full. Else prove '..UptoSaid'. A law counts once. -/
mutual
def uptoBulk {H : Type} : DataW H → Nat
  | .lit (.string bytes) => bytes.length + 1
  | .lit _ => 1
  | .nil => 1
  | .ptr d => uptoBulk d + 1
  | .slice elems spare => uptoBulkAll elems + uptoBulkAll spare + 1
  | .agg parts => uptoBulkAll parts + 1
  | .iface _ d => uptoBulk d + 1
  | .map entries => uptoBulkEntries entries + 1
  | .held _ => 1
def uptoBulkAll {H : Type} : List (DataW H) → Nat
  | [] => 0
  | d :: r => uptoBulk d + uptoBulkAll r
def uptoBulkEntries {H : Type} : List (Lit × DataW H) → Nat
  | [] => 0
  | x :: r => uptoBulkEntry x + uptoBulkEntries r
def uptoBulkEntry {H : Type} : Lit × DataW H → Nat
  | (.string bytes, d) => bytes.length + uptoBulk d + 1
  | (_, d) => uptoBulk d + 1
 end
def uptoSmall : (H : Type) → List (DataW H) → Bool := fun _ ds => decide (uptoBulkAll ds ≤ 1048576)
def OpenSpec.upto (s : _root_.Go.ChangeSpec) : _root_.Go.OpenSpec := { _root_.Go.OpenSpec.ofChange s with cond := some uptoSmall }

/-- 'laws.FnComponents', WHERE WHAT IT READS IS OF BULK AT MOST 1048576: true; the input reads as it did. -/
def fnComponentsUptoRow : OpenClaim := { program := "ytcoknnjffbipfaagreat", sum := "08c9429be86e207260cb6413875c60021cf1cfd880f98394b77255313eb30b2e", func := "loop.example/wholecheck/laws.FnComponents", spec := "fnComponents", inPlace := ["slices.overlaps[[]int]"], unfollowed := true, recurses := true, apart := false, narrowed := true }
def FnComponentsUptoSaid : Prop := fnComponentsUptoRow.holds Tryz.pinned (OpenSpec.upto fnComponentsSpec)

/-- 'laws.FnBackAhead', WHERE WHAT IT READS IS OF BULK AT MOST 1048576: true; the input reads as it did. -/
def fnBackAheadUptoRow : OpenClaim := { program := "ytcoknnjffbipfaagreat", sum := "08c9429be86e207260cb6413875c60021cf1cfd880f98394b77255313eb30b2e", func := "loop.example/wholecheck/laws.FnBackAhead", spec := "fnBackAhead", inPlace := ["slices.overlaps[[]int]"], unfollowed := true, recurses := true, apart := false, narrowed := true }
def FnBackAheadUptoSaid : Prop := fnBackAheadUptoRow.holds Tryz.pinned (OpenSpec.upto fnBackAheadSpec)

/-- 'laws.FnLooplessTo', WHERE WHAT IT READS IS OF BULK AT MOST 1048576: true; the input reads as it did. -/
def fnLooplessToUptoRow : OpenClaim := { program := "ytcoknnjffbipfaagreat", sum := "08c9429be86e207260cb6413875c60021cf1cfd880f98394b77255313eb30b2e", func := "loop.example/wholecheck/laws.FnLooplessTo", spec := "fnLooplessTo", inPlace := ["slices.overlaps[[]int]"], unfollowed := true, recurses := true, apart := false, narrowed := true }
def FnLooplessToUptoSaid : Prop := fnLooplessToUptoRow.holds Tryz.pinned (OpenSpec.upto fnLooplessToSpec)

/-- 'laws.FnCanReach', WHERE WHAT IT READS IS OF BULK AT MOST 1048576: true; the input reads as it did. -/
def fnCanReachUptoRow : OpenClaim := { program := "ytcoknnjffbipfaagreat", sum := "08c9429be86e207260cb6413875c60021cf1cfd880f98394b77255313eb30b2e", func := "loop.example/wholecheck/laws.FnCanReach", spec := "fnCanReach", inPlace := ["slices.overlaps[[]int]"], unfollowed := true, recurses := true, apart := false, narrowed := true }
def FnCanReachUptoSaid : Prop := fnCanReachUptoRow.holds Tryz.pinned (OpenSpec.upto fnCanReachSpec)

end Rows
end Go.Proofs.YtcoknnjffbipfaaGreat
