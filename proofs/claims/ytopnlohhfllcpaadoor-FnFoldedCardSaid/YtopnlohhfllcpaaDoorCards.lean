/-
  DERIVED. GIVEN WITH THE SEED: THE CARDS: each row of YtopnlohhfllcpaaDoorRows.lean that lists a variable, with what it lists TIED to the program's text (the seventh form; the later family's looks); each row that meets fmt, with fmt's text TOLD by the authors' own Lean function (tested against real Go, not proved from fmt's source: count such statements apart). THE CARD IS WHAT COUNTS. Prove the row's statement (the work); the ties are given (YtopnlohhfllcpaaDoorTie.lean); close each card by the builder's one call (the guide's Derived/Test/ToyasCard.lean, 'card_holds'). Laid BY PROGRAM, IN A SANDBOX (cutbox-door.mjs). By AI agents, Wed Nov 11 2026. No macro, syntax, notation, axiom, sorry.
-/
import Derived.Test.YtopnlohhfllcpaaDoorRows
import GoSem.ClaimSeven
namespace Go.Proofs.YtopnlohhfllcpaaDoor
namespace Rows

/-- THE TIED CARD OF 'laws.FnExactAlikeIn'. -/
def fnExactAlikeInCard : Claim7 := { stood := { row := fnExactAlikeInRow, standIns := [], harness := (true, "489a0ec3d5935fd64d8a7baf96ff36a02fa427ba737183ed4fa4cc1cd331284a"), looks := false }, kinds := [], alts := [], laidByText := true, laidKinds := [.data, .data, .data], laidTests := true, laidLooks := .later }
def FnExactAlikeInCardSaid : Prop := Claim7.holds Tryd.pinned (.plain (OpenSpec.ofChange fnExactAlikeInSpec)) fnExactAlikeInCard

/-- THE TIED CARD OF 'laws.FnExactSameGraphs'. -/
def fnExactSameGraphsCard : Claim7 := { stood := { row := fnExactSameGraphsRow, standIns := [], harness := (true, "489a0ec3d5935fd64d8a7baf96ff36a02fa427ba737183ed4fa4cc1cd331284a"), looks := false }, kinds := [], alts := [], laidByText := true, laidKinds := [.data, .data, .data], laidTests := true, laidLooks := .later }
def FnExactSameGraphsCardSaid : Prop := Claim7.holds Tryd.pinned (.plain (OpenSpec.ofChange fnExactSameGraphsSpec)) fnExactSameGraphsCard

/-- THE TIED CARD OF 'laws.FnCanFollow'. -/
def fnCanFollowCard : Claim7 := { stood := { row := fnCanFollowRow, standIns := [], harness := (true, "489a0ec3d5935fd64d8a7baf96ff36a02fa427ba737183ed4fa4cc1cd331284a"), looks := false }, kinds := [], alts := [], laidByText := true, laidKinds := [.data, .data, .data], laidTests := true, laidLooks := .later }
def FnCanFollowCardSaid : Prop := Claim7.holds Tryd.pinned (.plain (OpenSpec.ofChange fnCanFollowSpec)) fnCanFollowCard

/-- THE TIED CARD OF 'laws.FnFolded'. -/
def fnFoldedCard : Claim7 := { stood := { row := fnFoldedRow, standIns := [], harness := (true, "489a0ec3d5935fd64d8a7baf96ff36a02fa427ba737183ed4fa4cc1cd331284a"), looks := false }, kinds := [], alts := [], laidByText := true, laidKinds := [.data, .data, .data], laidTests := true, laidLooks := .later }
def FnFoldedCardSaid : Prop := Claim7.holds Tryd.pinned (.plain (OpenSpec.ofChange fnFoldedSpec)) fnFoldedCard

/-- THE TIED CARD OF 'laws.FnExactFoldedGraph'. -/
def fnExactFoldedGraphCard : Claim7 := { stood := { row := fnExactFoldedGraphRow, standIns := [], harness := (true, "489a0ec3d5935fd64d8a7baf96ff36a02fa427ba737183ed4fa4cc1cd331284a"), looks := false }, kinds := [], alts := [], laidByText := true, laidKinds := [.data, .data, .data], laidTests := true, laidLooks := .later }
def FnExactFoldedGraphCardSaid : Prop := Claim7.holds Tryd.pinned (.plain (OpenSpec.ofChange fnExactFoldedGraphSpec)) fnExactFoldedGraphCard

/-- THE SECOND FORM's CARD OF 'laws.FnExactAlikeIn'. -/
def fnExactAlikeInUptoCard : Claim7 := { stood := { row := fnExactAlikeInUptoRow, standIns := [], harness := (true, "489a0ec3d5935fd64d8a7baf96ff36a02fa427ba737183ed4fa4cc1cd331284a"), looks := false }, kinds := [], alts := [], laidByText := true, laidKinds := [.data, .data, .data], laidTests := true, laidLooks := .later }
def FnExactAlikeInUptoCardSaid : Prop := Claim7.holds Tryd.pinned (.plain (OpenSpec.upto fnExactAlikeInSpec)) fnExactAlikeInUptoCard

/-- THE SECOND FORM's CARD OF 'laws.FnExactSameGraphs'. -/
def fnExactSameGraphsUptoCard : Claim7 := { stood := { row := fnExactSameGraphsUptoRow, standIns := [], harness := (true, "489a0ec3d5935fd64d8a7baf96ff36a02fa427ba737183ed4fa4cc1cd331284a"), looks := false }, kinds := [], alts := [], laidByText := true, laidKinds := [.data, .data, .data], laidTests := true, laidLooks := .later }
def FnExactSameGraphsUptoCardSaid : Prop := Claim7.holds Tryd.pinned (.plain (OpenSpec.upto fnExactSameGraphsSpec)) fnExactSameGraphsUptoCard

/-- THE SECOND FORM's CARD OF 'laws.FnCanFollow'. -/
def fnCanFollowUptoCard : Claim7 := { stood := { row := fnCanFollowUptoRow, standIns := [], harness := (true, "489a0ec3d5935fd64d8a7baf96ff36a02fa427ba737183ed4fa4cc1cd331284a"), looks := false }, kinds := [], alts := [], laidByText := true, laidKinds := [.data, .data, .data], laidTests := true, laidLooks := .later }
def FnCanFollowUptoCardSaid : Prop := Claim7.holds Tryd.pinned (.plain (OpenSpec.upto fnCanFollowSpec)) fnCanFollowUptoCard

/-- THE SECOND FORM's CARD OF 'laws.FnFolded'. -/
def fnFoldedUptoCard : Claim7 := { stood := { row := fnFoldedUptoRow, standIns := [], harness := (true, "489a0ec3d5935fd64d8a7baf96ff36a02fa427ba737183ed4fa4cc1cd331284a"), looks := false }, kinds := [], alts := [], laidByText := true, laidKinds := [.data, .data, .data], laidTests := true, laidLooks := .later }
def FnFoldedUptoCardSaid : Prop := Claim7.holds Tryd.pinned (.plain (OpenSpec.upto fnFoldedSpec)) fnFoldedUptoCard

/-- THE SECOND FORM's CARD OF 'laws.FnExactFoldedGraph'. -/
def fnExactFoldedGraphUptoCard : Claim7 := { stood := { row := fnExactFoldedGraphUptoRow, standIns := [], harness := (true, "489a0ec3d5935fd64d8a7baf96ff36a02fa427ba737183ed4fa4cc1cd331284a"), looks := false }, kinds := [], alts := [], laidByText := true, laidKinds := [.data, .data, .data], laidTests := true, laidLooks := .later }
def FnExactFoldedGraphUptoCardSaid : Prop := Claim7.holds Tryd.pinned (.plain (OpenSpec.upto fnExactFoldedGraphSpec)) fnExactFoldedGraphUptoCard
end Rows
end Go.Proofs.YtopnlohhfllcpaaDoor
