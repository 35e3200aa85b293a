/-
  DERIVED. GIVEN WITH THE SEED: THE CARDS: each row of YteiepenanffhcaaDoorRows.lean that lists a variable, with what it lists TIED to the program's text (the seventh form; the later family's looks); each row that meets fmt, with fmt's text TOLD by the authors' own Lean function (tested against real Go, not proved from fmt's source: count such statements apart). THE CARD IS WHAT COUNTS. Prove the row's statement (the work); the ties are given (YteiepenanffhcaaDoorTie.lean); close each card by the builder's one call (the guide's Derived/Test/ToyasCard.lean, 'card_holds'). Laid BY PROGRAM, IN A SANDBOX (cutbox-door.mjs). By AI agents, Wed Nov 11 2026. No macro, syntax, notation, axiom, sorry.
-/
import Derived.Test.YteiepenanffhcaaDoorRows
import GoSem.ClaimSeven
namespace Go.Proofs.YteiepenanffhcaaDoor
namespace Rows

/-- THE TIED CARD OF 'ledgerlaw9.NodeEncodes'. -/
def nodeEncodesCard : Claim7 := { stood := { row := nodeEncodesRow, standIns := [], harness := (true, "e18c55499fc84d8c5b8489fa0cbe2857a12a69d34c4585b064910d8b2c178bca"), looks := true }, kinds := [], alts := [], laidByText := true, laidKinds := [.data, .data, .data, .data], laidTests := true, laidLooks := .later }
def NodeEncodesCardSaid : Prop := Claim7.holds Tryd.pinned (.plain (OpenSpec.ofChange nodeEncodesSpec)) nodeEncodesCard

/-- THE TIED CARD OF 'ledgerlaw9.NodeDecodes'. -/
def nodeDecodesCard : Claim7 := { stood := { row := nodeDecodesRow, standIns := [], harness := (true, "e18c55499fc84d8c5b8489fa0cbe2857a12a69d34c4585b064910d8b2c178bca"), looks := true }, kinds := [], alts := [], laidByText := true, laidKinds := [.data, .data, .data, .data], laidTests := true, laidLooks := .later }
def NodeDecodesCardSaid : Prop := Claim7.holds Tryd.pinned (.plain (OpenSpec.ofChange nodeDecodesSpec)) nodeDecodesCard

/-- THE TIED CARD OF 'ledgerlaw9.NodeTexts'. -/
def nodeTextsCard : Claim7 := { stood := { row := nodeTextsRow, standIns := [], harness := (true, "e18c55499fc84d8c5b8489fa0cbe2857a12a69d34c4585b064910d8b2c178bca"), looks := true }, kinds := [], alts := [], laidByText := true, laidKinds := [.data, .data, .data, .data], laidTests := true, laidLooks := .later }
def NodeTextsCardSaid : Prop := Claim7.holds Tryd.pinned (.plain (OpenSpec.ofChange nodeTextsSpec)) nodeTextsCard

/-- THE TIED CARD OF 'ledgerlaw9.NodeSums'. -/
def nodeSumsCard : Claim7 := { stood := { row := nodeSumsRow, standIns := [], harness := (true, "e18c55499fc84d8c5b8489fa0cbe2857a12a69d34c4585b064910d8b2c178bca"), looks := true }, kinds := [], alts := [], laidByText := true, laidKinds := [.data, .data, .data, .data], laidTests := true, laidLooks := .later }
def NodeSumsCardSaid : Prop := Claim7.holds Tryd.pinned (.plain (OpenSpec.ofChange nodeSumsSpec)) nodeSumsCard

/-- THE TIED CARD OF 'ledgerlaw9.NodeEmpties'. -/
def nodeEmptiesCard : Claim7 := { stood := { row := nodeEmptiesRow, standIns := [], harness := (true, "e18c55499fc84d8c5b8489fa0cbe2857a12a69d34c4585b064910d8b2c178bca"), looks := true }, kinds := [], alts := [], laidByText := true, laidKinds := [.data, .data, .data, .data], laidTests := true, laidLooks := .later }
def NodeEmptiesCardSaid : Prop := Claim7.holds Tryd.pinned (.plain (OpenSpec.ofChange nodeEmptiesSpec)) nodeEmptiesCard

/-- THE TIED CARD OF 'ledgerlaw9.NodeClimbs'. -/
def nodeClimbsCard : Claim7 := { stood := { row := nodeClimbsRow, standIns := [], harness := (true, "e18c55499fc84d8c5b8489fa0cbe2857a12a69d34c4585b064910d8b2c178bca"), looks := true }, kinds := [], alts := [], laidByText := true, laidKinds := [.data, .data, .data, .data], laidTests := true, laidLooks := .later }
def NodeClimbsCardSaid : Prop := Claim7.holds Tryd.pinned (.plain (OpenSpec.ofChange nodeClimbsSpec)) nodeClimbsCard

/-- THE TIED CARD OF 'ledgerlaw9.NodePlays'. -/
def nodePlaysCard : Claim7 := { stood := { row := nodePlaysRow, standIns := [], harness := (true, "e18c55499fc84d8c5b8489fa0cbe2857a12a69d34c4585b064910d8b2c178bca"), looks := true }, kinds := [], alts := [], laidByText := true, laidKinds := [.data, .data, .data, .data], laidTests := true, laidLooks := .later }
def NodePlaysCardSaid : Prop := Claim7.holds Tryd.pinned (.plain (OpenSpec.ofChange nodePlaysSpec)) nodePlaysCard

/-- THE SECOND FORM's CARD OF 'ledgerlaw9.NodeEncodes'. -/
def nodeEncodesUptoCard : Claim7 := { stood := { row := nodeEncodesUptoRow, standIns := [], harness := (true, "e18c55499fc84d8c5b8489fa0cbe2857a12a69d34c4585b064910d8b2c178bca"), looks := true }, kinds := [], alts := [], laidByText := true, laidKinds := [.data, .data, .data, .data], laidTests := true, laidLooks := .later }
def NodeEncodesUptoCardSaid : Prop := Claim7.holds Tryd.pinned (.plain (OpenSpec.upto nodeEncodesSpec)) nodeEncodesUptoCard

/-- THE SECOND FORM's CARD OF 'ledgerlaw9.NodeDecodes'. -/
def nodeDecodesUptoCard : Claim7 := { stood := { row := nodeDecodesUptoRow, standIns := [], harness := (true, "e18c55499fc84d8c5b8489fa0cbe2857a12a69d34c4585b064910d8b2c178bca"), looks := true }, kinds := [], alts := [], laidByText := true, laidKinds := [.data, .data, .data, .data], laidTests := true, laidLooks := .later }
def NodeDecodesUptoCardSaid : Prop := Claim7.holds Tryd.pinned (.plain (OpenSpec.upto nodeDecodesSpec)) nodeDecodesUptoCard

/-- THE SECOND FORM's CARD OF 'ledgerlaw9.NodeTexts'. -/
def nodeTextsUptoCard : Claim7 := { stood := { row := nodeTextsUptoRow, standIns := [], harness := (true, "e18c55499fc84d8c5b8489fa0cbe2857a12a69d34c4585b064910d8b2c178bca"), looks := true }, kinds := [], alts := [], laidByText := true, laidKinds := [.data, .data, .data, .data], laidTests := true, laidLooks := .later }
def NodeTextsUptoCardSaid : Prop := Claim7.holds Tryd.pinned (.plain (OpenSpec.upto nodeTextsSpec)) nodeTextsUptoCard

/-- THE SECOND FORM's CARD OF 'ledgerlaw9.NodeSums'. -/
def nodeSumsUptoCard : Claim7 := { stood := { row := nodeSumsUptoRow, standIns := [], harness := (true, "e18c55499fc84d8c5b8489fa0cbe2857a12a69d34c4585b064910d8b2c178bca"), looks := true }, kinds := [], alts := [], laidByText := true, laidKinds := [.data, .data, .data, .data], laidTests := true, laidLooks := .later }
def NodeSumsUptoCardSaid : Prop := Claim7.holds Tryd.pinned (.plain (OpenSpec.upto nodeSumsSpec)) nodeSumsUptoCard

/-- THE SECOND FORM's CARD OF 'ledgerlaw9.NodeEmpties'. -/
def nodeEmptiesUptoCard : Claim7 := { stood := { row := nodeEmptiesUptoRow, standIns := [], harness := (true, "e18c55499fc84d8c5b8489fa0cbe2857a12a69d34c4585b064910d8b2c178bca"), looks := true }, kinds := [], alts := [], laidByText := true, laidKinds := [.data, .data, .data, .data], laidTests := true, laidLooks := .later }
def NodeEmptiesUptoCardSaid : Prop := Claim7.holds Tryd.pinned (.plain (OpenSpec.upto nodeEmptiesSpec)) nodeEmptiesUptoCard

/-- THE SECOND FORM's CARD OF 'ledgerlaw9.NodeClimbs'. -/
def nodeClimbsUptoCard : Claim7 := { stood := { row := nodeClimbsUptoRow, standIns := [], harness := (true, "e18c55499fc84d8c5b8489fa0cbe2857a12a69d34c4585b064910d8b2c178bca"), looks := true }, kinds := [], alts := [], laidByText := true, laidKinds := [.data, .data, .data, .data], laidTests := true, laidLooks := .later }
def NodeClimbsUptoCardSaid : Prop := Claim7.holds Tryd.pinned (.plain (OpenSpec.upto nodeClimbsSpec)) nodeClimbsUptoCard

/-- THE SECOND FORM's CARD OF 'ledgerlaw9.NodePlays'. -/
def nodePlaysUptoCard : Claim7 := { stood := { row := nodePlaysUptoRow, standIns := [], harness := (true, "e18c55499fc84d8c5b8489fa0cbe2857a12a69d34c4585b064910d8b2c178bca"), looks := true }, kinds := [], alts := [], laidByText := true, laidKinds := [.data, .data, .data, .data], laidTests := true, laidLooks := .later }
def NodePlaysUptoCardSaid : Prop := Claim7.holds Tryd.pinned (.plain (OpenSpec.upto nodePlaysSpec)) nodePlaysUptoCard
end Rows
end Go.Proofs.YteiepenanffhcaaDoor
