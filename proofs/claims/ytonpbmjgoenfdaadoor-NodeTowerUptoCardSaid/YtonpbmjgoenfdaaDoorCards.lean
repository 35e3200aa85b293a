/-
  DERIVED. GIVEN WITH THE SEED: THE CARDS: each row of YtonpbmjgoenfdaaDoorRows.lean that lists a variable, with what it lists TIED to the program's text (the seventh form; the later family's looks); each row that meets fmt, with fmt's text TOLD by the authors' own Lean function (tested against real Go, not proved from fmt's source: count such statements apart). THE CARD IS WHAT COUNTS. Prove the row's statement (the work); the ties are given (YtonpbmjgoenfdaaDoorTie.lean); close each card by the builder's one call (the guide's Derived/Test/ToyasCard.lean, 'card_holds'). Laid BY PROGRAM, IN A SANDBOX (cutbox-door.mjs). By AI agents, Wed Nov 11 2026. No macro, syntax, notation, axiom, sorry.
-/
import Derived.Test.YtonpbmjgoenfdaaDoorRows
import GoSem.ClaimSeven
namespace Go.Proofs.YtonpbmjgoenfdaaDoor
namespace Rows

/-- THE TIED CARD OF 'ledgerlaw9.NodeTower'. -/
def nodeTowerCard : Claim7 := { stood := { row := nodeTowerRow, standIns := [], harness := (true, "c673ed37669b636930357cd1a41b6f89d88111053e2131b100b68989d10b76c7"), looks := false }, kinds := [], alts := [], laidByText := true, laidKinds := [.data, .data], laidTests := true, laidLooks := .later }
def NodeTowerCardSaid : Prop := Claim7.holds Tryd.pinned (.plain (OpenSpec.ofChange nodeTowerSpec)) nodeTowerCard

/-- THE TIED CARD OF 'ledgerlaw9.NodeHash'. -/
def nodeHashCard : Claim7 := { stood := { row := nodeHashRow, standIns := [], harness := (true, "c673ed37669b636930357cd1a41b6f89d88111053e2131b100b68989d10b76c7"), looks := false }, kinds := [], alts := [], laidByText := true, laidKinds := [.data, .data], laidTests := true, laidLooks := .later }
def NodeHashCardSaid : Prop := Claim7.holds Tryd.pinned (.plain (OpenSpec.ofChange nodeHashSpec)) nodeHashCard

/-- THE TIED CARD OF 'ledgerlaw9.NodeSteps'. -/
def nodeStepsCard : Claim7 := { stood := { row := nodeStepsRow, standIns := [], harness := (true, "c673ed37669b636930357cd1a41b6f89d88111053e2131b100b68989d10b76c7"), looks := false }, kinds := [], alts := [], laidByText := true, laidKinds := [.data, .data], laidTests := true, laidLooks := .later }
def NodeStepsCardSaid : Prop := Claim7.holds Tryd.pinned (.plain (OpenSpec.ofChange nodeStepsSpec)) nodeStepsCard

/-- THE SECOND FORM's CARD OF 'ledgerlaw9.NodeTower'. -/
def nodeTowerUptoCard : Claim7 := { stood := { row := nodeTowerUptoRow, standIns := [], harness := (true, "c673ed37669b636930357cd1a41b6f89d88111053e2131b100b68989d10b76c7"), looks := false }, kinds := [], alts := [], laidByText := true, laidKinds := [.data, .data], laidTests := true, laidLooks := .later }
def NodeTowerUptoCardSaid : Prop := Claim7.holds Tryd.pinned (.plain (OpenSpec.upto nodeTowerSpec)) nodeTowerUptoCard

/-- THE SECOND FORM's CARD OF 'ledgerlaw9.NodeHash'. -/
def nodeHashUptoCard : Claim7 := { stood := { row := nodeHashUptoRow, standIns := [], harness := (true, "c673ed37669b636930357cd1a41b6f89d88111053e2131b100b68989d10b76c7"), looks := false }, kinds := [], alts := [], laidByText := true, laidKinds := [.data, .data], laidTests := true, laidLooks := .later }
def NodeHashUptoCardSaid : Prop := Claim7.holds Tryd.pinned (.plain (OpenSpec.upto nodeHashSpec)) nodeHashUptoCard

/-- THE SECOND FORM's CARD OF 'ledgerlaw9.NodeSteps'. -/
def nodeStepsUptoCard : Claim7 := { stood := { row := nodeStepsUptoRow, standIns := [], harness := (true, "c673ed37669b636930357cd1a41b6f89d88111053e2131b100b68989d10b76c7"), looks := false }, kinds := [], alts := [], laidByText := true, laidKinds := [.data, .data], laidTests := true, laidLooks := .later }
def NodeStepsUptoCardSaid : Prop := Claim7.holds Tryd.pinned (.plain (OpenSpec.upto nodeStepsSpec)) nodeStepsUptoCard
end Rows
end Go.Proofs.YtonpbmjgoenfdaaDoor
