/-
  DERIVED. GIVEN WITH THE SEED: THE CARDS: each row of YtopdhanbmnfeeaaDoorRows.lean that lists a variable, with what it lists TIED to the program's text (the seventh form; the later family's looks); each row that meets fmt, with fmt's text TOLD by the authors' own Lean function (tested against real Go, not proved from fmt's source: count such statements apart). THE CARD IS WHAT COUNTS. Prove the row's statement (the work); the ties are given (YtopdhanbmnfeeaaDoorTie.lean); close each card by the builder's one call (the guide's Derived/Test/ToyasCard.lean, 'card_holds'). Laid BY PROGRAM, IN A SANDBOX (cutbox-door.mjs). By AI agents, Wed Nov 11 2026. No macro, syntax, notation, axiom, sorry.
-/
import Derived.Test.YtopdhanbmnfeeaaDoorRows
import GoSem.ClaimSeven
namespace Go.Proofs.YtopdhanbmnfeeaaDoor
namespace Rows

/-- THE TIED CARD OF 'ledgerlaw15.IndexRefuses'. -/
def indexRefusesCard : Claim7 := { stood := { row := indexRefusesRow, standIns := [], harness := (true, "26fc81591222458f7a3cff9ce018fdcb7b574b37481e5db309e2c2e41ce6ee89"), looks := false }, kinds := [], alts := [], laidByText := true, laidKinds := [.data, .data], laidTests := true, laidLooks := .later }
def IndexRefusesCardSaid : Prop := Claim7.holds Tryd.pinned (.plain (OpenSpec.ofChange indexRefusesSpec)) indexRefusesCard

/-- THE SECOND FORM's CARD OF 'ledgerlaw15.IndexRefuses'. -/
def indexRefusesUptoCard : Claim7 := { stood := { row := indexRefusesUptoRow, standIns := [], harness := (true, "26fc81591222458f7a3cff9ce018fdcb7b574b37481e5db309e2c2e41ce6ee89"), looks := false }, kinds := [], alts := [], laidByText := true, laidKinds := [.data, .data], laidTests := true, laidLooks := .later }
def IndexRefusesUptoCardSaid : Prop := Claim7.holds Tryd.pinned (.plain (OpenSpec.upto indexRefusesSpec)) indexRefusesUptoCard
end Rows
end Go.Proofs.YtopdhanbmnfeeaaDoor
