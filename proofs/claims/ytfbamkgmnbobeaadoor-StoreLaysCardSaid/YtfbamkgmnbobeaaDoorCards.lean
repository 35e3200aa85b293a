/-
  DERIVED. GIVEN WITH THE SEED: THE CARDS: each row of YtfbamkgmnbobeaaDoorRows.lean that lists a variable, with what it lists TIED to the program's text (the seventh form; the later family's looks); each row that meets fmt, with fmt's text TOLD by the authors' own Lean function (tested against real Go, not proved from fmt's source: count such statements apart). THE CARD IS WHAT COUNTS. Prove the row's statement (the work); the ties are given (YtfbamkgmnbobeaaDoorTie.lean); close each card by the builder's one call (the guide's Derived/Test/ToyasCard.lean, 'card_holds'). Laid BY PROGRAM, IN A SANDBOX (cutbox-door.mjs). By AI agents, Wed Nov 11 2026. No macro, syntax, notation, axiom, sorry.
-/
import Derived.Test.YtfbamkgmnbobeaaDoorRows
import GoSem.ClaimSeven
namespace Go.Proofs.YtfbamkgmnbobeaaDoor
namespace Rows

/-- THE TIED CARD OF 'ledgerlaw8.StoreMost'. -/
def storeMostCard : Claim7 := { stood := { row := storeMostRow, standIns := [], harness := (true, "d92b8623d43d89a34abcd788dbb542bf4646b570f9bb1420bb5e04bb2e40656c"), looks := false }, kinds := [], alts := [], laidByText := true, laidKinds := [.data], laidTests := true, laidLooks := .later }
def StoreMostCardSaid : Prop := Claim7.holds Tryd.pinned (.plain (OpenSpec.ofChange storeMostSpec)) storeMostCard

/-- THE TIED CARD OF 'ledgerlaw8.StoreLays'. -/
def storeLaysCard : Claim7 := { stood := { row := storeLaysRow, standIns := [], harness := (true, "d92b8623d43d89a34abcd788dbb542bf4646b570f9bb1420bb5e04bb2e40656c"), looks := false }, kinds := [], alts := [], laidByText := true, laidKinds := [.data], laidTests := true, laidLooks := .later }
def StoreLaysCardSaid : Prop := Claim7.holds Tryd.pinned (.plain (OpenSpec.ofChange storeLaysSpec)) storeLaysCard

/-- THE SECOND FORM's CARD OF 'ledgerlaw8.StoreMost'. -/
def storeMostUptoCard : Claim7 := { stood := { row := storeMostUptoRow, standIns := [], harness := (true, "d92b8623d43d89a34abcd788dbb542bf4646b570f9bb1420bb5e04bb2e40656c"), looks := false }, kinds := [], alts := [], laidByText := true, laidKinds := [.data], laidTests := true, laidLooks := .later }
def StoreMostUptoCardSaid : Prop := Claim7.holds Tryd.pinned (.plain (OpenSpec.upto storeMostSpec)) storeMostUptoCard

/-- THE SECOND FORM's CARD OF 'ledgerlaw8.StoreLays'. -/
def storeLaysUptoCard : Claim7 := { stood := { row := storeLaysUptoRow, standIns := [], harness := (true, "d92b8623d43d89a34abcd788dbb542bf4646b570f9bb1420bb5e04bb2e40656c"), looks := false }, kinds := [], alts := [], laidByText := true, laidKinds := [.data], laidTests := true, laidLooks := .later }
def StoreLaysUptoCardSaid : Prop := Claim7.holds Tryd.pinned (.plain (OpenSpec.upto storeLaysSpec)) storeLaysUptoCard
end Rows
end Go.Proofs.YtfbamkgmnbobeaaDoor
