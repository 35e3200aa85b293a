/-
  DERIVED. GIVEN WITH THE SEED: THE CARDS: each row of YtodhlfinbbajfaaGreatDoorRows.lean that lists a variable, with what it lists TIED to the program's text (the seventh form; the later family's looks); each row that meets fmt, with fmt's text TOLD by the authors' own Lean function (tested against real Go, not proved from fmt's source: count such statements apart). THE CARD IS WHAT COUNTS. Prove the row's statement (the work); the ties are given (YtodhlfinbbajfaaGreatDoorTie.lean); close each card by the builder's one call (the guide's Derived/Test/ToyasCard.lean, 'card_holds'). Laid BY PROGRAM, IN A SANDBOX (cutbox-door.mjs). By AI agents, Wed Nov 11 2026. No macro, syntax, notation, axiom, sorry.
-/
import Derived.Test.YtodhlfinbbajfaaGreatDoorRows
import GoSem.ClaimSeven
namespace Go.Proofs.YtodhlfinbbajfaaGreatDoor
namespace Rows

/-- THE TIED CARD OF 'ledgerlaw6.FileFormats'. -/
def fileFormatsCard : Claim7 := { stood := { row := fileFormatsRow, standIns := [], harness := (true, "439881f6fb7d334923f05a01dd1eaf06b0cbd93efacf45af5eea2d3dbedd06d5"), looks := false }, kinds := [], alts := [], laidByText := true, laidKinds := [.data], laidTests := true, laidLooks := .later }
def FileFormatsCardSaid : Prop := Claim7.holds Tryz.pinned (.plain (OpenSpec.ofChange fileFormatsSpec)) fileFormatsCard

/-- THE TIED CARD OF 'ledgerlaw6.FileOpens'. -/
def fileOpensCard : Claim7 := { stood := { row := fileOpensRow, standIns := [], harness := (true, "439881f6fb7d334923f05a01dd1eaf06b0cbd93efacf45af5eea2d3dbedd06d5"), looks := false }, kinds := [], alts := [], laidByText := true, laidKinds := [.data], laidTests := true, laidLooks := .later }
def FileOpensCardSaid : Prop := Claim7.holds Tryz.pinned (.plain (OpenSpec.ofChange fileOpensSpec)) fileOpensCard

/-- THE TIED CARD OF 'ledgerlaw6.FileKeeps'. -/
def fileKeepsCard : Claim7 := { stood := { row := fileKeepsRow, standIns := [], harness := (true, "439881f6fb7d334923f05a01dd1eaf06b0cbd93efacf45af5eea2d3dbedd06d5"), looks := false }, kinds := [], alts := [], laidByText := true, laidKinds := [.data], laidTests := true, laidLooks := .later }
def FileKeepsCardSaid : Prop := Claim7.holds Tryz.pinned (.plain (OpenSpec.ofChange fileKeepsSpec)) fileKeepsCard

/-- THE TIED CARD OF 'ledgerlaw6.FileAppends'. -/
def fileAppendsCard : Claim7 := { stood := { row := fileAppendsRow, standIns := [], harness := (true, "439881f6fb7d334923f05a01dd1eaf06b0cbd93efacf45af5eea2d3dbedd06d5"), looks := false }, kinds := [], alts := [], laidByText := true, laidKinds := [.data], laidTests := true, laidLooks := .later }
def FileAppendsCardSaid : Prop := Claim7.holds Tryz.pinned (.plain (OpenSpec.ofChange fileAppendsSpec)) fileAppendsCard

/-- THE TIED CARD OF 'ledgerlaw6.FileReads'. -/
def fileReadsCard : Claim7 := { stood := { row := fileReadsRow, standIns := [], harness := (true, "439881f6fb7d334923f05a01dd1eaf06b0cbd93efacf45af5eea2d3dbedd06d5"), looks := false }, kinds := [], alts := [], laidByText := true, laidKinds := [.data], laidTests := true, laidLooks := .later }
def FileReadsCardSaid : Prop := Claim7.holds Tryz.pinned (.plain (OpenSpec.ofChange fileReadsSpec)) fileReadsCard

/-- THE TIED CARD OF 'ledgerlaw6.FilePublishes'. -/
def filePublishesCard : Claim7 := { stood := { row := filePublishesRow, standIns := [], harness := (true, "439881f6fb7d334923f05a01dd1eaf06b0cbd93efacf45af5eea2d3dbedd06d5"), looks := false }, kinds := [], alts := [], laidByText := true, laidKinds := [.data], laidTests := true, laidLooks := .later }
def FilePublishesCardSaid : Prop := Claim7.holds Tryz.pinned (.plain (OpenSpec.ofChange filePublishesSpec)) filePublishesCard

/-- THE TIED CARD OF 'ledgerlaw6.FilePromotes'. -/
def filePromotesCard : Claim7 := { stood := { row := filePromotesRow, standIns := [], harness := (true, "439881f6fb7d334923f05a01dd1eaf06b0cbd93efacf45af5eea2d3dbedd06d5"), looks := false }, kinds := [], alts := [], laidByText := true, laidKinds := [.data], laidTests := true, laidLooks := .later }
def FilePromotesCardSaid : Prop := Claim7.holds Tryz.pinned (.plain (OpenSpec.ofChange filePromotesSpec)) filePromotesCard

/-- THE TIED CARD OF 'ledgerlaw6.FilePlays'. -/
def filePlaysCard : Claim7 := { stood := { row := filePlaysRow, standIns := [], harness := (true, "439881f6fb7d334923f05a01dd1eaf06b0cbd93efacf45af5eea2d3dbedd06d5"), looks := false }, kinds := [], alts := [], laidByText := true, laidKinds := [.data], laidTests := true, laidLooks := .later }
def FilePlaysCardSaid : Prop := Claim7.holds Tryz.pinned (.plain (OpenSpec.ofChange filePlaysSpec)) filePlaysCard

/-- THE SECOND FORM's CARD OF 'ledgerlaw6.FileFormats'. -/
def fileFormatsUptoCard : Claim7 := { stood := { row := fileFormatsUptoRow, standIns := [], harness := (true, "439881f6fb7d334923f05a01dd1eaf06b0cbd93efacf45af5eea2d3dbedd06d5"), looks := false }, kinds := [], alts := [], laidByText := true, laidKinds := [.data], laidTests := true, laidLooks := .later }
def FileFormatsUptoCardSaid : Prop := Claim7.holds Tryz.pinned (.plain (OpenSpec.upto fileFormatsSpec)) fileFormatsUptoCard

/-- THE SECOND FORM's CARD OF 'ledgerlaw6.FileOpens'. -/
def fileOpensUptoCard : Claim7 := { stood := { row := fileOpensUptoRow, standIns := [], harness := (true, "439881f6fb7d334923f05a01dd1eaf06b0cbd93efacf45af5eea2d3dbedd06d5"), looks := false }, kinds := [], alts := [], laidByText := true, laidKinds := [.data], laidTests := true, laidLooks := .later }
def FileOpensUptoCardSaid : Prop := Claim7.holds Tryz.pinned (.plain (OpenSpec.upto fileOpensSpec)) fileOpensUptoCard

/-- THE SECOND FORM's CARD OF 'ledgerlaw6.FileKeeps'. -/
def fileKeepsUptoCard : Claim7 := { stood := { row := fileKeepsUptoRow, standIns := [], harness := (true, "439881f6fb7d334923f05a01dd1eaf06b0cbd93efacf45af5eea2d3dbedd06d5"), looks := false }, kinds := [], alts := [], laidByText := true, laidKinds := [.data], laidTests := true, laidLooks := .later }
def FileKeepsUptoCardSaid : Prop := Claim7.holds Tryz.pinned (.plain (OpenSpec.upto fileKeepsSpec)) fileKeepsUptoCard

/-- THE SECOND FORM's CARD OF 'ledgerlaw6.FileAppends'. -/
def fileAppendsUptoCard : Claim7 := { stood := { row := fileAppendsUptoRow, standIns := [], harness := (true, "439881f6fb7d334923f05a01dd1eaf06b0cbd93efacf45af5eea2d3dbedd06d5"), looks := false }, kinds := [], alts := [], laidByText := true, laidKinds := [.data], laidTests := true, laidLooks := .later }
def FileAppendsUptoCardSaid : Prop := Claim7.holds Tryz.pinned (.plain (OpenSpec.upto fileAppendsSpec)) fileAppendsUptoCard

/-- THE SECOND FORM's CARD OF 'ledgerlaw6.FileReads'. -/
def fileReadsUptoCard : Claim7 := { stood := { row := fileReadsUptoRow, standIns := [], harness := (true, "439881f6fb7d334923f05a01dd1eaf06b0cbd93efacf45af5eea2d3dbedd06d5"), looks := false }, kinds := [], alts := [], laidByText := true, laidKinds := [.data], laidTests := true, laidLooks := .later }
def FileReadsUptoCardSaid : Prop := Claim7.holds Tryz.pinned (.plain (OpenSpec.upto fileReadsSpec)) fileReadsUptoCard

/-- THE SECOND FORM's CARD OF 'ledgerlaw6.FilePublishes'. -/
def filePublishesUptoCard : Claim7 := { stood := { row := filePublishesUptoRow, standIns := [], harness := (true, "439881f6fb7d334923f05a01dd1eaf06b0cbd93efacf45af5eea2d3dbedd06d5"), looks := false }, kinds := [], alts := [], laidByText := true, laidKinds := [.data], laidTests := true, laidLooks := .later }
def FilePublishesUptoCardSaid : Prop := Claim7.holds Tryz.pinned (.plain (OpenSpec.upto filePublishesSpec)) filePublishesUptoCard

/-- THE SECOND FORM's CARD OF 'ledgerlaw6.FilePromotes'. -/
def filePromotesUptoCard : Claim7 := { stood := { row := filePromotesUptoRow, standIns := [], harness := (true, "439881f6fb7d334923f05a01dd1eaf06b0cbd93efacf45af5eea2d3dbedd06d5"), looks := false }, kinds := [], alts := [], laidByText := true, laidKinds := [.data], laidTests := true, laidLooks := .later }
def FilePromotesUptoCardSaid : Prop := Claim7.holds Tryz.pinned (.plain (OpenSpec.upto filePromotesSpec)) filePromotesUptoCard

/-- THE SECOND FORM's CARD OF 'ledgerlaw6.FilePlays'. -/
def filePlaysUptoCard : Claim7 := { stood := { row := filePlaysUptoRow, standIns := [], harness := (true, "439881f6fb7d334923f05a01dd1eaf06b0cbd93efacf45af5eea2d3dbedd06d5"), looks := false }, kinds := [], alts := [], laidByText := true, laidKinds := [.data], laidTests := true, laidLooks := .later }
def FilePlaysUptoCardSaid : Prop := Claim7.holds Tryz.pinned (.plain (OpenSpec.upto filePlaysSpec)) filePlaysUptoCard
end Rows
end Go.Proofs.YtodhlfinbbajfaaGreatDoor
