/-
  NARROWER THAN 'FOR EVERY INPUT', by the rows' own cells (each row's printed sentence says how): FileFormats: laid · FileOpens: laid · FileKeeps: laid · FileAppends: laid · FileReads: laid · FilePublishes: laid · FilePromotes: laid · FilePlays: laid.
  DERIVED. THE GIVEN ROWS OF THIS SEAT. 8 by the template 'for every input the law returns true; each argument reads behind the call as it read before'; 0 by the template 'total and deterministic' (their statements: YtodhlfinbbajfaaGreatDoorTotals.lean).
  GIVEN WITH THE SEED: the statements are not yours to turn. If you find one false, say at which input.
  Laid BY PROGRAM, IN A SANDBOX (cutbox-rows.mjs): the forced cells as the released guide's own fill.sh prints them over the translation 0ae60be94a4d445b… (all of the seat's roots in one cut). By AI agents, Wed Nov 11 2026. No macro, syntax, notation, axiom, sorry.
-/
import Derived.Test.YtodhlfinbbajfaaGreatDoorChecked
import GoSem.Claim
import GoSem.ClaimJoined
import GoSem.ClaimMapViews
import Derived.JoinedTies
import Derived.KernelRfl
namespace Go.Proofs.YtodhlfinbbajfaaGreatDoor
/- THE CELL 'sum', in the pinned program and in every row, IS THE sha256 OF THE DUMP (.gsa) THAT YtodhlfinbbajfaaGreatDoorProg.lean LOADS. Nothing in Lean hashes anything: it is a label: what it is worth is what the hold of that sum in a sandbox is worth. -/
noncomputable def Tryz.pinned : Pinned := { name := "ytodhlfinbbajfaagreatdoor", sum := "0ae60be94a4d445b40365a3ac45bd84ce473bef64b3e955eb5857c448a994a94", checked := Tryz.checked }
namespace Rows
def none {H : Type} : Left H := { results := [], args := [] }

/- WHAT THE LISTED PACKAGE-LEVEL VARIABLES READ AS WHEN THE CALL BEGINS. Each datum BY PROGRAM (the guide's laid-datum.mjs) off the statement by which the dump's own 'gosem.cut.vars' lays the variable. In a bare row this is a premise. The card (YtodhlfinbbajfaaGreatDoorCards.lean) ties it to the program's text. -/
def laid_ledger_ledgerref2_divisor {H : Type} : DataW H := .agg [.lit (.int .u8 1), .lit (.int .u8 0), .lit (.int .u8 0), .lit (.int .u8 0), .lit (.int .u8 0), .lit (.int .u8 0), .lit (.int .u8 1), .lit (.int .u8 0), .lit (.int .u8 0), .lit (.int .u8 1), .lit (.int .u8 1), .lit (.int .u8 0), .lit (.int .u8 0), .lit (.int .u8 0), .lit (.int .u8 0), .lit (.int .u8 0), .lit (.int .u8 1), .lit (.int .u8 0), .lit (.int .u8 0), .lit (.int .u8 0), .lit (.int .u8 1), .lit (.int .u8 1), .lit (.int .u8 1), .lit (.int .u8 0), .lit (.int .u8 1), .lit (.int .u8 1), .lit (.int .u8 0), .lit (.int .u8 1), .lit (.int .u8 1), .lit (.int .u8 0), .lit (.int .u8 1), .lit (.int .u8 1), .lit (.int .u8 1)]

/-- 'ledgerlaw6.FileFormats': WHATEVER THE INPUT: true; the input reads as it did. -/
def fileFormatsSpec : ChangeSpec := { name := "fileFormats", fn := fun _ => fun
  | [d] => { results := [.lit (.bool true)], args := [d] }
  | _ => none }
def fileFormatsRow : OpenClaim := { program := "ytodhlfinbbajfaagreatdoor", sum := "0ae60be94a4d445b40365a3ac45bd84ce473bef64b3e955eb5857c448a994a94", func := "ledger/ledgerlaw6.FileFormats", spec := "fileFormats", unfollowed := true, recurses := true, named := ["ledger/ledgerref2.divisor"], apart := false, laid := [("ledger/ledgerref2.divisor", laid_ledger_ledgerref2_divisor)] }
def FileFormatsSaid : Prop := fileFormatsRow.holds Tryz.pinned (OpenSpec.ofChange fileFormatsSpec)

/-- ITS FALSE NEIGHBOUR: 'it returns false'. Refute it at one input. -/
def fileFormatsWrong : ChangeSpec := { name := "fileFormats", fn := fun _ => fun
  | [d] => { results := [.lit (.bool false)], args := [d] }
  | _ => none }
def FileFormatsWrongFalsely : Prop := fileFormatsRow.holds Tryz.pinned (OpenSpec.ofChange fileFormatsWrong)

/-- 'ledgerlaw6.FileOpens': WHATEVER THE INPUT: true; the input reads as it did. -/
def fileOpensSpec : ChangeSpec := { name := "fileOpens", fn := fun _ => fun
  | [d] => { results := [.lit (.bool true)], args := [d] }
  | _ => none }
def fileOpensRow : OpenClaim := { program := "ytodhlfinbbajfaagreatdoor", sum := "0ae60be94a4d445b40365a3ac45bd84ce473bef64b3e955eb5857c448a994a94", func := "ledger/ledgerlaw6.FileOpens", spec := "fileOpens", unfollowed := true, recurses := true, named := ["ledger/ledgerref2.divisor"], apart := false, laid := [("ledger/ledgerref2.divisor", laid_ledger_ledgerref2_divisor)] }
def FileOpensSaid : Prop := fileOpensRow.holds Tryz.pinned (OpenSpec.ofChange fileOpensSpec)

/-- ITS FALSE NEIGHBOUR: 'it returns false'. Refute it at one input. -/
def fileOpensWrong : ChangeSpec := { name := "fileOpens", fn := fun _ => fun
  | [d] => { results := [.lit (.bool false)], args := [d] }
  | _ => none }
def FileOpensWrongFalsely : Prop := fileOpensRow.holds Tryz.pinned (OpenSpec.ofChange fileOpensWrong)

/-- 'ledgerlaw6.FileKeeps': WHATEVER THE INPUT: true; the input reads as it did. -/
def fileKeepsSpec : ChangeSpec := { name := "fileKeeps", fn := fun _ => fun
  | [d] => { results := [.lit (.bool true)], args := [d] }
  | _ => none }
def fileKeepsRow : OpenClaim := { program := "ytodhlfinbbajfaagreatdoor", sum := "0ae60be94a4d445b40365a3ac45bd84ce473bef64b3e955eb5857c448a994a94", func := "ledger/ledgerlaw6.FileKeeps", spec := "fileKeeps", unfollowed := true, recurses := true, named := ["ledger/ledgerref2.divisor"], apart := false, laid := [("ledger/ledgerref2.divisor", laid_ledger_ledgerref2_divisor)] }
def FileKeepsSaid : Prop := fileKeepsRow.holds Tryz.pinned (OpenSpec.ofChange fileKeepsSpec)

/-- ITS FALSE NEIGHBOUR: 'it returns false'. Refute it at one input. -/
def fileKeepsWrong : ChangeSpec := { name := "fileKeeps", fn := fun _ => fun
  | [d] => { results := [.lit (.bool false)], args := [d] }
  | _ => none }
def FileKeepsWrongFalsely : Prop := fileKeepsRow.holds Tryz.pinned (OpenSpec.ofChange fileKeepsWrong)

/-- 'ledgerlaw6.FileAppends': WHATEVER THE INPUT: true; the input reads as it did. -/
def fileAppendsSpec : ChangeSpec := { name := "fileAppends", fn := fun _ => fun
  | [d] => { results := [.lit (.bool true)], args := [d] }
  | _ => none }
def fileAppendsRow : OpenClaim := { program := "ytodhlfinbbajfaagreatdoor", sum := "0ae60be94a4d445b40365a3ac45bd84ce473bef64b3e955eb5857c448a994a94", func := "ledger/ledgerlaw6.FileAppends", spec := "fileAppends", unfollowed := true, recurses := true, named := ["ledger/ledgerref2.divisor"], apart := false, laid := [("ledger/ledgerref2.divisor", laid_ledger_ledgerref2_divisor)] }
def FileAppendsSaid : Prop := fileAppendsRow.holds Tryz.pinned (OpenSpec.ofChange fileAppendsSpec)

/-- ITS FALSE NEIGHBOUR: 'it returns false'. Refute it at one input. -/
def fileAppendsWrong : ChangeSpec := { name := "fileAppends", fn := fun _ => fun
  | [d] => { results := [.lit (.bool false)], args := [d] }
  | _ => none }
def FileAppendsWrongFalsely : Prop := fileAppendsRow.holds Tryz.pinned (OpenSpec.ofChange fileAppendsWrong)

/-- 'ledgerlaw6.FileReads': WHATEVER THE INPUT: true; the input reads as it did. -/
def fileReadsSpec : ChangeSpec := { name := "fileReads", fn := fun _ => fun
  | [d] => { results := [.lit (.bool true)], args := [d] }
  | _ => none }
def fileReadsRow : OpenClaim := { program := "ytodhlfinbbajfaagreatdoor", sum := "0ae60be94a4d445b40365a3ac45bd84ce473bef64b3e955eb5857c448a994a94", func := "ledger/ledgerlaw6.FileReads", spec := "fileReads", unfollowed := true, recurses := true, named := ["ledger/ledgerref2.divisor"], apart := false, laid := [("ledger/ledgerref2.divisor", laid_ledger_ledgerref2_divisor)] }
def FileReadsSaid : Prop := fileReadsRow.holds Tryz.pinned (OpenSpec.ofChange fileReadsSpec)

/-- ITS FALSE NEIGHBOUR: 'it returns false'. Refute it at one input. -/
def fileReadsWrong : ChangeSpec := { name := "fileReads", fn := fun _ => fun
  | [d] => { results := [.lit (.bool false)], args := [d] }
  | _ => none }
def FileReadsWrongFalsely : Prop := fileReadsRow.holds Tryz.pinned (OpenSpec.ofChange fileReadsWrong)

/-- 'ledgerlaw6.FilePublishes': WHATEVER THE INPUT: true; the input reads as it did. -/
def filePublishesSpec : ChangeSpec := { name := "filePublishes", fn := fun _ => fun
  | [d] => { results := [.lit (.bool true)], args := [d] }
  | _ => none }
def filePublishesRow : OpenClaim := { program := "ytodhlfinbbajfaagreatdoor", sum := "0ae60be94a4d445b40365a3ac45bd84ce473bef64b3e955eb5857c448a994a94", func := "ledger/ledgerlaw6.FilePublishes", spec := "filePublishes", unfollowed := true, recurses := true, named := ["ledger/ledgerref2.divisor"], apart := false, laid := [("ledger/ledgerref2.divisor", laid_ledger_ledgerref2_divisor)] }
def FilePublishesSaid : Prop := filePublishesRow.holds Tryz.pinned (OpenSpec.ofChange filePublishesSpec)

/-- ITS FALSE NEIGHBOUR: 'it returns false'. Refute it at one input. -/
def filePublishesWrong : ChangeSpec := { name := "filePublishes", fn := fun _ => fun
  | [d] => { results := [.lit (.bool false)], args := [d] }
  | _ => none }
def FilePublishesWrongFalsely : Prop := filePublishesRow.holds Tryz.pinned (OpenSpec.ofChange filePublishesWrong)

/-- 'ledgerlaw6.FilePromotes': WHATEVER THE INPUT: true; the input reads as it did. -/
def filePromotesSpec : ChangeSpec := { name := "filePromotes", fn := fun _ => fun
  | [d] => { results := [.lit (.bool true)], args := [d] }
  | _ => none }
def filePromotesRow : OpenClaim := { program := "ytodhlfinbbajfaagreatdoor", sum := "0ae60be94a4d445b40365a3ac45bd84ce473bef64b3e955eb5857c448a994a94", func := "ledger/ledgerlaw6.FilePromotes", spec := "filePromotes", unfollowed := true, recurses := true, named := ["ledger/ledgerref2.divisor"], apart := false, laid := [("ledger/ledgerref2.divisor", laid_ledger_ledgerref2_divisor)] }
def FilePromotesSaid : Prop := filePromotesRow.holds Tryz.pinned (OpenSpec.ofChange filePromotesSpec)

/-- ITS FALSE NEIGHBOUR: 'it returns false'. Refute it at one input. -/
def filePromotesWrong : ChangeSpec := { name := "filePromotes", fn := fun _ => fun
  | [d] => { results := [.lit (.bool false)], args := [d] }
  | _ => none }
def FilePromotesWrongFalsely : Prop := filePromotesRow.holds Tryz.pinned (OpenSpec.ofChange filePromotesWrong)

/-- 'ledgerlaw6.FilePlays': WHATEVER THE INPUT: true; the input reads as it did. -/
def filePlaysSpec : ChangeSpec := { name := "filePlays", fn := fun _ => fun
  | [d] => { results := [.lit (.bool true)], args := [d] }
  | _ => none }
def filePlaysRow : OpenClaim := { program := "ytodhlfinbbajfaagreatdoor", sum := "0ae60be94a4d445b40365a3ac45bd84ce473bef64b3e955eb5857c448a994a94", func := "ledger/ledgerlaw6.FilePlays", spec := "filePlays", unfollowed := true, recurses := true, named := ["ledger/ledgerref2.divisor"], apart := false, laid := [("ledger/ledgerref2.divisor", laid_ledger_ledgerref2_divisor)] }
def FilePlaysSaid : Prop := filePlaysRow.holds Tryz.pinned (OpenSpec.ofChange filePlaysSpec)

/-- ITS FALSE NEIGHBOUR: 'it returns false'. Refute it at one input. -/
def filePlaysWrong : ChangeSpec := { name := "filePlays", fn := fun _ => fun
  | [d] => { results := [.lit (.bool false)], args := [d] }
  | _ => none }
def FilePlaysWrongFalsely : Prop := filePlaysRow.holds Tryz.pinned (OpenSpec.ofChange filePlaysWrong)

/- THE SECOND FORM. 'bulk': how many values and letters a reading holds, each counted each time it is reached (what is shared counts as often as it is met; a slice's spare places count too). A statement '..UptoSaid' is the law's where the arguments, and the package variables that the reading takes, are together of bulk at most 1048576: NARROWER than '..Said'. Prove '..Said' where nothing that the law and all that it calls make is longer than what came in: it says more and counts as full. Else prove '..UptoSaid'. A law counts once. -/
mutual
def uptoBulk {H : Type} : DataW H → Nat
  | .lit (.string bytes) => bytes.length + 1
  | .lit _ => 1
  | .nil => 1
  | .ptr d => uptoBulk d + 1
  | .slice elems spare => uptoBulkAll elems + uptoBulkAll spare + 1
  | .agg parts => uptoBulkAll parts + 1
  | .iface _ d => uptoBulk d + 1
  | .map entries => uptoBulkEntries entries + 1
  | .held _ => 1
def uptoBulkAll {H : Type} : List (DataW H) → Nat
  | [] => 0
  | d :: r => uptoBulk d + uptoBulkAll r
def uptoBulkEntries {H : Type} : List (Lit × DataW H) → Nat
  | [] => 0
  | x :: r => uptoBulkEntry x + uptoBulkEntries r
def uptoBulkEntry {H : Type} : Lit × DataW H → Nat
  | (.string bytes, d) => bytes.length + uptoBulk d + 1
  | (_, d) => uptoBulk d + 1
 end
def uptoSmall : (H : Type) → List (DataW H) → Bool := fun _ ds => decide (uptoBulkAll ds ≤ 1048576)
def OpenSpec.upto (s : _root_.Go.ChangeSpec) : _root_.Go.OpenSpec := { _root_.Go.OpenSpec.ofChange s with cond := some uptoSmall }

/-- 'ledgerlaw6.FileFormats', WHERE WHAT IT READS IS OF BULK AT MOST 1048576: true; the input reads as it did. -/
def fileFormatsUptoRow : OpenClaim := { program := "ytodhlfinbbajfaagreatdoor", sum := "0ae60be94a4d445b40365a3ac45bd84ce473bef64b3e955eb5857c448a994a94", func := "ledger/ledgerlaw6.FileFormats", spec := "fileFormats", unfollowed := true, recurses := true, named := ["ledger/ledgerref2.divisor"], apart := false, laid := [("ledger/ledgerref2.divisor", laid_ledger_ledgerref2_divisor)], narrowed := true }
def FileFormatsUptoSaid : Prop := fileFormatsUptoRow.holds Tryz.pinned (OpenSpec.upto fileFormatsSpec)

/-- 'ledgerlaw6.FileOpens', WHERE WHAT IT READS IS OF BULK AT MOST 1048576: true; the input reads as it did. -/
def fileOpensUptoRow : OpenClaim := { program := "ytodhlfinbbajfaagreatdoor", sum := "0ae60be94a4d445b40365a3ac45bd84ce473bef64b3e955eb5857c448a994a94", func := "ledger/ledgerlaw6.FileOpens", spec := "fileOpens", unfollowed := true, recurses := true, named := ["ledger/ledgerref2.divisor"], apart := false, laid := [("ledger/ledgerref2.divisor", laid_ledger_ledgerref2_divisor)], narrowed := true }
def FileOpensUptoSaid : Prop := fileOpensUptoRow.holds Tryz.pinned (OpenSpec.upto fileOpensSpec)

/-- 'ledgerlaw6.FileKeeps', WHERE WHAT IT READS IS OF BULK AT MOST 1048576: true; the input reads as it did. -/
def fileKeepsUptoRow : OpenClaim := { program := "ytodhlfinbbajfaagreatdoor", sum := "0ae60be94a4d445b40365a3ac45bd84ce473bef64b3e955eb5857c448a994a94", func := "ledger/ledgerlaw6.FileKeeps", spec := "fileKeeps", unfollowed := true, recurses := true, named := ["ledger/ledgerref2.divisor"], apart := false, laid := [("ledger/ledgerref2.divisor", laid_ledger_ledgerref2_divisor)], narrowed := true }
def FileKeepsUptoSaid : Prop := fileKeepsUptoRow.holds Tryz.pinned (OpenSpec.upto fileKeepsSpec)

/-- 'ledgerlaw6.FileAppends', WHERE WHAT IT READS IS OF BULK AT MOST 1048576: true; the input reads as it did. -/
def fileAppendsUptoRow : OpenClaim := { program := "ytodhlfinbbajfaagreatdoor", sum := "0ae60be94a4d445b40365a3ac45bd84ce473bef64b3e955eb5857c448a994a94", func := "ledger/ledgerlaw6.FileAppends", spec := "fileAppends", unfollowed := true, recurses := true, named := ["ledger/ledgerref2.divisor"], apart := false, laid := [("ledger/ledgerref2.divisor", laid_ledger_ledgerref2_divisor)], narrowed := true }
def FileAppendsUptoSaid : Prop := fileAppendsUptoRow.holds Tryz.pinned (OpenSpec.upto fileAppendsSpec)

/-- 'ledgerlaw6.FileReads', WHERE WHAT IT READS IS OF BULK AT MOST 1048576: true; the input reads as it did. -/
def fileReadsUptoRow : OpenClaim := { program := "ytodhlfinbbajfaagreatdoor", sum := "0ae60be94a4d445b40365a3ac45bd84ce473bef64b3e955eb5857c448a994a94", func := "ledger/ledgerlaw6.FileReads", spec := "fileReads", unfollowed := true, recurses := true, named := ["ledger/ledgerref2.divisor"], apart := false, laid := [("ledger/ledgerref2.divisor", laid_ledger_ledgerref2_divisor)], narrowed := true }
def FileReadsUptoSaid : Prop := fileReadsUptoRow.holds Tryz.pinned (OpenSpec.upto fileReadsSpec)

/-- 'ledgerlaw6.FilePublishes', WHERE WHAT IT READS IS OF BULK AT MOST 1048576: true; the input reads as it did. -/
def filePublishesUptoRow : OpenClaim := { program := "ytodhlfinbbajfaagreatdoor", sum := "0ae60be94a4d445b40365a3ac45bd84ce473bef64b3e955eb5857c448a994a94", func := "ledger/ledgerlaw6.FilePublishes", spec := "filePublishes", unfollowed := true, recurses := true, named := ["ledger/ledgerref2.divisor"], apart := false, laid := [("ledger/ledgerref2.divisor", laid_ledger_ledgerref2_divisor)], narrowed := true }
def FilePublishesUptoSaid : Prop := filePublishesUptoRow.holds Tryz.pinned (OpenSpec.upto filePublishesSpec)

/-- 'ledgerlaw6.FilePromotes', WHERE WHAT IT READS IS OF BULK AT MOST 1048576: true; the input reads as it did. -/
def filePromotesUptoRow : OpenClaim := { program := "ytodhlfinbbajfaagreatdoor", sum := "0ae60be94a4d445b40365a3ac45bd84ce473bef64b3e955eb5857c448a994a94", func := "ledger/ledgerlaw6.FilePromotes", spec := "filePromotes", unfollowed := true, recurses := true, named := ["ledger/ledgerref2.divisor"], apart := false, laid := [("ledger/ledgerref2.divisor", laid_ledger_ledgerref2_divisor)], narrowed := true }
def FilePromotesUptoSaid : Prop := filePromotesUptoRow.holds Tryz.pinned (OpenSpec.upto filePromotesSpec)

/-- 'ledgerlaw6.FilePlays', WHERE WHAT IT READS IS OF BULK AT MOST 1048576: true; the input reads as it did. -/
def filePlaysUptoRow : OpenClaim := { program := "ytodhlfinbbajfaagreatdoor", sum := "0ae60be94a4d445b40365a3ac45bd84ce473bef64b3e955eb5857c448a994a94", func := "ledger/ledgerlaw6.FilePlays", spec := "filePlays", unfollowed := true, recurses := true, named := ["ledger/ledgerref2.divisor"], apart := false, laid := [("ledger/ledgerref2.divisor", laid_ledger_ledgerref2_divisor)], narrowed := true }
def FilePlaysUptoSaid : Prop := filePlaysUptoRow.holds Tryz.pinned (OpenSpec.upto filePlaysSpec)

end Rows
end Go.Proofs.YtodhlfinbbajfaaGreatDoor
