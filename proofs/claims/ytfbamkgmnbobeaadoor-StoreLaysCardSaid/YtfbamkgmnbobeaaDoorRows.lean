/-
  NARROWER THAN 'FOR EVERY INPUT', by the rows' own cells (each row's printed sentence says how): StoreMost: laid · StoreLays: laid.
  DERIVED. THE GIVEN ROWS OF THIS SEAT. 2 by the template 'for every input the law returns true; each argument reads behind the call as it read before'; 0 by the template 'total and deterministic' (their statements: YtfbamkgmnbobeaaDoorTotals.lean).
  GIVEN WITH THE SEED: the statements are not yours to turn. If you find one false, say at which input.
  Laid BY PROGRAM, IN A SANDBOX (cutbox-rows.mjs): the forced cells as the released guide's own fill.sh prints them over the translation 32a66bbde6edcc4e… (all of the seat's roots in one cut). By AI agents, Wed Nov 11 2026. No macro, syntax, notation, axiom, sorry.
-/
import Derived.Test.YtfbamkgmnbobeaaDoorChecked
import GoSem.Claim
import GoSem.ClaimJoined
import GoSem.ClaimMapViews
import Derived.JoinedTies
import Derived.KernelRfl
namespace Go.Proofs.YtfbamkgmnbobeaaDoor
/- THE CELL 'sum', in the pinned program and in every row, IS THE sha256 OF THE DUMP (.gsa) THAT YtfbamkgmnbobeaaDoorProg.lean LOADS. Nothing in Lean hashes anything: it is a label: what it is worth is what the hold of that sum in a sandbox is worth. -/
noncomputable def Tryd.pinned : Pinned := { name := "ytfbamkgmnbobeaadoor", sum := "32a66bbde6edcc4e67eb6ad006ff8c5f2f2f65ca1684db9ce9dd4e4f29d1b2a2", checked := Tryd.checked }
namespace Rows
def none {H : Type} : Left H := { results := [], args := [] }

/- WHAT THE LISTED PACKAGE-LEVEL VARIABLES READ AS WHEN THE CALL BEGINS. Each datum BY PROGRAM (the guide's laid-datum.mjs) off the statement by which the dump's own 'gosem.cut.vars' lays the variable. In a bare row this is a premise. The card (YtfbamkgmnbobeaaDoorCards.lean) ties it to the program's text. -/
def laid_ledger_ledgerref2_divisor {H : Type} : DataW H := .agg [.lit (.int .u8 1), .lit (.int .u8 0), .lit (.int .u8 0), .lit (.int .u8 0), .lit (.int .u8 0), .lit (.int .u8 0), .lit (.int .u8 1), .lit (.int .u8 0), .lit (.int .u8 0), .lit (.int .u8 1), .lit (.int .u8 1), .lit (.int .u8 0), .lit (.int .u8 0), .lit (.int .u8 0), .lit (.int .u8 0), .lit (.int .u8 0), .lit (.int .u8 1), .lit (.int .u8 0), .lit (.int .u8 0), .lit (.int .u8 0), .lit (.int .u8 1), .lit (.int .u8 1), .lit (.int .u8 1), .lit (.int .u8 0), .lit (.int .u8 1), .lit (.int .u8 1), .lit (.int .u8 0), .lit (.int .u8 1), .lit (.int .u8 1), .lit (.int .u8 0), .lit (.int .u8 1), .lit (.int .u8 1), .lit (.int .u8 1)]

/-- 'ledgerlaw8.StoreMost': WHATEVER THE INPUT: true; the input reads as it did. -/
def storeMostSpec : ChangeSpec := { name := "storeMost", fn := fun _ => fun
  | [d1, d2, d3] => { results := [.lit (.bool true)], args := [d1, d2, d3] }
  | _ => none }
def storeMostRow : OpenClaim := { program := "ytfbamkgmnbobeaadoor", sum := "32a66bbde6edcc4e67eb6ad006ff8c5f2f2f65ca1684db9ce9dd4e4f29d1b2a2", func := "ledger/ledgerlaw8.StoreMost", spec := "storeMost", unfollowed := true, recurses := true, named := ["ledger/ledgerref2.divisor"], apart := false, laid := [("ledger/ledgerref2.divisor", laid_ledger_ledgerref2_divisor)] }
def StoreMostSaid : Prop := storeMostRow.holds Tryd.pinned (OpenSpec.ofChange storeMostSpec)

/-- ITS FALSE NEIGHBOUR: 'it returns false'. Refute it at one input. -/
def storeMostWrong : ChangeSpec := { name := "storeMost", fn := fun _ => fun
  | [d1, d2, d3] => { results := [.lit (.bool false)], args := [d1, d2, d3] }
  | _ => none }
def StoreMostWrongFalsely : Prop := storeMostRow.holds Tryd.pinned (OpenSpec.ofChange storeMostWrong)

/-- 'ledgerlaw8.StoreLays': WHATEVER THE INPUT: true; the input reads as it did. -/
def storeLaysSpec : ChangeSpec := { name := "storeLays", fn := fun _ => fun
  | [d1, d2, d3, d4] => { results := [.lit (.bool true)], args := [d1, d2, d3, d4] }
  | _ => none }
def storeLaysRow : OpenClaim := { program := "ytfbamkgmnbobeaadoor", sum := "32a66bbde6edcc4e67eb6ad006ff8c5f2f2f65ca1684db9ce9dd4e4f29d1b2a2", func := "ledger/ledgerlaw8.StoreLays", spec := "storeLays", unfollowed := true, recurses := true, named := ["ledger/ledgerref2.divisor"], apart := false, laid := [("ledger/ledgerref2.divisor", laid_ledger_ledgerref2_divisor)] }
def StoreLaysSaid : Prop := storeLaysRow.holds Tryd.pinned (OpenSpec.ofChange storeLaysSpec)

/-- ITS FALSE NEIGHBOUR: 'it returns false'. Refute it at one input. -/
def storeLaysWrong : ChangeSpec := { name := "storeLays", fn := fun _ => fun
  | [d1, d2, d3, d4] => { results := [.lit (.bool false)], args := [d1, d2, d3, d4] }
  | _ => none }
def StoreLaysWrongFalsely : Prop := storeLaysRow.holds Tryd.pinned (OpenSpec.ofChange storeLaysWrong)

/- THE SECOND FORM. 'bulk': how many values and letters a reading holds, each counted each time it is reached (what is shared counts as often as it is met; a slice's spare places count too). A statement '..UptoSaid' is the law's where the arguments, and the package variables that the reading takes, are together of bulk at most 1048576: NARROWER than '..Said'. Prove '..Said' where nothing that the law and all that it calls make is longer than what came in: it says more and counts as full. Else prove '..UptoSaid'. A law counts once. -/
mutual
def uptoBulk {H : Type} : DataW H → Nat
  | .lit (.string bytes) => bytes.length + 1
  | .lit _ => 1
  | .nil => 1
  | .ptr d => uptoBulk d + 1
  | .slice elems spare => uptoBulkAll elems + uptoBulkAll spare + 1
  | .agg parts => uptoBulkAll parts + 1
  | .iface _ d => uptoBulk d + 1
  | .map entries => uptoBulkEntries entries + 1
  | .held _ => 1
def uptoBulkAll {H : Type} : List (DataW H) → Nat
  | [] => 0
  | d :: r => uptoBulk d + uptoBulkAll r
def uptoBulkEntries {H : Type} : List (Lit × DataW H) → Nat
  | [] => 0
  | x :: r => uptoBulkEntry x + uptoBulkEntries r
def uptoBulkEntry {H : Type} : Lit × DataW H → Nat
  | (.string bytes, d) => bytes.length + uptoBulk d + 1
  | (_, d) => uptoBulk d + 1
 end
def uptoSmall : (H : Type) → List (DataW H) → Bool := fun _ ds => decide (uptoBulkAll ds ≤ 1048576)
def OpenSpec.upto (s : _root_.Go.ChangeSpec) : _root_.Go.OpenSpec := { _root_.Go.OpenSpec.ofChange s with cond := some uptoSmall }

/-- 'ledgerlaw8.StoreMost', WHERE WHAT IT READS IS OF BULK AT MOST 1048576: true; the input reads as it did. -/
def storeMostUptoRow : OpenClaim := { program := "ytfbamkgmnbobeaadoor", sum := "32a66bbde6edcc4e67eb6ad006ff8c5f2f2f65ca1684db9ce9dd4e4f29d1b2a2", func := "ledger/ledgerlaw8.StoreMost", spec := "storeMost", unfollowed := true, recurses := true, named := ["ledger/ledgerref2.divisor"], apart := false, laid := [("ledger/ledgerref2.divisor", laid_ledger_ledgerref2_divisor)], narrowed := true }
def StoreMostUptoSaid : Prop := storeMostUptoRow.holds Tryd.pinned (OpenSpec.upto storeMostSpec)

/-- 'ledgerlaw8.StoreLays', WHERE WHAT IT READS IS OF BULK AT MOST 1048576: true; the input reads as it did. -/
def storeLaysUptoRow : OpenClaim := { program := "ytfbamkgmnbobeaadoor", sum := "32a66bbde6edcc4e67eb6ad006ff8c5f2f2f65ca1684db9ce9dd4e4f29d1b2a2", func := "ledger/ledgerlaw8.StoreLays", spec := "storeLays", unfollowed := true, recurses := true, named := ["ledger/ledgerref2.divisor"], apart := false, laid := [("ledger/ledgerref2.divisor", laid_ledger_ledgerref2_divisor)], narrowed := true }
def StoreLaysUptoSaid : Prop := storeLaysUptoRow.holds Tryd.pinned (OpenSpec.upto storeLaysSpec)

end Rows
end Go.Proofs.YtfbamkgmnbobeaaDoor
