/-
  No cell of these rows narrows 'for every input' (looked for: loops, veiled, ifaces, maps, wideKeys, modest, calm, conditions, laid).
  DERIVED. THE GIVEN ROWS OF THIS SEAT. 8 by the template 'for every input the law returns true; each argument reads behind the call as it read before'; 0 by the template 'total and deterministic' (their statements: YtonpbmjgoenfdaaTotals.lean).
  GIVEN WITH THE SEED: the statements are not yours to turn. If you find one false, say at which input.
  Laid BY PROGRAM, IN A SANDBOX (cutbox-rows.mjs): the forced cells as the released guide's own fill.sh prints them over the translation 000344fea443d1d0… (all of the seat's roots in one cut). By AI agents, Wed Nov 11 2026. No macro, syntax, notation, axiom, sorry.
-/
import Derived.Test.YtonpbmjgoenfdaaChecked
import GoSem.Claim
import GoSem.ClaimJoined
import GoSem.ClaimMapViews
import Derived.JoinedTies
import Derived.KernelRfl
namespace Go.Proofs.Ytonpbmjgoenfdaa
/- THE CELL 'sum', in the pinned program and in every row, IS THE sha256 OF THE DUMP (.gsa) THAT YtonpbmjgoenfdaaProg.lean LOADS. Nothing in Lean hashes anything: it is a label: what it is worth is what the hold of that sum in a sandbox is worth. -/
noncomputable def Try.pinned : Pinned := { name := "ytonpbmjgoenfdaa", sum := "000344fea443d1d0178d3528c93cd7f5278f4547ee40a78aac55488493944380", checked := Try.checked }
namespace Rows
def none {H : Type} : Left H := { results := [], args := [] }

/-- 'ledgerlaw6.FileNames': WHATEVER THE INPUT: true; the input reads as it did. -/
def fileNamesSpec : ChangeSpec := { name := "fileNames", fn := fun _ => fun
  | [] => { results := [.lit (.bool true)], args := [] }
  | _ => none }
def fileNamesRow : OpenClaim := { program := "ytonpbmjgoenfdaa", sum := "000344fea443d1d0178d3528c93cd7f5278f4547ee40a78aac55488493944380", func := "ledger/ledgerlaw6.FileNames", spec := "fileNames", apart := false }
def FileNamesSaid : Prop := fileNamesRow.holds Try.pinned (OpenSpec.ofChange fileNamesSpec)

/-- ITS FALSE NEIGHBOUR: 'it returns false'. Refute it at one input. -/
def fileNamesWrong : ChangeSpec := { name := "fileNames", fn := fun _ => fun
  | [] => { results := [.lit (.bool false)], args := [] }
  | _ => none }
def FileNamesWrongFalsely : Prop := fileNamesRow.holds Try.pinned (OpenSpec.ofChange fileNamesWrong)

/-- 'ledgerlaw8.StoreNames': WHATEVER THE INPUT: true; the input reads as it did. -/
def storeNamesSpec : ChangeSpec := { name := "storeNames", fn := fun _ => fun
  | [] => { results := [.lit (.bool true)], args := [] }
  | _ => none }
def storeNamesRow : OpenClaim := { program := "ytonpbmjgoenfdaa", sum := "000344fea443d1d0178d3528c93cd7f5278f4547ee40a78aac55488493944380", func := "ledger/ledgerlaw8.StoreNames", spec := "storeNames", apart := false }
def StoreNamesSaid : Prop := storeNamesRow.holds Try.pinned (OpenSpec.ofChange storeNamesSpec)

/-- ITS FALSE NEIGHBOUR: 'it returns false'. Refute it at one input. -/
def storeNamesWrong : ChangeSpec := { name := "storeNames", fn := fun _ => fun
  | [] => { results := [.lit (.bool false)], args := [] }
  | _ => none }
def StoreNamesWrongFalsely : Prop := storeNamesRow.holds Try.pinned (OpenSpec.ofChange storeNamesWrong)

/-- 'ledgerlaw15.IndexNames': WHATEVER THE INPUT: true; the input reads as it did. -/
def indexNamesSpec : ChangeSpec := { name := "indexNames", fn := fun _ => fun
  | [] => { results := [.lit (.bool true)], args := [] }
  | _ => none }
def indexNamesRow : OpenClaim := { program := "ytonpbmjgoenfdaa", sum := "000344fea443d1d0178d3528c93cd7f5278f4547ee40a78aac55488493944380", func := "ledger/ledgerlaw15.IndexNames", spec := "indexNames", apart := false }
def IndexNamesSaid : Prop := indexNamesRow.holds Try.pinned (OpenSpec.ofChange indexNamesSpec)

/-- ITS FALSE NEIGHBOUR: 'it returns false'. Refute it at one input. -/
def indexNamesWrong : ChangeSpec := { name := "indexNames", fn := fun _ => fun
  | [] => { results := [.lit (.bool false)], args := [] }
  | _ => none }
def IndexNamesWrongFalsely : Prop := indexNamesRow.holds Try.pinned (OpenSpec.ofChange indexNamesWrong)

/-- 'ledgerlaw9.NodeNames': WHATEVER THE INPUT: true; the input reads as it did. -/
def nodeNamesSpec : ChangeSpec := { name := "nodeNames", fn := fun _ => fun
  | [] => { results := [.lit (.bool true)], args := [] }
  | _ => none }
def nodeNamesRow : OpenClaim := { program := "ytonpbmjgoenfdaa", sum := "000344fea443d1d0178d3528c93cd7f5278f4547ee40a78aac55488493944380", func := "ledger/ledgerlaw9.NodeNames", spec := "nodeNames", apart := false }
def NodeNamesSaid : Prop := nodeNamesRow.holds Try.pinned (OpenSpec.ofChange nodeNamesSpec)

/-- ITS FALSE NEIGHBOUR: 'it returns false'. Refute it at one input. -/
def nodeNamesWrong : ChangeSpec := { name := "nodeNames", fn := fun _ => fun
  | [] => { results := [.lit (.bool false)], args := [] }
  | _ => none }
def NodeNamesWrongFalsely : Prop := nodeNamesRow.holds Try.pinned (OpenSpec.ofChange nodeNamesWrong)

/-- 'ledgerlaw9.NodeApart': WHATEVER THE INPUT: true; the input reads as it did. -/
def nodeApartSpec : ChangeSpec := { name := "nodeApart", fn := fun _ => fun
  | [d1, d2, d3, d4, d5, d6] => { results := [.lit (.bool true)], args := [d1, d2, d3, d4, d5, d6] }
  | _ => none }
def nodeApartRow : OpenClaim := { program := "ytonpbmjgoenfdaa", sum := "000344fea443d1d0178d3528c93cd7f5278f4547ee40a78aac55488493944380", func := "ledger/ledgerlaw9.NodeApart", spec := "nodeApart", apart := false }
def NodeApartSaid : Prop := nodeApartRow.holds Try.pinned (OpenSpec.ofChange nodeApartSpec)

/-- ITS FALSE NEIGHBOUR: 'it returns false'. Refute it at one input. -/
def nodeApartWrong : ChangeSpec := { name := "nodeApart", fn := fun _ => fun
  | [d1, d2, d3, d4, d5, d6] => { results := [.lit (.bool false)], args := [d1, d2, d3, d4, d5, d6] }
  | _ => none }
def NodeApartWrongFalsely : Prop := nodeApartRow.holds Try.pinned (OpenSpec.ofChange nodeApartWrong)

/-- 'ledgerlaw9.NodeBack': WHATEVER THE INPUT: true; the input reads as it did. -/
def nodeBackSpec : ChangeSpec := { name := "nodeBack", fn := fun _ => fun
  | [d1, d2, d3] => { results := [.lit (.bool true)], args := [d1, d2, d3] }
  | _ => none }
def nodeBackRow : OpenClaim := { program := "ytonpbmjgoenfdaa", sum := "000344fea443d1d0178d3528c93cd7f5278f4547ee40a78aac55488493944380", func := "ledger/ledgerlaw9.NodeBack", spec := "nodeBack", unfollowed := true, recurses := true, apart := false }
def NodeBackSaid : Prop := nodeBackRow.holds Try.pinned (OpenSpec.ofChange nodeBackSpec)

/-- ITS FALSE NEIGHBOUR: 'it returns false'. Refute it at one input. -/
def nodeBackWrong : ChangeSpec := { name := "nodeBack", fn := fun _ => fun
  | [d1, d2, d3] => { results := [.lit (.bool false)], args := [d1, d2, d3] }
  | _ => none }
def NodeBackWrongFalsely : Prop := nodeBackRow.holds Try.pinned (OpenSpec.ofChange nodeBackWrong)

/-- 'ledgerlaw9.NodeFresh': WHATEVER THE INPUT: true; the input reads as it did. -/
def nodeFreshSpec : ChangeSpec := { name := "nodeFresh", fn := fun _ => fun
  | [d1, d2] => { results := [.lit (.bool true)], args := [d1, d2] }
  | _ => none }
def nodeFreshRow : OpenClaim := { program := "ytonpbmjgoenfdaa", sum := "000344fea443d1d0178d3528c93cd7f5278f4547ee40a78aac55488493944380", func := "ledger/ledgerlaw9.NodeFresh", spec := "nodeFresh", unfollowed := true, recurses := true, apart := false }
def NodeFreshSaid : Prop := nodeFreshRow.holds Try.pinned (OpenSpec.ofChange nodeFreshSpec)

/-- ITS FALSE NEIGHBOUR: 'it returns false'. Refute it at one input. -/
def nodeFreshWrong : ChangeSpec := { name := "nodeFresh", fn := fun _ => fun
  | [d1, d2] => { results := [.lit (.bool false)], args := [d1, d2] }
  | _ => none }
def NodeFreshWrongFalsely : Prop := nodeFreshRow.holds Try.pinned (OpenSpec.ofChange nodeFreshWrong)

/-- 'ledgerlaw15.IndexBack': WHATEVER THE INPUT: true; the input reads as it did. -/
def indexBackSpec : ChangeSpec := { name := "indexBack", fn := fun _ => fun
  | [d1, d2] => { results := [.lit (.bool true)], args := [d1, d2] }
  | _ => none }
def indexBackRow : OpenClaim := { program := "ytonpbmjgoenfdaa", sum := "000344fea443d1d0178d3528c93cd7f5278f4547ee40a78aac55488493944380", func := "ledger/ledgerlaw15.IndexBack", spec := "indexBack", apart := false }
def IndexBackSaid : Prop := indexBackRow.holds Try.pinned (OpenSpec.ofChange indexBackSpec)

/-- ITS FALSE NEIGHBOUR: 'it returns false'. Refute it at one input. -/
def indexBackWrong : ChangeSpec := { name := "indexBack", fn := fun _ => fun
  | [d1, d2] => { results := [.lit (.bool false)], args := [d1, d2] }
  | _ => none }
def IndexBackWrongFalsely : Prop := indexBackRow.holds Try.pinned (OpenSpec.ofChange indexBackWrong)

/- THE SECOND FORM. 'bulk': how many values and letters a reading holds, each counted each time it is reached (what is shared counts as often as it is met; a slice's spare places count too). A statement '..UptoSaid' is the law's where the arguments, and the package variables that the reading takes, are together of bulk at most 1048576: NARROWER than '..Said'. Prove '..Said' where nothing that the law and all that it calls make is longer than what came in: it says more and counts as full. Else prove '..UptoSaid'. A law counts once. -/
mutual
def uptoBulk {H : Type} : DataW H → Nat
  | .lit (.string bytes) => bytes.length + 1
  | .lit _ => 1
  | .nil => 1
  | .ptr d => uptoBulk d + 1
  | .slice elems spare => uptoBulkAll elems + uptoBulkAll spare + 1
  | .agg parts => uptoBulkAll parts + 1
  | .iface _ d => uptoBulk d + 1
  | .map entries => uptoBulkEntries entries + 1
  | .held _ => 1
def uptoBulkAll {H : Type} : List (DataW H) → Nat
  | [] => 0
  | d :: r => uptoBulk d + uptoBulkAll r
def uptoBulkEntries {H : Type} : List (Lit × DataW H) → Nat
  | [] => 0
  | x :: r => uptoBulkEntry x + uptoBulkEntries r
def uptoBulkEntry {H : Type} : Lit × DataW H → Nat
  | (.string bytes, d) => bytes.length + uptoBulk d + 1
  | (_, d) => uptoBulk d + 1
 end
def uptoSmall : (H : Type) → List (DataW H) → Bool := fun _ ds => decide (uptoBulkAll ds ≤ 1048576)
def OpenSpec.upto (s : _root_.Go.ChangeSpec) : _root_.Go.OpenSpec := { _root_.Go.OpenSpec.ofChange s with cond := some uptoSmall }

/-- 'ledgerlaw6.FileNames', WHERE WHAT IT READS IS OF BULK AT MOST 1048576: true; the input reads as it did. -/
def fileNamesUptoRow : OpenClaim := { program := "ytonpbmjgoenfdaa", sum := "000344fea443d1d0178d3528c93cd7f5278f4547ee40a78aac55488493944380", func := "ledger/ledgerlaw6.FileNames", spec := "fileNames", apart := false, narrowed := true }
def FileNamesUptoSaid : Prop := fileNamesUptoRow.holds Try.pinned (OpenSpec.upto fileNamesSpec)

/-- 'ledgerlaw8.StoreNames', WHERE WHAT IT READS IS OF BULK AT MOST 1048576: true; the input reads as it did. -/
def storeNamesUptoRow : OpenClaim := { program := "ytonpbmjgoenfdaa", sum := "000344fea443d1d0178d3528c93cd7f5278f4547ee40a78aac55488493944380", func := "ledger/ledgerlaw8.StoreNames", spec := "storeNames", apart := false, narrowed := true }
def StoreNamesUptoSaid : Prop := storeNamesUptoRow.holds Try.pinned (OpenSpec.upto storeNamesSpec)

/-- 'ledgerlaw15.IndexNames', WHERE WHAT IT READS IS OF BULK AT MOST 1048576: true; the input reads as it did. -/
def indexNamesUptoRow : OpenClaim := { program := "ytonpbmjgoenfdaa", sum := "000344fea443d1d0178d3528c93cd7f5278f4547ee40a78aac55488493944380", func := "ledger/ledgerlaw15.IndexNames", spec := "indexNames", apart := false, narrowed := true }
def IndexNamesUptoSaid : Prop := indexNamesUptoRow.holds Try.pinned (OpenSpec.upto indexNamesSpec)

/-- 'ledgerlaw9.NodeNames', WHERE WHAT IT READS IS OF BULK AT MOST 1048576: true; the input reads as it did. -/
def nodeNamesUptoRow : OpenClaim := { program := "ytonpbmjgoenfdaa", sum := "000344fea443d1d0178d3528c93cd7f5278f4547ee40a78aac55488493944380", func := "ledger/ledgerlaw9.NodeNames", spec := "nodeNames", apart := false, narrowed := true }
def NodeNamesUptoSaid : Prop := nodeNamesUptoRow.holds Try.pinned (OpenSpec.upto nodeNamesSpec)

/-- 'ledgerlaw9.NodeApart', WHERE WHAT IT READS IS OF BULK AT MOST 1048576: true; the input reads as it did. -/
def nodeApartUptoRow : OpenClaim := { program := "ytonpbmjgoenfdaa", sum := "000344fea443d1d0178d3528c93cd7f5278f4547ee40a78aac55488493944380", func := "ledger/ledgerlaw9.NodeApart", spec := "nodeApart", apart := false, narrowed := true }
def NodeApartUptoSaid : Prop := nodeApartUptoRow.holds Try.pinned (OpenSpec.upto nodeApartSpec)

/-- 'ledgerlaw9.NodeBack', WHERE WHAT IT READS IS OF BULK AT MOST 1048576: true; the input reads as it did. -/
def nodeBackUptoRow : OpenClaim := { program := "ytonpbmjgoenfdaa", sum := "000344fea443d1d0178d3528c93cd7f5278f4547ee40a78aac55488493944380", func := "ledger/ledgerlaw9.NodeBack", spec := "nodeBack", unfollowed := true, recurses := true, apart := false, narrowed := true }
def NodeBackUptoSaid : Prop := nodeBackUptoRow.holds Try.pinned (OpenSpec.upto nodeBackSpec)

/-- 'ledgerlaw9.NodeFresh', WHERE WHAT IT READS IS OF BULK AT MOST 1048576: true; the input reads as it did. -/
def nodeFreshUptoRow : OpenClaim := { program := "ytonpbmjgoenfdaa", sum := "000344fea443d1d0178d3528c93cd7f5278f4547ee40a78aac55488493944380", func := "ledger/ledgerlaw9.NodeFresh", spec := "nodeFresh", unfollowed := true, recurses := true, apart := false, narrowed := true }
def NodeFreshUptoSaid : Prop := nodeFreshUptoRow.holds Try.pinned (OpenSpec.upto nodeFreshSpec)

/-- 'ledgerlaw15.IndexBack', WHERE WHAT IT READS IS OF BULK AT MOST 1048576: true; the input reads as it did. -/
def indexBackUptoRow : OpenClaim := { program := "ytonpbmjgoenfdaa", sum := "000344fea443d1d0178d3528c93cd7f5278f4547ee40a78aac55488493944380", func := "ledger/ledgerlaw15.IndexBack", spec := "indexBack", apart := false, narrowed := true }
def IndexBackUptoSaid : Prop := indexBackUptoRow.holds Try.pinned (OpenSpec.upto indexBackSpec)

end Rows
end Go.Proofs.Ytonpbmjgoenfdaa
