/-
  No cell of these rows narrows 'for every input' (looked for: loops, veiled, ifaces, maps, wideKeys, modest, calm, conditions, laid).
  DERIVED. THE GIVEN ROWS OF THIS SEAT. 8 by the template 'for every input the law returns true; each argument reads behind the call as it read before'; 0 by the template 'total and deterministic' (their statements: YtehnnnohoaapdaaTotals.lean).
  GIVEN WITH THE SEED: the statements are not yours to turn. If you find one false, say at which input.
  Laid BY PROGRAM, IN A SANDBOX (cutbox-rows.mjs): the forced cells as the released guide's own fill.sh prints them over the translation ed23c39e75db537d… (all of the seat's roots in one cut). By AI agents, Wed Nov 11 2026. No macro, syntax, notation, axiom, sorry.
-/
import Derived.Test.YtehnnnohoaapdaaChecked
import GoSem.Claim
import GoSem.ClaimJoined
import GoSem.ClaimMapViews
import Derived.JoinedTies
import Derived.KernelRfl
namespace Go.Proofs.Ytehnnnohoaapdaa
/- THE CELL 'sum', in the pinned program and in every row, IS THE sha256 OF THE DUMP (.gsa) THAT YtehnnnohoaapdaaProg.lean LOADS. Nothing in Lean hashes anything: it is a label: what it is worth is what the hold of that sum in a sandbox is worth. -/
noncomputable def Try.pinned : Pinned := { name := "ytehnnnohoaapdaa", sum := "ed23c39e75db537d6eef1e109f62b13ec2e165074bca043b5b001c095621caec", checked := Try.checked }
namespace Rows
def none {H : Type} : Left H := { results := [], args := [] }

/-- 'ledgerlaw6.FileBegins': WHATEVER THE INPUT: true; the input reads as it did. -/
def fileBeginsSpec : ChangeSpec := { name := "fileBegins", fn := fun _ => fun
  | [d1, d2, d3, d4, d5] => { results := [.lit (.bool true)], args := [d1, d2, d3, d4, d5] }
  | _ => none }
def fileBeginsRow : OpenClaim := { program := "ytehnnnohoaapdaa", sum := "ed23c39e75db537d6eef1e109f62b13ec2e165074bca043b5b001c095621caec", func := "ledger/ledgerlaw6.FileBegins", spec := "fileBegins", unfollowed := true, recurses := true, apart := false }
def FileBeginsSaid : Prop := fileBeginsRow.holds Try.pinned (OpenSpec.ofChange fileBeginsSpec)

/-- ITS FALSE NEIGHBOUR: 'it returns false'. Refute it at one input. -/
def fileBeginsWrong : ChangeSpec := { name := "fileBegins", fn := fun _ => fun
  | [d1, d2, d3, d4, d5] => { results := [.lit (.bool false)], args := [d1, d2, d3, d4, d5] }
  | _ => none }
def FileBeginsWrongFalsely : Prop := fileBeginsRow.holds Try.pinned (OpenSpec.ofChange fileBeginsWrong)

/-- 'ledgerlaw6.FileCounts': WHATEVER THE INPUT: true; the input reads as it did. -/
def fileCountsSpec : ChangeSpec := { name := "fileCounts", fn := fun _ => fun
  | [d1, d2, d3] => { results := [.lit (.bool true)], args := [d1, d2, d3] }
  | _ => none }
def fileCountsRow : OpenClaim := { program := "ytehnnnohoaapdaa", sum := "ed23c39e75db537d6eef1e109f62b13ec2e165074bca043b5b001c095621caec", func := "ledger/ledgerlaw6.FileCounts", spec := "fileCounts", unfollowed := true, recurses := true, apart := false }
def FileCountsSaid : Prop := fileCountsRow.holds Try.pinned (OpenSpec.ofChange fileCountsSpec)

/-- ITS FALSE NEIGHBOUR: 'it returns false'. Refute it at one input. -/
def fileCountsWrong : ChangeSpec := { name := "fileCounts", fn := fun _ => fun
  | [d1, d2, d3] => { results := [.lit (.bool false)], args := [d1, d2, d3] }
  | _ => none }
def FileCountsWrongFalsely : Prop := fileCountsRow.holds Try.pinned (OpenSpec.ofChange fileCountsWrong)

/-- 'ledgerlaw6.FileFresh': WHATEVER THE INPUT: true; the input reads as it did. -/
def fileFreshSpec : ChangeSpec := { name := "fileFresh", fn := fun _ => fun
  | [d1, d2, d3] => { results := [.lit (.bool true)], args := [d1, d2, d3] }
  | _ => none }
def fileFreshRow : OpenClaim := { program := "ytehnnnohoaapdaa", sum := "ed23c39e75db537d6eef1e109f62b13ec2e165074bca043b5b001c095621caec", func := "ledger/ledgerlaw6.FileFresh", spec := "fileFresh", unfollowed := true, recurses := true, apart := false }
def FileFreshSaid : Prop := fileFreshRow.holds Try.pinned (OpenSpec.ofChange fileFreshSpec)

/-- ITS FALSE NEIGHBOUR: 'it returns false'. Refute it at one input. -/
def fileFreshWrong : ChangeSpec := { name := "fileFresh", fn := fun _ => fun
  | [d1, d2, d3] => { results := [.lit (.bool false)], args := [d1, d2, d3] }
  | _ => none }
def FileFreshWrongFalsely : Prop := fileFreshRow.holds Try.pinned (OpenSpec.ofChange fileFreshWrong)

/-- 'ledgerlaw6.FileBurst': WHATEVER THE INPUT: true; the input reads as it did. -/
def fileBurstSpec : ChangeSpec := { name := "fileBurst", fn := fun _ => fun
  | [d1, d2, d3, d4, d5, d6] => { results := [.lit (.bool true)], args := [d1, d2, d3, d4, d5, d6] }
  | _ => none }
def fileBurstRow : OpenClaim := { program := "ytehnnnohoaapdaa", sum := "ed23c39e75db537d6eef1e109f62b13ec2e165074bca043b5b001c095621caec", func := "ledger/ledgerlaw6.FileBurst", spec := "fileBurst", unfollowed := true, recurses := true, apart := false }
def FileBurstSaid : Prop := fileBurstRow.holds Try.pinned (OpenSpec.ofChange fileBurstSpec)

/-- ITS FALSE NEIGHBOUR: 'it returns false'. Refute it at one input. -/
def fileBurstWrong : ChangeSpec := { name := "fileBurst", fn := fun _ => fun
  | [d1, d2, d3, d4, d5, d6] => { results := [.lit (.bool false)], args := [d1, d2, d3, d4, d5, d6] }
  | _ => none }
def FileBurstWrongFalsely : Prop := fileBurstRow.holds Try.pinned (OpenSpec.ofChange fileBurstWrong)

/-- 'ledgerlaw6.FileSurvives': WHATEVER THE INPUT: true; the input reads as it did. -/
def fileSurvivesSpec : ChangeSpec := { name := "fileSurvives", fn := fun _ => fun
  | [d1, d2, d3, d4] => { results := [.lit (.bool true)], args := [d1, d2, d3, d4] }
  | _ => none }
def fileSurvivesRow : OpenClaim := { program := "ytehnnnohoaapdaa", sum := "ed23c39e75db537d6eef1e109f62b13ec2e165074bca043b5b001c095621caec", func := "ledger/ledgerlaw6.FileSurvives", spec := "fileSurvives", unfollowed := true, recurses := true, apart := false }
def FileSurvivesSaid : Prop := fileSurvivesRow.holds Try.pinned (OpenSpec.ofChange fileSurvivesSpec)

/-- ITS FALSE NEIGHBOUR: 'it returns false'. Refute it at one input. -/
def fileSurvivesWrong : ChangeSpec := { name := "fileSurvives", fn := fun _ => fun
  | [d1, d2, d3, d4] => { results := [.lit (.bool false)], args := [d1, d2, d3, d4] }
  | _ => none }
def FileSurvivesWrongFalsely : Prop := fileSurvivesRow.holds Try.pinned (OpenSpec.ofChange fileSurvivesWrong)

/-- 'ledgerlaw6.FileStands': WHATEVER THE INPUT: true; the input reads as it did. -/
def fileStandsSpec : ChangeSpec := { name := "fileStands", fn := fun _ => fun
  | [d1, d2, d3, d4] => { results := [.lit (.bool true)], args := [d1, d2, d3, d4] }
  | _ => none }
def fileStandsRow : OpenClaim := { program := "ytehnnnohoaapdaa", sum := "ed23c39e75db537d6eef1e109f62b13ec2e165074bca043b5b001c095621caec", func := "ledger/ledgerlaw6.FileStands", spec := "fileStands", unfollowed := true, recurses := true, apart := false }
def FileStandsSaid : Prop := fileStandsRow.holds Try.pinned (OpenSpec.ofChange fileStandsSpec)

/-- ITS FALSE NEIGHBOUR: 'it returns false'. Refute it at one input. -/
def fileStandsWrong : ChangeSpec := { name := "fileStands", fn := fun _ => fun
  | [d1, d2, d3, d4] => { results := [.lit (.bool false)], args := [d1, d2, d3, d4] }
  | _ => none }
def FileStandsWrongFalsely : Prop := fileStandsRow.holds Try.pinned (OpenSpec.ofChange fileStandsWrong)

/-- 'ledgerlaw6.FileStale': WHATEVER THE INPUT: true; the input reads as it did. -/
def fileStaleSpec : ChangeSpec := { name := "fileStale", fn := fun _ => fun
  | [d1, d2, d3, d4, d5, d6] => { results := [.lit (.bool true)], args := [d1, d2, d3, d4, d5, d6] }
  | _ => none }
def fileStaleRow : OpenClaim := { program := "ytehnnnohoaapdaa", sum := "ed23c39e75db537d6eef1e109f62b13ec2e165074bca043b5b001c095621caec", func := "ledger/ledgerlaw6.FileStale", spec := "fileStale", unfollowed := true, recurses := true, apart := false }
def FileStaleSaid : Prop := fileStaleRow.holds Try.pinned (OpenSpec.ofChange fileStaleSpec)

/-- ITS FALSE NEIGHBOUR: 'it returns false'. Refute it at one input. -/
def fileStaleWrong : ChangeSpec := { name := "fileStale", fn := fun _ => fun
  | [d1, d2, d3, d4, d5, d6] => { results := [.lit (.bool false)], args := [d1, d2, d3, d4, d5, d6] }
  | _ => none }
def FileStaleWrongFalsely : Prop := fileStaleRow.holds Try.pinned (OpenSpec.ofChange fileStaleWrong)

/-- 'ledgerlaw6.FileTwin': WHATEVER THE INPUT: true; the input reads as it did. -/
def fileTwinSpec : ChangeSpec := { name := "fileTwin", fn := fun _ => fun
  | [d1, d2, d3] => { results := [.lit (.bool true)], args := [d1, d2, d3] }
  | _ => none }
def fileTwinRow : OpenClaim := { program := "ytehnnnohoaapdaa", sum := "ed23c39e75db537d6eef1e109f62b13ec2e165074bca043b5b001c095621caec", func := "ledger/ledgerlaw6.FileTwin", spec := "fileTwin", unfollowed := true, recurses := true, apart := false }
def FileTwinSaid : Prop := fileTwinRow.holds Try.pinned (OpenSpec.ofChange fileTwinSpec)

/-- ITS FALSE NEIGHBOUR: 'it returns false'. Refute it at one input. -/
def fileTwinWrong : ChangeSpec := { name := "fileTwin", fn := fun _ => fun
  | [d1, d2, d3] => { results := [.lit (.bool false)], args := [d1, d2, d3] }
  | _ => none }
def FileTwinWrongFalsely : Prop := fileTwinRow.holds Try.pinned (OpenSpec.ofChange fileTwinWrong)

/- THE SECOND FORM. 'bulk': how many values and letters a reading holds, each counted each time it is reached (what is shared counts as often as it is met; a slice's spare places count too). A statement '..UptoSaid' is the law's where the arguments, and the package variables that the reading takes, are together of bulk at most 1048576: NARROWER than '..Said'. Prove '..Said' where nothing that the law and all that it calls make is longer than what came in: it says more and counts as full. Else prove '..UptoSaid'. A law counts once. -/
mutual
def uptoBulk {H : Type} : DataW H → Nat
  | .lit (.string bytes) => bytes.length + 1
  | .lit _ => 1
  | .nil => 1
  | .ptr d => uptoBulk d + 1
  | .slice elems spare => uptoBulkAll elems + uptoBulkAll spare + 1
  | .agg parts => uptoBulkAll parts + 1
  | .iface _ d => uptoBulk d + 1
  | .map entries => uptoBulkEntries entries + 1
  | .held _ => 1
def uptoBulkAll {H : Type} : List (DataW H) → Nat
  | [] => 0
  | d :: r => uptoBulk d + uptoBulkAll r
def uptoBulkEntries {H : Type} : List (Lit × DataW H) → Nat
  | [] => 0
  | x :: r => uptoBulkEntry x + uptoBulkEntries r
def uptoBulkEntry {H : Type} : Lit × DataW H → Nat
  | (.string bytes, d) => bytes.length + uptoBulk d + 1
  | (_, d) => uptoBulk d + 1
 end
def uptoSmall : (H : Type) → List (DataW H) → Bool := fun _ ds => decide (uptoBulkAll ds ≤ 1048576)
def OpenSpec.upto (s : _root_.Go.ChangeSpec) : _root_.Go.OpenSpec := { _root_.Go.OpenSpec.ofChange s with cond := some uptoSmall }

/-- 'ledgerlaw6.FileBegins', WHERE WHAT IT READS IS OF BULK AT MOST 1048576: true; the input reads as it did. -/
def fileBeginsUptoRow : OpenClaim := { program := "ytehnnnohoaapdaa", sum := "ed23c39e75db537d6eef1e109f62b13ec2e165074bca043b5b001c095621caec", func := "ledger/ledgerlaw6.FileBegins", spec := "fileBegins", unfollowed := true, recurses := true, apart := false, narrowed := true }
def FileBeginsUptoSaid : Prop := fileBeginsUptoRow.holds Try.pinned (OpenSpec.upto fileBeginsSpec)

/-- 'ledgerlaw6.FileCounts', WHERE WHAT IT READS IS OF BULK AT MOST 1048576: true; the input reads as it did. -/
def fileCountsUptoRow : OpenClaim := { program := "ytehnnnohoaapdaa", sum := "ed23c39e75db537d6eef1e109f62b13ec2e165074bca043b5b001c095621caec", func := "ledger/ledgerlaw6.FileCounts", spec := "fileCounts", unfollowed := true, recurses := true, apart := false, narrowed := true }
def FileCountsUptoSaid : Prop := fileCountsUptoRow.holds Try.pinned (OpenSpec.upto fileCountsSpec)

/-- 'ledgerlaw6.FileFresh', WHERE WHAT IT READS IS OF BULK AT MOST 1048576: true; the input reads as it did. -/
def fileFreshUptoRow : OpenClaim := { program := "ytehnnnohoaapdaa", sum := "ed23c39e75db537d6eef1e109f62b13ec2e165074bca043b5b001c095621caec", func := "ledger/ledgerlaw6.FileFresh", spec := "fileFresh", unfollowed := true, recurses := true, apart := false, narrowed := true }
def FileFreshUptoSaid : Prop := fileFreshUptoRow.holds Try.pinned (OpenSpec.upto fileFreshSpec)

/-- 'ledgerlaw6.FileBurst', WHERE WHAT IT READS IS OF BULK AT MOST 1048576: true; the input reads as it did. -/
def fileBurstUptoRow : OpenClaim := { program := "ytehnnnohoaapdaa", sum := "ed23c39e75db537d6eef1e109f62b13ec2e165074bca043b5b001c095621caec", func := "ledger/ledgerlaw6.FileBurst", spec := "fileBurst", unfollowed := true, recurses := true, apart := false, narrowed := true }
def FileBurstUptoSaid : Prop := fileBurstUptoRow.holds Try.pinned (OpenSpec.upto fileBurstSpec)

/-- 'ledgerlaw6.FileSurvives', WHERE WHAT IT READS IS OF BULK AT MOST 1048576: true; the input reads as it did. -/
def fileSurvivesUptoRow : OpenClaim := { program := "ytehnnnohoaapdaa", sum := "ed23c39e75db537d6eef1e109f62b13ec2e165074bca043b5b001c095621caec", func := "ledger/ledgerlaw6.FileSurvives", spec := "fileSurvives", unfollowed := true, recurses := true, apart := false, narrowed := true }
def FileSurvivesUptoSaid : Prop := fileSurvivesUptoRow.holds Try.pinned (OpenSpec.upto fileSurvivesSpec)

/-- 'ledgerlaw6.FileStands', WHERE WHAT IT READS IS OF BULK AT MOST 1048576: true; the input reads as it did. -/
def fileStandsUptoRow : OpenClaim := { program := "ytehnnnohoaapdaa", sum := "ed23c39e75db537d6eef1e109f62b13ec2e165074bca043b5b001c095621caec", func := "ledger/ledgerlaw6.FileStands", spec := "fileStands", unfollowed := true, recurses := true, apart := false, narrowed := true }
def FileStandsUptoSaid : Prop := fileStandsUptoRow.holds Try.pinned (OpenSpec.upto fileStandsSpec)

/-- 'ledgerlaw6.FileStale', WHERE WHAT IT READS IS OF BULK AT MOST 1048576: true; the input reads as it did. -/
def fileStaleUptoRow : OpenClaim := { program := "ytehnnnohoaapdaa", sum := "ed23c39e75db537d6eef1e109f62b13ec2e165074bca043b5b001c095621caec", func := "ledger/ledgerlaw6.FileStale", spec := "fileStale", unfollowed := true, recurses := true, apart := false, narrowed := true }
def FileStaleUptoSaid : Prop := fileStaleUptoRow.holds Try.pinned (OpenSpec.upto fileStaleSpec)

/-- 'ledgerlaw6.FileTwin', WHERE WHAT IT READS IS OF BULK AT MOST 1048576: true; the input reads as it did. -/
def fileTwinUptoRow : OpenClaim := { program := "ytehnnnohoaapdaa", sum := "ed23c39e75db537d6eef1e109f62b13ec2e165074bca043b5b001c095621caec", func := "ledger/ledgerlaw6.FileTwin", spec := "fileTwin", unfollowed := true, recurses := true, apart := false, narrowed := true }
def FileTwinUptoSaid : Prop := fileTwinUptoRow.holds Try.pinned (OpenSpec.upto fileTwinSpec)

end Rows
end Go.Proofs.Ytehnnnohoaapdaa
