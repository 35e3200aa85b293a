/-
  NARROWER THAN 'FOR EVERY INPUT', by the rows' own cells (each row's printed sentence says how): NodeEncodes: laid · NodeDecodes: laid · NodeTexts: laid · NodeSums: laid · NodeEmpties: laid · NodeClimbs: laid · NodePlays: laid.
  DERIVED. THE GIVEN ROWS OF THIS SEAT. 7 by the template 'for every input the law returns true; each argument reads behind the call as it read before'; 0 by the template 'total and deterministic' (their statements: YteiepenanffhcaaDoorTotals.lean).
  GIVEN WITH THE SEED: the statements are not yours to turn. If you find one false, say at which input.
  Laid BY PROGRAM, IN A SANDBOX (cutbox-rows.mjs): the forced cells as the released guide's own fill.sh prints them over the translation 2fa5d7eac49ebf93… (all of the seat's roots in one cut). By AI agents, Wed Nov 11 2026. No macro, syntax, notation, axiom, sorry.
-/
import Derived.Test.YteiepenanffhcaaDoorChecked
import GoSem.Claim
import GoSem.ClaimJoined
import GoSem.ClaimMapViews
import Derived.JoinedTies
import Derived.KernelRfl
namespace Go.Proofs.YteiepenanffhcaaDoor
/- THE CELL 'sum', in the pinned program and in every row, IS THE sha256 OF THE DUMP (.gsa) THAT YteiepenanffhcaaDoorProg.lean LOADS. Nothing in Lean hashes anything: it is a label: what it is worth is what the hold of that sum in a sandbox is worth. -/
noncomputable def Tryd.pinned : Pinned := { name := "yteiepenanffhcaadoor", sum := "2fa5d7eac49ebf93c80f598408a5daab78e138cdf57bf00622d23ca31d0425bc", checked := Tryd.checked }
namespace Rows
def none {H : Type} : Left H := { results := [], args := [] }

/- WHAT THE LISTED PACKAGE-LEVEL VARIABLES READ AS WHEN THE CALL BEGINS. Each datum BY PROGRAM (the guide's laid-datum.mjs) off the statement by which the dump's own 'gosem.cut.vars' lays the variable. In a bare row this is a premise. The card (YteiepenanffhcaaDoorCards.lean) ties it to the program's text. -/
def laid_ledger_ledgerref1_first {H : Type} : DataW H := .agg [.lit (.int .u32 1779033703), .lit (.int .u32 3144134277), .lit (.int .u32 1013904242), .lit (.int .u32 2773480762), .lit (.int .u32 1359893119), .lit (.int .u32 2600822924), .lit (.int .u32 528734635), .lit (.int .u32 1541459225)]
def laid_ledger_ledgerref1_consts {H : Type} : DataW H := .agg [.lit (.int .u32 1116352408), .lit (.int .u32 1899447441), .lit (.int .u32 3049323471), .lit (.int .u32 3921009573), .lit (.int .u32 961987163), .lit (.int .u32 1508970993), .lit (.int .u32 2453635748), .lit (.int .u32 2870763221), .lit (.int .u32 3624381080), .lit (.int .u32 310598401), .lit (.int .u32 607225278), .lit (.int .u32 1426881987), .lit (.int .u32 1925078388), .lit (.int .u32 2162078206), .lit (.int .u32 2614888103), .lit (.int .u32 3248222580), .lit (.int .u32 3835390401), .lit (.int .u32 4022224774), .lit (.int .u32 264347078), .lit (.int .u32 604807628), .lit (.int .u32 770255983), .lit (.int .u32 1249150122), .lit (.int .u32 1555081692), .lit (.int .u32 1996064986), .lit (.int .u32 2554220882), .lit (.int .u32 2821834349), .lit (.int .u32 2952996808), .lit (.int .u32 3210313671), .lit (.int .u32 3336571891), .lit (.int .u32 3584528711), .lit (.int .u32 113926993), .lit (.int .u32 338241895), .lit (.int .u32 666307205), .lit (.int .u32 773529912), .lit (.int .u32 1294757372), .lit (.int .u32 1396182291), .lit (.int .u32 1695183700), .lit (.int .u32 1986661051), .lit (.int .u32 2177026350), .lit (.int .u32 2456956037), .lit (.int .u32 2730485921), .lit (.int .u32 2820302411), .lit (.int .u32 3259730800), .lit (.int .u32 3345764771), .lit (.int .u32 3516065817), .lit (.int .u32 3600352804), .lit (.int .u32 4094571909), .lit (.int .u32 275423344), .lit (.int .u32 430227734), .lit (.int .u32 506948616), .lit (.int .u32 659060556), .lit (.int .u32 883997877), .lit (.int .u32 958139571), .lit (.int .u32 1322822218), .lit (.int .u32 1537002063), .lit (.int .u32 1747873779), .lit (.int .u32 1955562222), .lit (.int .u32 2024104815), .lit (.int .u32 2227730452), .lit (.int .u32 2361852424), .lit (.int .u32 2428436474), .lit (.int .u32 2756734187), .lit (.int .u32 3204031479), .lit (.int .u32 3329325298)]
def laid_ledger_digest_begin {H : Type} : DataW H := .agg [.lit (.int .u32 1779033703), .lit (.int .u32 3144134277), .lit (.int .u32 1013904242), .lit (.int .u32 2773480762), .lit (.int .u32 1359893119), .lit (.int .u32 2600822924), .lit (.int .u32 528734635), .lit (.int .u32 1541459225)]
def laid_ledger_digest_round {H : Type} : DataW H := .agg [.lit (.int .u32 1116352408), .lit (.int .u32 1899447441), .lit (.int .u32 3049323471), .lit (.int .u32 3921009573), .lit (.int .u32 961987163), .lit (.int .u32 1508970993), .lit (.int .u32 2453635748), .lit (.int .u32 2870763221), .lit (.int .u32 3624381080), .lit (.int .u32 310598401), .lit (.int .u32 607225278), .lit (.int .u32 1426881987), .lit (.int .u32 1925078388), .lit (.int .u32 2162078206), .lit (.int .u32 2614888103), .lit (.int .u32 3248222580), .lit (.int .u32 3835390401), .lit (.int .u32 4022224774), .lit (.int .u32 264347078), .lit (.int .u32 604807628), .lit (.int .u32 770255983), .lit (.int .u32 1249150122), .lit (.int .u32 1555081692), .lit (.int .u32 1996064986), .lit (.int .u32 2554220882), .lit (.int .u32 2821834349), .lit (.int .u32 2952996808), .lit (.int .u32 3210313671), .lit (.int .u32 3336571891), .lit (.int .u32 3584528711), .lit (.int .u32 113926993), .lit (.int .u32 338241895), .lit (.int .u32 666307205), .lit (.int .u32 773529912), .lit (.int .u32 1294757372), .lit (.int .u32 1396182291), .lit (.int .u32 1695183700), .lit (.int .u32 1986661051), .lit (.int .u32 2177026350), .lit (.int .u32 2456956037), .lit (.int .u32 2730485921), .lit (.int .u32 2820302411), .lit (.int .u32 3259730800), .lit (.int .u32 3345764771), .lit (.int .u32 3516065817), .lit (.int .u32 3600352804), .lit (.int .u32 4094571909), .lit (.int .u32 275423344), .lit (.int .u32 430227734), .lit (.int .u32 506948616), .lit (.int .u32 659060556), .lit (.int .u32 883997877), .lit (.int .u32 958139571), .lit (.int .u32 1322822218), .lit (.int .u32 1537002063), .lit (.int .u32 1747873779), .lit (.int .u32 1955562222), .lit (.int .u32 2024104815), .lit (.int .u32 2227730452), .lit (.int .u32 2361852424), .lit (.int .u32 2428436474), .lit (.int .u32 2756734187), .lit (.int .u32 3204031479), .lit (.int .u32 3329325298)]

/-- 'ledgerlaw9.NodeEncodes': WHATEVER THE INPUT: true; the input reads as it did. -/
def nodeEncodesSpec : ChangeSpec := { name := "nodeEncodes", fn := fun _ => fun
  | [d] => { results := [.lit (.bool true)], args := [d] }
  | _ => none }
def nodeEncodesRow : OpenClaim := { program := "yteiepenanffhcaadoor", sum := "2fa5d7eac49ebf93c80f598408a5daab78e138cdf57bf00622d23ca31d0425bc", func := "ledger/ledgerlaw9.NodeEncodes", spec := "nodeEncodes", unfollowed := true, recurses := true, named := ["ledger/digest.begin", "ledger/digest.round", "ledger/ledgerref1.first", "ledger/ledgerref1.consts"], apart := false, laid := [("ledger/ledgerref1.first", laid_ledger_ledgerref1_first), ("ledger/ledgerref1.consts", laid_ledger_ledgerref1_consts), ("ledger/digest.begin", laid_ledger_digest_begin), ("ledger/digest.round", laid_ledger_digest_round)] }
def NodeEncodesSaid : Prop := nodeEncodesRow.holds Tryd.pinned (OpenSpec.ofChange nodeEncodesSpec)

/-- ITS FALSE NEIGHBOUR: 'it returns false'. Refute it at one input. -/
def nodeEncodesWrong : ChangeSpec := { name := "nodeEncodes", fn := fun _ => fun
  | [d] => { results := [.lit (.bool false)], args := [d] }
  | _ => none }
def NodeEncodesWrongFalsely : Prop := nodeEncodesRow.holds Tryd.pinned (OpenSpec.ofChange nodeEncodesWrong)

/-- 'ledgerlaw9.NodeDecodes': WHATEVER THE INPUT: true; the input reads as it did. -/
def nodeDecodesSpec : ChangeSpec := { name := "nodeDecodes", fn := fun _ => fun
  | [d] => { results := [.lit (.bool true)], args := [d] }
  | _ => none }
def nodeDecodesRow : OpenClaim := { program := "yteiepenanffhcaadoor", sum := "2fa5d7eac49ebf93c80f598408a5daab78e138cdf57bf00622d23ca31d0425bc", func := "ledger/ledgerlaw9.NodeDecodes", spec := "nodeDecodes", unfollowed := true, recurses := true, named := ["ledger/digest.begin", "ledger/digest.round", "ledger/ledgerref1.first", "ledger/ledgerref1.consts"], apart := false, laid := [("ledger/ledgerref1.first", laid_ledger_ledgerref1_first), ("ledger/ledgerref1.consts", laid_ledger_ledgerref1_consts), ("ledger/digest.begin", laid_ledger_digest_begin), ("ledger/digest.round", laid_ledger_digest_round)] }
def NodeDecodesSaid : Prop := nodeDecodesRow.holds Tryd.pinned (OpenSpec.ofChange nodeDecodesSpec)

/-- ITS FALSE NEIGHBOUR: 'it returns false'. Refute it at one input. -/
def nodeDecodesWrong : ChangeSpec := { name := "nodeDecodes", fn := fun _ => fun
  | [d] => { results := [.lit (.bool false)], args := [d] }
  | _ => none }
def NodeDecodesWrongFalsely : Prop := nodeDecodesRow.holds Tryd.pinned (OpenSpec.ofChange nodeDecodesWrong)

/-- 'ledgerlaw9.NodeTexts': WHATEVER THE INPUT: true; the input reads as it did. -/
def nodeTextsSpec : ChangeSpec := { name := "nodeTexts", fn := fun _ => fun
  | [d] => { results := [.lit (.bool true)], args := [d] }
  | _ => none }
def nodeTextsRow : OpenClaim := { program := "yteiepenanffhcaadoor", sum := "2fa5d7eac49ebf93c80f598408a5daab78e138cdf57bf00622d23ca31d0425bc", func := "ledger/ledgerlaw9.NodeTexts", spec := "nodeTexts", unfollowed := true, recurses := true, named := ["ledger/digest.begin", "ledger/digest.round", "ledger/ledgerref1.first", "ledger/ledgerref1.consts"], apart := false, laid := [("ledger/ledgerref1.first", laid_ledger_ledgerref1_first), ("ledger/ledgerref1.consts", laid_ledger_ledgerref1_consts), ("ledger/digest.begin", laid_ledger_digest_begin), ("ledger/digest.round", laid_ledger_digest_round)] }
def NodeTextsSaid : Prop := nodeTextsRow.holds Tryd.pinned (OpenSpec.ofChange nodeTextsSpec)

/-- ITS FALSE NEIGHBOUR: 'it returns false'. Refute it at one input. -/
def nodeTextsWrong : ChangeSpec := { name := "nodeTexts", fn := fun _ => fun
  | [d] => { results := [.lit (.bool false)], args := [d] }
  | _ => none }
def NodeTextsWrongFalsely : Prop := nodeTextsRow.holds Tryd.pinned (OpenSpec.ofChange nodeTextsWrong)

/-- 'ledgerlaw9.NodeSums': WHATEVER THE INPUT: true; the input reads as it did. -/
def nodeSumsSpec : ChangeSpec := { name := "nodeSums", fn := fun _ => fun
  | [d] => { results := [.lit (.bool true)], args := [d] }
  | _ => none }
def nodeSumsRow : OpenClaim := { program := "yteiepenanffhcaadoor", sum := "2fa5d7eac49ebf93c80f598408a5daab78e138cdf57bf00622d23ca31d0425bc", func := "ledger/ledgerlaw9.NodeSums", spec := "nodeSums", unfollowed := true, recurses := true, named := ["ledger/digest.begin", "ledger/digest.round", "ledger/ledgerref1.first", "ledger/ledgerref1.consts"], apart := false, laid := [("ledger/ledgerref1.first", laid_ledger_ledgerref1_first), ("ledger/ledgerref1.consts", laid_ledger_ledgerref1_consts), ("ledger/digest.begin", laid_ledger_digest_begin), ("ledger/digest.round", laid_ledger_digest_round)] }
def NodeSumsSaid : Prop := nodeSumsRow.holds Tryd.pinned (OpenSpec.ofChange nodeSumsSpec)

/-- ITS FALSE NEIGHBOUR: 'it returns false'. Refute it at one input. -/
def nodeSumsWrong : ChangeSpec := { name := "nodeSums", fn := fun _ => fun
  | [d] => { results := [.lit (.bool false)], args := [d] }
  | _ => none }
def NodeSumsWrongFalsely : Prop := nodeSumsRow.holds Tryd.pinned (OpenSpec.ofChange nodeSumsWrong)

/-- 'ledgerlaw9.NodeEmpties': WHATEVER THE INPUT: true; the input reads as it did. -/
def nodeEmptiesSpec : ChangeSpec := { name := "nodeEmpties", fn := fun _ => fun
  | [d] => { results := [.lit (.bool true)], args := [d] }
  | _ => none }
def nodeEmptiesRow : OpenClaim := { program := "yteiepenanffhcaadoor", sum := "2fa5d7eac49ebf93c80f598408a5daab78e138cdf57bf00622d23ca31d0425bc", func := "ledger/ledgerlaw9.NodeEmpties", spec := "nodeEmpties", unfollowed := true, recurses := true, named := ["ledger/digest.begin", "ledger/digest.round", "ledger/ledgerref1.first", "ledger/ledgerref1.consts"], apart := false, laid := [("ledger/ledgerref1.first", laid_ledger_ledgerref1_first), ("ledger/ledgerref1.consts", laid_ledger_ledgerref1_consts), ("ledger/digest.begin", laid_ledger_digest_begin), ("ledger/digest.round", laid_ledger_digest_round)] }
def NodeEmptiesSaid : Prop := nodeEmptiesRow.holds Tryd.pinned (OpenSpec.ofChange nodeEmptiesSpec)

/-- ITS FALSE NEIGHBOUR: 'it returns false'. Refute it at one input. -/
def nodeEmptiesWrong : ChangeSpec := { name := "nodeEmpties", fn := fun _ => fun
  | [d] => { results := [.lit (.bool false)], args := [d] }
  | _ => none }
def NodeEmptiesWrongFalsely : Prop := nodeEmptiesRow.holds Tryd.pinned (OpenSpec.ofChange nodeEmptiesWrong)

/-- 'ledgerlaw9.NodeClimbs': WHATEVER THE INPUT: true; the input reads as it did. -/
def nodeClimbsSpec : ChangeSpec := { name := "nodeClimbs", fn := fun _ => fun
  | [d] => { results := [.lit (.bool true)], args := [d] }
  | _ => none }
def nodeClimbsRow : OpenClaim := { program := "yteiepenanffhcaadoor", sum := "2fa5d7eac49ebf93c80f598408a5daab78e138cdf57bf00622d23ca31d0425bc", func := "ledger/ledgerlaw9.NodeClimbs", spec := "nodeClimbs", unfollowed := true, recurses := true, named := ["ledger/digest.begin", "ledger/digest.round", "ledger/ledgerref1.first", "ledger/ledgerref1.consts"], apart := false, laid := [("ledger/ledgerref1.first", laid_ledger_ledgerref1_first), ("ledger/ledgerref1.consts", laid_ledger_ledgerref1_consts), ("ledger/digest.begin", laid_ledger_digest_begin), ("ledger/digest.round", laid_ledger_digest_round)] }
def NodeClimbsSaid : Prop := nodeClimbsRow.holds Tryd.pinned (OpenSpec.ofChange nodeClimbsSpec)

/-- ITS FALSE NEIGHBOUR: 'it returns false'. Refute it at one input. -/
def nodeClimbsWrong : ChangeSpec := { name := "nodeClimbs", fn := fun _ => fun
  | [d] => { results := [.lit (.bool false)], args := [d] }
  | _ => none }
def NodeClimbsWrongFalsely : Prop := nodeClimbsRow.holds Tryd.pinned (OpenSpec.ofChange nodeClimbsWrong)

/-- 'ledgerlaw9.NodePlays': WHATEVER THE INPUT: true; the input reads as it did. -/
def nodePlaysSpec : ChangeSpec := { name := "nodePlays", fn := fun _ => fun
  | [d] => { results := [.lit (.bool true)], args := [d] }
  | _ => none }
def nodePlaysRow : OpenClaim := { program := "yteiepenanffhcaadoor", sum := "2fa5d7eac49ebf93c80f598408a5daab78e138cdf57bf00622d23ca31d0425bc", func := "ledger/ledgerlaw9.NodePlays", spec := "nodePlays", unfollowed := true, recurses := true, named := ["ledger/digest.begin", "ledger/digest.round", "ledger/ledgerref1.first", "ledger/ledgerref1.consts"], apart := false, laid := [("ledger/ledgerref1.first", laid_ledger_ledgerref1_first), ("ledger/ledgerref1.consts", laid_ledger_ledgerref1_consts), ("ledger/digest.begin", laid_ledger_digest_begin), ("ledger/digest.round", laid_ledger_digest_round)] }
def NodePlaysSaid : Prop := nodePlaysRow.holds Tryd.pinned (OpenSpec.ofChange nodePlaysSpec)

/-- ITS FALSE NEIGHBOUR: 'it returns false'. Refute it at one input. -/
def nodePlaysWrong : ChangeSpec := { name := "nodePlays", fn := fun _ => fun
  | [d] => { results := [.lit (.bool false)], args := [d] }
  | _ => none }
def NodePlaysWrongFalsely : Prop := nodePlaysRow.holds Tryd.pinned (OpenSpec.ofChange nodePlaysWrong)

/- THE SECOND FORM. 'bulk': how many values and letters a reading holds, each counted each time it is reached (what is shared counts as often as it is met; a slice's spare places count too). A statement '..UptoSaid' is the law's where the arguments, and the package variables that the reading takes, are together of bulk at most 1048576: NARROWER than '..Said'. Prove '..Said' where nothing that the law and all that it calls make is longer than what came in: it says more and counts as full. Else prove '..UptoSaid'. A law counts once. -/
mutual
def uptoBulk {H : Type} : DataW H → Nat
  | .lit (.string bytes) => bytes.length + 1
  | .lit _ => 1
  | .nil => 1
  | .ptr d => uptoBulk d + 1
  | .slice elems spare => uptoBulkAll elems + uptoBulkAll spare + 1
  | .agg parts => uptoBulkAll parts + 1
  | .iface _ d => uptoBulk d + 1
  | .map entries => uptoBulkEntries entries + 1
  | .held _ => 1
def uptoBulkAll {H : Type} : List (DataW H) → Nat
  | [] => 0
  | d :: r => uptoBulk d + uptoBulkAll r
def uptoBulkEntries {H : Type} : List (Lit × DataW H) → Nat
  | [] => 0
  | x :: r => uptoBulkEntry x + uptoBulkEntries r
def uptoBulkEntry {H : Type} : Lit × DataW H → Nat
  | (.string bytes, d) => bytes.length + uptoBulk d + 1
  | (_, d) => uptoBulk d + 1
 end
def uptoSmall : (H : Type) → List (DataW H) → Bool := fun _ ds => decide (uptoBulkAll ds ≤ 1048576)
def OpenSpec.upto (s : _root_.Go.ChangeSpec) : _root_.Go.OpenSpec := { _root_.Go.OpenSpec.ofChange s with cond := some uptoSmall }

/-- 'ledgerlaw9.NodeEncodes', WHERE WHAT IT READS IS OF BULK AT MOST 1048576: true; the input reads as it did. -/
def nodeEncodesUptoRow : OpenClaim := { program := "yteiepenanffhcaadoor", sum := "2fa5d7eac49ebf93c80f598408a5daab78e138cdf57bf00622d23ca31d0425bc", func := "ledger/ledgerlaw9.NodeEncodes", spec := "nodeEncodes", unfollowed := true, recurses := true, named := ["ledger/digest.begin", "ledger/digest.round", "ledger/ledgerref1.first", "ledger/ledgerref1.consts"], apart := false, laid := [("ledger/ledgerref1.first", laid_ledger_ledgerref1_first), ("ledger/ledgerref1.consts", laid_ledger_ledgerref1_consts), ("ledger/digest.begin", laid_ledger_digest_begin), ("ledger/digest.round", laid_ledger_digest_round)], narrowed := true }
def NodeEncodesUptoSaid : Prop := nodeEncodesUptoRow.holds Tryd.pinned (OpenSpec.upto nodeEncodesSpec)

/-- 'ledgerlaw9.NodeDecodes', WHERE WHAT IT READS IS OF BULK AT MOST 1048576: true; the input reads as it did. -/
def nodeDecodesUptoRow : OpenClaim := { program := "yteiepenanffhcaadoor", sum := "2fa5d7eac49ebf93c80f598408a5daab78e138cdf57bf00622d23ca31d0425bc", func := "ledger/ledgerlaw9.NodeDecodes", spec := "nodeDecodes", unfollowed := true, recurses := true, named := ["ledger/digest.begin", "ledger/digest.round", "ledger/ledgerref1.first", "ledger/ledgerref1.consts"], apart := false, laid := [("ledger/ledgerref1.first", laid_ledger_ledgerref1_first), ("ledger/ledgerref1.consts", laid_ledger_ledgerref1_consts), ("ledger/digest.begin", laid_ledger_digest_begin), ("ledger/digest.round", laid_ledger_digest_round)], narrowed := true }
def NodeDecodesUptoSaid : Prop := nodeDecodesUptoRow.holds Tryd.pinned (OpenSpec.upto nodeDecodesSpec)

/-- 'ledgerlaw9.NodeTexts', WHERE WHAT IT READS IS OF BULK AT MOST 1048576: true; the input reads as it did. -/
def nodeTextsUptoRow : OpenClaim := { program := "yteiepenanffhcaadoor", sum := "2fa5d7eac49ebf93c80f598408a5daab78e138cdf57bf00622d23ca31d0425bc", func := "ledger/ledgerlaw9.NodeTexts", spec := "nodeTexts", unfollowed := true, recurses := true, named := ["ledger/digest.begin", "ledger/digest.round", "ledger/ledgerref1.first", "ledger/ledgerref1.consts"], apart := false, laid := [("ledger/ledgerref1.first", laid_ledger_ledgerref1_first), ("ledger/ledgerref1.consts", laid_ledger_ledgerref1_consts), ("ledger/digest.begin", laid_ledger_digest_begin), ("ledger/digest.round", laid_ledger_digest_round)], narrowed := true }
def NodeTextsUptoSaid : Prop := nodeTextsUptoRow.holds Tryd.pinned (OpenSpec.upto nodeTextsSpec)

/-- 'ledgerlaw9.NodeSums', WHERE WHAT IT READS IS OF BULK AT MOST 1048576: true; the input reads as it did. -/
def nodeSumsUptoRow : OpenClaim := { program := "yteiepenanffhcaadoor", sum := "2fa5d7eac49ebf93c80f598408a5daab78e138cdf57bf00622d23ca31d0425bc", func := "ledger/ledgerlaw9.NodeSums", spec := "nodeSums", unfollowed := true, recurses := true, named := ["ledger/digest.begin", "ledger/digest.round", "ledger/ledgerref1.first", "ledger/ledgerref1.consts"], apart := false, laid := [("ledger/ledgerref1.first", laid_ledger_ledgerref1_first), ("ledger/ledgerref1.consts", laid_ledger_ledgerref1_consts), ("ledger/digest.begin", laid_ledger_digest_begin), ("ledger/digest.round", laid_ledger_digest_round)], narrowed := true }
def NodeSumsUptoSaid : Prop := nodeSumsUptoRow.holds Tryd.pinned (OpenSpec.upto nodeSumsSpec)

/-- 'ledgerlaw9.NodeEmpties', WHERE WHAT IT READS IS OF BULK AT MOST 1048576: true; the input reads as it did. -/
def nodeEmptiesUptoRow : OpenClaim := { program := "yteiepenanffhcaadoor", sum := "2fa5d7eac49ebf93c80f598408a5daab78e138cdf57bf00622d23ca31d0425bc", func := "ledger/ledgerlaw9.NodeEmpties", spec := "nodeEmpties", unfollowed := true, recurses := true, named := ["ledger/digest.begin", "ledger/digest.round", "ledger/ledgerref1.first", "ledger/ledgerref1.consts"], apart := false, laid := [("ledger/ledgerref1.first", laid_ledger_ledgerref1_first), ("ledger/ledgerref1.consts", laid_ledger_ledgerref1_consts), ("ledger/digest.begin", laid_ledger_digest_begin), ("ledger/digest.round", laid_ledger_digest_round)], narrowed := true }
def NodeEmptiesUptoSaid : Prop := nodeEmptiesUptoRow.holds Tryd.pinned (OpenSpec.upto nodeEmptiesSpec)

/-- 'ledgerlaw9.NodeClimbs', WHERE WHAT IT READS IS OF BULK AT MOST 1048576: true; the input reads as it did. -/
def nodeClimbsUptoRow : OpenClaim := { program := "yteiepenanffhcaadoor", sum := "2fa5d7eac49ebf93c80f598408a5daab78e138cdf57bf00622d23ca31d0425bc", func := "ledger/ledgerlaw9.NodeClimbs", spec := "nodeClimbs", unfollowed := true, recurses := true, named := ["ledger/digest.begin", "ledger/digest.round", "ledger/ledgerref1.first", "ledger/ledgerref1.consts"], apart := false, laid := [("ledger/ledgerref1.first", laid_ledger_ledgerref1_first), ("ledger/ledgerref1.consts", laid_ledger_ledgerref1_consts), ("ledger/digest.begin", laid_ledger_digest_begin), ("ledger/digest.round", laid_ledger_digest_round)], narrowed := true }
def NodeClimbsUptoSaid : Prop := nodeClimbsUptoRow.holds Tryd.pinned (OpenSpec.upto nodeClimbsSpec)

/-- 'ledgerlaw9.NodePlays', WHERE WHAT IT READS IS OF BULK AT MOST 1048576: true; the input reads as it did. -/
def nodePlaysUptoRow : OpenClaim := { program := "yteiepenanffhcaadoor", sum := "2fa5d7eac49ebf93c80f598408a5daab78e138cdf57bf00622d23ca31d0425bc", func := "ledger/ledgerlaw9.NodePlays", spec := "nodePlays", unfollowed := true, recurses := true, named := ["ledger/digest.begin", "ledger/digest.round", "ledger/ledgerref1.first", "ledger/ledgerref1.consts"], apart := false, laid := [("ledger/ledgerref1.first", laid_ledger_ledgerref1_first), ("ledger/ledgerref1.consts", laid_ledger_ledgerref1_consts), ("ledger/digest.begin", laid_ledger_digest_begin), ("ledger/digest.round", laid_ledger_digest_round)], narrowed := true }
def NodePlaysUptoSaid : Prop := nodePlaysUptoRow.holds Tryd.pinned (OpenSpec.upto nodePlaysSpec)

end Rows
end Go.Proofs.YteiepenanffhcaaDoor
