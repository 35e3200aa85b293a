/- Texts joined: PlaysLaw. -/
import Derived.Test.YteiepenanffhcaaDoorP09
import Derived.Test.YteiepenanffhcaaDoorP15
import Derived.Test.YteiepenanffhcaaDoorP16
import Derived.Test.YteiepenanffhcaaDoorP18
import Derived.Test.YteiepenanffhcaaDoorP19
import Derived.Test.YteiepenanffhcaaDoorP22
/- NodePlays: the walk of the law. -/
namespace Go.Proofs.YteiepenanffhcaaDoor
open Go Go.RowKit
set_option linter.unusedVariables false

theorem plays_each {S : S8} {K : List UInt32} {w : World} {o : OpV} (hi : OpIn w o) (hA : Laid S K w) (hR : LaidR S K w) (h1 : 1 ≤ o.kind) (h2 : o.kind ≤ 8) (W : World) (hb : Below w.heap.size w W) :
    Calls Tryd.prog 11 #[.agg (opC o).toArray] W fun e W' => e = .returned (.bool true) ∧ Below W.heap.size W W' := by
  rcases (show o.kind = 1 ∨ o.kind = 2 ∨ (3 ≤ o.kind ∧ o.kind ≤ 4) ∨ (5 ≤ o.kind ∧ o.kind ≤ 6) ∨ o.kind = 7 ∨ o.kind = 8 by omega) with hk | hk | ⟨h3, h4⟩ | ⟨h3, h4⟩ | hk | hk
  · exact encodes_each hi hk W hb
  · exact decodes_each hi hk W hb
  · exact texts_each hi h3 h4 W hb
  · exact sums_each hi hA hR h3 h4 W hb
  · exact empties_each hA hR hk W hb
  · exact climbs_each hA hR hk W hb

set_option maxHeartbeats 800000 in
theorem plays_walk {S : S8} {K : List UInt32} (ao : Option Addr) (n c : Nat) (os : List OpV) (w : World) (h : Ops w ao n os) (mx : n ≤ 4611686018427387904) (hin : ∀ o ∈ os, OpIn w o) (hA : Laid S K w) (hR : LaidR S K w) :
    Calls Tryd.prog 9 #[.slice ao n c] w fun e w' => e = .returned (.bool true) ∧ Below w.heap.size w w' := by
  have hU := Box.mk (upTo_any 1 8 ao n c os w h mx fun o ho h1 h2 W hb => plays_each (hin o ho) hA hR h1 h2 W hb)
  clear h hin hA hR
  go_enter Tryd.func9, Tryd.ntmps9
  go_wp2_with (go_at_call 10; refine (calls_box hU.out).mono ?_)
  rintro e w1 ⟨⟨rfl, hB⟩⟩
  go_wp2
  go_ret
  exact ⟨rfl, hB⟩
end Go.Proofs.YteiepenanffhcaaDoor
