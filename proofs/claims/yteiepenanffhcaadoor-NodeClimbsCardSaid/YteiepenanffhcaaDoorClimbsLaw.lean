/- NodeClimbs: the walk of the law. -/
import Derived.Test.YteiepenanffhcaaDoorUpTo
import Derived.Test.YteiepenanffhcaaDoorPlayN
import Derived.Test.YteiepenanffhcaaDoorNum
import Derived.Test.YteiepenanffhcaaDoorRClimbW
import Derived.Test.YteiepenanffhcaaDoorOpenOps
namespace Go.Proofs.YteiepenanffhcaaDoor
open Go Go.RowKit
set_option linter.unusedVariables false

theorem climbs_each {S : S8} {K : List UInt32} {w : World} {o : OpV} (hA : Laid S K w) (hR : LaidR S K w) (hk : o.kind = 8) (W : World) (hb : Below w.heap.size w W) :
    Calls Tryd.prog 11 #[.agg (opC o).toArray] W fun e W' => e = .returned (.bool true) ∧ Below W.heap.size W W' := by
  have hA1 := hA.old hb
  have hR1 := hR.old hb
  exact plays_num8 o hk W fun o' hk' W' hW => numbersPlay_climb o' hk' W' (climbD S K o'.w o'.k o'.n o'.d o'.m)
      (fun W2 h2 => climb_any o'.w o'.k o'.n o'.d o'.m W2 ((hA1.old hW).old h2)) (fun W2 h2 => rclimb_any o'.w o'.k o'.n o'.d o'.m W2 hA.1 ((hR1.old hW).old h2))

set_option maxHeartbeats 800000 in
theorem climbs_walk {S : S8} {K : List UInt32} (ao : Option Addr) (n c : Nat) (os : List OpV) (w : World) (h : Ops w ao n os) (mx : n ≤ 4611686018427387904) (hA : Laid S K w) (hR : LaidR S K w) :
    Calls Tryd.prog 8 #[.slice ao n c] w fun e w' => e = .returned (.bool true) ∧ Below w.heap.size w w' := by
  have hU := Box.mk (upTo_any 8 8 ao n c os w h mx fun o ho h1 h2 W hb => climbs_each hA hR (by omega) W hb)
  clear h hA hR
  go_enter Tryd.func8, Tryd.ntmps8
  go_wp2_with (go_at_call 10; refine (calls_box hU.out).mono ?_)
  rintro e w1 ⟨⟨rfl, hB⟩⟩
  go_wp2
  go_ret
  exact ⟨rfl, hB⟩
end Go.Proofs.YteiepenanffhcaaDoor
