/- NodeEmpties: the walk of the law. -/
import Derived.Test.YteiepenanffhcaaDoorUpTo
import Derived.Test.YteiepenanffhcaaDoorPlayN
import Derived.Test.YteiepenanffhcaaDoorNum
import Derived.Test.YteiepenanffhcaaDoorREmpty
import Derived.Test.YteiepenanffhcaaDoorOpenOps
namespace Go.Proofs.YteiepenanffhcaaDoor
open Go Go.RowKit
set_option linter.unusedVariables false

theorem empties_each {S : S8} {K : List UInt32} {w : World} {o : OpV} (hA : Laid S K w) (hR : LaidR S K w) (hk : o.kind = 7) (W : World) (hb : Below w.heap.size w W) :
    Calls Tryd.prog 11 #[.agg (opC o).toArray] W fun e W' => e = .returned (.bool true) ∧ Below W.heap.size W W' := by
  have hA1 := hA.old hb
  have hR1 := hR.old hb
  exact plays_num7 o hk W fun o' hk' W' hW => numbersPlay_empty o' hk' W' (emptyD S K o'.w o'.n)
      (fun W2 h2 => empty_any o'.w o'.n W2 ((hA1.old hW).old h2)) (fun W2 h2 => rempty_any o'.w o'.n W2 hA.1 ((hR1.old hW).old h2))

set_option maxHeartbeats 800000 in
theorem empties_walk {S : S8} {K : List UInt32} (ao : Option Addr) (n c : Nat) (os : List OpV) (w : World) (h : Ops w ao n os) (mx : n ≤ 4611686018427387904) (hA : Laid S K w) (hR : LaidR S K w) :
    Calls Tryd.prog 7 #[.slice ao n c] w fun e w' => e = .returned (.bool true) ∧ Below w.heap.size w w' := by
  have hU := Box.mk (upTo_any 7 7 ao n c os w h mx fun o ho h1 h2 W hb => empties_each hA hR (by omega) W hb)
  clear h hA hR
  go_enter Tryd.func7, Tryd.ntmps7
  go_wp2_with (go_at_call 10; refine (calls_box hU.out).mono ?_)
  rintro e w1 ⟨⟨rfl, hB⟩⟩
  go_wp2
  go_ret
  exact ⟨rfl, hB⟩
end Go.Proofs.YteiepenanffhcaaDoor
