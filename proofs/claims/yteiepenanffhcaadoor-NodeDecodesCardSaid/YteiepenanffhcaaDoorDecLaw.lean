/- NodeDecodes: the walk of the law. -/
import Derived.Test.YteiepenanffhcaaDoorUpTo
import Derived.Test.YteiepenanffhcaaDoorPlayN
import Derived.Test.YteiepenanffhcaaDoorPlayV
import Derived.Test.YteiepenanffhcaaDoorVal2
import Derived.Test.YteiepenanffhcaaDoorOpenOps
namespace Go.Proofs.YteiepenanffhcaaDoor
open Go Go.RowKit
set_option linter.unusedVariables false

theorem decodes_each {w : World} {o : OpV} (hi : OpIn w o) (hk : o.kind = 2) (W : World) (hb : Below w.heap.size w W) :
    Calls Tryd.prog 11 #[.agg (opC o).toArray] W fun e W' => e = .returned (.bool true) ∧ Below W.heap.size W W' := by
  obtain ⟨lv, hv⟩ := hi.val
  obtain ⟨ln, hn⟩ := hi.nval
  exact plays_val2 o hk W lv ln (hv.old hb) hi.vlen (hn.old hb) hi.nlen fun L hL g a1 c1 W' hW h3 h4 h5 h6 h7 => valuePlay_dec o hk o.vn hi.vlen L hL g a1 c1 W' h3 h4 h5 h6 h7

set_option maxHeartbeats 800000 in
theorem decodes_walk (ao : Option Addr) (n c : Nat) (os : List OpV) (w : World) (h : Ops w ao n os) (mx : n ≤ 4611686018427387904) (hin : ∀ o ∈ os, OpIn w o) :
    Calls Tryd.prog 4 #[.slice ao n c] w fun e w' => e = .returned (.bool true) ∧ Below w.heap.size w w' := by
  have hU := Box.mk (upTo_any 2 2 ao n c os w h mx fun o ho h1 h2 W hb => decodes_each (hin o ho) (by omega) W hb)
  clear h hin
  go_enter Tryd.func4, Tryd.ntmps4
  go_wp2_with (go_at_call 10; refine (calls_box hU.out).mono ?_)
  rintro e w1 ⟨⟨rfl, hB⟩⟩
  go_wp2
  go_ret
  exact ⟨rfl, hB⟩
end Go.Proofs.YteiepenanffhcaaDoor
