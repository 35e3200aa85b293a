/- NodeSums: the walk of the law. -/
import Derived.Test.YteiepenanffhcaaDoorUpTo
import Derived.Test.YteiepenanffhcaaDoorPlayN
import Derived.Test.YteiepenanffhcaaDoorPlayV
import Derived.Test.YteiepenanffhcaaDoorVal5
import Derived.Test.YteiepenanffhcaaDoorOpenOps
namespace Go.Proofs.YteiepenanffhcaaDoor
open Go Go.RowKit
set_option linter.unusedVariables false

theorem sums_each {S : S8} {K : List UInt32} {w : World} {o : OpV} (hi : OpIn w o) (hA : Laid S K w) (hR : LaidR S K w) (h1 : 5 ≤ o.kind) (h2 : o.kind ≤ 6) (W : World) (hb : Below w.heap.size w W) :
    Calls Tryd.prog 11 #[.agg (opC o).toArray] W fun e W' => e = .returned (.bool true) ∧ Below W.heap.size W W' := by
  obtain ⟨lv, hv⟩ := hi.val
  obtain ⟨ln, hn⟩ := hi.nval
  have hA1 := hA.old hb
  have hR1 := hR.old hb
  rcases (show o.kind = 5 ∨ o.kind = 6 by omega) with hk | hk
  · exact plays_val5 o hk W lv ln (hv.old hb) hi.vlen (hn.old hb) hi.nlen fun L hL g a1 c1 W' hW h3 h4 h5 h6 h7 => valuePlay_leaf o hk o.vn hi.vlen L hL g a1 c1 W' (hA1.old hW) (hR1.old hW) h3 h4 h5 h6 h7
  · exact plays_num6 o hk W fun o' hk' W' hW => numbersPlay_branch o' hk' W' (brD S K o'.w o'.d o'.e)
      (fun W2 h2 => branch_any o'.w o'.d o'.e W2 ((hA1.old hW).old h2)) (fun W2 h2 => rbranch_any o'.w o'.d o'.e W2 hA.1 ((hR1.old hW).old h2))

set_option maxHeartbeats 800000 in
theorem sums_walk {S : S8} {K : List UInt32} (ao : Option Addr) (n c : Nat) (os : List OpV) (w : World) (h : Ops w ao n os) (mx : n ≤ 4611686018427387904) (hin : ∀ o ∈ os, OpIn w o) (hA : Laid S K w) (hR : LaidR S K w) :
    Calls Tryd.prog 6 #[.slice ao n c] w fun e w' => e = .returned (.bool true) ∧ Below w.heap.size w w' := by
  have hU := Box.mk (upTo_any 5 6 ao n c os w h mx fun o ho h1 h2 W hb => sums_each (hin o ho) hA hR h1 h2 W hb)
  clear h hin hA hR
  go_enter Tryd.func6, Tryd.ntmps6
  go_wp2_with (go_at_call 10; refine (calls_box hU.out).mono ?_)
  rintro e w1 ⟨⟨rfl, hB⟩⟩
  go_wp2
  go_ret
  exact ⟨rfl, hB⟩
end Go.Proofs.YteiepenanffhcaaDoor
