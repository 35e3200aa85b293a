/- NodeEncodes: the walk of the law. -/
import Derived.Test.YteiepenanffhcaaDoorUpTo
import Derived.Test.YteiepenanffhcaaDoorPlayN
import Derived.Test.YteiepenanffhcaaDoorPlayV
import Derived.Test.YteiepenanffhcaaDoorVal1
import Derived.Test.YteiepenanffhcaaDoorOpenOps
namespace Go.Proofs.YteiepenanffhcaaDoor
open Go Go.RowKit
set_option linter.unusedVariables false

theorem encOut_own {W W' : World} {t : List UInt8} {v : Value} {e : Ending} {er : Int} (he : e = .returned (.tuple #[v, .int .i64 er])) (ho : Own W' W.heap.size 5 v t) (hb : Below W.heap.size W W') : EncOut W t er e W' := by
  obtain ⟨a, c, hv, hr⟩ := own_read2 ho
  subst hv
  exact ⟨⟨a, c, he, hr⟩, hb⟩
theorem encOut_none {W W' : World} {e : Ending} (he : e = .returned (.tuple #[.slice none 0 0, .int .i64 90])) (hb : Below W.heap.size W W') : EncOut W [] 90 e W' :=
  ⟨⟨none, 0, he, Row.nil⟩, hb⟩
theorem encodes_each {w : World} {o : OpV} (hi : OpIn w o) (hk : o.kind = 1) (W : World) (hb : Below w.heap.size w W) :
    Calls Tryd.prog 11 #[.agg (opC o).toArray] W fun e W' => e = .returned (.bool true) ∧ Below W.heap.size W W' := by
  obtain ⟨lv, hv⟩ := hi.val
  obtain ⟨ln, hn⟩ := hi.nval
  refine plays_val1 o hk W lv ln (hv.old hb) hi.vlen (hn.old hb) hi.nlen fun L hL g a1 c1 W' hW h3 h4 h5 h6 h7 => ?_
  have rA : ∀ W2, Below W'.heap.size W' W2 → Row W2 (some ⟨g, 0, none⟩) o.nd.n L := fun W2 h2 => row_front ((h2.block g (heap_lt h3)).trans h3) hL
  have rB : ∀ W2, Below W'.heap.size W' W2 → Row W2 a1 o.nd.n L := fun W2 h2 => h4.old h2
  rcases nodeLay { o.nd with ao := some ⟨g, 0, none⟩, n := o.nd.n, c := o.nd.n + 100 } with ⟨hx, hn128⟩ | ⟨hx0, hx, hs⟩ | hx
  · have hn1 : o.nd.n ≤ 128 := hn128
    refine valuePlay_enc o hk o.nd.n hi.nlen L hL g a1 c1 W' h3 h4 h5 h6 h7 (o.nd.key.1 ++ L) (by rw [List.length_append, o.nd.key.2]; omega) 0 (.inl rfl) (fun W2 h2 => ?_) (fun W2 h2 => ?_)
    · refine (encode_leaf { o.nd with ao := some ⟨g, 0, none⟩, n := o.nd.n, c := o.nd.n + 100 } hi.left hi.right hi.lc hi.rc hx L W2 (rA W2 h2) (by intro h; cases h) hi.nlen).mono fun e W3 ⟨h, h'⟩ => ?_
      rw [if_pos hn128] at h
      obtain ⟨g', cap, he, ho⟩ := h
      exact encOut_own he ho h'
    · refine (renc_leaf { o.nd with ao := a1, n := o.nd.n, c := c1 } W2 hx hn1 L (rB W2 h2)).mono fun e W3 ⟨⟨v, he, ho⟩, h'⟩ => encOut_own he ho h'
  · have hbl : (brEnc { o.nd with ao := some ⟨g, 0, none⟩, n := o.nd.n, c := o.nd.n + 100 }).length ≤ 140737488351232 := by
      show (brT _ _ _ _ _ _).length ≤ _
      simp [brT, le4, o.nd.ls.2, o.nd.rs.2]
    refine valuePlay_enc o hk o.nd.n hi.nlen L hL g a1 c1 W' h3 h4 h5 h6 h7 (brEnc { o.nd with ao := some ⟨g, 0, none⟩, n := o.nd.n, c := o.nd.n + 100 }) hbl 0 (.inl rfl) (fun W2 h2 => ?_) (fun W2 h2 => ?_)
    · refine (encode_branch { o.nd with ao := some ⟨g, 0, none⟩, n := o.nd.n, c := o.nd.n + 100 } hi.left hi.right hi.lc hi.rc hx0 hx W2).mono fun e W3 ⟨h, h'⟩ => ?_
      rw [if_pos hs] at h
      obtain ⟨g', cap, he, ho⟩ := h
      exact encOut_own he ho h'
    · refine (renc_branch { o.nd with ao := a1, n := o.nd.n, c := c1 } W2 hx hs).mono fun e W3 ⟨⟨v, he, ho⟩, h'⟩ => encOut_own he ho h'
  · refine valuePlay_enc o hk o.nd.n hi.nlen L hL g a1 c1 W' h3 h4 h5 h6 h7 [] (by simp) 90 (.inr rfl) (fun W2 h2 => ?_) (fun W2 h2 => ?_)
    · exact (nenc_none { o.nd with ao := some ⟨g, 0, none⟩, n := o.nd.n, c := o.nd.n + 100 } hi.left hi.right hi.lc hi.rc L W2 (rA W2 h2) (by intro h; cases h) hi.nlen hx).mono fun e W3 ⟨h, h'⟩ => encOut_none h h'
    · exact (renc_none { o.nd with ao := a1, n := o.nd.n, c := c1 } W2 hx).mono fun e W3 ⟨h, h'⟩ => encOut_none h h'

set_option maxHeartbeats 800000 in
theorem encodes_walk (ao : Option Addr) (n c : Nat) (os : List OpV) (w : World) (h : Ops w ao n os) (mx : n ≤ 4611686018427387904) (hin : ∀ o ∈ os, OpIn w o) :
    Calls Tryd.prog 3 #[.slice ao n c] w fun e w' => e = .returned (.bool true) ∧ Below w.heap.size w w' := by
  have hU := Box.mk (upTo_any 1 1 ao n c os w h mx fun o ho h1 h2 W hb => encodes_each (hin o ho) (by omega) W hb)
  clear h hin
  go_enter Tryd.func3, Tryd.ntmps3
  go_wp2_with (go_at_call 10; refine (calls_box hU.out).mono ?_)
  rintro e w1 ⟨⟨rfl, hB⟩⟩
  go_wp2
  go_ret
  exact ⟨rfl, hB⟩
end Go.Proofs.YteiepenanffhcaaDoor
