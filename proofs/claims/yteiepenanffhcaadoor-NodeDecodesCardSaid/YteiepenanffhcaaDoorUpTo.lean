/- The walk of upTo: every call of the script that is of a kind in the range is played. -/
import Derived.Test.YteiepenanffhcaaDoorOp
namespace Go.Proofs.YteiepenanffhcaaDoor
open Go Go.RowKit
set_option linter.unusedVariables false

set_option maxRecDepth 100000 in
set_option maxHeartbeats 2000000 in
theorem upTo_any (lo hi : Int) (ao : Option Addr) (n c : Nat) (os : List OpV) (w : World) (h0 : Ops w ao n os) (mx : n ≤ 4611686018427387904)
    (hP0 : ∀ o ∈ os, lo ≤ o.kind → o.kind ≤ hi → ∀ W, Below w.heap.size w W → Calls Tryd.prog 11 #[.agg (opC o).toArray] W fun e W' => e = .returned (.bool true) ∧ Below W.heap.size W W') :
    Calls Tryd.prog 10 #[.slice ao n c, .int .i64 lo, .int .i64 hi] w fun e w' => e = .returned (.bool true) ∧ Below w.heap.size w w' := by
  have h := Box.mk h0
  have hl := Box.mk h0.1
  have hP := Box.mk hP0
  have hz := fun W : World => (show (zeroValue 32).run Tryd.prog W = .ok (.agg (opC zeroOp).toArray) W by kernel_rfl)
  have hsz := opSize
  have hsz2 := opSize2
  have hal := Box.mk opC_all
  have hlen := Box.mk length_opC
  obtain ⟨fs, UO⟩ := opUnder
  clear h0 hP0
  generalize hzo : (opC zeroOp).toArray = zo at *
  have HZO := Box.mk hzo
  clear hzo
  go_enter Tryd.func10, Tryd.ntmps10
  go_wp2
  go_loopw [7, 8, 9] (fun i p q wr => ∃ k : Nat, k ≤ n ∧ i = .int .i64 k ∧ Below w.heap.size w wr) (fun i p q _ => n - (intOf i).toNat)
  case atStart => exact ⟨0, Nat.zero_le _, rfl, Below.refl _ w⟩
  case round =>
    obtain ⟨k, hk, rfl, hB0⟩ := hrel
    have HB := Box.mk hB0
    clear hB0
    by_cases hlt : k < n
    · obtain ⟨b, o, rfl⟩ := h.out.at0 (by omega)
      have hkl : k < os.length := by rw [hl.out]; exact hlt
      have hr := Box.mk (rangeAt_below (h.out.range k hkl) HB.out (rangeAt_lt (h.out.range k hkl) (by rw [hlen.out]; omega)))
      have hPk := Box.mk (hP.out os[k] (List.getElem_mem hkl))
      generalize os[k] = x at *
      clear hkl
      have c0 : Box (∀ W : World, ∀ g, W.heap[g]? = some (.cells (opC x).toArray 32 (0, 0)) → W.cell? ⟨g, 0, none⟩ = some (.int .i64 x.kind)) := ⟨fun W g hW => by rw [cell_of_row _ _ 0 _ _ _ hW]; rfl⟩
      have hi1 := hsz x
      have hss := hsz2 zeroOp x
      rw [HZO.out] at hss
      have ha := Box.mk (hal.out x)
      have hlx := Box.mk (show (Tryd.prog.info? 32).map (·.size) = some (opC x).length by have := hi1.out; rwa [List.size_toArray] at this)
      generalize hcl : opC x = cl at *
      clear hcl
      have F4 : Box ((wr.alloc (.cells zo 32)).heap[wr.heap.size]? = some (.cells zo 32 (0, 0))) := ⟨heap_new rfl⟩
      go_wp2_with (first
        | ((with_reducible refine arm_mid 32 (.tmp 18) ?_ ?_ b (o + k * 203) ?_ cl _ hr.out UO rfl hlx.out ?_); rfl; rfl; rfl)
        | ((with_reducible refine arm_store_row 32 (.tmp 8) (.tmp 19) ?_ rfl wr.heap.size zo cl.toArray 32 ?_ ?_ F4.out hss.out hi1.out ha.out ?_); rfl; rfl; rfl))
      intro w2 g2 G2
      have b2 : Box (Below w.heap.size w w2) := ⟨HB.out.trans (((Below.refl_alloc wr (.cells zo 32)).grown G2 (by simp) (fun k hk => by cases hk; exact Nat.le_refl _)).mono HB.out.size)⟩
      have f2 := Box.mk (show w2.heap[wr.heap.size]? = some (.cells cl.toArray 32 (0, 0)) from g2.out)
      have k2 := c0.out w2 wr.heap.size f2.out
      clear g2 G2 F4 c0 hr hss ha hlx
      rcases Int.lt_or_le x.kind lo with q1 | q1
      · go_wp2
        go_roundw
        case rel => exact ⟨k + 1, by omega, by go_num, b2.out⟩
        case measure => simp [intOf]; omega
      · rcases Int.lt_or_le hi x.kind with q2 | q2
        · go_wp2
          go_roundw
          case rel => exact ⟨k + 1, by omega, by go_num, b2.out⟩
          case measure => simp [intOf]; omega
        · have hC := Box.mk (hPk.out q1 q2 w2 b2.out)
          go_wp2_with (first
            | ((with_reducible refine arm_row 32 (.tmp 8) ?_ ?_ wr.heap.size ?_ 32 cl.toArray (0, 0) _ f2.out UO rfl hi1.out ?_); rfl; rfl; rfl)
            | (go_at_call 11; refine (calls_box hC.out).mono ?_))
          rintro e w3 ⟨⟨rfl, hB⟩⟩
          have b3 := Box.mk (b2.out.trans (hB.mono b2.out.size))
          clear hB
          go_wp2
          go_roundw
          case rel => exact ⟨k + 1, by omega, by go_num, b3.out⟩
          case measure => simp [intOf]; omega
    · go_wp2
      go_ret
      exact ⟨rfl, HB.out⟩
end Go.Proofs.YteiepenanffhcaaDoor
