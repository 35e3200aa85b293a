/- A call that is handed no list, played in turns: plays. -/
import Derived.Test.YteiepenanffhcaaDoorNear
namespace Go.Proofs.YteiepenanffhcaaDoor
open Go Go.RowKit
set_option linter.unusedVariables false

set_option maxRecDepth 100000 in
set_option maxHeartbeats 4000000 in
theorem plays_num4 (o : OpV) (hk : o.kind = 4) (w : World)
    (hP0 : ∀ o' : OpV, o'.kind = 4 → ∀ W, Below w.heap.size w W → Calls Tryd.prog 15 #[.agg (opC o').toArray] W fun e W' => e = .returned (.bool true) ∧ Below W.heap.size W W') :
    Calls Tryd.prog 11 #[.agg (opC o).toArray] w fun e w' => e = .returned (.bool true) ∧ Below w.heap.size w w' := by
  obtain ⟨fs, UO⟩ := opUnder
  have hi1 := opSize o
  have hP := Box.mk hP0
  have hN := Box.mk (fun (i : Int) (W : World) => nearly_any o i W)
  have F0 : Box ((w.alloc (.cells (opC o).toArray 32)).heap[w.heap.size]? = some (.cells (opC o).toArray 32 (0, 0))) := ⟨heap_new rfl⟩
  have ck : Box (∀ W : World, W.heap[w.heap.size]? = some (.cells (opC o).toArray 32 (0, 0)) → W.cell? ⟨w.heap.size, 0, none⟩ = some (.int .i64 4)) := ⟨fun W hW => by rw [cell_of_row _ _ 0 _ _ _ hW, ← hk]; rfl⟩
  have B0 := Box.mk (Below.refl_alloc w (.cells (opC o).toArray 32))
  have hPo := Box.mk (hP0 o hk)
  have HK := Box.mk hk
  clear hP0 hk
  generalize (opC o).toArray = cs at *
  have c0 := ck.out _ F0.out
  go_enter Tryd.func11, Tryd.ntmps11
  go_upto_region 1 with fail
  generalize w.alloc (.cells cs 32) = w1 at *
  have hl0 := Box.mk (heap_lt F0.out)
  go_wp2
  go_loopw [7, 8] (fun i m wr => ∃ k : Nat, k ≤ 4 ∧ i = .int .i64 k ∧ Below w1.heap.size w1 wr) (fun i m _ => 4 - (intOf i).toNat)
  case atStart => exact ⟨0, Nat.zero_le _, rfl, Below.refl _ w1⟩
  case round =>
    obtain ⟨k, hk4, rfl, hB0⟩ := hrel
    have HB := Box.mk hB0
    have FR := Box.mk ((hB0.block _ hl0.out).trans F0.out)
    have BR := Box.mk (B0.out.trans (hB0.mono B0.out.size))
    have c1 := ck.out _ FR.out
    clear hB0 c0
    by_cases hlt : k < 4
    · obtain rfl | rfl | rfl | rfl : k = 0 ∨ k = 1 ∨ k = 2 ∨ k = 3 := by omega
      · skip
        go_wp2_with (first
          | ((with_reducible refine arm_row 32 (.tmp 1) ?_ ?_ w.heap.size ?_ 32 cs (0, 0) _ FR.out UO rfl hi1.out ?_); rfl; rfl; rfl)
          | (go_at_call 16; refine (calls_box (hN.out _ _)).mono ?_))
        rintro e w2 ⟨⟨⟨o', hk', rfl⟩, hB⟩⟩
        have B2 := Box.mk (HB.out.trans (hB.mono HB.out.size))
        have BR2 := Box.mk (BR.out.trans (hB.mono BR.out.size))
        have hC := Box.mk (hP.out o' (hk'.trans HK.out) w2 BR2.out)
        clear hB hk'
        generalize (opC o').toArray = cs' at *
        go_wp2_with (go_at_call 15; refine (calls_box hC.out).mono ?_)
        rintro e w3 ⟨⟨rfl, hB⟩⟩
        have B3 := Box.mk (B2.out.trans (hB.mono B2.out.size))
        clear hB
        go_wp2
        go_roundw
        case rel => exact ⟨1, by omega, rfl, B3.out⟩
        case measure => simp [intOf]
      · skip
        go_wp2
        go_roundw
        case rel => exact ⟨2, by omega, rfl, HB.out⟩
        case measure => simp [intOf]
      · skip
        go_wp2_with (first
          | ((with_reducible refine arm_row 32 (.tmp 1) ?_ ?_ w.heap.size ?_ 32 cs (0, 0) _ FR.out UO rfl hi1.out ?_); rfl; rfl; rfl)
          | (go_at_call 16; refine (calls_box (hN.out _ _)).mono ?_))
        rintro e w2 ⟨⟨⟨o', hk', rfl⟩, hB⟩⟩
        have B2 := Box.mk (HB.out.trans (hB.mono HB.out.size))
        have BR2 := Box.mk (BR.out.trans (hB.mono BR.out.size))
        have hC := Box.mk (hP.out o' (hk'.trans HK.out) w2 BR2.out)
        clear hB hk'
        generalize (opC o').toArray = cs' at *
        go_wp2_with (go_at_call 15; refine (calls_box hC.out).mono ?_)
        rintro e w3 ⟨⟨rfl, hB⟩⟩
        have B3 := Box.mk (B2.out.trans (hB.mono B2.out.size))
        clear hB
        go_wp2
        go_roundw
        case rel => exact ⟨3, by omega, rfl, B3.out⟩
        case measure => simp [intOf]
      · skip
        go_wp2_with (first
          | ((with_reducible refine arm_row 32 (.tmp 1) ?_ ?_ w.heap.size ?_ 32 cs (0, 0) _ FR.out UO rfl hi1.out ?_); rfl; rfl; rfl)
          | (go_at_call 16; refine (calls_box (hN.out _ _)).mono ?_))
        rintro e w2 ⟨⟨⟨o', hk', rfl⟩, hB⟩⟩
        have B2 := Box.mk (HB.out.trans (hB.mono HB.out.size))
        have BR2 := Box.mk (BR.out.trans (hB.mono BR.out.size))
        have hC := Box.mk (hP.out o' (hk'.trans HK.out) w2 BR2.out)
        clear hB hk'
        generalize (opC o').toArray = cs' at *
        go_wp2_with (go_at_call 15; refine (calls_box hC.out).mono ?_)
        rintro e w3 ⟨⟨rfl, hB⟩⟩
        have B3 := Box.mk (B2.out.trans (hB.mono B2.out.size))
        clear hB
        go_wp2
        go_roundw
        case rel => exact ⟨4, by omega, rfl, B3.out⟩
        case measure => simp [intOf]
    · obtain rfl : k = 4 := by omega
      have hC := Box.mk (hPo.out wr BR.out)
      go_wp2_with (first
        | ((with_reducible refine arm_row 32 (.tmp 1) ?_ ?_ w.heap.size ?_ 32 cs (0, 0) _ FR.out UO rfl hi1.out ?_); rfl; rfl; rfl)
        | (go_at_call 15; refine (calls_box hC.out).mono ?_))
      rintro e w3 ⟨⟨rfl, hB⟩⟩
      have B3 := Box.mk (BR.out.trans (hB.mono BR.out.size))
      clear hB
      go_wp2
      go_ret
      exact ⟨rfl, B3.out⟩

set_option maxRecDepth 100000 in
set_option maxHeartbeats 4000000 in
theorem plays_num6 (o : OpV) (hk : o.kind = 6) (w : World)
    (hP0 : ∀ o' : OpV, o'.kind = 6 → ∀ W, Below w.heap.size w W → Calls Tryd.prog 15 #[.agg (opC o').toArray] W fun e W' => e = .returned (.bool true) ∧ Below W.heap.size W W') :
    Calls Tryd.prog 11 #[.agg (opC o).toArray] w fun e w' => e = .returned (.bool true) ∧ Below w.heap.size w w' := by
  obtain ⟨fs, UO⟩ := opUnder
  have hi1 := opSize o
  have hP := Box.mk hP0
  have hN := Box.mk (fun (i : Int) (W : World) => nearly_any o i W)
  have F0 : Box ((w.alloc (.cells (opC o).toArray 32)).heap[w.heap.size]? = some (.cells (opC o).toArray 32 (0, 0))) := ⟨heap_new rfl⟩
  have ck : Box (∀ W : World, W.heap[w.heap.size]? = some (.cells (opC o).toArray 32 (0, 0)) → W.cell? ⟨w.heap.size, 0, none⟩ = some (.int .i64 6)) := ⟨fun W hW => by rw [cell_of_row _ _ 0 _ _ _ hW, ← hk]; rfl⟩
  have B0 := Box.mk (Below.refl_alloc w (.cells (opC o).toArray 32))
  have hPo := Box.mk (hP0 o hk)
  have HK := Box.mk hk
  clear hP0 hk
  generalize (opC o).toArray = cs at *
  have c0 := ck.out _ F0.out
  go_enter Tryd.func11, Tryd.ntmps11
  go_upto_region 1 with fail
  generalize w.alloc (.cells cs 32) = w1 at *
  have hl0 := Box.mk (heap_lt F0.out)
  go_wp2
  go_loopw [7, 8] (fun i m wr => ∃ k : Nat, k ≤ 4 ∧ i = .int .i64 k ∧ Below w1.heap.size w1 wr) (fun i m _ => 4 - (intOf i).toNat)
  case atStart => exact ⟨0, Nat.zero_le _, rfl, Below.refl _ w1⟩
  case round =>
    obtain ⟨k, hk4, rfl, hB0⟩ := hrel
    have HB := Box.mk hB0
    have FR := Box.mk ((hB0.block _ hl0.out).trans F0.out)
    have BR := Box.mk (B0.out.trans (hB0.mono B0.out.size))
    have c1 := ck.out _ FR.out
    clear hB0 c0
    by_cases hlt : k < 4
    · obtain rfl | rfl | rfl | rfl : k = 0 ∨ k = 1 ∨ k = 2 ∨ k = 3 := by omega
      · skip
        go_wp2_with (first
          | ((with_reducible refine arm_row 32 (.tmp 1) ?_ ?_ w.heap.size ?_ 32 cs (0, 0) _ FR.out UO rfl hi1.out ?_); rfl; rfl; rfl)
          | (go_at_call 16; refine (calls_box (hN.out _ _)).mono ?_))
        rintro e w2 ⟨⟨⟨o', hk', rfl⟩, hB⟩⟩
        have B2 := Box.mk (HB.out.trans (hB.mono HB.out.size))
        have BR2 := Box.mk (BR.out.trans (hB.mono BR.out.size))
        have hC := Box.mk (hP.out o' (hk'.trans HK.out) w2 BR2.out)
        clear hB hk'
        generalize (opC o').toArray = cs' at *
        go_wp2_with (go_at_call 15; refine (calls_box hC.out).mono ?_)
        rintro e w3 ⟨⟨rfl, hB⟩⟩
        have B3 := Box.mk (B2.out.trans (hB.mono B2.out.size))
        clear hB
        go_wp2
        go_roundw
        case rel => exact ⟨1, by omega, rfl, B3.out⟩
        case measure => simp [intOf]
      · skip
        go_wp2
        go_roundw
        case rel => exact ⟨2, by omega, rfl, HB.out⟩
        case measure => simp [intOf]
      · skip
        go_wp2_with (first
          | ((with_reducible refine arm_row 32 (.tmp 1) ?_ ?_ w.heap.size ?_ 32 cs (0, 0) _ FR.out UO rfl hi1.out ?_); rfl; rfl; rfl)
          | (go_at_call 16; refine (calls_box (hN.out _ _)).mono ?_))
        rintro e w2 ⟨⟨⟨o', hk', rfl⟩, hB⟩⟩
        have B2 := Box.mk (HB.out.trans (hB.mono HB.out.size))
        have BR2 := Box.mk (BR.out.trans (hB.mono BR.out.size))
        have hC := Box.mk (hP.out o' (hk'.trans HK.out) w2 BR2.out)
        clear hB hk'
        generalize (opC o').toArray = cs' at *
        go_wp2_with (go_at_call 15; refine (calls_box hC.out).mono ?_)
        rintro e w3 ⟨⟨rfl, hB⟩⟩
        have B3 := Box.mk (B2.out.trans (hB.mono B2.out.size))
        clear hB
        go_wp2
        go_roundw
        case rel => exact ⟨3, by omega, rfl, B3.out⟩
        case measure => simp [intOf]
      · skip
        go_wp2_with (first
          | ((with_reducible refine arm_row 32 (.tmp 1) ?_ ?_ w.heap.size ?_ 32 cs (0, 0) _ FR.out UO rfl hi1.out ?_); rfl; rfl; rfl)
          | (go_at_call 16; refine (calls_box (hN.out _ _)).mono ?_))
        rintro e w2 ⟨⟨⟨o', hk', rfl⟩, hB⟩⟩
        have B2 := Box.mk (HB.out.trans (hB.mono HB.out.size))
        have BR2 := Box.mk (BR.out.trans (hB.mono BR.out.size))
        have hC := Box.mk (hP.out o' (hk'.trans HK.out) w2 BR2.out)
        clear hB hk'
        generalize (opC o').toArray = cs' at *
        go_wp2_with (go_at_call 15; refine (calls_box hC.out).mono ?_)
        rintro e w3 ⟨⟨rfl, hB⟩⟩
        have B3 := Box.mk (B2.out.trans (hB.mono B2.out.size))
        clear hB
        go_wp2
        go_roundw
        case rel => exact ⟨4, by omega, rfl, B3.out⟩
        case measure => simp [intOf]
    · obtain rfl : k = 4 := by omega
      have hC := Box.mk (hPo.out wr BR.out)
      go_wp2_with (first
        | ((with_reducible refine arm_row 32 (.tmp 1) ?_ ?_ w.heap.size ?_ 32 cs (0, 0) _ FR.out UO rfl hi1.out ?_); rfl; rfl; rfl)
        | (go_at_call 15; refine (calls_box hC.out).mono ?_))
      rintro e w3 ⟨⟨rfl, hB⟩⟩
      have B3 := Box.mk (BR.out.trans (hB.mono BR.out.size))
      clear hB
      go_wp2
      go_ret
      exact ⟨rfl, B3.out⟩

set_option maxRecDepth 100000 in
set_option maxHeartbeats 4000000 in
theorem plays_num7 (o : OpV) (hk : o.kind = 7) (w : World)
    (hP0 : ∀ o' : OpV, o'.kind = 7 → ∀ W, Below w.heap.size w W → Calls Tryd.prog 15 #[.agg (opC o').toArray] W fun e W' => e = .returned (.bool true) ∧ Below W.heap.size W W') :
    Calls Tryd.prog 11 #[.agg (opC o).toArray] w fun e w' => e = .returned (.bool true) ∧ Below w.heap.size w w' := by
  obtain ⟨fs, UO⟩ := opUnder
  have hi1 := opSize o
  have hP := Box.mk hP0
  have hN := Box.mk (fun (i : Int) (W : World) => nearly_any o i W)
  have F0 : Box ((w.alloc (.cells (opC o).toArray 32)).heap[w.heap.size]? = some (.cells (opC o).toArray 32 (0, 0))) := ⟨heap_new rfl⟩
  have ck : Box (∀ W : World, W.heap[w.heap.size]? = some (.cells (opC o).toArray 32 (0, 0)) → W.cell? ⟨w.heap.size, 0, none⟩ = some (.int .i64 7)) := ⟨fun W hW => by rw [cell_of_row _ _ 0 _ _ _ hW, ← hk]; rfl⟩
  have B0 := Box.mk (Below.refl_alloc w (.cells (opC o).toArray 32))
  have hPo := Box.mk (hP0 o hk)
  have HK := Box.mk hk
  clear hP0 hk
  generalize (opC o).toArray = cs at *
  have c0 := ck.out _ F0.out
  go_enter Tryd.func11, Tryd.ntmps11
  go_upto_region 1 with fail
  generalize w.alloc (.cells cs 32) = w1 at *
  have hl0 := Box.mk (heap_lt F0.out)
  go_wp2
  go_loopw [7, 8] (fun i m wr => ∃ k : Nat, k ≤ 4 ∧ i = .int .i64 k ∧ Below w1.heap.size w1 wr) (fun i m _ => 4 - (intOf i).toNat)
  case atStart => exact ⟨0, Nat.zero_le _, rfl, Below.refl _ w1⟩
  case round =>
    obtain ⟨k, hk4, rfl, hB0⟩ := hrel
    have HB := Box.mk hB0
    have FR := Box.mk ((hB0.block _ hl0.out).trans F0.out)
    have BR := Box.mk (B0.out.trans (hB0.mono B0.out.size))
    have c1 := ck.out _ FR.out
    clear hB0 c0
    by_cases hlt : k < 4
    · obtain rfl | rfl | rfl | rfl : k = 0 ∨ k = 1 ∨ k = 2 ∨ k = 3 := by omega
      · skip
        go_wp2_with (first
          | ((with_reducible refine arm_row 32 (.tmp 1) ?_ ?_ w.heap.size ?_ 32 cs (0, 0) _ FR.out UO rfl hi1.out ?_); rfl; rfl; rfl)
          | (go_at_call 16; refine (calls_box (hN.out _ _)).mono ?_))
        rintro e w2 ⟨⟨⟨o', hk', rfl⟩, hB⟩⟩
        have B2 := Box.mk (HB.out.trans (hB.mono HB.out.size))
        have BR2 := Box.mk (BR.out.trans (hB.mono BR.out.size))
        have hC := Box.mk (hP.out o' (hk'.trans HK.out) w2 BR2.out)
        clear hB hk'
        generalize (opC o').toArray = cs' at *
        go_wp2_with (go_at_call 15; refine (calls_box hC.out).mono ?_)
        rintro e w3 ⟨⟨rfl, hB⟩⟩
        have B3 := Box.mk (B2.out.trans (hB.mono B2.out.size))
        clear hB
        go_wp2
        go_roundw
        case rel => exact ⟨1, by omega, rfl, B3.out⟩
        case measure => simp [intOf]
      · skip
        go_wp2
        go_roundw
        case rel => exact ⟨2, by omega, rfl, HB.out⟩
        case measure => simp [intOf]
      · skip
        go_wp2
        go_roundw
        case rel => exact ⟨3, by omega, rfl, HB.out⟩
        case measure => simp [intOf]
      · skip
        go_wp2
        go_roundw
        case rel => exact ⟨4, by omega, rfl, HB.out⟩
        case measure => simp [intOf]
    · obtain rfl : k = 4 := by omega
      go_wp2
      go_ret
      exact ⟨rfl, BR.out⟩

set_option maxRecDepth 100000 in
set_option maxHeartbeats 4000000 in
theorem plays_num8 (o : OpV) (hk : o.kind = 8) (w : World)
    (hP0 : ∀ o' : OpV, o'.kind = 8 → ∀ W, Below w.heap.size w W → Calls Tryd.prog 15 #[.agg (opC o').toArray] W fun e W' => e = .returned (.bool true) ∧ Below W.heap.size W W') :
    Calls Tryd.prog 11 #[.agg (opC o).toArray] w fun e w' => e = .returned (.bool true) ∧ Below w.heap.size w w' := by
  obtain ⟨fs, UO⟩ := opUnder
  have hi1 := opSize o
  have hP := Box.mk hP0
  have hN := Box.mk (fun (i : Int) (W : World) => nearly_any o i W)
  have F0 : Box ((w.alloc (.cells (opC o).toArray 32)).heap[w.heap.size]? = some (.cells (opC o).toArray 32 (0, 0))) := ⟨heap_new rfl⟩
  have ck : Box (∀ W : World, W.heap[w.heap.size]? = some (.cells (opC o).toArray 32 (0, 0)) → W.cell? ⟨w.heap.size, 0, none⟩ = some (.int .i64 8)) := ⟨fun W hW => by rw [cell_of_row _ _ 0 _ _ _ hW, ← hk]; rfl⟩
  have B0 := Box.mk (Below.refl_alloc w (.cells (opC o).toArray 32))
  have hPo := Box.mk (hP0 o hk)
  have HK := Box.mk hk
  clear hP0 hk
  generalize (opC o).toArray = cs at *
  have c0 := ck.out _ F0.out
  go_enter Tryd.func11, Tryd.ntmps11
  go_upto_region 1 with fail
  generalize w.alloc (.cells cs 32) = w1 at *
  have hl0 := Box.mk (heap_lt F0.out)
  go_wp2
  go_loopw [7, 8] (fun i m wr => ∃ k : Nat, k ≤ 4 ∧ i = .int .i64 k ∧ Below w1.heap.size w1 wr) (fun i m _ => 4 - (intOf i).toNat)
  case atStart => exact ⟨0, Nat.zero_le _, rfl, Below.refl _ w1⟩
  case round =>
    obtain ⟨k, hk4, rfl, hB0⟩ := hrel
    have HB := Box.mk hB0
    have FR := Box.mk ((hB0.block _ hl0.out).trans F0.out)
    have BR := Box.mk (B0.out.trans (hB0.mono B0.out.size))
    have c1 := ck.out _ FR.out
    clear hB0 c0
    by_cases hlt : k < 4
    · obtain rfl | rfl | rfl | rfl : k = 0 ∨ k = 1 ∨ k = 2 ∨ k = 3 := by omega
      · skip
        go_wp2_with (first
          | ((with_reducible refine arm_row 32 (.tmp 1) ?_ ?_ w.heap.size ?_ 32 cs (0, 0) _ FR.out UO rfl hi1.out ?_); rfl; rfl; rfl)
          | (go_at_call 16; refine (calls_box (hN.out _ _)).mono ?_))
        rintro e w2 ⟨⟨⟨o', hk', rfl⟩, hB⟩⟩
        have B2 := Box.mk (HB.out.trans (hB.mono HB.out.size))
        have BR2 := Box.mk (BR.out.trans (hB.mono BR.out.size))
        have hC := Box.mk (hP.out o' (hk'.trans HK.out) w2 BR2.out)
        clear hB hk'
        generalize (opC o').toArray = cs' at *
        go_wp2_with (go_at_call 15; refine (calls_box hC.out).mono ?_)
        rintro e w3 ⟨⟨rfl, hB⟩⟩
        have B3 := Box.mk (B2.out.trans (hB.mono B2.out.size))
        clear hB
        go_wp2
        go_roundw
        case rel => exact ⟨1, by omega, rfl, B3.out⟩
        case measure => simp [intOf]
      · skip
        go_wp2_with (first
          | ((with_reducible refine arm_row 32 (.tmp 1) ?_ ?_ w.heap.size ?_ 32 cs (0, 0) _ FR.out UO rfl hi1.out ?_); rfl; rfl; rfl)
          | (go_at_call 16; refine (calls_box (hN.out _ _)).mono ?_))
        rintro e w2 ⟨⟨⟨o', hk', rfl⟩, hB⟩⟩
        have B2 := Box.mk (HB.out.trans (hB.mono HB.out.size))
        have BR2 := Box.mk (BR.out.trans (hB.mono BR.out.size))
        have hC := Box.mk (hP.out o' (hk'.trans HK.out) w2 BR2.out)
        clear hB hk'
        generalize (opC o').toArray = cs' at *
        go_wp2_with (go_at_call 15; refine (calls_box hC.out).mono ?_)
        rintro e w3 ⟨⟨rfl, hB⟩⟩
        have B3 := Box.mk (B2.out.trans (hB.mono B2.out.size))
        clear hB
        go_wp2
        go_roundw
        case rel => exact ⟨2, by omega, rfl, B3.out⟩
        case measure => simp [intOf]
      · skip
        go_wp2_with (first
          | ((with_reducible refine arm_row 32 (.tmp 1) ?_ ?_ w.heap.size ?_ 32 cs (0, 0) _ FR.out UO rfl hi1.out ?_); rfl; rfl; rfl)
          | (go_at_call 16; refine (calls_box (hN.out _ _)).mono ?_))
        rintro e w2 ⟨⟨⟨o', hk', rfl⟩, hB⟩⟩
        have B2 := Box.mk (HB.out.trans (hB.mono HB.out.size))
        have BR2 := Box.mk (BR.out.trans (hB.mono BR.out.size))
        have hC := Box.mk (hP.out o' (hk'.trans HK.out) w2 BR2.out)
        clear hB hk'
        generalize (opC o').toArray = cs' at *
        go_wp2_with (go_at_call 15; refine (calls_box hC.out).mono ?_)
        rintro e w3 ⟨⟨rfl, hB⟩⟩
        have B3 := Box.mk (B2.out.trans (hB.mono B2.out.size))
        clear hB
        go_wp2
        go_roundw
        case rel => exact ⟨3, by omega, rfl, B3.out⟩
        case measure => simp [intOf]
      · skip
        go_wp2
        go_roundw
        case rel => exact ⟨4, by omega, rfl, HB.out⟩
        case measure => simp [intOf]
    · obtain rfl : k = 4 := by omega
      have hC := Box.mk (hPo.out wr BR.out)
      go_wp2_with (first
        | ((with_reducible refine arm_row 32 (.tmp 1) ?_ ?_ w.heap.size ?_ 32 cs (0, 0) _ FR.out UO rfl hi1.out ?_); rfl; rfl; rfl)
        | (go_at_call 15; refine (calls_box hC.out).mono ?_))
      rintro e w3 ⟨⟨rfl, hB⟩⟩
      have B3 := Box.mk (BR.out.trans (hB.mono BR.out.size))
      clear hB
      go_wp2
      go_ret
      exact ⟨rfl, B3.out⟩
end Go.Proofs.YteiepenanffhcaaDoor
