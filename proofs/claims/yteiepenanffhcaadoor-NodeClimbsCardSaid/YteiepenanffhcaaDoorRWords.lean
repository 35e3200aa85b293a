/- A block's words: the walk of ledgerref1.words. -/
import Derived.Test.YteiepenanffhcaaDoorRTurn
import Derived.Test.YteiepenanffhcaaDoorShaSpec
import Derived.Test.YteiepenanffhcaaDoorArm2
namespace Go.Proofs.YteiepenanffhcaaDoor
open Go Go.RowKit
set_option linter.unusedVariables false

theorem getD_mid (l : List UInt8) (a i : Nat) (hi : i < 64) : ((l.drop a).take 64).getD i 0 = l.getD (a + i) 0 := by
  simp only [List.getD_eq_getElem?_getD, List.getElem?_take, List.getElem?_drop, if_pos hi]

theorem uvs_all (l : List UInt32) : (uvs l).toArray.all (·.oneCell') = true := by
  rw [Array.all_eq_true_iff_forall_mem]
  intro v hv
  exact uvs_oneCell l v (by simpa using hv)

set_option maxRecDepth 100000 in
set_option maxHeartbeats 4000000 in
theorem words_any (b o n c at' : Nat) (l : List UInt8) (w : World) (hp : Row w (some ⟨b, o, none⟩) n l) (hat : at' + 64 ≤ n) (hmax : n ≤ 140737488355328) :
    Calls Tryd.prog 61 #[.slice (some ⟨b, o, none⟩) n c, .int .i64 at'] w fun e w' => e = .returned (.agg (uvs (fill2 (fill1 ((l.drop at').take 64) 16) 48)).toArray) ∧ Below w.heap.size w w' := by
  obtain ⟨L, hL⟩ : ∃ L, (l.drop at').take 64 = L := ⟨_, rfl⟩
  have HL : Box (∀ i, i < 64 → l.getD (at' + i) 0 = L.getD i 0) := ⟨fun i hi => by rw [← hL, getD_mid l at' i hi]⟩
  rw [hL]
  have hlen := Box.mk hp.1
  clear hL
  have hi41 : Box ((Tryd.prog.info? 82).map (·.size) = some 1) := ⟨by kernel_rfl⟩
  have hi93 : Box ((Tryd.prog.info? 93).map (·.size) = some 64) := ⟨by kernel_rfl⟩
  go_enter Tryd.func61, Tryd.ntmps61
  go_wp2_with fail
  refine wp_anyWorld (fun W => Hid (W.heap[w.heap.size]? = some (.cells (uvs (List.replicate 64 0)).toArray 93 (0, 0))) ∧ Hid (W.heap[w.heap.size + 1]? = some (.cells (uvs (List.replicate 64 0)).toArray 93 (0, 0))) ∧ Below w.heap.size w W ∧ w.heap.size + 1 < W.heap.size)
    ⟨heap_old (heap_new rfl), heap_new (by simp), (Below.refl_alloc w _).alloc (by simp) _, by simp⟩ ?_
  rintro W ⟨z0, g0, B0, s0⟩
  have hsz : (w.alloc (.cells (uvs (List.replicate 64 0)).toArray 93)).heap.size = w.heap.size + 1 := by simp
  go_loopw [6, 7] (fun i t7 wr => ∃ k : Nat, k ≤ 16 ∧ i = .int .i64 k ∧ Hid (wr.heap[w.heap.size]? = some (.cells (uvs (List.replicate 64 0)).toArray 93 (0, 0))) ∧ Hid (wr.heap[w.heap.size + 1]? = some (.cells (uvs (fill1 L k)).toArray 93 (0, 0))) ∧ Below w.heap.size w wr ∧ w.heap.size + 1 < wr.heap.size) (fun i _ _ => 16 - (intOf i).toNat)
  case atStart => exact ⟨0, by omega, rfl, z0, g0, B0, s0⟩
  case round =>
    obtain ⟨k, hk16, rfl, zr, gr, Br, sr⟩ := hrel
    by_cases hlt : k < 16
    · have r0 := (hp.old Br).byte (at' + 4 * k) (by rw [hlen.out]; omega)
      have r1 := (hp.old Br).byte (at' + (4 * k + 1)) (by rw [hlen.out]; omega)
      have r2 := (hp.old Br).byte (at' + (4 * k + 2)) (by rw [hlen.out]; omega)
      have r3 := (hp.old Br).byte (at' + (4 * k + 3)) (by rw [hlen.out]; omega)
      rw [HL.out _ (by omega)] at r0 r1 r2 r3
      have hlen2 := length_fill1 L k
      have c0 := uvs_cell gr.out (i := k) (by omega)
      have z0 := uvs_frozen (i := k) gr.out
      clear hlen2
      have k0 : (0 : Int) ≤ (k : Int) := by omega
      have k1 : (k : Int) < 64 := by omega
      have k2 : k < 64 := by omega
      have n0 : (0 : Int) ≤ (at' : Int) + 4 * (k : Int) := by omega
      have n1 : (0 : Int) ≤ (at' : Int) + 4 * (k : Int) + 1 := by omega
      have n2 : (0 : Int) ≤ (at' : Int) + 4 * (k : Int) + 2 := by omega
      have n3 : (0 : Int) ≤ (at' : Int) + 4 * (k : Int) + 3 := by omega
      have m0 : (at' : Int) + 4 * (k : Int) < (n : Int) := by omega
      have m1 : (at' : Int) + 4 * (k : Int) + 1 < (n : Int) := by omega
      have m2 : (at' : Int) + 4 * (k : Int) + 2 < (n : Int) := by omega
      have m3 : (at' : Int) + 4 * (k : Int) + 3 < (n : Int) := by omega
      have t0 : ((at' : Int) + 4 * (k : Int)).toNat = at' + 4 * k := by omega
      have t1 : ((at' : Int) + 4 * (k : Int) + 1).toNat = at' + (4 * k + 1) := by omega
      have t2 : ((at' : Int) + 4 * (k : Int) + 2).toNat = at' + (4 * k + 2) := by omega
      have t3 : ((at' : Int) + 4 * (k : Int) + 3).toNat = at' + (4 * k + 3) := by omega
      have e4 := IntWalk.i64_in (4 * (k : Int)) (by omega)
      have e0 := IntWalk.i64_in ((at' : Int) + 4 * (k : Int)) (by omega)
      have e1 := IntWalk.i64_in ((at' : Int) + 4 * (k : Int) + 1) (by omega)
      have e2 := IntWalk.i64_in ((at' : Int) + 4 * (k : Int) + 2) (by omega)
      have e3 := IntWalk.i64_in ((at' : Int) + 4 * (k : Int) + 3) (by omega)
      go_wp2_with fail
      refine wp_region_tail 31 (by kernel_rfl) (by kernel_rfl) ?_
      simp only [List.take_succ_cons, List.take_zero, List.drop_succ_cons, List.drop_zero]
      repeat still_step
      refine wpStill_nil ?_
      clear n0 n1 n2 n3 m0 m1 m2 m3 t0 t1 t2 t3 e0 e1 e2 e3 r0 r1 r2 r3 e4
      go_wp2_with (refine wpList_store_int rfl 82 (.tmp 49) (.tmp 48) rfl ⟨w.heap.size + 1, k, none⟩ (uv (word L k)) rfl rfl ⟨_, _, rfl⟩ hi41.out ⟨_, c0⟩ z0 ?_)
      go_roundw
      case rel => exact ⟨k + 1, by omega, by go_num, (heap_setCell_other _ _ _ _ (by simp)).trans zr.out, uvs_set _ gr.out, Br.drew.setCell (by simp) _, by simpa using sr⟩
      case measure => simp [intOf]; omega
    · have g16 : Hid (wr.heap[w.heap.size + 1]? = some (.cells (uvs (fill1 L 16)).toArray 93 (0, 0))) := by
        have e : k = 16 := by omega
        rw [← e]; exact gr
      clear gr
      go_wp2_with fail
      obtain ⟨wo, rfl⟩ : ∃ wo : World, wo = wr := ⟨_, rfl⟩
      go_loopw [8, 9, 10] (fun i t9 t10 wr => ∃ t : Nat, 16 ≤ t ∧ t ≤ 64 ∧ i = .int .i64 t ∧ Hid (wr.heap[w.heap.size]? = some (.cells (uvs (List.replicate 64 0)).toArray 93 (0, 0))) ∧ Hid (wr.heap[w.heap.size + 1]? = some (.cells (uvs (fill2 (fill1 L 16) (t - 16))).toArray 93 (0, 0))) ∧ Below w.heap.size w wr ∧ w.heap.size + 1 < wr.heap.size) (fun i _ _ _ => 64 - (intOf i).toNat)
      case atStart => exact ⟨16, by omega, by omega, rfl, zr, g16, Br, sr⟩
      clear g16 zr Br sr
      case round =>
        obtain ⟨t, ht16, ht64, rfl, zr, gr, Br, sr⟩ := hrel
        by_cases hlt : t < 64
        · have hlen : (fill2 (fill1 L 16) (t - 16)).length = 64 := by rw [length_fill2, length_fill1]
          have c2 := uvs_cell gr.out (i := t - 2) (by omega)
          have c15 := uvs_cell gr.out (i := t - 15) (by omega)
          have c7 := uvs_cell gr.out (i := t - 7) (by omega)
          have c16 := uvs_cell gr.out (i := t - 16) (by omega)
          have c0 := uvs_cell gr.out (i := t) (by omega)
          have z0 := uvs_frozen (i := t) gr.out
          have hnext : fill2 (fill1 L 16) (t + 1 - 16) = (fill2 (fill1 L 16) (t - 16)).set t (sched (fill2 (fill1 L 16) (t - 16)) t) := by
            rw [show t + 1 - 16 = (t - 16) + 1 by omega]
            show (fill2 (fill1 L 16) (t - 16)).set (16 + (t - 16)) (sched _ (16 + (t - 16))) = _
            rw [show 16 + (t - 16) = t by omega]
          have HN := Lib.hid hnext
          clear hlen hnext
          have k0 : (0 : Int) ≤ (t : Int) := by omega
          have k1 : (t : Int) < 64 := by omega
          have s7 : (7 : Int) ≤ (t : Int) := by omega
          have s16 : (16 : Int) ≤ (t : Int) := by omega
          have n2 : (0 : Int) ≤ (t : Int) - 2 := by omega
          have m2 : (t : Int) - 2 < 64 := by omega
          have t2 : ((t : Int) - 2).toNat = t - 2 := by omega
          have e2 := IntWalk.i64_in ((t : Int) - 2) (by omega)
          have n15 : (0 : Int) ≤ (t : Int) - 15 := by omega
          have m15 : (t : Int) - 15 < 64 := by omega
          have t15 : ((t : Int) - 15).toNat = t - 15 := by omega
          have e15 := IntWalk.i64_in ((t : Int) - 15) (by omega)
          have n7 : (0 : Int) ≤ (t : Int) - 7 := by omega
          have m7 : (t : Int) - 7 < 64 := by omega
          have t7 : ((t : Int) - 7).toNat = t - 7 := by omega
          have e7 := IntWalk.i64_in ((t : Int) - 7) (by omega)
          have n16 : (0 : Int) ≤ (t : Int) - 16 := by omega
          have m16 : (t : Int) - 16 < 64 := by omega
          have t16 : ((t : Int) - 16).toNat = t - 16 := by omega
          have e16 := IntWalk.i64_in ((t : Int) - 16) (by omega)
          go_wp2_with fail
          refine wp_region_class (fun q => wr.drewN q) (by kernel_rfl) (by kernel_rfl) ⟨1, rfl⟩ ?_
          iterate 4 (go_big_quiet_step (fail))
          go_big_quiet_step (exact Calls.quiet_of_same (turn_17 _ _))
          iterate 4 (go_big_quiet_step (fail))
          go_big_quiet_step (exact Calls.quiet_of_same (turn_19 _ _))
          repeat (go_big_quiet_step (fail))
          refine wpQuiet_nil ?_
          rintro _ ⟨nq, rfl⟩
          go_wp2_with fail
          refine wp_region_class (fun q => (wr.drewN nq).drewN q) (by kernel_rfl) (by kernel_rfl) ⟨1, rfl⟩ ?_
          iterate 4 (go_big_quiet_step (fail))
          go_big_quiet_step (exact (turn_7 _ _).mono fun _ _ h => ⟨h.1, _, h.2⟩)
          iterate 4 (go_big_quiet_step (fail))
          go_big_quiet_step (exact (turn_18 _ _).mono fun _ _ h => ⟨h.1, _, h.2⟩)
          repeat (go_big_quiet_step (fail))
          refine wpQuiet_nil ?_
          rintro _ ⟨nr, rfl⟩
          go_wp2_with fail
          refine wp_region_tail 15 (by kernel_rfl) (by kernel_rfl) ?_
          simp only [List.take_succ_cons, List.take_zero, List.drop_succ_cons, List.drop_zero]
          repeat still_step
          refine wpStill_nil ?_
          clear n2 m2 t2 e2 n15 m15 t15 e15 n7 m7 t7 e7 n16 m16 t16 e16 c2 c15 c7 c16
          go_wp2_with (refine wpList_store_int rfl 82 (.tmp 102) (.tmp 101) rfl ⟨w.heap.size + 1, t, none⟩ (uv (sched (fill2 (fill1 L 16) (t - 16)) t)) rfl rfl ⟨_, _, rfl⟩ hi41.out ⟨_, c0⟩ z0 ?_)
          go_roundw
          case rel => exact ⟨t + 1, by omega, by omega, by go_num, (heap_setCell_other _ _ _ _ (by simp)).trans zr.out, by rw [HN.out]; exact uvs_set _ gr.out, (below_drewN Br _).setCell (by simp) _, by simp [World.setCell]; exact sr⟩
          case measure => simp [intOf]; omega
        · obtain ⟨ws, HW, g48⟩ : ∃ ws : List UInt32, Box (fill2 (fill1 L 16) 48 = ws ∧ ws.length = 64) ∧ Hid (wr.heap[w.heap.size + 1]? = some (.cells (uvs ws).toArray 93 (0, 0))) := by
            have e : t - 16 = 48 := by omega
            rw [e] at gr
            exact ⟨_, ⟨rfl, by rw [length_fill2, length_fill1]⟩, gr⟩
          clear gr
          have hi : Hid ((Tryd.prog.info? 93).map (·.size) = some (uvs ws).toArray.size) := by
            unfold Hid
            rw [hi93.out]; simp [HW.out.2]
          have hss : Hid ((uvs (List.replicate 64 0)).toArray.size = (uvs ws).toArray.size) := by
            unfold Hid
            simp [HW.out.2]
          have hall : Hid ((uvs ws).toArray.all (·.oneCell') = true) := uvs_all ws
          go_wp2_with (first
            | ((with_reducible refine arm_row 93 (.tmp 5) ?_ rfl (w.heap.size + 1) ?_ 93 (uvs ws).toArray (0, 0) _ g48.out Tryd.underlying93 rfl hi.out ?_); rfl; rfl)
            | ((with_reducible refine wpList_store_row ?_ 93 (.tmp 4) (.tmp 103) ?_ w.heap.size (uvs (List.replicate 64 0)).toArray (uvs ws).toArray 93 ?_ ?_ zr.out hss.out hi.out hall.out ?_); rfl; rfl; rfl; rfl))
          intro w4 g4 G4
          go_wp2
          exact bodyPost_ret (v := .agg (uvs ws).toArray) (results_cell_row (p := 4) (ty := 93) rfl _ _ w.heap.size 93 _ (0, 0) _ rfl g4.out Tryd.underlying93 rfl hi.out) rfl ⟨by rw [HW.out.1], Br.grown G4 Br.size (fun k hk => by cases hk; omega)⟩
end Go.Proofs.YteiepenanffhcaaDoor
