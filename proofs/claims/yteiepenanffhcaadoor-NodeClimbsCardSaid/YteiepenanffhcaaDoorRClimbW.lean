/- The reference's climbs: the walks of ledgerref9.ClimbWith and Climb. -/
import Derived.Test.YteiepenanffhcaaDoorRClimb
import Derived.Test.YteiepenanffhcaaDoorHeld
namespace Go.Proofs.YteiepenanffhcaaDoor
open Go Go.RowKit
set_option linter.unusedVariables false

set_option maxRecDepth 100000 in
set_option maxHeartbeats 4000000 in
theorem rclimbWith_any {S : S8} {K : List UInt32} (g cap : Nat) (width : Int) (k : D32) (a : Int) (d0 : D32) (b : Int) (w : World) (hK : K.length = 64) (hL : LaidR S K w) (hg : g < w.heap.size)
    (hE : ∀ i, i < 257 → w.rangeAt g (32 * i) (bvs (emD S K width i).1)) :
    Calls Tryd.prog 49 #[.slice (some ⟨g, 0, none⟩) 257 cap, .int .i64 width, .agg (dc k), .int .i64 a, .agg (dc d0), .int .i64 b] w fun e w' => e = .returned (.agg (dc (climbD S K width k a d0 b))) ∧ Below w.heap.size w w' := by
  have hzd : ∀ W : World, (zeroValue 27).run Tryd.prog W = .ok (.agg (dc zero32)) W := fun W => by kernel_rfl
  have hds : ∀ d e : D32, Box ((dc d).size = (dc e).size) := fun d e => ⟨by rw [size_dc, size_dc]⟩
  have i24 : ∀ d : D32, Box ((Tryd.prog.info? 27).map (·.size) = some (dc d).size) := fun d => ⟨by rw [size_dc]; kernel_rfl⟩
  have i26 : Box ((Tryd.prog.info? 26).map (·.size) = some (dc k).size) := ⟨by rw [size_dc]; kernel_rfl⟩
  have hiD : Hid ((Tryd.prog.info? 27).map (·.size) = some 32) := by unfold Hid; kernel_rfl
  have UD : Tryd.prog.underlying 27 = some (.array 32 5) := Tryd.underlying27
  obtain ⟨A, hA⟩ : ∃ A : Nat, clamp a 0 256 = (A : Int) := ⟨(clamp a 0 256).toNat, by unfold clamp; omega⟩
  obtain ⟨B, hB⟩ : ∃ B : Nat, clamp b 0 256 = (B : Int) := ⟨(clamp b 0 256).toNat, by unfold clamp; omega⟩
  have hwa := Box.mk (fun W => lwithin_any a 0 256 W (by omega))
  have hwb := Box.mk (fun W => lwithin_any b 0 256 W (by omega))
  have hcut := Box.mk (fun W => rcut1_any d0 width W)
  unfold climbD
  rw [hA] at hwa ⊢
  rw [hB] at hwb ⊢
  have hA6 := Box.mk (show A ≤ 256 by unfold clamp at hA; omega)
  have hB6 := Box.mk (show B ≤ 256 by unfold clamp at hB; omega)
  rw [show ((A : Int)).toNat = A by omega, show ((B : Int)).toNat = B by omega]
  clear hA hB
  generalize cutD d0 width = c at hcut ⊢
  have HE := Box.mk hE
  have HL := Box.mk hL
  have HK := Box.mk hK
  have HG := Box.mk hg
  clear hE hL hK hg
  go_enter Tryd.func49, Tryd.ntmps49
  go_upto_region 1 with fail
  refine wp_anyWorld (fun W => Box (W.heap[w.heap.size]? = some (.cells (dc k) 26 (0, 0))) ∧ Box (W.heap[w.heap.size + 1]? = some (.cells (dc d0) 27 (0, 0))) ∧ Box (W.heap[w.heap.size + 1 + 1]? = some (.cells (dc zero32) 27 (0, 0))) ∧ Box (Below w.heap.size w W))
    ⟨⟨heap_old (heap_old (heap_new rfl))⟩, ⟨heap_old (heap_new (by simp))⟩, ⟨heap_new (by simp)⟩, ⟨((Below.refl_alloc w _).alloc (by simp) _).alloc (by simp; omega) _⟩⟩ ?_
  rintro W ⟨A0, A2, A1, B0⟩
  go_wp2_with (go_at_call 46; refine (calls_box (hwa.out _)).mono ?_)
  rintro e w' ⟨⟨rfl, rfl⟩⟩
  clear hwa
  go_wp2_with (go_at_call 46; refine (calls_box (hwb.out _)).mono ?_)
  rintro e w' ⟨⟨rfl, rfl⟩⟩
  clear hwb
  go_wp2_with (first
    | ((with_reducible refine arm_row 27 (.tmp 10) ?_ rfl (w.heap.size + 1) ?_ 27 (dc d0) (0, 0) _ A2.out Tryd.underlying27 rfl (i24 _).out ?_); rfl; rfl)
    | (go_at_call 57; refine (calls_box (hcut.out _)).mono ?_))
  rintro e w1 ⟨⟨rfl, hB⟩⟩
  have b1 := Box.mk (B0.out.trans (hB.mono B0.out.size))
  have q1 := Box.mk ((hB.block _ (heap_lt A1.out)).trans A1.out)
  have k1 := Box.mk ((hB.block _ (heap_lt A0.out)).trans A0.out)
  have x1 := Box.mk ((hB.block _ (heap_lt A2.out)).trans A2.out)
  clear hB A0 A1 A2 B0 hcut
  go_wp2_with ((with_reducible refine wpList_store_row ?_ 27 (.tmp 10) (.tmp 23) ?_ (w.heap.size + 1) (dc d0) (dc c) 27 ?_ ?_ x1.out (hds _ _).out (i24 _).out (dc_all _) ?_); rfl; rfl; rfl; rfl)
  intro w2 g2 G2
  have b2 := Box.mk (b1.out.grown G2 b1.out.size (fun k hk => by cases hk; omega))
  have q2 := Box.mk ((G2.block _ (heap_lt q1.out) (by simp)).trans q1.out)
  have k2 := Box.mk ((G2.block _ (heap_lt k1.out) (by simp)).trans k1.out)
  have x2 := Box.mk (show w2.heap[w.heap.size + 1]? = some (.cells (dc c) 27 (0, 0)) from g2.out)
  clear g2 G2 b1 q1 k1 x1
  go_wp2
  go_loopw [15, 16] (fun i t16 wr => ∃ (j : Nat) (d : D32), A ≤ j ∧ (j ≤ B ∨ j = A) ∧ i = .int .i64 j ∧ Box (d = climbN S K width k A c (j - A)) ∧ Box (wr.heap[w.heap.size]? = some (.cells (dc k) 26 (0, 0))) ∧ Box (wr.heap[w.heap.size + 1]? = some (.cells (dc d) 27 (0, 0))) ∧
     Box (wr.heap[w.heap.size + 1 + 1]? = some (.cells (dc zero32) 27 (0, 0))) ∧ Box (Below w.heap.size w wr)) (fun i _ _ => B - (intOf i).toNat)
  case atStart => exact ⟨A, c, Nat.le_refl _, .inr rfl, rfl, ⟨by rw [Nat.sub_self]; rfl⟩, k2, x2, q2, b2⟩
  clear x2 q2 b2 k2
  case round =>
    obtain ⟨j, d, hj1, hj2, rfl, hd, kr, xr, qr, br⟩ := hrel
    by_cases hlt : j < B
    · have hjj := Box.mk (show j < 256 by have := hB6.out; omega)
      have hbt := Box.mk (rbit_any k (255 - j) (by omega) wr)
      have hsub : ((255 : Int) - (j : Int)) = ((255 - j : Nat) : Int) := by have := hjj.out; omega
      have er := Box.mk (rangeAt_below (HE.out j (by have := hjj.out; omega)) br.out HG.out)
      have hstep := Box.mk (show climbN S K width k A c (j + 1 - A) = stepD S K width k j d by
        rw [show j + 1 - A = (j - A) + 1 by omega, climbN, ← hd.out, show A + (j - A) = j by omega])
      have hbc : bitI k ((255 : Int) - (j : Int)) = bitI k ((255 - j : Nat) : Int) := by rw [hsub]
      unfold stepD at hstep
      rw [hbc] at hstep
      generalize emD S K width j = em at *
      generalize bitI k ((255 - j : Nat) : Int) = bt at *
      have hj3 := hjj.out
      have w255 := IntWalk.i64_in (255 - (j : Int)) (by omega)
      clear hbc hj2
      go_wp2_with (first
        | ((with_reducible refine arm_row 26 (.tmp 8) ?_ rfl w.heap.size ?_ 26 (dc k) (0, 0) _ kr.out Tryd.underlying26 rfl i26.out ?_); rfl; rfl)
        | (go_at_call 58; refine (calls_box hbt.out).mono ?_))
      rintro e w3 ⟨⟨rfl, hB⟩⟩
      have b3 := Box.mk (br.out.trans (hB.mono br.out.size))
      have q3 := Box.mk ((hB.block _ (heap_lt qr.out)).trans qr.out)
      have k3 := Box.mk ((hB.block _ (heap_lt kr.out)).trans kr.out)
      have x3 := Box.mk ((hB.block _ (heap_lt xr.out)).trans xr.out)
      have e3 := Box.mk (rangeAt_below er.out hB (Nat.lt_of_lt_of_le HG.out br.out.size))
      clear hB qr kr xr er br hbt hsub w255
      by_cases hbz : bt = 0
      · rw [if_pos hbz] at hstep
        subst hbz
        have hbr := Box.mk (rbranch_any width d em w3.drew HK.out ((HL.out.old b3.out).old (Below.refl _ w3).drew))
        generalize brD S K width d em = nd at *
        go_wp2
        have n0 : (0 : Int) ≤ (j : Int) := by omega
        have n1 : (j : Int) < 257 := by omega
        refine wp_region_tail 6 (by kernel_rfl) (by kernel_rfl) ?_
        simp only [List.take_succ_cons, List.take_zero, List.drop_succ_cons, List.drop_zero]
        have xd := rangeAt_below (rangeAt_block x3.out) (Below.refl _ w3).drew (heap_lt x3.out)
        have e33 := e3.out
        rw [Nat.mul_comm 32 j] at e33
        have ed := rangeAt_below e33 (Below.refl _ w3).drew (Nat.lt_of_lt_of_le HG.out b3.out.size)
        repeat (first
          | (refine wpStill_load32 rfl 27 (.tmp 10) rfl (w.heap.size + 1) 0 rfl d xd UD hiD ?_; simp only [Act.put, List.setIfInBounds_toArray, List.set_cons_succ, List.set_cons_zero])
          | (refine wpStill_load32 rfl 27 (.tmp 40) rfl g (j * 32) rfl em ed UD hiD ?_; simp only [Act.put, List.setIfInBounds_toArray, List.set_cons_succ, List.set_cons_zero])
          | still_step)
        refine wpStill_nil ?_
        clear xd ed n0 n1 e33
        go_wp2_with (go_at_call 31; refine (calls_box hbr.out).mono ?_)
        rintro e w4 ⟨⟨rfl, hB⟩⟩
        have hB4 : Below w3.heap.size w3 w4 := ((Below.refl _ w3).drew).trans hB
        have b4 := Box.mk (b3.out.trans (hB4.mono b3.out.size))
        have q4 := Box.mk ((hB4.block _ (heap_lt q3.out)).trans q3.out)
        have k4 := Box.mk ((hB4.block _ (heap_lt k3.out)).trans k3.out)
        have x4 := Box.mk ((hB4.block _ (heap_lt x3.out)).trans x3.out)
        clear hB hB4 q3 k3 x3 e3 b3 hbr
        go_wp2_with ((with_reducible refine wpList_store_row ?_ 27 (.tmp 10) (.tmp 42) ?_ (w.heap.size + 1) (dc d) (dc nd) 27 ?_ ?_ x4.out (hds _ _).out (i24 _).out (dc_all _) ?_); rfl; rfl; rfl; rfl)
        intro w5 g5 G5
        have b5 := Box.mk (b4.out.grown G5 b4.out.size (fun k hk => by cases hk; omega))
        have q5 := Box.mk ((G5.block _ (heap_lt q4.out) (by simp)).trans q4.out)
        have k5 := Box.mk ((G5.block _ (heap_lt k4.out) (by simp)).trans k4.out)
        have x5 := Box.mk (show w5.heap[w.heap.size + 1]? = some (.cells (dc nd) 27 (0, 0)) from g5.out)
        clear g5 G5 b4 q4 k4 x4
        have hj9 := hjj.out
        go_wp2
        go_roundw
        case rel => exact ⟨j + 1, nd, by omega, .inl (by omega), by go_num, ⟨hstep.out.symm⟩, k5, x5, q5, b5⟩
        case measure => simp [intOf]; omega
      · rw [if_neg hbz] at hstep
        have hbr := Box.mk (rbranch_any width em d w3.drew HK.out ((HL.out.old b3.out).old (Below.refl _ w3).drew))
        generalize brD S K width em d = nd at *
        go_wp2
        have n0 : (0 : Int) ≤ (j : Int) := by omega
        have n1 : (j : Int) < 257 := by omega
        refine wp_region_tail 6 (by kernel_rfl) (by kernel_rfl) ?_
        simp only [List.take_succ_cons, List.take_zero, List.drop_succ_cons, List.drop_zero]
        have xd := rangeAt_below (rangeAt_block x3.out) (Below.refl _ w3).drew (heap_lt x3.out)
        have e33 := e3.out
        rw [Nat.mul_comm 32 j] at e33
        have ed := rangeAt_below e33 (Below.refl _ w3).drew (Nat.lt_of_lt_of_le HG.out b3.out.size)
        repeat (first
          | (refine wpStill_load32 rfl 27 (.tmp 10) rfl (w.heap.size + 1) 0 rfl d xd UD hiD ?_; simp only [Act.put, List.setIfInBounds_toArray, List.set_cons_succ, List.set_cons_zero])
          | (refine wpStill_load32 rfl 27 (.tmp 46) rfl g (j * 32) rfl em ed UD hiD ?_; simp only [Act.put, List.setIfInBounds_toArray, List.set_cons_succ, List.set_cons_zero])
          | still_step)
        refine wpStill_nil ?_
        clear xd ed n0 n1 e33
        go_wp2_with (go_at_call 31; refine (calls_box hbr.out).mono ?_)
        rintro e w4 ⟨⟨rfl, hB⟩⟩
        have hB4 : Below w3.heap.size w3 w4 := ((Below.refl _ w3).drew).trans hB
        have b4 := Box.mk (b3.out.trans (hB4.mono b3.out.size))
        have q4 := Box.mk ((hB4.block _ (heap_lt q3.out)).trans q3.out)
        have k4 := Box.mk ((hB4.block _ (heap_lt k3.out)).trans k3.out)
        have x4 := Box.mk ((hB4.block _ (heap_lt x3.out)).trans x3.out)
        clear hB hB4 q3 k3 x3 e3 b3 hbr
        go_wp2_with ((with_reducible refine wpList_store_row ?_ 27 (.tmp 10) (.tmp 49) ?_ (w.heap.size + 1) (dc d) (dc nd) 27 ?_ ?_ x4.out (hds _ _).out (i24 _).out (dc_all _) ?_); rfl; rfl; rfl; rfl)
        intro w5 g5 G5
        have b5 := Box.mk (b4.out.grown G5 b4.out.size (fun k hk => by cases hk; omega))
        have q5 := Box.mk ((G5.block _ (heap_lt q4.out) (by simp)).trans q4.out)
        have k5 := Box.mk ((G5.block _ (heap_lt k4.out) (by simp)).trans k4.out)
        have x5 := Box.mk (show w5.heap[w.heap.size + 1]? = some (.cells (dc nd) 27 (0, 0)) from g5.out)
        clear g5 G5 b4 q4 k4 x4
        have hj9 := hjj.out
        go_wp2
        go_roundw
        case rel => exact ⟨j + 1, nd, by omega, .inl (by omega), by go_num, ⟨hstep.out.symm⟩, k5, x5, q5, b5⟩
        case measure => simp [intOf]; omega
    · have hend := Box.mk (show climbN S K width k A c (B - A) = d by rw [hd.out]; congr 1; omega)
      go_wp2_with (first
        | ((with_reducible refine arm_row 27 (.tmp 10) ?_ rfl (w.heap.size + 1) ?_ 27 (dc d) (0, 0) _ xr.out Tryd.underlying27 rfl (i24 _).out ?_); rfl; rfl)
        | ((with_reducible refine wpList_store_row ?_ 27 (.tmp 12) (.tmp 50) ?_ (w.heap.size + 1 + 1) (dc zero32) (dc d) 27 ?_ ?_ qr.out (hds _ _).out (i24 _).out (dc_all _) ?_); rfl; rfl; rfl; rfl))
      intro w8 g8 G8
      go_wp2
      exact bodyPost_ret (v := .agg (dc d)) (results_cell_row (p := 12) (ty := 27) rfl _ _ (w.heap.size + 1 + 1) 27 _ (0, 0) _ rfl g8.out Tryd.underlying27 rfl (i24 _).out) rfl ⟨by rw [hend.out], br.out.grown G8 br.out.size (fun k hk => by cases hk; omega)⟩

set_option maxRecDepth 100000 in
set_option maxHeartbeats 1000000 in
theorem rclimb_any {S : S8} {K : List UInt32} (width : Int) (k : D32) (a : Int) (d0 : D32) (b : Int) (w : World) (hK : K.length = 64) (hL : LaidR S K w) :
    Calls Tryd.prog 35 #[.int .i64 width, .agg (dc k), .int .i64 a, .agg (dc d0), .int .i64 b] w fun e w' => e = .returned (.agg (dc (climbD S K width k a d0 b))) ∧ Below w.heap.size w w' := by
  have hzd : ∀ W : World, (zeroValue 27).run Tryd.prog W = .ok (.agg (dc zero32)) W := fun W => by kernel_rfl
  have hds : ∀ d e : D32, Box ((dc d).size = (dc e).size) := fun d e => ⟨by rw [size_dc, size_dc]⟩
  have i24 : ∀ d : D32, Box ((Tryd.prog.info? 27).map (·.size) = some (dc d).size) := fun d => ⟨by rw [size_dc]; kernel_rfl⟩
  have i26 : Box ((Tryd.prog.info? 26).map (·.size) = some (dc k).size) := ⟨by rw [size_dc]; kernel_rfl⟩
  have hemp := Box.mk (fun W (hW : Below w.heap.size w W) => rempties_any (S := S) (K := K) width W hK (hL.old hW))
  have hcl := Box.mk (fun g cap W (hW : Below w.heap.size w W) (hg : g < W.heap.size) (hE : ∀ i, i < 257 → W.rangeAt g (32 * i) (bvs (emD S K width i).1)) => rclimbWith_any (S := S) (K := K) g cap width k a d0 b W hK (hL.old hW) hg hE)
  have hlen := Box.mk (length_emDs S K width 257)
  have hget := Box.mk (show ∀ i (hi : i < 257), (emDs S K width 257)[i]'(by rw [length_emDs]; exact hi) = emD S K width i from fun i hi => by simp [emDs])
  clear hK hL
  generalize climbD S K width k a d0 b = D at *
  go_enter Tryd.func35, Tryd.ntmps35
  go_upto_region 1 with fail
  refine wp_anyWorld (fun W => Box (W.heap[w.heap.size]? = some (.cells (dc k) 26 (0, 0))) ∧ Box (W.heap[w.heap.size + 1]? = some (.cells (dc d0) 27 (0, 0))) ∧ Box (W.heap[w.heap.size + 1 + 1]? = some (.cells (dc zero32) 27 (0, 0))) ∧ Box (Below w.heap.size w W))
    ⟨⟨heap_old (heap_old (heap_new rfl))⟩, ⟨heap_old (heap_new (by simp))⟩, ⟨heap_new (by simp)⟩, ⟨((Below.refl_alloc w _).alloc (by simp) _).alloc (by simp; omega) _⟩⟩ ?_
  rintro W ⟨A0, A2, A1, B0⟩
  go_wp2_with (go_at_call 48; refine (calls_box (hemp.out _ B0.out)).mono ?_)
  rintro e w1 ⟨⟨⟨v, rfl, hO⟩, hB⟩⟩
  have b1 := Box.mk (B0.out.trans (hB.mono B0.out.size))
  have q1 := Box.mk ((hB.block _ (heap_lt A1.out)).trans A1.out)
  have k1 := Box.mk ((hB.block _ (heap_lt A0.out)).trans A0.out)
  have x1 := Box.mk ((hB.block _ (heap_lt A2.out)).trans A2.out)
  obtain ⟨g, cap, rfl, hg1, hg2, hr⟩ := hO.at (by rw [hlen.out]; omega)
  have HR := Box.mk (show ∀ i, i < 257 → w1.rangeAt g (32 * i) (bvs (emD S K width i).1) from fun i hi => by
    have := hr i (by rw [hlen.out]; exact hi)
    rwa [hget.out i hi] at this)
  have HG := Box.mk hg2
  rw [hlen.out]
  clear hO hr hg1 hg2 hB A0 A1 A2 B0 hemp hget
  have hc := Box.mk (hcl.out g cap w1 b1.out HG.out HR.out)
  clear HR hcl
  go_wp2_with (first
    | ((with_reducible refine arm_row 26 (.tmp 6) ?_ rfl w.heap.size ?_ 26 (dc k) (0, 0) _ k1.out Tryd.underlying26 rfl i26.out ?_); rfl; rfl)
    | ((with_reducible refine arm_row 27 (.tmp 8) ?_ rfl (w.heap.size + 1) ?_ 27 (dc d0) (0, 0) _ x1.out Tryd.underlying27 rfl (i24 _).out ?_); rfl; rfl)
    | (go_at_call 49; refine (calls_box hc.out).mono ?_))
  rintro e w3 ⟨⟨rfl, hB⟩⟩
  have b3 := Box.mk (b1.out.trans (hB.mono b1.out.size))
  have q3 := Box.mk ((hB.block _ (heap_lt q1.out)).trans q1.out)
  clear hB q1 b1 k1 x1 hc
  go_wp2_with ((with_reducible refine wpList_store_row ?_ 27 (.tmp 10) (.tmp 20) ?_ (w.heap.size + 1 + 1) (dc zero32) (dc D) 27 ?_ ?_ q3.out (hds _ _).out (i24 _).out (dc_all _) ?_); rfl; rfl; rfl; rfl)
  intro w8 g8 G8
  go_wp2
  exact bodyPost_ret (v := .agg (dc D)) (results_cell_row (p := 10) (ty := 27) rfl _ _ (w.heap.size + 1 + 1) 27 _ (0, 0) _ rfl g8.out Tryd.underlying27 rfl (i24 _).out) rfl ⟨rfl, b3.out.grown G8 b3.out.size (fun k hk => by cases hk; omega)⟩
end Go.Proofs.YteiepenanffhcaaDoor
