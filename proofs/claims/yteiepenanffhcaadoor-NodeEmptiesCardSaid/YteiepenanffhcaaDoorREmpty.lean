/- The reference's digest of an empty subtree: the walk of ledgerref9.Empty. -/
import Derived.Test.YteiepenanffhcaaDoorRTree
namespace Go.Proofs.YteiepenanffhcaaDoor
open Go Go.RowKit
set_option linter.unusedVariables false

set_option maxRecDepth 100000 in
set_option maxHeartbeats 1000000 in
theorem rempty_any {S : S8} {K : List UInt32} (width height : Int) (w : World) (hK : K.length = 64) (hL : LaidR S K w) :
    Calls Tryd.prog 33 #[.int .i64 width, .int .i64 height] w fun e w' => e = .returned (.agg (dc (emptyD S K width height))) ∧ Below w.heap.size w w' := by
  have hzd : ∀ W : World, (zeroValue 27).run Tryd.prog W = .ok (.agg (dc zero32)) W := fun W => by kernel_rfl
  have hds : ∀ d e : D32, Box ((dc d).size = (dc e).size) := fun d e => ⟨by rw [size_dc, size_dc]⟩
  have i24 : ∀ d : D32, Box ((Tryd.prog.info? 27).map (·.size) = some (dc d).size) := fun d => ⟨by rw [size_dc]; kernel_rfl⟩
  obtain ⟨H, hH⟩ : ∃ H : Nat, clamp height 0 256 = (H : Int) := ⟨(clamp height 0 256).toNat, by unfold clamp; omega⟩
  have hwi := Box.mk (fun W => lwithin_any height 0 256 W (by omega))
  unfold emptyD
  rw [hH] at hwi ⊢
  have hle := Box.mk (show H ≤ 256 by unfold clamp at hH; omega)
  clear hH
  rw [show ((H : Int)).toNat = H by omega]
  have hcut := Box.mk (fun (g : Nat) (W : World) (hW : Below w.heap.size w W) (hr : Row W (some ⟨g, 0, none⟩) 1 [2]) => rcut_any (S := S) (K := K) width (some ⟨g, 0, none⟩) 1 1 [2] W hK (hL.old hW) hr (by intro h; cases h) (by omega))
  obtain ⟨c0, hc0⟩ : ∃ d, cutD (sha S K [2]) width = d := ⟨_, rfl⟩
  rw [hc0] at hcut
  have h0 := Box.mk (show emD S K width 0 = c0 from hc0)
  have HL := Box.mk hL
  have HK := Box.mk hK
  clear hc0 hL hK
  go_enter Tryd.func33, Tryd.ntmps33
  go_upto_region 1 with fail
  refine wp_anyWorld (fun W => Box (W.heap[w.heap.size]? = some (.cells (dc zero32) 27 (0, 0))) ∧ Box (Below w.heap.size w W) ∧ Box (W.heap.size = w.heap.size + 1)) ⟨⟨heap_new rfl⟩, ⟨Below.refl_alloc w _⟩, ⟨by simp⟩⟩ ?_
  rintro W ⟨A0, B0, s0⟩
  go_wp2_with (go_at_call 46; refine (calls_box (hwi.out _)).mono ?_)
  rintro e w' ⟨⟨rfl, rfl⟩⟩
  clear hwi
  have hR := Box.mk (show Row (W.alloc (.cells #[.int .u8 2] 5)) (some ⟨W.heap.size, 0, none⟩) 1 [2] from Row.lit W #[.int .u8 2] 5 [2] rfl)
  have bA := Box.mk (B0.out.alloc B0.out.size (.cells #[.int .u8 2] 5))
  go_wp2_with (go_at_call 44; refine (calls_box (hcut.out _ _ bA.out hR.out)).mono ?_)
  rintro e w1 ⟨⟨rfl, hB⟩⟩
  have b1 := Box.mk (bA.out.trans (hB.mono bA.out.size))
  have q1 := Box.mk ((hB.block w.heap.size (by have := s0.out; simp; omega)).trans (heap_old (o := .cells #[.int .u8 2] 5) A0.out))
  clear hB hR bA A0 B0 hcut
  go_wp2_with ((with_reducible refine wpList_store_row ?_ 27 (.tmp 6) (.tmp 12) ?_ w1.heap.size (dc zero32) (dc c0) 27 ?_ ?_ ?_ (hds _ _).out (i24 _).out (dc_all _) ?_); rfl; rfl; rfl; rfl; exact heap_new rfl)
  intro w2 g2 G2
  have B12 : Below w1.heap.size w1 w2 := (Below.refl_alloc w1 _).grown G2 (by simp) (fun k hk => by cases hk; omega)
  have b2 := Box.mk (b1.out.trans (B12.mono b1.out.size))
  have q2 := Box.mk ((B12.block _ (heap_lt q1.out)).trans q1.out)
  have x2 := Box.mk (show w2.heap[w1.heap.size]? = some (.cells (dc c0) 27 (0, 0)) from g2.out)
  have hw01 := Box.mk (heap_lt q1.out)
  clear g2 G2 B12 b1 q1
  go_wp2
  go_loopw [7] (fun i wr => ∃ (k : Nat) (d : D32), k ≤ H ∧ i = .int .i64 k ∧ Box (d = emD S K width k) ∧ Box (wr.heap[w1.heap.size]? = some (.cells (dc d) 27 (0, 0))) ∧ Box (wr.heap[w.heap.size]? = some (.cells (dc zero32) 27 (0, 0))) ∧ Box (Below w.heap.size w wr)) (fun i _ => H - (intOf i).toNat)
  case atStart => exact ⟨0, c0, by omega, rfl, ⟨h0.out.symm⟩, x2, q2, b2⟩
  clear x2 q2 b2
  case round =>
    obtain ⟨k, d, hk, rfl, hd, xr, qr, br⟩ := hrel
    by_cases hlt : k < H
    · have hnx := Box.mk (show emD S K width (k + 1) = brD S K width d d by rw [hd.out, emD])
      have hbr := Box.mk (rbranch_any width d d wr HK.out (HL.out.old br.out))
      have hkh := Box.mk (show (k : Int) + 1 ≤ 257 by have := hle.out; omega)
      generalize brD S K width d d = b at *
      go_wp2_with (first
        | ((with_reducible refine arm_row 27 (.tmp 6) ?_ rfl w1.heap.size ?_ 27 (dc d) (0, 0) _ xr.out Tryd.underlying27 rfl (i24 _).out ?_); rfl; rfl)
        | (go_at_call 31; refine (calls_box hbr.out).mono ?_))
      rintro e w4 ⟨⟨rfl, hB5⟩⟩
      have b4 := Box.mk (br.out.trans (hB5.mono br.out.size))
      have q4 := Box.mk ((hB5.block _ (heap_lt qr.out)).trans qr.out)
      have x4 := Box.mk ((hB5.block _ (heap_lt xr.out)).trans xr.out)
      clear hB5 br qr xr hbr
      go_wp2_with ((with_reducible refine wpList_store_row ?_ 27 (.tmp 6) (.tmp 21) ?_ w1.heap.size (dc d) (dc b) 27 ?_ ?_ x4.out (hds _ _).out (i24 _).out (dc_all _) ?_); rfl; rfl; rfl; rfl)
      intro w5 g5 G5
      have b5 := Box.mk (b4.out.grown G5 b4.out.size (fun k hk => by cases hk; have := hw01.out; omega))
      have q5 := Box.mk ((G5.block _ (heap_lt q4.out) (by have := hw01.out; simp; omega)).trans q4.out)
      have x5 := Box.mk (show w5.heap[w1.heap.size]? = some (.cells (dc b) 27 (0, 0)) from g5.out)
      clear g5 G5 b4 q4 x4
      have hk0 := hkh.out
      go_wp2
      go_roundw
      case rel => exact ⟨k + 1, b, by omega, by go_num, ⟨hnx.out.symm⟩, x5, q5, b5⟩
      case measure => simp [intOf]; omega
    · have kH := Box.mk (show k = H by omega)
      go_wp2_with (first
        | ((with_reducible refine arm_row 27 (.tmp 6) ?_ rfl w1.heap.size ?_ 27 (dc d) (0, 0) _ xr.out Tryd.underlying27 rfl (i24 _).out ?_); rfl; rfl)
        | ((with_reducible refine wpList_store_row ?_ 27 (.tmp 4) (.tmp 22) ?_ w.heap.size (dc zero32) (dc d) 27 ?_ ?_ qr.out (hds _ _).out (i24 _).out (dc_all _) ?_); rfl; rfl; rfl; rfl))
      intro w8 g8 G8
      go_wp2
      exact bodyPost_ret (v := .agg (dc d)) (results_cell_row (p := 4) (ty := 27) rfl _ _ w.heap.size 27 _ (0, 0) _ rfl g8.out Tryd.underlying27 rfl (i24 _).out) rfl ⟨by rw [hd.out, kH.out], br.out.grown G8 br.out.size (fun k hk => by cases hk; omega)⟩
end Go.Proofs.YteiepenanffhcaaDoor
