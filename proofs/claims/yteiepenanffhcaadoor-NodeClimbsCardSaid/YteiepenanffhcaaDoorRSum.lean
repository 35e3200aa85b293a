/- The reference's digest of a text: the walk of ledgerref1.Sum, up to its state. -/
import Derived.Test.YteiepenanffhcaaDoorRPad
import Derived.Test.YteiepenanffhcaaDoorRBehind
import Derived.Test.YteiepenanffhcaaDoorTabs4
import Derived.Test.YteiepenanffhcaaDoorNode
namespace Go.Proofs.YteiepenanffhcaaDoor
open Go Go.RowKit
set_option linter.unusedVariables false

theorem addTo_comm (A B : S8) : addTo A.list B.list 8 = addTo B.list A.list 8 := by
  simp [addTo, S8.list, UInt32.add_comm]
theorem LaidR.old {S : S8} {K : List UInt32} {w w' : World} (h : LaidR S K w) (hb : Below w.heap.size w w') : LaidR S K w' :=
  ⟨fun i hi => (hb.cell (p := ⟨1, i, none⟩) (block_lt_of_cell (h.1 i hi))).trans (h.1 i hi), fun i hi => (hb.cell (p := ⟨3, i, none⟩) (block_lt_of_cell (h.2 i hi))).trans (h.2 i hi)⟩
theorem rows_of {w : World} {g : Nat} {cs : Array Value} {t : TypeId} (h : Hid (w.heap[g]? = some (.cells cs t (0, 0)))) : Box (w.heap[g]? = some (.cells cs t (0, 0))) := ⟨h.out⟩

theorem val_mk32 (l : List UInt8) (h : l.length = 32) : (⟨l, h⟩ : D32).1 = l := rfl
theorem sha_val (S : S8) (K : List UInt32) (l : List UInt8) : (sha S K l).1 = shaD S.list K l := by
  unfold sha
  exact val_mk32 _ _
theorem sha_pad (S : S8) (K : List UInt32) (l : List UInt8) (N : Nat) (D : D32) (hD : sha S K l = D) (hl : l.length ≤ 140737488355328) (hN : (padL l).length = 64 * N) : D.1 = outN (absorb K S.list (padL l) N) 8 := by
  have h := sha_val S K l
  have h2 := shaD_pad S.list K l hl
  rw [hN, Nat.mul_div_cancel_left _ (by omega)] at h2
  exact (congrArg (·.1) hD).symm.trans (h.trans h2)

/-- The digest's bytes, the first k of them laid. -/
def outR (st : List UInt32) (k : Nat) : List UInt8 := (List.range k).map (wordByte st) ++ List.replicate (32 - k) 0
theorem length_outR (st : List UInt32) (k : Nat) (hk : k ≤ 32) : (outR st k).length = 32 := by simp [outR]; omega
theorem outR_set (st : List UInt32) (k : Nat) (hk : k < 32) : (outR st k).set k (wordByte st k) = outR st (k + 1) := by
  unfold outR
  rw [List.set_append_right _ _ (by simp), List.range_succ, List.map_append, List.append_assoc]
  congr 1
  simp only [List.length_map, List.length_range, Nat.sub_self, List.map_cons, List.map_nil]
  rw [show 32 - k = (32 - (k + 1)) + 1 by omega, List.replicate_succ, List.set_cons_zero]
  rfl

set_option maxRecDepth 100000 in
set_option maxHeartbeats 4000000 in
theorem rsum_any (S : S8) (K : List UInt32) (ao : Option Addr) (n c : Nat) (l : List UInt8) (w : World) (hK : K.length = 64) (hL : LaidR S K w)
    (hp : Row w ao n l) (hnil : ao = none → n = 0 ∧ c = 0) (hmax : n ≤ 140737488351300) :
    Calls Tryd.prog 56 #[.slice ao n c] w fun e w' => e = .returned (.agg (dc (sha S K l))) ∧ Below w.heap.size w w' := by
  have hl := hp.1
  obtain ⟨D, hD⟩ : ∃ D, sha S K l = D := ⟨_, rfl⟩
  obtain ⟨N, hN⟩ : ∃ N, (padL l).length = 64 * N := ⟨(padL l).length / 64, by have := padL_mod l; omega⟩
  have HD := Box.mk (sha_pad S K l N D hD (by omega) hN)
  rw [hD]
  have hNm := Box.mk (show 64 * N ≤ 140737488351400 by rw [← hN, length_padL]; unfold padz; omega)
  have hfil := fun W (hW : Below w.heap.size w W) => filled_any ao n c l W (hp.old hW) hnil hmax
  have hN1 := Box.mk (show 1 ≤ N by have := length_padL l; omega)
  generalize padL l = P at *
  have hPl := Box.mk hN
  have hKb := Box.mk hK
  clear hD hN hp hnil hmax hl hK
  have hi8 : ∀ R : List UInt32, R.length = 8 → Hid ((Tryd.prog.info? 83).map (·.size) = some (uvs R).toArray.size) := fun R hR => by
    unfold Hid
    have h : (Tryd.prog.info? 83).map (·.size) = some 8 := by kernel_rfl
    rw [h]; simp [hR]
  have hi8l : Hid ((Tryd.prog.info? 83).map (·.size) = some (uvs S.list).length) := by
    unfold Hid
    have h : (Tryd.prog.info? 83).map (·.size) = some 8 := by kernel_rfl
    rw [h]; rfl
  have hi64 : ∀ R : List UInt32, R.length = 64 → Hid ((Tryd.prog.info? 93).map (·.size) = some (uvs R).toArray.size) := fun R hR => by
    unfold Hid
    have h : (Tryd.prog.info? 93).map (·.size) = some 64 := by kernel_rfl
    rw [h]; simp [hR]
  have hss : ∀ R R' : List UInt32, R.length = R'.length → Hid ((uvs R).toArray.size = (uvs R').toArray.size) := fun R R' h => by
    unfold Hid; simp [h]
  have hi5 : Box ((Tryd.prog.info? 5).map (·.size) = some 1) := ⟨by kernel_rfl⟩
  obtain ⟨z8, HZ8⟩ : ∃ z8 : List UInt32, Box (z8 = List.replicate 8 0) := ⟨_, ⟨rfl⟩⟩
  obtain ⟨z64, HZ64⟩ : ∃ z64 : List UInt32, Box (z64 = List.replicate 64 0) := ⟨_, ⟨rfl⟩⟩
  have hz8l := Box.mk (show z8.length = 8 by rw [HZ8.out]; rfl)
  have hz64l := Box.mk (show z64.length = 64 by rw [HZ64.out]; simp)
  have hz8 : ∀ W : World, (zeroValue 83).run Tryd.prog W = .ok (.agg (uvs z8).toArray) W := fun W => by rw [HZ8.out]; kernel_rfl
  have hz64 : ∀ W : World, (zeroValue 93).run Tryd.prog W = .ok (.agg (uvs z64).toArray) W := fun W => by rw [HZ64.out]; kernel_rfl
  have hzd : ∀ W : World, (zeroValue 27).run Tryd.prog W = .ok (.agg (dc zero32)) W := fun W => by kernel_rfl
  have hg0 : 1 < w.heap.size := block_lt_of_cell (hL.1 0 (by omega))
  have HRG : Box (∀ W, Below w.heap.size w W → W.rangeAt 1 0 (uvs S.list)) := ⟨fun W hW j v hj => by
    obtain ⟨hl, rfl⟩ := uvs_at hj
    rw [Nat.zero_add]
    exact (hW.cell (p := ⟨1, j, none⟩) hg0).trans (hL.1 j hl)⟩
  have HLb := Box.mk hL
  clear hL
  go_enter Tryd.func56, Tryd.ntmps56
  go_wp2_with (go_at_call 60; refine (calls_box (hfil _ (Below.refl_alloc w _))).mono ?_)
  rintro e w1 ⟨⟨⟨v, rfl, hO⟩, hB⟩⟩
  have B1 := Box.mk ((Below.refl_alloc w (.cells (dc zero32) 27)).trans (hB.mono (by simp)))
  have R1 := Box.mk ((hB.block w.heap.size (by simp)).trans (heap_new (w := w) (o := .cells (dc zero32) 27) rfl))
  have s1 := Box.mk (heap_lt R1.out)
  obtain ⟨ao1, c1, rfl, hrow, hcm, hlc, hlow⟩ := hO.open
  obtain ⟨T, hT⟩ : ∃ T, 64 * N = T := ⟨_, rfl⟩
  have HT := Box.mk hT
  rw [hPl.out, hT] at hrow ⊢
  clear hT
  obtain ⟨b1, o1, rfl⟩ := hrow.at0 (by have := hN1.out; have := HT.out; omega)
  have HR := Box.mk hrow
  have hb1 := Box.mk (show b1 < w1.heap.size from (hlow b1 o1 rfl).2)
  clear hB hO hrow hlow hlc hcm hfil
  have hrg1 := Box.mk (HRG.out w1 B1.out)
  go_wp2_with (first
    | ((with_reducible refine wpList_load_midg ?_ 83 (.global 1) ?_ 1 0 ?_ (uvs S.list) _ hrg1.out Tryd.underlying83 rfl hi8l.out ?_); rfl; rfl; rfl)
    | ((with_reducible refine wpList_store_row ?_ 83 (.tmp 4) (.tmp 11) ?_ w1.heap.size (uvs z8).toArray (uvs S.list).toArray 83 ?_ ?_ ?_ (hss _ _ hz8l.out).out (hi8 _ rfl).out (uvs_all _) ?_); rfl; rfl; rfl; rfl; exact heap_new rfl))
  intro w2 g2 G2
  have B12 : Below w1.heap.size w1 w2 := (Below.refl_alloc w1 _).grown G2 (by simp) (fun k hk => by cases hk; omega)
  have b2 := Box.mk (B1.out.trans (B12.mono B1.out.size))
  have q2 := Box.mk ((B12.block _ s1.out).trans R1.out)
  have r2 := Box.mk (HR.out.old B12)
  have st2 := rows_of g2
  have sz2 := Box.mk (show w1.heap.size < w2.heap.size from heap_lt g2.out)
  clear g2 G2 B12 R1 HR hrg1
  go_wp2
  go_loopw [5, 6] (fun i t6 wr => ∃ (k p : Nat), Box (p = 64 * k ∧ k ≤ N) ∧ i = .int .i64 p ∧ Box (wr.heap[w1.heap.size]? = some (.cells (uvs (absorb K S.list P k)).toArray 83 (0, 0))) ∧
     Box (wr.heap[w.heap.size]? = some (.cells (dc zero32) 27 (0, 0))) ∧ Box (Below w.heap.size w wr) ∧ Box (Row wr (some ⟨b1, o1, none⟩) T P) ∧ Box (w1.heap.size < wr.heap.size)) (fun i _ _ => T - (intOf i).toNat)
  case atStart => exact ⟨0, 0, ⟨rfl, Nat.zero_le _⟩, rfl, ⟨by rw [absorb_zero]; exact st2.out⟩, q2, b2, r2, sz2⟩
  clear st2 q2 b2 r2 sz2
  case round =>
    obtain ⟨k, p, hk, rfl, sr, qr, br, rr, zr⟩ := hrel
    rcases Nat.lt_or_ge p T with hlt | hge
    · have hkN := Box.mk (show k < N by have := HT.out; have := hk.out; omega)
      have hwo := words_any b1 o1 T c1 p P wr rr.out (by have := HT.out; have := hk.out; omega) (by have := HT.out; have := hNm.out; omega)
      have hblk := Box.mk (show (P.drop p).take 64 = (P.drop (64 * k)).take 64 by rw [hk.out.1])
      have hws := Box.mk (show (fill2 (fill1 ((P.drop p).take 64) 16) 48).length = 64 by rw [length_fill2, length_fill1])
      have hcm := Box.mk (show ∀ st, compress K st ((P.drop p).take 64) = addTo (rounds K (fill2 (fill1 ((P.drop p).take 64) 16) 48) (S8.of st) 64).list st 8 from fun st => rfl)
      have hst := Box.mk (show (absorb K S.list P k).length = 8 by rw [length_absorb]; rfl)
      have hnx := Box.mk (absorb_succ K k S.list P)
      rw [← hblk.out] at hnx
      generalize (P.drop p).take 64 = blk at *
      generalize fill2 (fill1 blk 16) 48 = ws at *
      go_wp2_with (go_at_call 61; refine (calls_box hwo).mono ?_)
      rintro e w3 ⟨⟨rfl, hB3⟩⟩
      have b3 := Box.mk (br.out.trans (hB3.mono br.out.size))
      have q3 := Box.mk ((hB3.block _ (Nat.lt_of_lt_of_le (heap_lt qr.out) (Nat.le_refl _))).trans qr.out)
      have s3 := Box.mk ((hB3.block _ zr.out).trans sr.out)
      have r3 := Box.mk (rr.out.old hB3)
      have z3 := Box.mk (Nat.lt_of_lt_of_le zr.out hB3.size)
      clear hB3 qr sr rr hwo
      go_wp2_with ((with_reducible refine wpList_store_row ?_ 93 (.tmp 6) (.tmp 20) ?_ w3.heap.size (uvs z64).toArray (uvs ws).toArray 93 ?_ ?_ ?_ (hss _ _ (hz64l.out.trans hws.out.symm)).out (hi64 _ hws.out).out (uvs_all _) ?_); rfl; rfl; rfl; rfl; exact heap_new rfl)
      intro w4 g4 G4
      have B34 : Below w3.heap.size w3 w4 := (Below.refl_alloc w3 _).grown G4 (by simp) (fun k hk => by cases hk; omega)
      have b4 := Box.mk (b3.out.trans (B34.mono b3.out.size))
      have q4 := Box.mk ((B34.block _ (heap_lt q3.out)).trans q3.out)
      have s4 := Box.mk ((B34.block _ (heap_lt s3.out)).trans s3.out)
      have r4 := Box.mk (r3.out.old B34)
      have z4 := Box.mk (Nat.lt_of_lt_of_le z3.out B34.size)
      have x4 := rows_of g4
      clear g4 G4 B34 b3 q3 s3 r3 z3
      obtain ⟨A, hA⟩ := s8_of hst.out
      rw [hA] at s4 hnx
      have hbe := Box.mk (fun W (hW : LaidR S K W) => behind_any K ws A W hKb.out hws.out hW.2)
      have hnx2 := Box.mk (show absorb K S.list P (k + 1) = addTo A.list (rounds K ws A 64).list 8 by
        rw [hnx.out, hcm.out, addTo_comm]
        rfl)
      have hl8 := Box.mk (show (addTo A.list (rounds K ws A 64).list 8).length = 8 from length_addTo _ _ _)
      clear hA hst hnx hcm
      generalize addTo A.list (rounds K ws A 64).list 8 = F at *
      go_wp2_with (first
        | ((with_reducible refine arm_row 83 (.tmp 4) ?_ rfl w1.heap.size ?_ 83 (uvs A.list).toArray (0, 0) _ s4.out Tryd.underlying83 rfl (hi8 _ rfl).out ?_); rfl; rfl)
        | ((with_reducible refine arm_row 93 (.tmp 6) ?_ rfl w3.heap.size ?_ 93 (uvs ws).toArray (0, 0) _ x4.out Tryd.underlying93 rfl (hi64 _ hws.out).out ?_); rfl; rfl)
        | (go_at_call 62; refine (calls_box (hbe.out _ (HLb.out.old b4.out))).mono ?_))
      rintro e w5 ⟨⟨rfl, hB5⟩⟩
      have b5 := Box.mk (b4.out.trans (hB5.mono b4.out.size))
      have q5 := Box.mk ((hB5.block _ (heap_lt q4.out)).trans q4.out)
      have s5 := Box.mk ((hB5.block _ (heap_lt s4.out)).trans s4.out)
      have r5 := Box.mk (r4.out.old hB5)
      have z5 := Box.mk (Nat.lt_of_lt_of_le z4.out hB5.size)
      clear hB5 b4 q4 s4 r4 z4 x4 hbe
      have hsA := hss A.list F (by rw [hl8.out]; rfl)
      go_wp2_with ((with_reducible refine wpList_store_row ?_ 83 (.tmp 4) (.tmp 23) ?_ w1.heap.size (uvs A.list).toArray (uvs F).toArray 83 ?_ ?_ s5.out hsA.out (hi8 _ hl8.out).out (uvs_all _) ?_); rfl; rfl; rfl; rfl)
      intro w6 g6 G6
      have b6 := Box.mk (b5.out.grown G6 b5.out.size (fun k hk => by cases hk; have := s1.out; omega))
      have q6 := Box.mk ((G6.block _ (heap_lt q5.out) (by have := s1.out; simp; omega)).trans q5.out)
      have r6 := Box.mk (r5.out.grown G6 (by have := hb1.out; have := z5.out; omega) (by have := hb1.out; simp; omega))
      have z6 := Box.mk (Nat.lt_of_lt_of_le z5.out G6.size)
      have s6 := rows_of g6
      clear g6 G6 b5 q5 s5 r5 z5 hsA
      have hp64 := IntWalk.i64_in ((p : Int) + 64) (by have := HT.out; have := hNm.out; omega)
      go_wp2
      go_roundw
      case rel => exact ⟨k + 1, p + 64, ⟨by have := hk.out; have := hkN.out; omega⟩, by go_num, ⟨by rw [hnx2.out]; exact s6.out⟩, q6, b6, r6, z6⟩
      case measure => simp [intOf]; omega
    · have hkN := Box.mk (show k = N by have := HT.out; have := hk.out; omega)
      have hst := Box.mk (show (absorb K S.list P k).length = 8 by rw [length_absorb]; rfl)
      have hfin := Box.mk (show D.1 = outN (absorb K S.list P k) 8 by rw [hkN.out]; exact HD.out)
      generalize absorb K S.list P k = F at *
      have hDl := Box.mk (show D = ⟨outR F 32, length_outR F 32 (by omega)⟩ from Subtype.ext (by rw [hfin.out, outN_bytes]; simp [outR]))
      have hz0 := Box.mk (show dc zero32 = (bvs (outR F 0)).toArray from rfl)
      have hnl : ¬ p < T := by omega
      clear hge
      go_wp2
      clear hnl
      have b7 := Box.mk (br.out.alloc br.out.size (.cells (dc zero32) 27))
      have q7 := Box.mk (heap_old (o := .cells (dc zero32) 27) qr.out)
      have s7 := Box.mk (heap_old (o := .cells (dc zero32) 27) sr.out)
      have x7 := Box.mk (show (wr.alloc (.cells (dc zero32) 27)).heap[wr.heap.size]? = some (.cells (bvs (outR F 0)).toArray 27 (0, 0)) by rw [heap_new rfl, hz0.out])
      obtain ⟨M, hM⟩ : ∃ M, wr.heap.size = M := ⟨_, rfl⟩
      have hMw := Box.mk (show w1.heap.size < M by rw [← hM]; exact zr.out)
      rw [hM] at x7 ⊢
      clear hM qr sr br rr zr hk
      generalize wr.alloc (.cells (dc zero32) 27) = wq at *
      go_loopw [8] (fun i wr => ∃ k : Nat, k ≤ 32 ∧ i = .int .i64 k ∧ Box (wr.heap[M]? = some (.cells (bvs (outR F k)).toArray 27 (0, 0))) ∧ Box (wr.heap[w1.heap.size]? = some (.cells (uvs F).toArray 83 (0, 0))) ∧
        Box (wr.heap[w.heap.size]? = some (.cells (dc zero32) 27 (0, 0))) ∧ Box (Below w.heap.size w wr)) (fun i _ => 32 - (intOf i).toNat)
      case atStart => exact ⟨0, Nat.zero_le _, rfl, x7, s7, q7, b7⟩
      clear x7 s7 q7 b7
      case round =>
        obtain ⟨k, hk, rfl, xr, sr, qr, br⟩ := hrel
        by_cases hlt : k < 32
        · have hlen := Box.mk (length_outR F k hk)
          have cF : wr.cell? ⟨w1.heap.size, k / 4, none⟩ = some (uv (F.getD (k / 4) 0)) := uvs_cell sr.out (by rw [hst.out]; omega)
          have cX := bvs_cell xr.out (i := k) (by rw [hlen.out]; exact hlt)
          have zX := frozen_of_row _ M k _ 27 xr.out
          have hsh : ∀ t x, binOp .shr t (uv x) (.int .u64 (24 - 8 * ((k : Int) % 4))) = pure (uv (x >>> UInt32.ofNat (24 - 8 * (k % 4)))) := fun t x => by
            rw [show (24 - 8 * ((k : Int) % 4)) = ((24 - 8 * (k % 4) : Nat) : Int) by omega]
            exact uv_shr t x .u64 _ (by omega)
          have f0 : (0 : Int) ≤ (k : Int) / 4 := by omega
          have f1 : (k : Int) / 4 < 8 := by omega
          have f2 : ((k : Int) / 4).toNat = k / 4 := by omega
          have f3 := IntWalk.i64_in (8 * ((k : Int) % 4)) (by omega)
          have f4 := IntWalk.i64_in (24 - 8 * ((k : Int) % 4)) (by omega)
          have k0 : (0 : Int) ≤ (k : Int) := by omega
          have k1 : (k : Int) < 32 := by omega
          go_wp2_with (refine wpList_store_int rfl 5 (.tmp 40) (.tmp 39) rfl ⟨M, k, none⟩ (bv (wordByte F k)) rfl rfl ⟨_, _, rfl⟩ hi5.out ⟨_, cX⟩ zX ?_)
          have x2 := bvs_set (wordByte F k) xr.out (i := k)
          rw [outR_set F k hlt] at x2
          have X2 := Box.mk x2
          clear x2 cF cX zX
          go_roundw
          case rel => exact ⟨k + 1, by omega, by go_num, X2, ⟨(heap_setCell_other _ _ _ _ (by have := hMw.out; simp; omega)).trans sr.out⟩, ⟨(heap_setCell_other _ _ _ _ (by have := hMw.out; have := s1.out; simp; omega)).trans qr.out⟩, ⟨br.out.setCell (by have := hMw.out; have := s1.out; simp; omega) _⟩⟩
          case measure => simp [intOf]; omega
        · obtain rfl : k = 32 := by omega
          rw [show ((32 : Nat) : Int) = 32 from rfl]
          have xD := Box.mk (show wr.heap[M]? = some (.cells (dc D) 27 (0, 0)) by rw [hDl.out]; exact xr.out)
          have i24 : Box ((Tryd.prog.info? 27).map (·.size) = some (dc D).size) := ⟨by rw [size_dc]; kernel_rfl⟩
          have hds : Box ((dc zero32).size = (dc D).size) := ⟨by rw [size_dc, size_dc]⟩
          clear hDl xr
          go_wp2_with (first
            | ((with_reducible refine arm_row 27 (.tmp 7) ?_ rfl M ?_ 27 (dc D) (0, 0) _ xD.out Tryd.underlying27 rfl i24.out ?_); rfl; rfl)
            | ((with_reducible refine wpList_store_row ?_ 27 (.tmp 2) (.tmp 41) ?_ w.heap.size (dc zero32) (dc D) 27 ?_ ?_ qr.out hds.out i24.out (dc_all _) ?_); rfl; rfl; rfl; rfl))
          intro w8 g8 G8
          go_wp2
          exact bodyPost_ret (v := .agg (dc D)) (results_cell_row (p := 2) (ty := 27) rfl _ _ w.heap.size 27 _ (0, 0) _ rfl g8.out Tryd.underlying27 rfl i24.out) rfl ⟨rfl, br.out.grown G8 br.out.size (fun k hk => by cases hk; omega)⟩
end Go.Proofs.YteiepenanffhcaaDoor
