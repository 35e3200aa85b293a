/- Texts joined: RWords, RBehind, Cut. -/
import Derived.Test.YteiepenanffhcaaDoorP12
import Derived.Test.YteiepenanffhcaaDoorP10
import Derived.Test.YteiepenanffhcaaDoorP01
import Derived.Test.YteiepenanffhcaaDoorP02
import Derived.Deep.WholeRow
/- A block's words: the walk of ledgerref1.words. -/
namespace Go.Proofs.YteiepenanffhcaaDoor
open Go Go.RowKit
set_option linter.unusedVariables false

theorem getD_mid (l : List UInt8) (a i : Nat) (hi : i < 64) : ((l.drop a).take 64).getD i 0 = l.getD (a + i) 0 := by
  simp only [List.getD_eq_getElem?_getD, List.getElem?_take, List.getElem?_drop, if_pos hi]

theorem uvs_all (l : List UInt32) : (uvs l).toArray.all (·.oneCell') = true := by
  rw [Array.all_eq_true_iff_forall_mem]
  intro v hv
  exact uvs_oneCell l v (by simpa using hv)

set_option maxRecDepth 100000 in
set_option maxHeartbeats 4000000 in
theorem words_any (b o n c at' : Nat) (l : List UInt8) (w : World) (hp : Row w (some ⟨b, o, none⟩) n l) (hat : at' + 64 ≤ n) (hmax : n ≤ 140737488355328) :
    Calls Tryd.prog 61 #[.slice (some ⟨b, o, none⟩) n c, .int .i64 at'] w fun e w' => e = .returned (.agg (uvs (fill2 (fill1 ((l.drop at').take 64) 16) 48)).toArray) ∧ Below w.heap.size w w' := by
  obtain ⟨L, hL⟩ : ∃ L, (l.drop at').take 64 = L := ⟨_, rfl⟩
  have HL : Box (∀ i, i < 64 → l.getD (at' + i) 0 = L.getD i 0) := ⟨fun i hi => by rw [← hL, getD_mid l at' i hi]⟩
  rw [hL]
  have hlen := Box.mk hp.1
  clear hL
  have hi41 : Box ((Tryd.prog.info? 82).map (·.size) = some 1) := ⟨by kernel_rfl⟩
  have hi93 : Box ((Tryd.prog.info? 93).map (·.size) = some 64) := ⟨by kernel_rfl⟩
  go_enter Tryd.func61, Tryd.ntmps61
  go_wp2_with fail
  refine wp_anyWorld (fun W => Hid (W.heap[w.heap.size]? = some (.cells (uvs (List.replicate 64 0)).toArray 93 (0, 0))) ∧ Hid (W.heap[w.heap.size + 1]? = some (.cells (uvs (List.replicate 64 0)).toArray 93 (0, 0))) ∧ Below w.heap.size w W ∧ w.heap.size + 1 < W.heap.size)
    ⟨heap_old (heap_new rfl), heap_new (by simp), (Below.refl_alloc w _).alloc (by simp) _, by simp⟩ ?_
  rintro W ⟨z0, g0, B0, s0⟩
  have hsz : (w.alloc (.cells (uvs (List.replicate 64 0)).toArray 93)).heap.size = w.heap.size + 1 := by simp
  go_loopw [6, 7] (fun i t7 wr => ∃ k : Nat, k ≤ 16 ∧ i = .int .i64 k ∧ Hid (wr.heap[w.heap.size]? = some (.cells (uvs (List.replicate 64 0)).toArray 93 (0, 0))) ∧ Hid (wr.heap[w.heap.size + 1]? = some (.cells (uvs (fill1 L k)).toArray 93 (0, 0))) ∧ Below w.heap.size w wr ∧ w.heap.size + 1 < wr.heap.size) (fun i _ _ => 16 - (intOf i).toNat)
  case atStart => exact ⟨0, by omega, rfl, z0, g0, B0, s0⟩
  case round =>
    obtain ⟨k, hk16, rfl, zr, gr, Br, sr⟩ := hrel
    by_cases hlt : k < 16
    · have r0 := (hp.old Br).byte (at' + 4 * k) (by rw [hlen.out]; omega)
      have r1 := (hp.old Br).byte (at' + (4 * k + 1)) (by rw [hlen.out]; omega)
      have r2 := (hp.old Br).byte (at' + (4 * k + 2)) (by rw [hlen.out]; omega)
      have r3 := (hp.old Br).byte (at' + (4 * k + 3)) (by rw [hlen.out]; omega)
      rw [HL.out _ (by omega)] at r0 r1 r2 r3
      have hlen2 := length_fill1 L k
      have c0 := uvs_cell gr.out (i := k) (by omega)
      have z0 := uvs_frozen (i := k) gr.out
      clear hlen2
      have k0 : (0 : Int) ≤ (k : Int) := by omega
      have k1 : (k : Int) < 64 := by omega
      have k2 : k < 64 := by omega
      have n0 : (0 : Int) ≤ (at' : Int) + 4 * (k : Int) := by omega
      have n1 : (0 : Int) ≤ (at' : Int) + 4 * (k : Int) + 1 := by omega
      have n2 : (0 : Int) ≤ (at' : Int) + 4 * (k : Int) + 2 := by omega
      have n3 : (0 : Int) ≤ (at' : Int) + 4 * (k : Int) + 3 := by omega
      have m0 : (at' : Int) + 4 * (k : Int) < (n : Int) := by omega
      have m1 : (at' : Int) + 4 * (k : Int) + 1 < (n : Int) := by omega
      have m2 : (at' : Int) + 4 * (k : Int) + 2 < (n : Int) := by omega
      have m3 : (at' : Int) + 4 * (k : Int) + 3 < (n : Int) := by omega
      have t0 : ((at' : Int) + 4 * (k : Int)).toNat = at' + 4 * k := by omega
      have t1 : ((at' : Int) + 4 * (k : Int) + 1).toNat = at' + (4 * k + 1) := by omega
      have t2 : ((at' : Int) + 4 * (k : Int) + 2).toNat = at' + (4 * k + 2) := by omega
      have t3 : ((at' : Int) + 4 * (k : Int) + 3).toNat = at' + (4 * k + 3) := by omega
      have e4 := IntWalk.i64_in (4 * (k : Int)) (by omega)
      have e0 := IntWalk.i64_in ((at' : Int) + 4 * (k : Int)) (by omega)
      have e1 := IntWalk.i64_in ((at' : Int) + 4 * (k : Int) + 1) (by omega)
      have e2 := IntWalk.i64_in ((at' : Int) + 4 * (k : Int) + 2) (by omega)
      have e3 := IntWalk.i64_in ((at' : Int) + 4 * (k : Int) + 3) (by omega)
      go_wp2_with fail
      refine wp_region_tail 31 (by kernel_rfl) (by kernel_rfl) ?_
      simp only [List.take_succ_cons, List.take_zero, List.drop_succ_cons, List.drop_zero]
      repeat still_step
      refine wpStill_nil ?_
      clear n0 n1 n2 n3 m0 m1 m2 m3 t0 t1 t2 t3 e0 e1 e2 e3 r0 r1 r2 r3 e4
      go_wp2_with (refine wpList_store_int rfl 82 (.tmp 49) (.tmp 48) rfl ⟨w.heap.size + 1, k, none⟩ (uv (word L k)) rfl rfl ⟨_, _, rfl⟩ hi41.out ⟨_, c0⟩ z0 ?_)
      go_roundw
      case rel => exact ⟨k + 1, by omega, by go_num, (heap_setCell_other _ _ _ _ (by simp)).trans zr.out, uvs_set _ gr.out, Br.drew.setCell (by simp) _, by simpa using sr⟩
      case measure => simp [intOf]; omega
    · have g16 : Hid (wr.heap[w.heap.size + 1]? = some (.cells (uvs (fill1 L 16)).toArray 93 (0, 0))) := by
        have e : k = 16 := by omega
        rw [← e]; exact gr
      clear gr
      go_wp2_with fail
      obtain ⟨wo, rfl⟩ : ∃ wo : World, wo = wr := ⟨_, rfl⟩
      go_loopw [8, 9, 10] (fun i t9 t10 wr => ∃ t : Nat, 16 ≤ t ∧ t ≤ 64 ∧ i = .int .i64 t ∧ Hid (wr.heap[w.heap.size]? = some (.cells (uvs (List.replicate 64 0)).toArray 93 (0, 0))) ∧ Hid (wr.heap[w.heap.size + 1]? = some (.cells (uvs (fill2 (fill1 L 16) (t - 16))).toArray 93 (0, 0))) ∧ Below w.heap.size w wr ∧ w.heap.size + 1 < wr.heap.size) (fun i _ _ _ => 64 - (intOf i).toNat)
      case atStart => exact ⟨16, by omega, by omega, rfl, zr, g16, Br, sr⟩
      clear g16 zr Br sr
      case round =>
        obtain ⟨t, ht16, ht64, rfl, zr, gr, Br, sr⟩ := hrel
        by_cases hlt : t < 64
        · have hlen : (fill2 (fill1 L 16) (t - 16)).length = 64 := by rw [length_fill2, length_fill1]
          have c2 := uvs_cell gr.out (i := t - 2) (by omega)
          have c15 := uvs_cell gr.out (i := t - 15) (by omega)
          have c7 := uvs_cell gr.out (i := t - 7) (by omega)
          have c16 := uvs_cell gr.out (i := t - 16) (by omega)
          have c0 := uvs_cell gr.out (i := t) (by omega)
          have z0 := uvs_frozen (i := t) gr.out
          have hnext : fill2 (fill1 L 16) (t + 1 - 16) = (fill2 (fill1 L 16) (t - 16)).set t (sched (fill2 (fill1 L 16) (t - 16)) t) := by
            rw [show t + 1 - 16 = (t - 16) + 1 by omega]
            show (fill2 (fill1 L 16) (t - 16)).set (16 + (t - 16)) (sched _ (16 + (t - 16))) = _
            rw [show 16 + (t - 16) = t by omega]
          have HN := Lib.hid hnext
          clear hlen hnext
          have k0 : (0 : Int) ≤ (t : Int) := by omega
          have k1 : (t : Int) < 64 := by omega
          have s7 : (7 : Int) ≤ (t : Int) := by omega
          have s16 : (16 : Int) ≤ (t : Int) := by omega
          have n2 : (0 : Int) ≤ (t : Int) - 2 := by omega
          have m2 : (t : Int) - 2 < 64 := by omega
          have t2 : ((t : Int) - 2).toNat = t - 2 := by omega
          have e2 := IntWalk.i64_in ((t : Int) - 2) (by omega)
          have n15 : (0 : Int) ≤ (t : Int) - 15 := by omega
          have m15 : (t : Int) - 15 < 64 := by omega
          have t15 : ((t : Int) - 15).toNat = t - 15 := by omega
          have e15 := IntWalk.i64_in ((t : Int) - 15) (by omega)
          have n7 : (0 : Int) ≤ (t : Int) - 7 := by omega
          have m7 : (t : Int) - 7 < 64 := by omega
          have t7 : ((t : Int) - 7).toNat = t - 7 := by omega
          have e7 := IntWalk.i64_in ((t : Int) - 7) (by omega)
          have n16 : (0 : Int) ≤ (t : Int) - 16 := by omega
          have m16 : (t : Int) - 16 < 64 := by omega
          have t16 : ((t : Int) - 16).toNat = t - 16 := by omega
          have e16 := IntWalk.i64_in ((t : Int) - 16) (by omega)
          go_wp2_with fail
          refine wp_region_class (fun q => wr.drewN q) (by kernel_rfl) (by kernel_rfl) ⟨1, rfl⟩ ?_
          iterate 4 (go_big_quiet_step (fail))
          go_big_quiet_step (exact Calls.quiet_of_same (turn_17 _ _))
          iterate 4 (go_big_quiet_step (fail))
          go_big_quiet_step (exact Calls.quiet_of_same (turn_19 _ _))
          repeat (go_big_quiet_step (fail))
          refine wpQuiet_nil ?_
          rintro _ ⟨nq, rfl⟩
          go_wp2_with fail
          refine wp_region_class (fun q => (wr.drewN nq).drewN q) (by kernel_rfl) (by kernel_rfl) ⟨1, rfl⟩ ?_
          iterate 4 (go_big_quiet_step (fail))
          go_big_quiet_step (exact (turn_7 _ _).mono fun _ _ h => ⟨h.1, _, h.2⟩)
          iterate 4 (go_big_quiet_step (fail))
          go_big_quiet_step (exact (turn_18 _ _).mono fun _ _ h => ⟨h.1, _, h.2⟩)
          repeat (go_big_quiet_step (fail))
          refine wpQuiet_nil ?_
          rintro _ ⟨nr, rfl⟩
          go_wp2_with fail
          refine wp_region_tail 15 (by kernel_rfl) (by kernel_rfl) ?_
          simp only [List.take_succ_cons, List.take_zero, List.drop_succ_cons, List.drop_zero]
          repeat still_step
          refine wpStill_nil ?_
          clear n2 m2 t2 e2 n15 m15 t15 e15 n7 m7 t7 e7 n16 m16 t16 e16 c2 c15 c7 c16
          go_wp2_with (refine wpList_store_int rfl 82 (.tmp 102) (.tmp 101) rfl ⟨w.heap.size + 1, t, none⟩ (uv (sched (fill2 (fill1 L 16) (t - 16)) t)) rfl rfl ⟨_, _, rfl⟩ hi41.out ⟨_, c0⟩ z0 ?_)
          go_roundw
          case rel => exact ⟨t + 1, by omega, by omega, by go_num, (heap_setCell_other _ _ _ _ (by simp)).trans zr.out, by rw [HN.out]; exact uvs_set _ gr.out, (below_drewN Br _).setCell (by simp) _, by simp [World.setCell]; exact sr⟩
          case measure => simp [intOf]; omega
        · obtain ⟨ws, HW, g48⟩ : ∃ ws : List UInt32, Box (fill2 (fill1 L 16) 48 = ws ∧ ws.length = 64) ∧ Hid (wr.heap[w.heap.size + 1]? = some (.cells (uvs ws).toArray 93 (0, 0))) := by
            have e : t - 16 = 48 := by omega
            rw [e] at gr
            exact ⟨_, ⟨rfl, by rw [length_fill2, length_fill1]⟩, gr⟩
          clear gr
          have hi : Hid ((Tryd.prog.info? 93).map (·.size) = some (uvs ws).toArray.size) := by
            unfold Hid
            rw [hi93.out]; simp [HW.out.2]
          have hss : Hid ((uvs (List.replicate 64 0)).toArray.size = (uvs ws).toArray.size) := by
            unfold Hid
            simp [HW.out.2]
          have hall : Hid ((uvs ws).toArray.all (·.oneCell') = true) := uvs_all ws
          go_wp2_with (first
            | ((with_reducible refine arm_row 93 (.tmp 5) ?_ rfl (w.heap.size + 1) ?_ 93 (uvs ws).toArray (0, 0) _ g48.out Tryd.underlying93 rfl hi.out ?_); rfl; rfl)
            | ((with_reducible refine wpList_store_row ?_ 93 (.tmp 4) (.tmp 103) ?_ w.heap.size (uvs (List.replicate 64 0)).toArray (uvs ws).toArray 93 ?_ ?_ zr.out hss.out hi.out hall.out ?_); rfl; rfl; rfl; rfl))
          intro w4 g4 G4
          go_wp2
          exact bodyPost_ret (v := .agg (uvs ws).toArray) (results_cell_row (p := 4) (ty := 93) rfl _ _ w.heap.size 93 _ (0, 0) _ rfl g4.out Tryd.underlying93 rfl hi.out) rfl ⟨by rw [HW.out.1], Br.grown G4 Br.size (fun k hk => by cases hk; omega)⟩
end Go.Proofs.YteiepenanffhcaaDoor

/- The state behind a block: the walk of ledgerref1.behind. -/
namespace Go.Proofs.YteiepenanffhcaaDoor
open Go Go.RowKit
set_option linter.unusedVariables false

theorem pick_eq (e f g : UInt32) : (e &&& f) ^^^ (~~~ e &&& g) = g ^^^ (e &&& (f ^^^ g)) := by
  apply UInt32.toBitVec_inj.1
  simp only [UInt32.toBitVec_xor, UInt32.toBitVec_and, UInt32.toBitVec_not]
  apply BitVec.eq_of_getElem_eq
  intro i hi
  simp only [BitVec.getElem_xor, BitVec.getElem_and, BitVec.getElem_not]
  cases e.toBitVec[i] <;> cases f.toBitVec[i] <;> cases g.toBitVec[i] <;> rfl
theorem most_eq (a b c : UInt32) : ((a &&& b) ^^^ (a &&& c)) ^^^ (b &&& c) = (a &&& b) ||| (c &&& (a ||| b)) := by
  apply UInt32.toBitVec_inj.1
  simp only [UInt32.toBitVec_xor, UInt32.toBitVec_and, UInt32.toBitVec_or]
  apply BitVec.eq_of_getElem_eq
  intro i hi
  simp only [BitVec.getElem_xor, BitVec.getElem_and, BitVec.getElem_or]
  cases a.toBitVec[i] <;> cases b.toBitVec[i] <;> cases c.toBitVec[i] <;> rfl
/-- The reference's own form of one round. -/
def oneR (k w : UInt32) (s : S8) : UInt32 :=
  s.z + ((((s.e <<< 26) ||| (s.e >>> 6)) ^^^ ((s.e <<< 21) ||| (s.e >>> 11))) ^^^ ((s.e <<< 7) ||| (s.e >>> 25))) + ((s.e &&& s.f) ^^^ (~~~ s.e &&& s.g)) + k + w
def rndR (k w : UInt32) (s : S8) : S8 :=
  ⟨oneR k w s + ((((s.a <<< 30) ||| (s.a >>> 2)) ^^^ ((s.a <<< 19) ||| (s.a >>> 13))) ^^^ ((s.a <<< 10) ||| (s.a >>> 22))) + (((s.a &&& s.b) ^^^ (s.a &&& s.c)) ^^^ (s.b &&& s.c)), s.a, s.b, s.c, s.d + oneR k w s, s.e, s.f, s.g⟩
theorem rndR_eq (k w : UInt32) (s : S8) : rndR k w s = rnd k w s := by
  have h1 : oneR k w s = one k w s := by unfold oneR one; rw [pick_eq]
  unfold rndR rnd
  rw [h1, most_eq, UInt32.add_assoc]
  rfl

set_option maxRecDepth 100000 in
set_option maxHeartbeats 4000000 in
theorem behind_any (K ws : List UInt32) (S : S8) (w : World) (hK : K.length = 64) (hW : ws.length = 64)
    (hk : ∀ i, i < 64 → w.cell? ⟨3, i, none⟩ = some (uv (K.getD i 0))) :
    Calls Tryd.prog 62 #[.agg (uvs S.list).toArray, .agg (uvs ws).toArray] w fun e w' => e = .returned (.agg (uvs (addTo S.list (rounds K ws S 64).list 8)).toArray) ∧ Below w.heap.size w w' := by
  have hg1 : 3 < w.heap.size := block_lt_of_cell (hk 0 (by omega))
  have HW := Box.mk hW
  clear hK hW
  have hi41 : Box ((Tryd.prog.info? 82).map (·.size) = some 1) := ⟨by kernel_rfl⟩
  have hi8 : ∀ R : List UInt32, R.length = 8 → Hid ((Tryd.prog.info? 83).map (·.size) = some (uvs R).toArray.size) := fun R hR => by
    unfold Hid
    have h : (Tryd.prog.info? 83).map (·.size) = some 8 := by kernel_rfl
    rw [h]; simp [hR]
  have hss : ∀ R R' : List UInt32, R.length = 8 → R'.length = 8 → Hid ((uvs R).toArray.size = (uvs R').toArray.size) := fun R R' h h' => by
    unfold Hid; simp [h, h']
  have hz8 : ∀ W : World, (zeroValue 83).run Tryd.prog W = .ok (.agg (uvs (List.replicate 8 0)).toArray) W := fun W => by kernel_rfl
  go_enter Tryd.func62, Tryd.ntmps62
  go_upto_region 1 with fail
  refine wp_anyWorld (fun W => Box (W.heap[w.heap.size]? = some (.cells (uvs S.list).toArray 83 (0, 0))) ∧ Box (W.heap[w.heap.size + 1]? = some (.cells (uvs ws).toArray 93 (0, 0))) ∧ Box (W.heap[w.heap.size + 1 + 1]? = some (.cells (uvs (List.replicate 8 0)).toArray 83 (0, 0))) ∧ Below w.heap.size w W ∧ w.heap.size + 3 = W.heap.size)
    ⟨⟨heap_old (heap_old (heap_new rfl))⟩, ⟨heap_old (heap_new (by simp))⟩, ⟨heap_new (by simp)⟩, ((Below.refl_alloc w _).alloc (by simp) _).alloc (by simp; omega) _, by simp⟩ ?_
  rintro W ⟨A0, A1, A2, B0, s0⟩
  have hw := HW.out
  go_wp2_with (first
    | ((with_reducible refine arm_row 83 (.tmp 2) ?_ rfl (w.heap.size) ?_ 83 (uvs S.list).toArray (0, 0) _ A0.out Tryd.underlying83 rfl (hi8 _ rfl).out ?_); rfl; rfl)
    | ((with_reducible refine wpList_store_row ?_ 83 (.tmp 5) (.tmp 13) ?_ W.heap.size (uvs (List.replicate 8 0)).toArray (uvs S.list).toArray 83 ?_ ?_ ?_ (hss _ _ rfl rfl).out (hi8 _ rfl).out (uvs_all _) ?_); rfl; rfl; rfl; rfl; exact heap_new rfl))
  intro w4 g4 G4
  have B4 : Below W.heap.size W w4 := (Below.refl_alloc W _).grown G4 (by simp) (fun k hk => by cases hk; omega)
  have s4 : W.heap.size < w4.heap.size := heap_lt g4.out
  have b4 : Below w.heap.size w w4 := B0.trans (B4.mono (by omega))
  have q0 := Box.mk ((B4.block _ (by omega)).trans A0.out)
  have q1 := Box.mk ((B4.block _ (by omega)).trans A1.out)
  have q2 := Box.mk ((B4.block _ (by omega)).trans A2.out)
  clear A0 A1 A2 B4 B0 G4 hw
  have g5 := Box.mk (show w4.heap[W.heap.size]? = some (.cells (uvs S.list).toArray 83 (0, 0)) from g4.out)
  clear g4
  go_wp2_with fail
  go_loopw [6, 7, 8, 9, 10, 11] (fun i t7 t8 t9 t10 t11 wr => ∃ j : Nat, j ≤ 64 ∧ i = .int .i64 j ∧ Box (wr.heap[W.heap.size]? = some (.cells (uvs (rounds K ws S j).list).toArray 83 (0, 0))) ∧
     Box (wr.heap[w.heap.size]? = some (.cells (uvs S.list).toArray 83 (0, 0))) ∧ Box (wr.heap[w.heap.size + 1]? = some (.cells (uvs ws).toArray 93 (0, 0))) ∧ Box (wr.heap[w.heap.size + 1 + 1]? = some (.cells (uvs (List.replicate 8 0)).toArray 83 (0, 0))) ∧ Below w.heap.size w wr ∧ W.heap.size < wr.heap.size) (fun i _ _ _ _ _ _ => 64 - (intOf i).toNat)
  case atStart => exact ⟨0, by omega, rfl, g5, q0, q1, q2, b4, s4⟩
  clear g5 q0 q1 q2 b4 s4
  case round =>
    obtain ⟨j, hj, rfl, g5, q0, q1, q2, br, sr⟩ := hrel
    generalize hS : rounds K ws S j = R at g5
    have HSj := Box.mk hS
    clear hS
    by_cases hlt : j < 64
    · have cW := uvs_cell q1.out (i := j) (by rw [HW.out]; exact hlt)
      have cK := (br.cell (p := ⟨3, j, none⟩) hg1).trans (hk j hlt)
      have k0 : (0 : Int) ≤ (j : Int) := by omega
      have k1 : (j : Int) < 64 := by omega
      have c0 : wr.cell? ⟨W.heap.size, 0, none⟩ = some (uv R.a) := uvs_cell g5.out (i := 0) (by simp [S8.list])
      have c1 : wr.cell? ⟨W.heap.size, 1, none⟩ = some (uv R.b) := uvs_cell g5.out (i := 1) (by simp [S8.list])
      have c2 : wr.cell? ⟨W.heap.size, 2, none⟩ = some (uv R.c) := uvs_cell g5.out (i := 2) (by simp [S8.list])
      have c3 : wr.cell? ⟨W.heap.size, 3, none⟩ = some (uv R.d) := uvs_cell g5.out (i := 3) (by simp [S8.list])
      have c4 : wr.cell? ⟨W.heap.size, 4, none⟩ = some (uv R.e) := uvs_cell g5.out (i := 4) (by simp [S8.list])
      have c5 : wr.cell? ⟨W.heap.size, 5, none⟩ = some (uv R.f) := uvs_cell g5.out (i := 5) (by simp [S8.list])
      have c6 : wr.cell? ⟨W.heap.size, 6, none⟩ = some (uv R.g) := uvs_cell g5.out (i := 6) (by simp [S8.list])
      have c7 : wr.cell? ⟨W.heap.size, 7, none⟩ = some (uv R.z) := uvs_cell g5.out (i := 7) (by simp [S8.list])
      go_wp2_with fail
      refine wp_region_class (fun q => wr.drewN q) (by kernel_rfl) (by kernel_rfl) ⟨1, rfl⟩ ?_
      iterate 2 (go_big_quiet_step (fail))
      go_big_quiet_step (exact Calls.quiet_of_same (turn_6 _ _))
      iterate 2 (go_big_quiet_step (fail))
      go_big_quiet_step (exact Calls.quiet_of_same (turn_11 _ _))
      iterate 3 (go_big_quiet_step (fail))
      go_big_quiet_step (exact Calls.quiet_of_same (turn_25 _ _))
      repeat (go_big_quiet_step (fail))
      refine wpQuiet_nil ?_
      rintro _ ⟨nq, rfl⟩
      go_wp2_with fail
      refine wp_region_class (fun q => (wr.drewN nq).drewN q) (by kernel_rfl) (by kernel_rfl) ⟨1, rfl⟩ ?_
      repeat (go_big_quiet_step (fail))
      refine wpQuiet_nil ?_
      rintro _ ⟨nr, rfl⟩
      go_wp2_with fail
      refine wp_region_class (fun q => (wr.drewN nq).drewN q) (by kernel_rfl) (by kernel_rfl) ⟨nr + 1, rfl⟩ ?_
      iterate 2 (go_big_quiet_step (fail))
      go_big_quiet_step (exact (turn_2 _ _).mono fun _ _ h => ⟨h.1, _, h.2⟩)
      iterate 2 (go_big_quiet_step (fail))
      go_big_quiet_step (exact (turn_13 _ _).mono fun _ _ h => ⟨h.1, _, h.2⟩)
      iterate 3 (go_big_quiet_step (fail))
      go_big_quiet_step (exact (turn_22 _ _).mono fun _ _ h => ⟨h.1, _, h.2⟩)
      repeat (go_big_quiet_step (fail))
      refine wpQuiet_nil ?_
      rintro _ ⟨nt, rfl⟩
      have HG : Box ((wr.drewN (nq + nt)).heap[W.heap.size]? = some (.cells (uvs R.list).toArray 83 (0, 0))) := ⟨g5.out⟩
      go_wp2_with ((with_reducible refine wpList_store_row ?_ 83 (.tmp 5) (.tmp 104) ?_ W.heap.size (uvs R.list).toArray (uvs (rndR (K.getD j 0) (ws.getD j 0) R).list).toArray 83 ?_ ?_ HG.out (hss _ _ rfl rfl).out (hi8 _ rfl).out (uvs_all _) ?_); rfl; rfl; rfl; rfl)
      intro w5 e5 E5
      clear c0 c1 c2 c3 c4 c5 c6 c7 cW cK HG
      rw [rndR_eq] at e5
      have b5 := Box.mk ((below_drewN br (nq + nt)).grown E5 (below_drewN br (nq + nt)).size (fun k hk => by cases hk; omega))
      have s5 := Box.mk (Nat.lt_of_lt_of_le sr E5.size)
      have p0 := Box.mk ((E5.block w.heap.size (by show _ < wr.heap.size; omega) (by simp; omega)).trans q0.out)
      have p1 := Box.mk ((E5.block (w.heap.size + 1) (by show _ < wr.heap.size; omega) (by simp; omega)).trans q1.out)
      have p2 := Box.mk ((E5.block (w.heap.size + 1 + 1) (by show _ < wr.heap.size; omega) (by simp; omega)).trans q2.out)
      have e6 := Box.mk (show w5.heap[W.heap.size]? = some (.cells (uvs (rnd (K.getD j 0) (ws.getD j 0) R).list).toArray 83 (0, 0)) from e5.out)
      clear e5 E5 q0 q1 q2 br sr g5
      go_wp2
      go_roundw
      case rel =>
        refine ⟨j + 1, by omega, by go_num, ?_, p0, p1, p2, b5.out, s5.out⟩
        have e : rounds K ws S (j + 1) = rnd (K.getD j 0) (ws.getD j 0) R := by rw [← HSj.out]; rfl
        rw [e]
        exact e6
      case measure => simp [intOf]; omega
    · have hS64 : Box (rounds K ws S 64 = R) := by
        have e : j = 64 := by omega
        exact ⟨by rw [← e]; exact HSj.out⟩
      clear hk HSj
      have b6 := Box.mk br
      have s6 := Box.mk sr
      go_wp2_with fail
      obtain ⟨wo2, rfl⟩ : ∃ wo2 : World, wo2 = wr := ⟨_, rfl⟩
      go_loopw [12] (fun i wr => ∃ m : Nat, m ≤ 8 ∧ i = .int .i64 m ∧ Box (wr.heap[W.heap.size]? = some (.cells (uvs (addTo S.list R.list m)).toArray 83 (0, 0))) ∧
        Box (wr.heap[w.heap.size]? = some (.cells (uvs S.list).toArray 83 (0, 0))) ∧ Box (wr.heap[w.heap.size + 1 + 1]? = some (.cells (uvs (List.replicate 8 0)).toArray 83 (0, 0))) ∧ Below w.heap.size w wr ∧ W.heap.size < wr.heap.size) (fun i _ => 8 - (intOf i).toNat)
      case atStart => exact ⟨0, by omega, rfl, g5, q0, q2, b6.out, s6.out⟩
      clear g5 q0 q1 q2 br sr b6 s6
      case round =>
        obtain ⟨m, hm, rfl, g5, q0, q2, br, sr⟩ := hrel
        have hla := length_addTo S.list R.list m
        have h8 : R.list.length = 8 := rfl
        by_cases hlt : m < 8
        · have cs := uvs_cell g5.out (i := m) (by rw [hla, h8]; exact hlt)
          have cv := uvs_cell q0.out (i := m) (by exact hlt)
          have zs := uvs_frozen (i := m) g5.out
          clear hla h8
          have k0 : (0 : Int) ≤ (m : Int) := by omega
          have k1 : (m : Int) < 8 := by omega
          go_wp2_with fail
          refine wp_region_tail 8 (by kernel_rfl) (by kernel_rfl) ?_
          simp only [List.take_succ_cons, List.take_zero, List.drop_succ_cons, List.drop_zero]
          repeat still_step
          refine wpStill_nil ?_
          go_wp2_with (refine wpList_store_int rfl 82 (.tmp 117) (.tmp 116) rfl ⟨W.heap.size, m, none⟩ (uv ((addTo S.list R.list m).getD m 0 + S.list.getD m 0)) rfl rfl ⟨_, _, rfl⟩ hi41.out ⟨_, cs⟩ zs ?_)
          go_roundw
          case rel => exact ⟨m + 1, by omega, by go_num, ⟨uvs_set _ g5.out⟩, ⟨(heap_setCell_other _ _ _ _ (by simp; omega)).trans q0.out⟩, ⟨(heap_setCell_other _ _ _ _ (by simp; omega)).trans q2.out⟩, br.drew.setCell (by simp; omega) _, by simp [World.setCell]; exact sr⟩
          case measure => simp [intOf]; omega
        · have e8 : m = 8 := by omega
          subst e8
          have ha := length_addTo S.list R.list 8
          generalize hFF : addTo S.list R.list 8 = F at *
          have HFF := Box.mk hFF
          clear hFF
          have hF := Box.mk (show F.length = 8 from ha)
          clear ha hla
          go_wp2_with (first
            | ((with_reducible refine arm_row 83 (.tmp 5) ?_ rfl (W.heap.size) ?_ 83 (uvs F).toArray (0, 0) _ g5.out Tryd.underlying83 rfl (hi8 _ hF.out).out ?_); rfl; rfl)
            | ((with_reducible refine wpList_store_row ?_ 83 (.tmp 4) (.tmp 118) ?_ (w.heap.size + 1 + 1) (uvs (List.replicate 8 0)).toArray (uvs F).toArray 83 ?_ ?_ q2.out (hss _ _ rfl hF.out).out (hi8 _ hF.out).out (uvs_all _) ?_); rfl; rfl; rfl; rfl))
          intro w7 g7 G7
          go_wp2
          exact bodyPost_ret (v := .agg (uvs F).toArray) (results_cell_row (p := 4) (ty := 83) rfl _ _ (w.heap.size + 1 + 1) 83 _ (0, 0) _ rfl g7.out Tryd.underlying83 rfl (hi8 _ hF.out).out) rfl ⟨by rw [hS64.out, HFF.out], br.grown G7 br.size (fun k hk => by cases hk; omega)⟩
end Go.Proofs.YteiepenanffhcaaDoor

namespace Go.Proofs.YteiepenanffhcaaDoor
open Go Go.RowKit

/-- A digest cut to its first bytes. -/
def cutD (d : D32) (width : Int) : D32 := ⟨d.1.take (wid width) ++ List.replicate (32 - wid width) 0, by
  have := wid_le width; have := d.2; rw [List.length_append, List.length_take, List.length_replicate]; omega⟩

theorem splice_cut (d : List UInt8) (c : Nat) (hd : c ≤ d.length) : splice (bvs (List.replicate 32 0)) 0 (bvs (d.take c)) = bvs (d.take c ++ List.replicate (32 - c) 0) := by
  unfold splice
  rw [bvs_append, List.take_zero, List.nil_append, length_bvs, List.length_take, Nat.min_eq_left hd, Nat.zero_add, bvs, bvs, bvs, List.map_replicate, List.map_replicate, List.drop_replicate]

set_option maxHeartbeats 800000 in
theorem cut_any (d : D32) (width : Int) (w : World) :
    Calls Tryd.prog 42 #[.agg (dc d), .int .i64 width] w fun e w' => e = .returned (.agg (dc (cutD d width))) ∧ Below w.heap.size w w' := by
  have hal : Tryd.prog.arrayLen 27 = 32 := by kernel_rfl
  have hc := wid_eq width
  have hc32 := wid_le width
  have hcut : dc (cutD d width) = (bvs (d.1.take (wid width) ++ List.replicate (32 - wid width) 0)).toArray := rfl
  rw [hcut]
  generalize wid width = c at hc hc32 ⊢
  have hd := d.2
  have hu : Tryd.prog.underlying 28 = some (.slice 5) := Tryd.underlying28
  have hsz : Hid ((Tryd.prog.info? 5).map (·.size) = some 1) := by unfold Hid; kernel_rfl
  have key : (width < 0 ∧ c ≤ 0) ∨ (0 ≤ width ∧ width ≤ 32 ∧ (c : Int) = width) ∨ (32 < width ∧ 32 ≤ c) := by unfold clamp at hc; omega
  clear hc hcut
  have hlt : (d.1.take c).length = c := by simp [hd, hc32]
  have hl : (d.1.take c ++ List.replicate (32 - c) 0).length = 32 := by rw [List.length_append, hlt]; simp; omega
  have hi30 : Hid ((Tryd.prog.info? 27).map (·.size) = some (bvs (d.1.take c ++ List.replicate (32 - c) 0)).toArray.size) := by
    have h : (Tryd.prog.info? 27).map (·.size) = some 32 := by kernel_rfl
    unfold Hid; rw [h]; simp only [List.size_toArray, length_bvs, hl]
  have hold : Hid ((bvs (List.replicate 32 0)).toArray.size = (bvs (d.1.take c ++ List.replicate (32 - c) 0)).toArray.size) := by
    unfold Hid; simp only [List.size_toArray, length_bvs, hl, List.length_replicate]
  have hfit : 0 + (d.1.take c).length ≤ (bvs (List.replicate 32 0)).length := by rw [hlt]; simpa using hc32
  have HD := Lib.hid hd
  have HLT := Lib.hid hlt
  have hlt1 : (d.1.take c).length ≤ c := by omega
  have hlt2 : c ≤ (d.1.take c).length := by omega
  clear hd hl hlt
  rcases key with ⟨h1, h2⟩ | ⟨h1, h2, rfl⟩ | ⟨h1, h2⟩
  all_goals
    go_enter Tryd.func42, Tryd.ntmps42
    go_wp2_with (fail)
    refine wp_anyWorld (fun W => Hid (W.heap[w.heap.size]? = some (.cells (dc d) 27 (0, 0))) ∧ Hid (W.heap[w.heap.size + 1]? = some (.cells (bvs (List.replicate 32 0)).toArray 27 (0, 0))) ∧
      Hid (W.heap[w.heap.size + 1 + 1]? = some (.cells (bvs (List.replicate 32 0)).toArray 27 (0, 0))) ∧ Below w.heap.size w W)
      ⟨heap_old (heap_old (heap_new rfl)), heap_old (heap_new (by simp)), heap_new (by simp), (((Below.refl _ w).alloc (Nat.le_refl _) _).alloc (by simp) _).alloc (by simp; omega) _⟩ ?_
    rintro W ⟨g0, g1, g2, hb⟩
    have hrd : Row W.drew (some ⟨w.heap.size, 0, none⟩) (d.1.take c).length (d.1.take c) := by
      rw [HLT.out]; exact (Row.of_row (l := d.1) (w := W.drew) (e := 27) (fr := (0, 0)) g0.out).take c (by rw [HD.out]; exact hc32)
    go_region_law (refine step_copy_bytes rfl (.tmp 10) (.tmp 12) 28 28 rfl hu hsz.out (some ⟨w.heap.size + 1 + 1, 0, none⟩) (some ⟨w.heap.size, 0, none⟩) _ 32 _ 32 rfl rfl (w.heap.size + 1 + 1) 0 (bvs (List.replicate 32 0)) 27 (by exact g2.out) (d.1.take c) (by simp only [Nat.min_def]; split <;> omega) (fun _ => rfl) hrd hfit ?_; intro w2 g3 hg2)
    have hb2 := hb.drew.grown hg2 hb.size (fun k hk => by cases hk; omega)
    have g4 : Hid (w2.heap[w.heap.size + 1]? = some (.cells (bvs (List.replicate 32 0)).toArray 27 (0, 0))) := (hg2.block _ (heap_lt g1.out) (by simp)).trans g1.out
    have g5 : Hid (w2.heap[w.heap.size + 1 + 1]? = some (.cells (bvs (d.1.take c ++ List.replicate (32 - c) 0)).toArray 27 (0, 0))) := by
      have := g3.out
      rw [splice_cut d.1 c (by rw [HD.out]; exact hc32)] at this
      exact this
    clear hrd g0 g1 g2 g3 hb hg2
    go_wp2_with (first
      | (refine wpList_load_row rfl 27 (.tmp 5) rfl (w.heap.size + 1 + 1) rfl 27 _ (0, 0) _ g5.out Tryd.underlying27 rfl hi30.out ?_)
      | (refine wpList_store_row rfl 27 (.tmp 4) (.tmp 14) rfl (w.heap.size + 1) _ _ 27 rfl rfl g4.out hold.out hi30.out (bvs_all _) ?_; intro w3 g6 hg3))
    have hb3 := hb2.grown hg3 hb2.size (fun k hk => by cases hk; omega)
    go_wp2
    exact bodyPost_ret (v := .agg (bvs (d.1.take c ++ List.replicate (32 - c) 0)).toArray) (results_cell_row (p := 4) (ty := 27) rfl _ _ (w.heap.size + 1) 27 _ (0, 0) _ rfl g6.out Tryd.underlying27 rfl hi30.out) rfl ⟨rfl, hb3⟩
end Go.Proofs.YteiepenanffhcaaDoor
