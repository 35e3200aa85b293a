/- The state behind a block: the walk of ledgerref1.behind. -/
import Derived.Test.YteiepenanffhcaaDoorRWords
namespace Go.Proofs.YteiepenanffhcaaDoor
open Go Go.RowKit
set_option linter.unusedVariables false

theorem pick_eq (e f g : UInt32) : (e &&& f) ^^^ (~~~ e &&& g) = g ^^^ (e &&& (f ^^^ g)) := by
  apply UInt32.toBitVec_inj.1
  simp only [UInt32.toBitVec_xor, UInt32.toBitVec_and, UInt32.toBitVec_not]
  apply BitVec.eq_of_getElem_eq
  intro i hi
  simp only [BitVec.getElem_xor, BitVec.getElem_and, BitVec.getElem_not]
  cases e.toBitVec[i] <;> cases f.toBitVec[i] <;> cases g.toBitVec[i] <;> rfl
theorem most_eq (a b c : UInt32) : ((a &&& b) ^^^ (a &&& c)) ^^^ (b &&& c) = (a &&& b) ||| (c &&& (a ||| b)) := by
  apply UInt32.toBitVec_inj.1
  simp only [UInt32.toBitVec_xor, UInt32.toBitVec_and, UInt32.toBitVec_or]
  apply BitVec.eq_of_getElem_eq
  intro i hi
  simp only [BitVec.getElem_xor, BitVec.getElem_and, BitVec.getElem_or]
  cases a.toBitVec[i] <;> cases b.toBitVec[i] <;> cases c.toBitVec[i] <;> rfl
/-- The reference's own form of one round. -/
def oneR (k w : UInt32) (s : S8) : UInt32 :=
  s.z + ((((s.e <<< 26) ||| (s.e >>> 6)) ^^^ ((s.e <<< 21) ||| (s.e >>> 11))) ^^^ ((s.e <<< 7) ||| (s.e >>> 25))) + ((s.e &&& s.f) ^^^ (~~~ s.e &&& s.g)) + k + w
def rndR (k w : UInt32) (s : S8) : S8 :=
  ⟨oneR k w s + ((((s.a <<< 30) ||| (s.a >>> 2)) ^^^ ((s.a <<< 19) ||| (s.a >>> 13))) ^^^ ((s.a <<< 10) ||| (s.a >>> 22))) + (((s.a &&& s.b) ^^^ (s.a &&& s.c)) ^^^ (s.b &&& s.c)), s.a, s.b, s.c, s.d + oneR k w s, s.e, s.f, s.g⟩
theorem rndR_eq (k w : UInt32) (s : S8) : rndR k w s = rnd k w s := by
  have h1 : oneR k w s = one k w s := by unfold oneR one; rw [pick_eq]
  unfold rndR rnd
  rw [h1, most_eq, UInt32.add_assoc]
  rfl

set_option maxRecDepth 100000 in
set_option maxHeartbeats 4000000 in
theorem behind_any (K ws : List UInt32) (S : S8) (w : World) (hK : K.length = 64) (hW : ws.length = 64)
    (hk : ∀ i, i < 64 → w.cell? ⟨3, i, none⟩ = some (uv (K.getD i 0))) :
    Calls Tryd.prog 62 #[.agg (uvs S.list).toArray, .agg (uvs ws).toArray] w fun e w' => e = .returned (.agg (uvs (addTo S.list (rounds K ws S 64).list 8)).toArray) ∧ Below w.heap.size w w' := by
  have hg1 : 3 < w.heap.size := block_lt_of_cell (hk 0 (by omega))
  have HW := Box.mk hW
  clear hK hW
  have hi41 : Box ((Tryd.prog.info? 82).map (·.size) = some 1) := ⟨by kernel_rfl⟩
  have hi8 : ∀ R : List UInt32, R.length = 8 → Hid ((Tryd.prog.info? 83).map (·.size) = some (uvs R).toArray.size) := fun R hR => by
    unfold Hid
    have h : (Tryd.prog.info? 83).map (·.size) = some 8 := by kernel_rfl
    rw [h]; simp [hR]
  have hss : ∀ R R' : List UInt32, R.length = 8 → R'.length = 8 → Hid ((uvs R).toArray.size = (uvs R').toArray.size) := fun R R' h h' => by
    unfold Hid; simp [h, h']
  have hz8 : ∀ W : World, (zeroValue 83).run Tryd.prog W = .ok (.agg (uvs (List.replicate 8 0)).toArray) W := fun W => by kernel_rfl
  go_enter Tryd.func62, Tryd.ntmps62
  go_upto_region 1 with fail
  refine wp_anyWorld (fun W => Box (W.heap[w.heap.size]? = some (.cells (uvs S.list).toArray 83 (0, 0))) ∧ Box (W.heap[w.heap.size + 1]? = some (.cells (uvs ws).toArray 93 (0, 0))) ∧ Box (W.heap[w.heap.size + 1 + 1]? = some (.cells (uvs (List.replicate 8 0)).toArray 83 (0, 0))) ∧ Below w.heap.size w W ∧ w.heap.size + 3 = W.heap.size)
    ⟨⟨heap_old (heap_old (heap_new rfl))⟩, ⟨heap_old (heap_new (by simp))⟩, ⟨heap_new (by simp)⟩, ((Below.refl_alloc w _).alloc (by simp) _).alloc (by simp; omega) _, by simp⟩ ?_
  rintro W ⟨A0, A1, A2, B0, s0⟩
  have hw := HW.out
  go_wp2_with (first
    | ((with_reducible refine arm_row 83 (.tmp 2) ?_ rfl (w.heap.size) ?_ 83 (uvs S.list).toArray (0, 0) _ A0.out Tryd.underlying83 rfl (hi8 _ rfl).out ?_); rfl; rfl)
    | ((with_reducible refine wpList_store_row ?_ 83 (.tmp 5) (.tmp 13) ?_ W.heap.size (uvs (List.replicate 8 0)).toArray (uvs S.list).toArray 83 ?_ ?_ ?_ (hss _ _ rfl rfl).out (hi8 _ rfl).out (uvs_all _) ?_); rfl; rfl; rfl; rfl; exact heap_new rfl))
  intro w4 g4 G4
  have B4 : Below W.heap.size W w4 := (Below.refl_alloc W _).grown G4 (by simp) (fun k hk => by cases hk; omega)
  have s4 : W.heap.size < w4.heap.size := heap_lt g4.out
  have b4 : Below w.heap.size w w4 := B0.trans (B4.mono (by omega))
  have q0 := Box.mk ((B4.block _ (by omega)).trans A0.out)
  have q1 := Box.mk ((B4.block _ (by omega)).trans A1.out)
  have q2 := Box.mk ((B4.block _ (by omega)).trans A2.out)
  clear A0 A1 A2 B4 B0 G4 hw
  have g5 := Box.mk (show w4.heap[W.heap.size]? = some (.cells (uvs S.list).toArray 83 (0, 0)) from g4.out)
  clear g4
  go_wp2_with fail
  go_loopw [6, 7, 8, 9, 10, 11] (fun i t7 t8 t9 t10 t11 wr => ∃ j : Nat, j ≤ 64 ∧ i = .int .i64 j ∧ Box (wr.heap[W.heap.size]? = some (.cells (uvs (rounds K ws S j).list).toArray 83 (0, 0))) ∧
     Box (wr.heap[w.heap.size]? = some (.cells (uvs S.list).toArray 83 (0, 0))) ∧ Box (wr.heap[w.heap.size + 1]? = some (.cells (uvs ws).toArray 93 (0, 0))) ∧ Box (wr.heap[w.heap.size + 1 + 1]? = some (.cells (uvs (List.replicate 8 0)).toArray 83 (0, 0))) ∧ Below w.heap.size w wr ∧ W.heap.size < wr.heap.size) (fun i _ _ _ _ _ _ => 64 - (intOf i).toNat)
  case atStart => exact ⟨0, by omega, rfl, g5, q0, q1, q2, b4, s4⟩
  clear g5 q0 q1 q2 b4 s4
  case round =>
    obtain ⟨j, hj, rfl, g5, q0, q1, q2, br, sr⟩ := hrel
    generalize hS : rounds K ws S j = R at g5
    have HSj := Box.mk hS
    clear hS
    by_cases hlt : j < 64
    · have cW := uvs_cell q1.out (i := j) (by rw [HW.out]; exact hlt)
      have cK := (br.cell (p := ⟨3, j, none⟩) hg1).trans (hk j hlt)
      have k0 : (0 : Int) ≤ (j : Int) := by omega
      have k1 : (j : Int) < 64 := by omega
      have c0 : wr.cell? ⟨W.heap.size, 0, none⟩ = some (uv R.a) := uvs_cell g5.out (i := 0) (by simp [S8.list])
      have c1 : wr.cell? ⟨W.heap.size, 1, none⟩ = some (uv R.b) := uvs_cell g5.out (i := 1) (by simp [S8.list])
      have c2 : wr.cell? ⟨W.heap.size, 2, none⟩ = some (uv R.c) := uvs_cell g5.out (i := 2) (by simp [S8.list])
      have c3 : wr.cell? ⟨W.heap.size, 3, none⟩ = some (uv R.d) := uvs_cell g5.out (i := 3) (by simp [S8.list])
      have c4 : wr.cell? ⟨W.heap.size, 4, none⟩ = some (uv R.e) := uvs_cell g5.out (i := 4) (by simp [S8.list])
      have c5 : wr.cell? ⟨W.heap.size, 5, none⟩ = some (uv R.f) := uvs_cell g5.out (i := 5) (by simp [S8.list])
      have c6 : wr.cell? ⟨W.heap.size, 6, none⟩ = some (uv R.g) := uvs_cell g5.out (i := 6) (by simp [S8.list])
      have c7 : wr.cell? ⟨W.heap.size, 7, none⟩ = some (uv R.z) := uvs_cell g5.out (i := 7) (by simp [S8.list])
      go_wp2_with fail
      refine wp_region_class (fun q => wr.drewN q) (by kernel_rfl) (by kernel_rfl) ⟨1, rfl⟩ ?_
      iterate 2 (go_big_quiet_step (fail))
      go_big_quiet_step (exact Calls.quiet_of_same (turn_6 _ _))
      iterate 2 (go_big_quiet_step (fail))
      go_big_quiet_step (exact Calls.quiet_of_same (turn_11 _ _))
      iterate 3 (go_big_quiet_step (fail))
      go_big_quiet_step (exact Calls.quiet_of_same (turn_25 _ _))
      repeat (go_big_quiet_step (fail))
      refine wpQuiet_nil ?_
      rintro _ ⟨nq, rfl⟩
      go_wp2_with fail
      refine wp_region_class (fun q => (wr.drewN nq).drewN q) (by kernel_rfl) (by kernel_rfl) ⟨1, rfl⟩ ?_
      repeat (go_big_quiet_step (fail))
      refine wpQuiet_nil ?_
      rintro _ ⟨nr, rfl⟩
      go_wp2_with fail
      refine wp_region_class (fun q => (wr.drewN nq).drewN q) (by kernel_rfl) (by kernel_rfl) ⟨nr + 1, rfl⟩ ?_
      iterate 2 (go_big_quiet_step (fail))
      go_big_quiet_step (exact (turn_2 _ _).mono fun _ _ h => ⟨h.1, _, h.2⟩)
      iterate 2 (go_big_quiet_step (fail))
      go_big_quiet_step (exact (turn_13 _ _).mono fun _ _ h => ⟨h.1, _, h.2⟩)
      iterate 3 (go_big_quiet_step (fail))
      go_big_quiet_step (exact (turn_22 _ _).mono fun _ _ h => ⟨h.1, _, h.2⟩)
      repeat (go_big_quiet_step (fail))
      refine wpQuiet_nil ?_
      rintro _ ⟨nt, rfl⟩
      have HG : Box ((wr.drewN (nq + nt)).heap[W.heap.size]? = some (.cells (uvs R.list).toArray 83 (0, 0))) := ⟨g5.out⟩
      go_wp2_with ((with_reducible refine wpList_store_row ?_ 83 (.tmp 5) (.tmp 104) ?_ W.heap.size (uvs R.list).toArray (uvs (rndR (K.getD j 0) (ws.getD j 0) R).list).toArray 83 ?_ ?_ HG.out (hss _ _ rfl rfl).out (hi8 _ rfl).out (uvs_all _) ?_); rfl; rfl; rfl; rfl)
      intro w5 e5 E5
      clear c0 c1 c2 c3 c4 c5 c6 c7 cW cK HG
      rw [rndR_eq] at e5
      have b5 := Box.mk ((below_drewN br (nq + nt)).grown E5 (below_drewN br (nq + nt)).size (fun k hk => by cases hk; omega))
      have s5 := Box.mk (Nat.lt_of_lt_of_le sr E5.size)
      have p0 := Box.mk ((E5.block w.heap.size (by show _ < wr.heap.size; omega) (by simp; omega)).trans q0.out)
      have p1 := Box.mk ((E5.block (w.heap.size + 1) (by show _ < wr.heap.size; omega) (by simp; omega)).trans q1.out)
      have p2 := Box.mk ((E5.block (w.heap.size + 1 + 1) (by show _ < wr.heap.size; omega) (by simp; omega)).trans q2.out)
      have e6 := Box.mk (show w5.heap[W.heap.size]? = some (.cells (uvs (rnd (K.getD j 0) (ws.getD j 0) R).list).toArray 83 (0, 0)) from e5.out)
      clear e5 E5 q0 q1 q2 br sr g5
      go_wp2
      go_roundw
      case rel =>
        refine ⟨j + 1, by omega, by go_num, ?_, p0, p1, p2, b5.out, s5.out⟩
        have e : rounds K ws S (j + 1) = rnd (K.getD j 0) (ws.getD j 0) R := by rw [← HSj.out]; rfl
        rw [e]
        exact e6
      case measure => simp [intOf]; omega
    · have hS64 : Box (rounds K ws S 64 = R) := by
        have e : j = 64 := by omega
        exact ⟨by rw [← e]; exact HSj.out⟩
      clear hk HSj
      have b6 := Box.mk br
      have s6 := Box.mk sr
      go_wp2_with fail
      obtain ⟨wo2, rfl⟩ : ∃ wo2 : World, wo2 = wr := ⟨_, rfl⟩
      go_loopw [12] (fun i wr => ∃ m : Nat, m ≤ 8 ∧ i = .int .i64 m ∧ Box (wr.heap[W.heap.size]? = some (.cells (uvs (addTo S.list R.list m)).toArray 83 (0, 0))) ∧
        Box (wr.heap[w.heap.size]? = some (.cells (uvs S.list).toArray 83 (0, 0))) ∧ Box (wr.heap[w.heap.size + 1 + 1]? = some (.cells (uvs (List.replicate 8 0)).toArray 83 (0, 0))) ∧ Below w.heap.size w wr ∧ W.heap.size < wr.heap.size) (fun i _ => 8 - (intOf i).toNat)
      case atStart => exact ⟨0, by omega, rfl, g5, q0, q2, b6.out, s6.out⟩
      clear g5 q0 q1 q2 br sr b6 s6
      case round =>
        obtain ⟨m, hm, rfl, g5, q0, q2, br, sr⟩ := hrel
        have hla := length_addTo S.list R.list m
        have h8 : R.list.length = 8 := rfl
        by_cases hlt : m < 8
        · have cs := uvs_cell g5.out (i := m) (by rw [hla, h8]; exact hlt)
          have cv := uvs_cell q0.out (i := m) (by exact hlt)
          have zs := uvs_frozen (i := m) g5.out
          clear hla h8
          have k0 : (0 : Int) ≤ (m : Int) := by omega
          have k1 : (m : Int) < 8 := by omega
          go_wp2_with fail
          refine wp_region_tail 8 (by kernel_rfl) (by kernel_rfl) ?_
          simp only [List.take_succ_cons, List.take_zero, List.drop_succ_cons, List.drop_zero]
          repeat still_step
          refine wpStill_nil ?_
          go_wp2_with (refine wpList_store_int rfl 82 (.tmp 117) (.tmp 116) rfl ⟨W.heap.size, m, none⟩ (uv ((addTo S.list R.list m).getD m 0 + S.list.getD m 0)) rfl rfl ⟨_, _, rfl⟩ hi41.out ⟨_, cs⟩ zs ?_)
          go_roundw
          case rel => exact ⟨m + 1, by omega, by go_num, ⟨uvs_set _ g5.out⟩, ⟨(heap_setCell_other _ _ _ _ (by simp; omega)).trans q0.out⟩, ⟨(heap_setCell_other _ _ _ _ (by simp; omega)).trans q2.out⟩, br.drew.setCell (by simp; omega) _, by simp [World.setCell]; exact sr⟩
          case measure => simp [intOf]; omega
        · have e8 : m = 8 := by omega
          subst e8
          have ha := length_addTo S.list R.list 8
          generalize hFF : addTo S.list R.list 8 = F at *
          have HFF := Box.mk hFF
          clear hFF
          have hF := Box.mk (show F.length = 8 from ha)
          clear ha hla
          go_wp2_with (first
            | ((with_reducible refine arm_row 83 (.tmp 5) ?_ rfl (W.heap.size) ?_ 83 (uvs F).toArray (0, 0) _ g5.out Tryd.underlying83 rfl (hi8 _ hF.out).out ?_); rfl; rfl)
            | ((with_reducible refine wpList_store_row ?_ 83 (.tmp 4) (.tmp 118) ?_ (w.heap.size + 1 + 1) (uvs (List.replicate 8 0)).toArray (uvs F).toArray 83 ?_ ?_ q2.out (hss _ _ rfl hF.out).out (hi8 _ hF.out).out (uvs_all _) ?_); rfl; rfl; rfl; rfl))
          intro w7 g7 G7
          go_wp2
          exact bodyPost_ret (v := .agg (uvs F).toArray) (results_cell_row (p := 4) (ty := 83) rfl _ _ (w.heap.size + 1 + 1) 83 _ (0, 0) _ rfl g7.out Tryd.underlying83 rfl (hi8 _ hF.out).out) rfl ⟨by rw [hS64.out, HFF.out], br.grown G7 br.size (fun k hk => by cases hk; omega)⟩
end Go.Proofs.YteiepenanffhcaaDoor
