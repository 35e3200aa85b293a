/- One play of a call that is handed no list: numbersPlay at each of its kinds. -/
import Derived.Test.YteiepenanffhcaaDoorOp
import Derived.Test.YteiepenanffhcaaDoorHeld1
import Derived.Test.YteiepenanffhcaaDoorRefText
namespace Go.Proofs.YteiepenanffhcaaDoor
open Go Go.RowKit
set_option linter.unusedVariables false
theorem own_read3 {w : World} {base : Nat} {e : TypeId} {v : Value} {l : List UInt8} (h : Own w base e v l) : ∃ ao c, v = .slice ao l.length c ∧ Row w ao l.length l := by
  obtain ⟨ao2, cap2, hv, hr2, hm2, hc2, _⟩ := h.open
  exact ⟨ao2, cap2, hv, hr2⟩

set_option maxRecDepth 100000 in
set_option maxHeartbeats 4000000 in
theorem numbersPlay_texts (o : OpV) (hk : o.kind = 4) (w : World) :
    Calls Tryd.prog 15 #[.agg (opC o).toArray] w fun e w' => e = .returned (.bool true) ∧ Below w.heap.size w w' := by
  have UK : Tryd.prog.underlying 26 = some (.array 32 5) := Tryd.underlying26
  have hiK : Hid ((Tryd.prog.info? 26).map (·.size) = some 32) := by unfold Hid; kernel_rfl
  have UD : Tryd.prog.underlying 27 = some (.array 32 5) := Tryd.underlying27
  have hiD : Hid ((Tryd.prog.info? 27).map (·.size) = some 32) := by unfold Hid; kernel_rfl
  have bel0 := Below.refl_alloc w (.cells (opC o).toArray 32)
  have F0 : Box ((w.alloc (.cells (opC o).toArray 32)).heap[w.heap.size]? = some (.cells (opC o).toArray 32 (0, 0))) := ⟨heap_new rfl⟩
  have rk := Box.mk (rangeAt_cells (o := 4) F0.out (cs := bvs o.k.1) fun j hj => opC_k o j (by rwa [length_bvs, o.k.2] at hj))
  have rd := Box.mk (rangeAt_cells (o := 36) F0.out (cs := bvs o.d.1) fun j hj => opC_d o j (by rwa [length_bvs, o.d.2] at hj))
  have re := Box.mk (rangeAt_cells (o := 68) F0.out (cs := bvs o.e.1) fun j hj => opC_e o j (by rwa [length_bvs, o.e.2] at hj))
  have c0 : (w.alloc (.cells (opC o).toArray 32)).cell? ⟨w.heap.size, 0, none⟩ = some (.int .i64 4) := by rw [cell_of_row _ _ 0 _ _ _ F0.out, ← hk]; rfl
  have cc1 : Box ((w.alloc (.cells (opC o).toArray 32)).cell? ⟨w.heap.size, 1, none⟩ = some (.int .i64 o.w)) := ⟨by rw [cell_of_row _ _ 1 _ _ _ F0.out]; rfl⟩
  have cc2 : Box ((w.alloc (.cells (opC o).toArray 32)).cell? ⟨w.heap.size, 2, none⟩ = some (.int .i64 o.n)) := ⟨by rw [cell_of_row _ _ 2 _ _ _ F0.out]; rfl⟩
  have cc3 : Box ((w.alloc (.cells (opC o).toArray 32)).cell? ⟨w.heap.size, 3, none⟩ = some (.int .i64 o.m)) := ⟨by rw [cell_of_row _ _ 3 _ _ _ F0.out]; rfl⟩
  have B0 := Box.mk bel0
  have hlt := Box.mk (heap_lt F0.out)
  clear bel0 F0 hk
  generalize (opC o).toArray = cs at *
  have hA : Box (∀ W, _) := ⟨fun W => branchText_any o.w o.d o.e W⟩
  have hB : Box (∀ W, _) := ⟨fun W => rbranchText_any o.w o.d o.e W⟩
  have hT : Box ((1 :: (o.d.1.take (wid o.w) ++ o.e.1.take (wid o.w))).length = 1 + 2 * wid o.w) := ⟨by have := o.d.2; have := o.e.2; have := wid_le o.w; simp; omega⟩
  have hwl := wid_le o.w
  generalize 1 :: (o.d.1.take (wid o.w) ++ o.e.1.take (wid o.w)) = T at *
  generalize wid o.w = wo at *
  go_enter Tryd.func15, Tryd.ntmps15
  go_upto_region 1 with fail
  generalize w.alloc (.cells cs 32) = w1 at *
  go_upto_region 3 with fail
  refine held_begin (fun W => Below w1.heap.size w1 W) (by kernel_rfl) (Below.refl _ w1).drew (fun hH0 => ?_)
  refine held_take 0 (.pointer (some ⟨w.heap.size, 1, none⟩)) rfl (by kernel_rfl) (by kernel_rfl) (by kernel_rfl) (held_pure (by rfl) (fun W => by go_simp)) (by assumption) ?_
  try simp only [Act.put, List.setIfInBounds_toArray, List.set_cons_zero, List.set_cons_succ]
  refine held_take 1 (.int .i64 o.w) rfl (by kernel_rfl) (by kernel_rfl) (by kernel_rfl) (held_load1 (by rfl) 3 (.tmp 7) rfl w.heap.size 1 rfl .i64 (.int .i64 o.w) (fun W hS => (hS.cell (p := ⟨w.heap.size, 1, none⟩) hlt.out).trans cc1.out) Tryd.underlying3) (by assumption) ?_
  try simp only [Act.put, List.setIfInBounds_toArray, List.set_cons_zero, List.set_cons_succ]
  refine held_take 2 (.pointer (some ⟨w.heap.size, 36, none⟩)) rfl (by kernel_rfl) (by kernel_rfl) (by kernel_rfl) (held_pure (by rfl) (fun W => by go_simp)) (by assumption) ?_
  try simp only [Act.put, List.setIfInBounds_toArray, List.set_cons_zero, List.set_cons_succ]
  refine held_take 3 (.agg (dc o.d)) rfl (by kernel_rfl) (by kernel_rfl) (by kernel_rfl) (held_load (by rfl) 27 (.tmp 9) rfl (w.heap.size) 36 rfl o.d 5 (fun W hS => rangeAt_below rd.out hS hlt.out) UD hiD) (by assumption) ?_
  try simp only [Act.put, List.setIfInBounds_toArray, List.set_cons_zero, List.set_cons_succ]
  refine held_take 4 (.pointer (some ⟨w.heap.size, 68, none⟩)) rfl (by kernel_rfl) (by kernel_rfl) (by kernel_rfl) (held_pure (by rfl) (fun W => by go_simp)) (by assumption) ?_
  try simp only [Act.put, List.setIfInBounds_toArray, List.set_cons_zero, List.set_cons_succ]
  refine held_take 5 (.agg (dc o.e)) rfl (by kernel_rfl) (by kernel_rfl) (by kernel_rfl) (held_load (by rfl) 27 (.tmp 11) rfl (w.heap.size) 68 rfl o.e 5 (fun W hS => rangeAt_below re.out hS hlt.out) UD hiD) (by assumption) ?_
  try simp only [Act.put, List.setIfInBounds_toArray, List.set_cons_zero, List.set_cons_succ]
  refine held_take 7 (.pointer (some ⟨w.heap.size, 1, none⟩)) rfl (by kernel_rfl) (by kernel_rfl) (by kernel_rfl) (held_pure (by rfl) (fun W => by go_simp)) (by assumption) ?_
  try simp only [Act.put, List.setIfInBounds_toArray, List.set_cons_zero, List.set_cons_succ]
  refine held_take 8 (.int .i64 o.w) rfl (by kernel_rfl) (by kernel_rfl) (by kernel_rfl) (held_load1 (by rfl) 3 (.tmp 14) rfl w.heap.size 1 rfl .i64 (.int .i64 o.w) (fun W hS => (hS.cell (p := ⟨w.heap.size, 1, none⟩) hlt.out).trans cc1.out) Tryd.underlying3) (by assumption) ?_
  try simp only [Act.put, List.setIfInBounds_toArray, List.set_cons_zero, List.set_cons_succ]
  refine held_take 9 (.pointer (some ⟨w.heap.size, 36, none⟩)) rfl (by kernel_rfl) (by kernel_rfl) (by kernel_rfl) (held_pure (by rfl) (fun W => by go_simp)) (by assumption) ?_
  try simp only [Act.put, List.setIfInBounds_toArray, List.set_cons_zero, List.set_cons_succ]
  refine held_take 10 (.agg (dc o.d)) rfl (by kernel_rfl) (by kernel_rfl) (by kernel_rfl) (held_load (by rfl) 27 (.tmp 16) rfl (w.heap.size) 36 rfl o.d 5 (fun W hS => rangeAt_below rd.out hS hlt.out) UD hiD) (by assumption) ?_
  try simp only [Act.put, List.setIfInBounds_toArray, List.set_cons_zero, List.set_cons_succ]
  refine held_take 11 (.pointer (some ⟨w.heap.size, 68, none⟩)) rfl (by kernel_rfl) (by kernel_rfl) (by kernel_rfl) (held_pure (by rfl) (fun W => by go_simp)) (by assumption) ?_
  try simp only [Act.put, List.setIfInBounds_toArray, List.set_cons_zero, List.set_cons_succ]
  refine held_take 12 (.agg (dc o.e)) rfl (by kernel_rfl) (by kernel_rfl) (by kernel_rfl) (held_load (by rfl) 27 (.tmp 18) rfl (w.heap.size) 68 rfl o.e 5 (fun W hS => rangeAt_below re.out hS hlt.out) UD hiD) (by assumption) ?_
  try simp only [Act.put, List.setIfInBounds_toArray, List.set_cons_zero, List.set_cons_succ]
  refine held_step 6 (by kernel_rfl) rfl (by rfl) (fun K hK => ?_)
  go_simp
  refine (calls_box (hA.out _)).mono ?_
  rintro e W6 ⟨⟨gA, capA, rfl, ownA, hBA⟩⟩
  dsimp only
  refine hK.out _ _ (hH0.trans (hBA.mono hH0.size)) (fun hH6 => ?_)
  clear hK K
  try simp only [Act.put, List.setIfInBounds_toArray, List.set_cons_zero, List.set_cons_succ]
  refine held_step 13 (by kernel_rfl) rfl (by rfl) (fun K hK => ?_)
  go_simp
  refine (calls_box (hB.out _)).mono ?_
  rintro e W13 ⟨⟨⟨vB, rfl, ownB⟩, hBB⟩⟩
  dsimp only
  refine hK.out _ _ (hH6.trans (hBB.mono hH6.size)) (fun hH13 => ?_)
  clear hK K
  try simp only [Act.put, List.setIfInBounds_toArray, List.set_cons_zero, List.set_cons_succ]
  have rA := ownA.row.1.old hBB
  obtain ⟨aB, cB, rfl, rB⟩ := own_read3 ownB
  try simp only [Act.put, List.setIfInBounds_toArray, List.set_cons_zero, List.set_cons_succ]
  have hSB := Box.mk (sameBytes_any (some ⟨gA, 0, none⟩) aB _ capA T.length cB T T _ rA rB (by unfold maxLen; omega) (by rw [hT.out]; unfold maxLen; omega))
  rw [eqB_true rfl] at hSB
  refine held_step 14 (by kernel_rfl) rfl (by rfl) (fun K hK => ?_)
  go_simp
  refine (calls_box (hSB.out)).mono ?_
  rintro e W14 ⟨⟨rfl, qS, rfl⟩⟩
  dsimp only
  refine hK.out _ _ (below_drewN2 hH13 qS) (fun hH14 => ?_)
  clear hK K
  try simp only [Act.put, List.setIfInBounds_toArray, List.set_cons_zero, List.set_cons_succ]
  refine held_take 15 (.bool true) rfl (by kernel_rfl) (by kernel_rfl) (by kernel_rfl) (held_pure (by rfl) (fun W => by go_simp)) (by assumption) ?_
  try simp only [Act.put, List.setIfInBounds_toArray, List.set_cons_zero, List.set_cons_succ]
  refine held_done (by kernel_rfl) ?_ _
  have Bf := Box.mk (B0.out.trans (hH14.mono B0.out.size))
  clear ownA ownB rA rB hBA hBB hSB hH0 hH6 hH13 hH14
  go_wp2
  go_ret
  exact ⟨rfl, Bf.out⟩

set_option maxRecDepth 100000 in
set_option maxHeartbeats 4000000 in
theorem numbersPlay_branch (o : OpV) (hk : o.kind = 6) (w : World) (dd : D32)
    (hA0 : ∀ W, Below w.heap.size w W → Calls Tryd.prog 30 #[.int .i64 o.w, .agg (dc o.d), .agg (dc o.e)] W fun e W' => e = .returned (.agg (dc dd)) ∧ Below W.heap.size W W')
    (hB0 : ∀ W, Below w.heap.size w W → Calls Tryd.prog 31 #[.int .i64 o.w, .agg (dc o.d), .agg (dc o.e)] W fun e W' => e = .returned (.agg (dc dd)) ∧ Below W.heap.size W W') :
    Calls Tryd.prog 15 #[.agg (opC o).toArray] w fun e w' => e = .returned (.bool true) ∧ Below w.heap.size w w' := by
  have UK : Tryd.prog.underlying 26 = some (.array 32 5) := Tryd.underlying26
  have hiK : Hid ((Tryd.prog.info? 26).map (·.size) = some 32) := by unfold Hid; kernel_rfl
  have UD : Tryd.prog.underlying 27 = some (.array 32 5) := Tryd.underlying27
  have hiD : Hid ((Tryd.prog.info? 27).map (·.size) = some 32) := by unfold Hid; kernel_rfl
  have bel0 := Below.refl_alloc w (.cells (opC o).toArray 32)
  have F0 : Box ((w.alloc (.cells (opC o).toArray 32)).heap[w.heap.size]? = some (.cells (opC o).toArray 32 (0, 0))) := ⟨heap_new rfl⟩
  have rk := Box.mk (rangeAt_cells (o := 4) F0.out (cs := bvs o.k.1) fun j hj => opC_k o j (by rwa [length_bvs, o.k.2] at hj))
  have rd := Box.mk (rangeAt_cells (o := 36) F0.out (cs := bvs o.d.1) fun j hj => opC_d o j (by rwa [length_bvs, o.d.2] at hj))
  have re := Box.mk (rangeAt_cells (o := 68) F0.out (cs := bvs o.e.1) fun j hj => opC_e o j (by rwa [length_bvs, o.e.2] at hj))
  have c0 : (w.alloc (.cells (opC o).toArray 32)).cell? ⟨w.heap.size, 0, none⟩ = some (.int .i64 6) := by rw [cell_of_row _ _ 0 _ _ _ F0.out, ← hk]; rfl
  have cc1 : Box ((w.alloc (.cells (opC o).toArray 32)).cell? ⟨w.heap.size, 1, none⟩ = some (.int .i64 o.w)) := ⟨by rw [cell_of_row _ _ 1 _ _ _ F0.out]; rfl⟩
  have cc2 : Box ((w.alloc (.cells (opC o).toArray 32)).cell? ⟨w.heap.size, 2, none⟩ = some (.int .i64 o.n)) := ⟨by rw [cell_of_row _ _ 2 _ _ _ F0.out]; rfl⟩
  have cc3 : Box ((w.alloc (.cells (opC o).toArray 32)).cell? ⟨w.heap.size, 3, none⟩ = some (.int .i64 o.m)) := ⟨by rw [cell_of_row _ _ 3 _ _ _ F0.out]; rfl⟩
  have B0 := Box.mk bel0
  have hlt := Box.mk (heap_lt F0.out)
  clear bel0 F0 hk
  generalize (opC o).toArray = cs at *
  have hgD : Tryd.prog.eqGuardType Tryd.prog.depth 27 = false := by kernel_rfl
  have eDD : ∀ (W : World), (Op.equalIn 10000 27 (.agg (dc dd)) (.agg (dc dd))).run Tryd.prog W = .ok true W := by
    obtain ⟨i5, hi5'⟩ := Option.isSome_iff_exists.1 (show (Tryd.prog.info? 5).isSome = true by kernel_rfl)
    intro W
    have := equalIn_d32 (d := 9998) Tryd.underlying27 hi5' Tryd.underlying5 (by kernel_rfl) dd dd W
    rwa [eqD_true rfl] at this
  have hA := Box.mk hA0
  have hB := Box.mk hB0
  clear hA0 hB0
  go_enter Tryd.func15, Tryd.ntmps15
  go_upto_region 1 with fail
  generalize w.alloc (.cells cs 32) = w1 at *
  go_upto_region 5 with fail
  refine held_begin (fun W => Below w1.heap.size w1 W) (by kernel_rfl) (Below.refl _ w1).drew (fun hH0 => ?_)
  refine held_take 0 (.pointer (some ⟨w.heap.size, 1, none⟩)) rfl (by kernel_rfl) (by kernel_rfl) (by kernel_rfl) (held_pure (by rfl) (fun W => by go_simp)) (by assumption) ?_
  try simp only [Act.put, List.setIfInBounds_toArray, List.set_cons_zero, List.set_cons_succ]
  refine held_take 1 (.int .i64 o.w) rfl (by kernel_rfl) (by kernel_rfl) (by kernel_rfl) (held_load1 (by rfl) 3 (.tmp 24) rfl w.heap.size 1 rfl .i64 (.int .i64 o.w) (fun W hS => (hS.cell (p := ⟨w.heap.size, 1, none⟩) hlt.out).trans cc1.out) Tryd.underlying3) (by assumption) ?_
  try simp only [Act.put, List.setIfInBounds_toArray, List.set_cons_zero, List.set_cons_succ]
  refine held_take 2 (.pointer (some ⟨w.heap.size, 36, none⟩)) rfl (by kernel_rfl) (by kernel_rfl) (by kernel_rfl) (held_pure (by rfl) (fun W => by go_simp)) (by assumption) ?_
  try simp only [Act.put, List.setIfInBounds_toArray, List.set_cons_zero, List.set_cons_succ]
  refine held_take 3 (.agg (dc o.d)) rfl (by kernel_rfl) (by kernel_rfl) (by kernel_rfl) (held_load (by rfl) 27 (.tmp 26) rfl (w.heap.size) 36 rfl o.d 5 (fun W hS => rangeAt_below rd.out hS hlt.out) UD hiD) (by assumption) ?_
  try simp only [Act.put, List.setIfInBounds_toArray, List.set_cons_zero, List.set_cons_succ]
  refine held_take 4 (.pointer (some ⟨w.heap.size, 68, none⟩)) rfl (by kernel_rfl) (by kernel_rfl) (by kernel_rfl) (held_pure (by rfl) (fun W => by go_simp)) (by assumption) ?_
  try simp only [Act.put, List.setIfInBounds_toArray, List.set_cons_zero, List.set_cons_succ]
  refine held_take 5 (.agg (dc o.e)) rfl (by kernel_rfl) (by kernel_rfl) (by kernel_rfl) (held_load (by rfl) 27 (.tmp 28) rfl (w.heap.size) 68 rfl o.e 5 (fun W hS => rangeAt_below re.out hS hlt.out) UD hiD) (by assumption) ?_
  try simp only [Act.put, List.setIfInBounds_toArray, List.set_cons_zero, List.set_cons_succ]
  refine held_take 7 (.pointer (some ⟨w.heap.size, 1, none⟩)) rfl (by kernel_rfl) (by kernel_rfl) (by kernel_rfl) (held_pure (by rfl) (fun W => by go_simp)) (by assumption) ?_
  try simp only [Act.put, List.setIfInBounds_toArray, List.set_cons_zero, List.set_cons_succ]
  refine held_take 8 (.int .i64 o.w) rfl (by kernel_rfl) (by kernel_rfl) (by kernel_rfl) (held_load1 (by rfl) 3 (.tmp 31) rfl w.heap.size 1 rfl .i64 (.int .i64 o.w) (fun W hS => (hS.cell (p := ⟨w.heap.size, 1, none⟩) hlt.out).trans cc1.out) Tryd.underlying3) (by assumption) ?_
  try simp only [Act.put, List.setIfInBounds_toArray, List.set_cons_zero, List.set_cons_succ]
  refine held_take 9 (.pointer (some ⟨w.heap.size, 36, none⟩)) rfl (by kernel_rfl) (by kernel_rfl) (by kernel_rfl) (held_pure (by rfl) (fun W => by go_simp)) (by assumption) ?_
  try simp only [Act.put, List.setIfInBounds_toArray, List.set_cons_zero, List.set_cons_succ]
  refine held_take 10 (.agg (dc o.d)) rfl (by kernel_rfl) (by kernel_rfl) (by kernel_rfl) (held_load (by rfl) 27 (.tmp 33) rfl (w.heap.size) 36 rfl o.d 5 (fun W hS => rangeAt_below rd.out hS hlt.out) UD hiD) (by assumption) ?_
  try simp only [Act.put, List.setIfInBounds_toArray, List.set_cons_zero, List.set_cons_succ]
  refine held_take 11 (.pointer (some ⟨w.heap.size, 68, none⟩)) rfl (by kernel_rfl) (by kernel_rfl) (by kernel_rfl) (held_pure (by rfl) (fun W => by go_simp)) (by assumption) ?_
  try simp only [Act.put, List.setIfInBounds_toArray, List.set_cons_zero, List.set_cons_succ]
  refine held_take 12 (.agg (dc o.e)) rfl (by kernel_rfl) (by kernel_rfl) (by kernel_rfl) (held_load (by rfl) 27 (.tmp 35) rfl (w.heap.size) 68 rfl o.e 5 (fun W hS => rangeAt_below re.out hS hlt.out) UD hiD) (by assumption) ?_
  try simp only [Act.put, List.setIfInBounds_toArray, List.set_cons_zero, List.set_cons_succ]
  refine held_step 6 (by kernel_rfl) rfl (by rfl) (fun K hK => ?_)
  go_simp
  refine (calls_box (hA.out _ (B0.out.trans (hH0.mono B0.out.size)))).mono ?_
  rintro e W6 ⟨⟨rfl, hBA⟩⟩
  dsimp only
  refine hK.out _ _ (hH0.trans (hBA.mono hH0.size)) (fun hH6 => ?_)
  clear hK K
  try simp only [Act.put, List.setIfInBounds_toArray, List.set_cons_zero, List.set_cons_succ]
  refine held_step 13 (by kernel_rfl) rfl (by rfl) (fun K hK => ?_)
  go_simp
  refine (calls_box (hB.out _ (B0.out.trans (hH6.mono B0.out.size)))).mono ?_
  rintro e W13 ⟨⟨rfl, hBB⟩⟩
  dsimp only
  refine hK.out _ _ (hH6.trans (hBB.mono hH6.size)) (fun hH13 => ?_)
  clear hK K
  try simp only [Act.put, List.setIfInBounds_toArray, List.set_cons_zero, List.set_cons_succ]
  refine held_take 14 (.bool true) rfl (by kernel_rfl) (by kernel_rfl) (by kernel_rfl) (held_eql (by rfl) 27 27 (.tmp 30) (.tmp 37) rfl dd dd true rfl rfl hgD eDD) (by assumption) ?_
  try simp only [Act.put, List.setIfInBounds_toArray, List.set_cons_zero, List.set_cons_succ]
  refine held_take 15 (.bool true) rfl (by kernel_rfl) (by kernel_rfl) (by kernel_rfl) (held_pure (by rfl) (fun W => by go_simp)) (by assumption) ?_
  try simp only [Act.put, List.setIfInBounds_toArray, List.set_cons_zero, List.set_cons_succ]
  refine held_done (by kernel_rfl) ?_ _
  have Bf := Box.mk (B0.out.trans (hH13.mono B0.out.size))
  clear hBA hBB hH0 hH6 hH13
  go_wp2
  go_ret
  exact ⟨rfl, Bf.out⟩

set_option maxRecDepth 100000 in
set_option maxHeartbeats 4000000 in
theorem numbersPlay_empty (o : OpV) (hk : o.kind = 7) (w : World) (dd : D32)
    (hA0 : ∀ W, Below w.heap.size w W → Calls Tryd.prog 32 #[.int .i64 o.w, .int .i64 o.n] W fun e W' => e = .returned (.agg (dc dd)) ∧ Below W.heap.size W W')
    (hB0 : ∀ W, Below w.heap.size w W → Calls Tryd.prog 33 #[.int .i64 o.w, .int .i64 o.n] W fun e W' => e = .returned (.agg (dc dd)) ∧ Below W.heap.size W W') :
    Calls Tryd.prog 15 #[.agg (opC o).toArray] w fun e w' => e = .returned (.bool true) ∧ Below w.heap.size w w' := by
  have UK : Tryd.prog.underlying 26 = some (.array 32 5) := Tryd.underlying26
  have hiK : Hid ((Tryd.prog.info? 26).map (·.size) = some 32) := by unfold Hid; kernel_rfl
  have UD : Tryd.prog.underlying 27 = some (.array 32 5) := Tryd.underlying27
  have hiD : Hid ((Tryd.prog.info? 27).map (·.size) = some 32) := by unfold Hid; kernel_rfl
  have bel0 := Below.refl_alloc w (.cells (opC o).toArray 32)
  have F0 : Box ((w.alloc (.cells (opC o).toArray 32)).heap[w.heap.size]? = some (.cells (opC o).toArray 32 (0, 0))) := ⟨heap_new rfl⟩
  have rk := Box.mk (rangeAt_cells (o := 4) F0.out (cs := bvs o.k.1) fun j hj => opC_k o j (by rwa [length_bvs, o.k.2] at hj))
  have rd := Box.mk (rangeAt_cells (o := 36) F0.out (cs := bvs o.d.1) fun j hj => opC_d o j (by rwa [length_bvs, o.d.2] at hj))
  have re := Box.mk (rangeAt_cells (o := 68) F0.out (cs := bvs o.e.1) fun j hj => opC_e o j (by rwa [length_bvs, o.e.2] at hj))
  have c0 : (w.alloc (.cells (opC o).toArray 32)).cell? ⟨w.heap.size, 0, none⟩ = some (.int .i64 7) := by rw [cell_of_row _ _ 0 _ _ _ F0.out, ← hk]; rfl
  have cc1 : Box ((w.alloc (.cells (opC o).toArray 32)).cell? ⟨w.heap.size, 1, none⟩ = some (.int .i64 o.w)) := ⟨by rw [cell_of_row _ _ 1 _ _ _ F0.out]; rfl⟩
  have cc2 : Box ((w.alloc (.cells (opC o).toArray 32)).cell? ⟨w.heap.size, 2, none⟩ = some (.int .i64 o.n)) := ⟨by rw [cell_of_row _ _ 2 _ _ _ F0.out]; rfl⟩
  have cc3 : Box ((w.alloc (.cells (opC o).toArray 32)).cell? ⟨w.heap.size, 3, none⟩ = some (.int .i64 o.m)) := ⟨by rw [cell_of_row _ _ 3 _ _ _ F0.out]; rfl⟩
  have B0 := Box.mk bel0
  have hlt := Box.mk (heap_lt F0.out)
  clear bel0 F0 hk
  generalize (opC o).toArray = cs at *
  have hgD : Tryd.prog.eqGuardType Tryd.prog.depth 27 = false := by kernel_rfl
  have eDD : ∀ (W : World), (Op.equalIn 10000 27 (.agg (dc dd)) (.agg (dc dd))).run Tryd.prog W = .ok true W := by
    obtain ⟨i5, hi5'⟩ := Option.isSome_iff_exists.1 (show (Tryd.prog.info? 5).isSome = true by kernel_rfl)
    intro W
    have := equalIn_d32 (d := 9998) Tryd.underlying27 hi5' Tryd.underlying5 (by kernel_rfl) dd dd W
    rwa [eqD_true rfl] at this
  have hA := Box.mk hA0
  have hB := Box.mk hB0
  clear hA0 hB0
  go_enter Tryd.func15, Tryd.ntmps15
  go_upto_region 1 with fail
  generalize w.alloc (.cells cs 32) = w1 at *
  go_upto_region 7 with fail
  refine held_begin (fun W => Below w1.heap.size w1 W) (by kernel_rfl) (Below.refl _ w1).drew (fun hH0 => ?_)
  refine held_take 0 (.pointer (some ⟨w.heap.size, 1, none⟩)) rfl (by kernel_rfl) (by kernel_rfl) (by kernel_rfl) (held_pure (by rfl) (fun W => by go_simp)) (by assumption) ?_
  try simp only [Act.put, List.setIfInBounds_toArray, List.set_cons_zero, List.set_cons_succ]
  refine held_take 1 (.int .i64 o.w) rfl (by kernel_rfl) (by kernel_rfl) (by kernel_rfl) (held_load1 (by rfl) 3 (.tmp 41) rfl w.heap.size 1 rfl .i64 (.int .i64 o.w) (fun W hS => (hS.cell (p := ⟨w.heap.size, 1, none⟩) hlt.out).trans cc1.out) Tryd.underlying3) (by assumption) ?_
  try simp only [Act.put, List.setIfInBounds_toArray, List.set_cons_zero, List.set_cons_succ]
  refine held_take 2 (.pointer (some ⟨w.heap.size, 2, none⟩)) rfl (by kernel_rfl) (by kernel_rfl) (by kernel_rfl) (held_pure (by rfl) (fun W => by go_simp)) (by assumption) ?_
  try simp only [Act.put, List.setIfInBounds_toArray, List.set_cons_zero, List.set_cons_succ]
  refine held_take 3 (.int .i64 o.n) rfl (by kernel_rfl) (by kernel_rfl) (by kernel_rfl) (held_load1 (by rfl) 3 (.tmp 43) rfl w.heap.size 2 rfl .i64 (.int .i64 o.n) (fun W hS => (hS.cell (p := ⟨w.heap.size, 2, none⟩) hlt.out).trans cc2.out) Tryd.underlying3) (by assumption) ?_
  try simp only [Act.put, List.setIfInBounds_toArray, List.set_cons_zero, List.set_cons_succ]
  refine held_take 5 (.pointer (some ⟨w.heap.size, 1, none⟩)) rfl (by kernel_rfl) (by kernel_rfl) (by kernel_rfl) (held_pure (by rfl) (fun W => by go_simp)) (by assumption) ?_
  try simp only [Act.put, List.setIfInBounds_toArray, List.set_cons_zero, List.set_cons_succ]
  refine held_take 6 (.int .i64 o.w) rfl (by kernel_rfl) (by kernel_rfl) (by kernel_rfl) (held_load1 (by rfl) 3 (.tmp 46) rfl w.heap.size 1 rfl .i64 (.int .i64 o.w) (fun W hS => (hS.cell (p := ⟨w.heap.size, 1, none⟩) hlt.out).trans cc1.out) Tryd.underlying3) (by assumption) ?_
  try simp only [Act.put, List.setIfInBounds_toArray, List.set_cons_zero, List.set_cons_succ]
  refine held_take 7 (.pointer (some ⟨w.heap.size, 2, none⟩)) rfl (by kernel_rfl) (by kernel_rfl) (by kernel_rfl) (held_pure (by rfl) (fun W => by go_simp)) (by assumption) ?_
  try simp only [Act.put, List.setIfInBounds_toArray, List.set_cons_zero, List.set_cons_succ]
  refine held_take 8 (.int .i64 o.n) rfl (by kernel_rfl) (by kernel_rfl) (by kernel_rfl) (held_load1 (by rfl) 3 (.tmp 48) rfl w.heap.size 2 rfl .i64 (.int .i64 o.n) (fun W hS => (hS.cell (p := ⟨w.heap.size, 2, none⟩) hlt.out).trans cc2.out) Tryd.underlying3) (by assumption) ?_
  try simp only [Act.put, List.setIfInBounds_toArray, List.set_cons_zero, List.set_cons_succ]
  refine held_step 4 (by kernel_rfl) rfl (by rfl) (fun K hK => ?_)
  go_simp
  refine (calls_box (hA.out _ (B0.out.trans (hH0.mono B0.out.size)))).mono ?_
  rintro e W4 ⟨⟨rfl, hBA⟩⟩
  dsimp only
  refine hK.out _ _ (hH0.trans (hBA.mono hH0.size)) (fun hH4 => ?_)
  clear hK K
  try simp only [Act.put, List.setIfInBounds_toArray, List.set_cons_zero, List.set_cons_succ]
  refine held_step 9 (by kernel_rfl) rfl (by rfl) (fun K hK => ?_)
  go_simp
  refine (calls_box (hB.out _ (B0.out.trans (hH4.mono B0.out.size)))).mono ?_
  rintro e W9 ⟨⟨rfl, hBB⟩⟩
  dsimp only
  refine hK.out _ _ (hH4.trans (hBB.mono hH4.size)) (fun hH9 => ?_)
  clear hK K
  try simp only [Act.put, List.setIfInBounds_toArray, List.set_cons_zero, List.set_cons_succ]
  refine held_take 10 (.bool true) rfl (by kernel_rfl) (by kernel_rfl) (by kernel_rfl) (held_eql (by rfl) 27 27 (.tmp 45) (.tmp 50) rfl dd dd true rfl rfl hgD eDD) (by assumption) ?_
  try simp only [Act.put, List.setIfInBounds_toArray, List.set_cons_zero, List.set_cons_succ]
  refine held_take 11 (.bool true) rfl (by kernel_rfl) (by kernel_rfl) (by kernel_rfl) (held_pure (by rfl) (fun W => by go_simp)) (by assumption) ?_
  try simp only [Act.put, List.setIfInBounds_toArray, List.set_cons_zero, List.set_cons_succ]
  refine held_done (by kernel_rfl) ?_ _
  have Bf := Box.mk (B0.out.trans (hH9.mono B0.out.size))
  clear hBA hBB hH0 hH4 hH9
  go_wp2
  go_ret
  exact ⟨rfl, Bf.out⟩

set_option maxRecDepth 100000 in
set_option maxHeartbeats 4000000 in
theorem numbersPlay_climb (o : OpV) (hk : o.kind = 8) (w : World) (dd : D32)
    (hA0 : ∀ W, Below w.heap.size w W → Calls Tryd.prog 34 #[.int .i64 o.w, .agg (dc o.k), .int .i64 o.n, .agg (dc o.d), .int .i64 o.m] W fun e W' => e = .returned (.agg (dc dd)) ∧ Below W.heap.size W W')
    (hB0 : ∀ W, Below w.heap.size w W → Calls Tryd.prog 35 #[.int .i64 o.w, .agg (dc o.k), .int .i64 o.n, .agg (dc o.d), .int .i64 o.m] W fun e W' => e = .returned (.agg (dc dd)) ∧ Below W.heap.size W W') :
    Calls Tryd.prog 15 #[.agg (opC o).toArray] w fun e w' => e = .returned (.bool true) ∧ Below w.heap.size w w' := by
  have UK : Tryd.prog.underlying 26 = some (.array 32 5) := Tryd.underlying26
  have hiK : Hid ((Tryd.prog.info? 26).map (·.size) = some 32) := by unfold Hid; kernel_rfl
  have UD : Tryd.prog.underlying 27 = some (.array 32 5) := Tryd.underlying27
  have hiD : Hid ((Tryd.prog.info? 27).map (·.size) = some 32) := by unfold Hid; kernel_rfl
  have bel0 := Below.refl_alloc w (.cells (opC o).toArray 32)
  have F0 : Box ((w.alloc (.cells (opC o).toArray 32)).heap[w.heap.size]? = some (.cells (opC o).toArray 32 (0, 0))) := ⟨heap_new rfl⟩
  have rk := Box.mk (rangeAt_cells (o := 4) F0.out (cs := bvs o.k.1) fun j hj => opC_k o j (by rwa [length_bvs, o.k.2] at hj))
  have rd := Box.mk (rangeAt_cells (o := 36) F0.out (cs := bvs o.d.1) fun j hj => opC_d o j (by rwa [length_bvs, o.d.2] at hj))
  have re := Box.mk (rangeAt_cells (o := 68) F0.out (cs := bvs o.e.1) fun j hj => opC_e o j (by rwa [length_bvs, o.e.2] at hj))
  have c0 : (w.alloc (.cells (opC o).toArray 32)).cell? ⟨w.heap.size, 0, none⟩ = some (.int .i64 8) := by rw [cell_of_row _ _ 0 _ _ _ F0.out, ← hk]; rfl
  have cc1 : Box ((w.alloc (.cells (opC o).toArray 32)).cell? ⟨w.heap.size, 1, none⟩ = some (.int .i64 o.w)) := ⟨by rw [cell_of_row _ _ 1 _ _ _ F0.out]; rfl⟩
  have cc2 : Box ((w.alloc (.cells (opC o).toArray 32)).cell? ⟨w.heap.size, 2, none⟩ = some (.int .i64 o.n)) := ⟨by rw [cell_of_row _ _ 2 _ _ _ F0.out]; rfl⟩
  have cc3 : Box ((w.alloc (.cells (opC o).toArray 32)).cell? ⟨w.heap.size, 3, none⟩ = some (.int .i64 o.m)) := ⟨by rw [cell_of_row _ _ 3 _ _ _ F0.out]; rfl⟩
  have B0 := Box.mk bel0
  have hlt := Box.mk (heap_lt F0.out)
  clear bel0 F0 hk
  generalize (opC o).toArray = cs at *
  have hgD : Tryd.prog.eqGuardType Tryd.prog.depth 27 = false := by kernel_rfl
  have eDD : ∀ (W : World), (Op.equalIn 10000 27 (.agg (dc dd)) (.agg (dc dd))).run Tryd.prog W = .ok true W := by
    obtain ⟨i5, hi5'⟩ := Option.isSome_iff_exists.1 (show (Tryd.prog.info? 5).isSome = true by kernel_rfl)
    intro W
    have := equalIn_d32 (d := 9998) Tryd.underlying27 hi5' Tryd.underlying5 (by kernel_rfl) dd dd W
    rwa [eqD_true rfl] at this
  have hA := Box.mk hA0
  have hB := Box.mk hB0
  clear hA0 hB0
  go_enter Tryd.func15, Tryd.ntmps15
  go_upto_region 1 with fail
  generalize w.alloc (.cells cs 32) = w1 at *
  go_upto_region 8 with fail
  refine held_begin (fun W => Below w1.heap.size w1 W) (by kernel_rfl) (Below.refl _ w1).drew (fun hH0 => ?_)
  refine held_take 0 (.pointer (some ⟨w.heap.size, 1, none⟩)) rfl (by kernel_rfl) (by kernel_rfl) (by kernel_rfl) (held_pure (by rfl) (fun W => by go_simp)) (by assumption) ?_
  try simp only [Act.put, List.setIfInBounds_toArray, List.set_cons_zero, List.set_cons_succ]
  refine held_take 1 (.int .i64 o.w) rfl (by kernel_rfl) (by kernel_rfl) (by kernel_rfl) (held_load1 (by rfl) 3 (.tmp 52) rfl w.heap.size 1 rfl .i64 (.int .i64 o.w) (fun W hS => (hS.cell (p := ⟨w.heap.size, 1, none⟩) hlt.out).trans cc1.out) Tryd.underlying3) (by assumption) ?_
  try simp only [Act.put, List.setIfInBounds_toArray, List.set_cons_zero, List.set_cons_succ]
  refine held_take 2 (.pointer (some ⟨w.heap.size, 4, none⟩)) rfl (by kernel_rfl) (by kernel_rfl) (by kernel_rfl) (held_pure (by rfl) (fun W => by go_simp)) (by assumption) ?_
  try simp only [Act.put, List.setIfInBounds_toArray, List.set_cons_zero, List.set_cons_succ]
  refine held_take 3 (.agg (dc o.k)) rfl (by kernel_rfl) (by kernel_rfl) (by kernel_rfl) (held_load (by rfl) 26 (.tmp 54) rfl (w.heap.size) 4 rfl o.k 5 (fun W hS => rangeAt_below rk.out hS hlt.out) UK hiK) (by assumption) ?_
  try simp only [Act.put, List.setIfInBounds_toArray, List.set_cons_zero, List.set_cons_succ]
  refine held_take 4 (.pointer (some ⟨w.heap.size, 2, none⟩)) rfl (by kernel_rfl) (by kernel_rfl) (by kernel_rfl) (held_pure (by rfl) (fun W => by go_simp)) (by assumption) ?_
  try simp only [Act.put, List.setIfInBounds_toArray, List.set_cons_zero, List.set_cons_succ]
  refine held_take 5 (.int .i64 o.n) rfl (by kernel_rfl) (by kernel_rfl) (by kernel_rfl) (held_load1 (by rfl) 3 (.tmp 56) rfl w.heap.size 2 rfl .i64 (.int .i64 o.n) (fun W hS => (hS.cell (p := ⟨w.heap.size, 2, none⟩) hlt.out).trans cc2.out) Tryd.underlying3) (by assumption) ?_
  try simp only [Act.put, List.setIfInBounds_toArray, List.set_cons_zero, List.set_cons_succ]
  refine held_take 6 (.pointer (some ⟨w.heap.size, 36, none⟩)) rfl (by kernel_rfl) (by kernel_rfl) (by kernel_rfl) (held_pure (by rfl) (fun W => by go_simp)) (by assumption) ?_
  try simp only [Act.put, List.setIfInBounds_toArray, List.set_cons_zero, List.set_cons_succ]
  refine held_take 7 (.agg (dc o.d)) rfl (by kernel_rfl) (by kernel_rfl) (by kernel_rfl) (held_load (by rfl) 27 (.tmp 58) rfl (w.heap.size) 36 rfl o.d 5 (fun W hS => rangeAt_below rd.out hS hlt.out) UD hiD) (by assumption) ?_
  try simp only [Act.put, List.setIfInBounds_toArray, List.set_cons_zero, List.set_cons_succ]
  refine held_take 8 (.pointer (some ⟨w.heap.size, 3, none⟩)) rfl (by kernel_rfl) (by kernel_rfl) (by kernel_rfl) (held_pure (by rfl) (fun W => by go_simp)) (by assumption) ?_
  try simp only [Act.put, List.setIfInBounds_toArray, List.set_cons_zero, List.set_cons_succ]
  refine held_take 9 (.int .i64 o.m) rfl (by kernel_rfl) (by kernel_rfl) (by kernel_rfl) (held_load1 (by rfl) 3 (.tmp 60) rfl w.heap.size 3 rfl .i64 (.int .i64 o.m) (fun W hS => (hS.cell (p := ⟨w.heap.size, 3, none⟩) hlt.out).trans cc3.out) Tryd.underlying3) (by assumption) ?_
  try simp only [Act.put, List.setIfInBounds_toArray, List.set_cons_zero, List.set_cons_succ]
  refine held_take 11 (.pointer (some ⟨w.heap.size, 1, none⟩)) rfl (by kernel_rfl) (by kernel_rfl) (by kernel_rfl) (held_pure (by rfl) (fun W => by go_simp)) (by assumption) ?_
  try simp only [Act.put, List.setIfInBounds_toArray, List.set_cons_zero, List.set_cons_succ]
  refine held_take 12 (.int .i64 o.w) rfl (by kernel_rfl) (by kernel_rfl) (by kernel_rfl) (held_load1 (by rfl) 3 (.tmp 63) rfl w.heap.size 1 rfl .i64 (.int .i64 o.w) (fun W hS => (hS.cell (p := ⟨w.heap.size, 1, none⟩) hlt.out).trans cc1.out) Tryd.underlying3) (by assumption) ?_
  try simp only [Act.put, List.setIfInBounds_toArray, List.set_cons_zero, List.set_cons_succ]
  refine held_take 13 (.pointer (some ⟨w.heap.size, 4, none⟩)) rfl (by kernel_rfl) (by kernel_rfl) (by kernel_rfl) (held_pure (by rfl) (fun W => by go_simp)) (by assumption) ?_
  try simp only [Act.put, List.setIfInBounds_toArray, List.set_cons_zero, List.set_cons_succ]
  refine held_take 14 (.agg (dc o.k)) rfl (by kernel_rfl) (by kernel_rfl) (by kernel_rfl) (held_load (by rfl) 26 (.tmp 65) rfl (w.heap.size) 4 rfl o.k 5 (fun W hS => rangeAt_below rk.out hS hlt.out) UK hiK) (by assumption) ?_
  try simp only [Act.put, List.setIfInBounds_toArray, List.set_cons_zero, List.set_cons_succ]
  refine held_take 15 (.pointer (some ⟨w.heap.size, 2, none⟩)) rfl (by kernel_rfl) (by kernel_rfl) (by kernel_rfl) (held_pure (by rfl) (fun W => by go_simp)) (by assumption) ?_
  try simp only [Act.put, List.setIfInBounds_toArray, List.set_cons_zero, List.set_cons_succ]
  refine held_take 16 (.int .i64 o.n) rfl (by kernel_rfl) (by kernel_rfl) (by kernel_rfl) (held_load1 (by rfl) 3 (.tmp 67) rfl w.heap.size 2 rfl .i64 (.int .i64 o.n) (fun W hS => (hS.cell (p := ⟨w.heap.size, 2, none⟩) hlt.out).trans cc2.out) Tryd.underlying3) (by assumption) ?_
  try simp only [Act.put, List.setIfInBounds_toArray, List.set_cons_zero, List.set_cons_succ]
  refine held_take 17 (.pointer (some ⟨w.heap.size, 36, none⟩)) rfl (by kernel_rfl) (by kernel_rfl) (by kernel_rfl) (held_pure (by rfl) (fun W => by go_simp)) (by assumption) ?_
  try simp only [Act.put, List.setIfInBounds_toArray, List.set_cons_zero, List.set_cons_succ]
  refine held_take 18 (.agg (dc o.d)) rfl (by kernel_rfl) (by kernel_rfl) (by kernel_rfl) (held_load (by rfl) 27 (.tmp 69) rfl (w.heap.size) 36 rfl o.d 5 (fun W hS => rangeAt_below rd.out hS hlt.out) UD hiD) (by assumption) ?_
  try simp only [Act.put, List.setIfInBounds_toArray, List.set_cons_zero, List.set_cons_succ]
  refine held_take 19 (.pointer (some ⟨w.heap.size, 3, none⟩)) rfl (by kernel_rfl) (by kernel_rfl) (by kernel_rfl) (held_pure (by rfl) (fun W => by go_simp)) (by assumption) ?_
  try simp only [Act.put, List.setIfInBounds_toArray, List.set_cons_zero, List.set_cons_succ]
  refine held_take 20 (.int .i64 o.m) rfl (by kernel_rfl) (by kernel_rfl) (by kernel_rfl) (held_load1 (by rfl) 3 (.tmp 71) rfl w.heap.size 3 rfl .i64 (.int .i64 o.m) (fun W hS => (hS.cell (p := ⟨w.heap.size, 3, none⟩) hlt.out).trans cc3.out) Tryd.underlying3) (by assumption) ?_
  try simp only [Act.put, List.setIfInBounds_toArray, List.set_cons_zero, List.set_cons_succ]
  refine held_step 10 (by kernel_rfl) rfl (by rfl) (fun K hK => ?_)
  go_simp
  refine (calls_box (hA.out _ (B0.out.trans (hH0.mono B0.out.size)))).mono ?_
  rintro e W10 ⟨⟨rfl, hBA⟩⟩
  dsimp only
  refine hK.out _ _ (hH0.trans (hBA.mono hH0.size)) (fun hH10 => ?_)
  clear hK K
  try simp only [Act.put, List.setIfInBounds_toArray, List.set_cons_zero, List.set_cons_succ]
  refine held_step 21 (by kernel_rfl) rfl (by rfl) (fun K hK => ?_)
  go_simp
  refine (calls_box (hB.out _ (B0.out.trans (hH10.mono B0.out.size)))).mono ?_
  rintro e W21 ⟨⟨rfl, hBB⟩⟩
  dsimp only
  refine hK.out _ _ (hH10.trans (hBB.mono hH10.size)) (fun hH21 => ?_)
  clear hK K
  try simp only [Act.put, List.setIfInBounds_toArray, List.set_cons_zero, List.set_cons_succ]
  refine held_take 22 (.bool true) rfl (by kernel_rfl) (by kernel_rfl) (by kernel_rfl) (held_eql (by rfl) 27 27 (.tmp 62) (.tmp 73) rfl dd dd true rfl rfl hgD eDD) (by assumption) ?_
  try simp only [Act.put, List.setIfInBounds_toArray, List.set_cons_zero, List.set_cons_succ]
  refine held_take 23 (.bool true) rfl (by kernel_rfl) (by kernel_rfl) (by kernel_rfl) (held_pure (by rfl) (fun W => by go_simp)) (by assumption) ?_
  try simp only [Act.put, List.setIfInBounds_toArray, List.set_cons_zero, List.set_cons_succ]
  refine held_done (by kernel_rfl) ?_ _
  have Bf := Box.mk (B0.out.trans (hH21.mono B0.out.size))
  clear hBA hBB hH0 hH10 hH21
  go_wp2
  go_ret
  exact ⟨rfl, Bf.out⟩
end Go.Proofs.YteiepenanffhcaaDoor
