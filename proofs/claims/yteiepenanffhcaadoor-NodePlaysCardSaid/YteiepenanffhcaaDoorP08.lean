/- Texts joined: Num, Open, OpenN. -/
import Derived.Test.YteiepenanffhcaaDoorP05
import Derived.Test.YteiepenanffhcaaDoorP07
import Derived.Test.YteiepenanffhcaaDoorP06
import Derived.Test.YteiepenanffhcaaDoorP00
import Derived.ProofKit
import Derived.OpenShut
import Derived.Deep.Slices
import Derived.SizedLaws
import Derived.Test.YteiepenanffhcaaDoorRows
import Derived.Test.YteiepenanffhcaaDoorP03
/- One play of a call that is handed no list: numbersPlay at each of its kinds. -/
namespace Go.Proofs.YteiepenanffhcaaDoor
open Go Go.RowKit
set_option linter.unusedVariables false
theorem own_read3 {w : World} {base : Nat} {e : TypeId} {v : Value} {l : List UInt8} (h : Own w base e v l) : ∃ ao c, v = .slice ao l.length c ∧ Row w ao l.length l := by
  obtain ⟨ao2, cap2, hv, hr2, hm2, hc2, _⟩ := h.open
  exact ⟨ao2, cap2, hv, hr2⟩

set_option maxRecDepth 100000 in
set_option maxHeartbeats 4000000 in
theorem numbersPlay_texts (o : OpV) (hk : o.kind = 4) (w : World) :
    Calls Tryd.prog 15 #[.agg (opC o).toArray] w fun e w' => e = .returned (.bool true) ∧ Below w.heap.size w w' := by
  have UK : Tryd.prog.underlying 26 = some (.array 32 5) := Tryd.underlying26
  have hiK : Hid ((Tryd.prog.info? 26).map (·.size) = some 32) := by unfold Hid; kernel_rfl
  have UD : Tryd.prog.underlying 27 = some (.array 32 5) := Tryd.underlying27
  have hiD : Hid ((Tryd.prog.info? 27).map (·.size) = some 32) := by unfold Hid; kernel_rfl
  have bel0 := Below.refl_alloc w (.cells (opC o).toArray 32)
  have F0 : Box ((w.alloc (.cells (opC o).toArray 32)).heap[w.heap.size]? = some (.cells (opC o).toArray 32 (0, 0))) := ⟨heap_new rfl⟩
  have rk := Box.mk (rangeAt_cells (o := 4) F0.out (cs := bvs o.k.1) fun j hj => opC_k o j (by rwa [length_bvs, o.k.2] at hj))
  have rd := Box.mk (rangeAt_cells (o := 36) F0.out (cs := bvs o.d.1) fun j hj => opC_d o j (by rwa [length_bvs, o.d.2] at hj))
  have re := Box.mk (rangeAt_cells (o := 68) F0.out (cs := bvs o.e.1) fun j hj => opC_e o j (by rwa [length_bvs, o.e.2] at hj))
  have c0 : (w.alloc (.cells (opC o).toArray 32)).cell? ⟨w.heap.size, 0, none⟩ = some (.int .i64 4) := by rw [cell_of_row _ _ 0 _ _ _ F0.out, ← hk]; rfl
  have cc1 : Box ((w.alloc (.cells (opC o).toArray 32)).cell? ⟨w.heap.size, 1, none⟩ = some (.int .i64 o.w)) := ⟨by rw [cell_of_row _ _ 1 _ _ _ F0.out]; rfl⟩
  have cc2 : Box ((w.alloc (.cells (opC o).toArray 32)).cell? ⟨w.heap.size, 2, none⟩ = some (.int .i64 o.n)) := ⟨by rw [cell_of_row _ _ 2 _ _ _ F0.out]; rfl⟩
  have cc3 : Box ((w.alloc (.cells (opC o).toArray 32)).cell? ⟨w.heap.size, 3, none⟩ = some (.int .i64 o.m)) := ⟨by rw [cell_of_row _ _ 3 _ _ _ F0.out]; rfl⟩
  have B0 := Box.mk bel0
  have hlt := Box.mk (heap_lt F0.out)
  clear bel0 F0 hk
  generalize (opC o).toArray = cs at *
  have hA : Box (∀ W, _) := ⟨fun W => branchText_any o.w o.d o.e W⟩
  have hB : Box (∀ W, _) := ⟨fun W => rbranchText_any o.w o.d o.e W⟩
  have hT : Box ((1 :: (o.d.1.take (wid o.w) ++ o.e.1.take (wid o.w))).length = 1 + 2 * wid o.w) := ⟨by have := o.d.2; have := o.e.2; have := wid_le o.w; simp; omega⟩
  have hwl := wid_le o.w
  generalize 1 :: (o.d.1.take (wid o.w) ++ o.e.1.take (wid o.w)) = T at *
  generalize wid o.w = wo at *
  go_enter Tryd.func15, Tryd.ntmps15
  go_upto_region 1 with fail
  generalize w.alloc (.cells cs 32) = w1 at *
  go_upto_region 3 with fail
  refine held_begin (fun W => Below w1.heap.size w1 W) (by kernel_rfl) (Below.refl _ w1).drew (fun hH0 => ?_)
  refine held_take 0 (.pointer (some ⟨w.heap.size, 1, none⟩)) rfl (by kernel_rfl) (by kernel_rfl) (by kernel_rfl) (held_pure (by rfl) (fun W => by go_simp)) (by assumption) ?_
  try simp only [Act.put, List.setIfInBounds_toArray, List.set_cons_zero, List.set_cons_succ]
  refine held_take 1 (.int .i64 o.w) rfl (by kernel_rfl) (by kernel_rfl) (by kernel_rfl) (held_load1 (by rfl) 3 (.tmp 7) rfl w.heap.size 1 rfl .i64 (.int .i64 o.w) (fun W hS => (hS.cell (p := ⟨w.heap.size, 1, none⟩) hlt.out).trans cc1.out) Tryd.underlying3) (by assumption) ?_
  try simp only [Act.put, List.setIfInBounds_toArray, List.set_cons_zero, List.set_cons_succ]
  refine held_take 2 (.pointer (some ⟨w.heap.size, 36, none⟩)) rfl (by kernel_rfl) (by kernel_rfl) (by kernel_rfl) (held_pure (by rfl) (fun W => by go_simp)) (by assumption) ?_
  try simp only [Act.put, List.setIfInBounds_toArray, List.set_cons_zero, List.set_cons_succ]
  refine held_take 3 (.agg (dc o.d)) rfl (by kernel_rfl) (by kernel_rfl) (by kernel_rfl) (held_load (by rfl) 27 (.tmp 9) rfl (w.heap.size) 36 rfl o.d 5 (fun W hS => rangeAt_below rd.out hS hlt.out) UD hiD) (by assumption) ?_
  try simp only [Act.put, List.setIfInBounds_toArray, List.set_cons_zero, List.set_cons_succ]
  refine held_take 4 (.pointer (some ⟨w.heap.size, 68, none⟩)) rfl (by kernel_rfl) (by kernel_rfl) (by kernel_rfl) (held_pure (by rfl) (fun W => by go_simp)) (by assumption) ?_
  try simp only [Act.put, List.setIfInBounds_toArray, List.set_cons_zero, List.set_cons_succ]
  refine held_take 5 (.agg (dc o.e)) rfl (by kernel_rfl) (by kernel_rfl) (by kernel_rfl) (held_load (by rfl) 27 (.tmp 11) rfl (w.heap.size) 68 rfl o.e 5 (fun W hS => rangeAt_below re.out hS hlt.out) UD hiD) (by assumption) ?_
  try simp only [Act.put, List.setIfInBounds_toArray, List.set_cons_zero, List.set_cons_succ]
  refine held_take 7 (.pointer (some ⟨w.heap.size, 1, none⟩)) rfl (by kernel_rfl) (by kernel_rfl) (by kernel_rfl) (held_pure (by rfl) (fun W => by go_simp)) (by assumption) ?_
  try simp only [Act.put, List.setIfInBounds_toArray, List.set_cons_zero, List.set_cons_succ]
  refine held_take 8 (.int .i64 o.w) rfl (by kernel_rfl) (by kernel_rfl) (by kernel_rfl) (held_load1 (by rfl) 3 (.tmp 14) rfl w.heap.size 1 rfl .i64 (.int .i64 o.w) (fun W hS => (hS.cell (p := ⟨w.heap.size, 1, none⟩) hlt.out).trans cc1.out) Tryd.underlying3) (by assumption) ?_
  try simp only [Act.put, List.setIfInBounds_toArray, List.set_cons_zero, List.set_cons_succ]
  refine held_take 9 (.pointer (some ⟨w.heap.size, 36, none⟩)) rfl (by kernel_rfl) (by kernel_rfl) (by kernel_rfl) (held_pure (by rfl) (fun W => by go_simp)) (by assumption) ?_
  try simp only [Act.put, List.setIfInBounds_toArray, List.set_cons_zero, List.set_cons_succ]
  refine held_take 10 (.agg (dc o.d)) rfl (by kernel_rfl) (by kernel_rfl) (by kernel_rfl) (held_load (by rfl) 27 (.tmp 16) rfl (w.heap.size) 36 rfl o.d 5 (fun W hS => rangeAt_below rd.out hS hlt.out) UD hiD) (by assumption) ?_
  try simp only [Act.put, List.setIfInBounds_toArray, List.set_cons_zero, List.set_cons_succ]
  refine held_take 11 (.pointer (some ⟨w.heap.size, 68, none⟩)) rfl (by kernel_rfl) (by kernel_rfl) (by kernel_rfl) (held_pure (by rfl) (fun W => by go_simp)) (by assumption) ?_
  try simp only [Act.put, List.setIfInBounds_toArray, List.set_cons_zero, List.set_cons_succ]
  refine held_take 12 (.agg (dc o.e)) rfl (by kernel_rfl) (by kernel_rfl) (by kernel_rfl) (held_load (by rfl) 27 (.tmp 18) rfl (w.heap.size) 68 rfl o.e 5 (fun W hS => rangeAt_below re.out hS hlt.out) UD hiD) (by assumption) ?_
  try simp only [Act.put, List.setIfInBounds_toArray, List.set_cons_zero, List.set_cons_succ]
  refine held_step 6 (by kernel_rfl) rfl (by rfl) (fun K hK => ?_)
  go_simp
  refine (calls_box (hA.out _)).mono ?_
  rintro e W6 ⟨⟨gA, capA, rfl, ownA, hBA⟩⟩
  dsimp only
  refine hK.out _ _ (hH0.trans (hBA.mono hH0.size)) (fun hH6 => ?_)
  clear hK K
  try simp only [Act.put, List.setIfInBounds_toArray, List.set_cons_zero, List.set_cons_succ]
  refine held_step 13 (by kernel_rfl) rfl (by rfl) (fun K hK => ?_)
  go_simp
  refine (calls_box (hB.out _)).mono ?_
  rintro e W13 ⟨⟨⟨vB, rfl, ownB⟩, hBB⟩⟩
  dsimp only
  refine hK.out _ _ (hH6.trans (hBB.mono hH6.size)) (fun hH13 => ?_)
  clear hK K
  try simp only [Act.put, List.setIfInBounds_toArray, List.set_cons_zero, List.set_cons_succ]
  have rA := ownA.row.1.old hBB
  obtain ⟨aB, cB, rfl, rB⟩ := own_read3 ownB
  try simp only [Act.put, List.setIfInBounds_toArray, List.set_cons_zero, List.set_cons_succ]
  have hSB := Box.mk (sameBytes_any (some ⟨gA, 0, none⟩) aB _ capA T.length cB T T _ rA rB (by unfold maxLen; omega) (by rw [hT.out]; unfold maxLen; omega))
  rw [eqB_true rfl] at hSB
  refine held_step 14 (by kernel_rfl) rfl (by rfl) (fun K hK => ?_)
  go_simp
  refine (calls_box (hSB.out)).mono ?_
  rintro e W14 ⟨⟨rfl, qS, rfl⟩⟩
  dsimp only
  refine hK.out _ _ (below_drewN2 hH13 qS) (fun hH14 => ?_)
  clear hK K
  try simp only [Act.put, List.setIfInBounds_toArray, List.set_cons_zero, List.set_cons_succ]
  refine held_take 15 (.bool true) rfl (by kernel_rfl) (by kernel_rfl) (by kernel_rfl) (held_pure (by rfl) (fun W => by go_simp)) (by assumption) ?_
  try simp only [Act.put, List.setIfInBounds_toArray, List.set_cons_zero, List.set_cons_succ]
  refine held_done (by kernel_rfl) ?_ _
  have Bf := Box.mk (B0.out.trans (hH14.mono B0.out.size))
  clear ownA ownB rA rB hBA hBB hSB hH0 hH6 hH13 hH14
  go_wp2
  go_ret
  exact ⟨rfl, Bf.out⟩

set_option maxRecDepth 100000 in
set_option maxHeartbeats 4000000 in
theorem numbersPlay_branch (o : OpV) (hk : o.kind = 6) (w : World) (dd : D32)
    (hA0 : ∀ W, Below w.heap.size w W → Calls Tryd.prog 30 #[.int .i64 o.w, .agg (dc o.d), .agg (dc o.e)] W fun e W' => e = .returned (.agg (dc dd)) ∧ Below W.heap.size W W')
    (hB0 : ∀ W, Below w.heap.size w W → Calls Tryd.prog 31 #[.int .i64 o.w, .agg (dc o.d), .agg (dc o.e)] W fun e W' => e = .returned (.agg (dc dd)) ∧ Below W.heap.size W W') :
    Calls Tryd.prog 15 #[.agg (opC o).toArray] w fun e w' => e = .returned (.bool true) ∧ Below w.heap.size w w' := by
  have UK : Tryd.prog.underlying 26 = some (.array 32 5) := Tryd.underlying26
  have hiK : Hid ((Tryd.prog.info? 26).map (·.size) = some 32) := by unfold Hid; kernel_rfl
  have UD : Tryd.prog.underlying 27 = some (.array 32 5) := Tryd.underlying27
  have hiD : Hid ((Tryd.prog.info? 27).map (·.size) = some 32) := by unfold Hid; kernel_rfl
  have bel0 := Below.refl_alloc w (.cells (opC o).toArray 32)
  have F0 : Box ((w.alloc (.cells (opC o).toArray 32)).heap[w.heap.size]? = some (.cells (opC o).toArray 32 (0, 0))) := ⟨heap_new rfl⟩
  have rk := Box.mk (rangeAt_cells (o := 4) F0.out (cs := bvs o.k.1) fun j hj => opC_k o j (by rwa [length_bvs, o.k.2] at hj))
  have rd := Box.mk (rangeAt_cells (o := 36) F0.out (cs := bvs o.d.1) fun j hj => opC_d o j (by rwa [length_bvs, o.d.2] at hj))
  have re := Box.mk (rangeAt_cells (o := 68) F0.out (cs := bvs o.e.1) fun j hj => opC_e o j (by rwa [length_bvs, o.e.2] at hj))
  have c0 : (w.alloc (.cells (opC o).toArray 32)).cell? ⟨w.heap.size, 0, none⟩ = some (.int .i64 6) := by rw [cell_of_row _ _ 0 _ _ _ F0.out, ← hk]; rfl
  have cc1 : Box ((w.alloc (.cells (opC o).toArray 32)).cell? ⟨w.heap.size, 1, none⟩ = some (.int .i64 o.w)) := ⟨by rw [cell_of_row _ _ 1 _ _ _ F0.out]; rfl⟩
  have cc2 : Box ((w.alloc (.cells (opC o).toArray 32)).cell? ⟨w.heap.size, 2, none⟩ = some (.int .i64 o.n)) := ⟨by rw [cell_of_row _ _ 2 _ _ _ F0.out]; rfl⟩
  have cc3 : Box ((w.alloc (.cells (opC o).toArray 32)).cell? ⟨w.heap.size, 3, none⟩ = some (.int .i64 o.m)) := ⟨by rw [cell_of_row _ _ 3 _ _ _ F0.out]; rfl⟩
  have B0 := Box.mk bel0
  have hlt := Box.mk (heap_lt F0.out)
  clear bel0 F0 hk
  generalize (opC o).toArray = cs at *
  have hgD : Tryd.prog.eqGuardType Tryd.prog.depth 27 = false := by kernel_rfl
  have eDD : ∀ (W : World), (Op.equalIn 10000 27 (.agg (dc dd)) (.agg (dc dd))).run Tryd.prog W = .ok true W := by
    obtain ⟨i5, hi5'⟩ := Option.isSome_iff_exists.1 (show (Tryd.prog.info? 5).isSome = true by kernel_rfl)
    intro W
    have := equalIn_d32 (d := 9998) Tryd.underlying27 hi5' Tryd.underlying5 (by kernel_rfl) dd dd W
    rwa [eqD_true rfl] at this
  have hA := Box.mk hA0
  have hB := Box.mk hB0
  clear hA0 hB0
  go_enter Tryd.func15, Tryd.ntmps15
  go_upto_region 1 with fail
  generalize w.alloc (.cells cs 32) = w1 at *
  go_upto_region 5 with fail
  refine held_begin (fun W => Below w1.heap.size w1 W) (by kernel_rfl) (Below.refl _ w1).drew (fun hH0 => ?_)
  refine held_take 0 (.pointer (some ⟨w.heap.size, 1, none⟩)) rfl (by kernel_rfl) (by kernel_rfl) (by kernel_rfl) (held_pure (by rfl) (fun W => by go_simp)) (by assumption) ?_
  try simp only [Act.put, List.setIfInBounds_toArray, List.set_cons_zero, List.set_cons_succ]
  refine held_take 1 (.int .i64 o.w) rfl (by kernel_rfl) (by kernel_rfl) (by kernel_rfl) (held_load1 (by rfl) 3 (.tmp 24) rfl w.heap.size 1 rfl .i64 (.int .i64 o.w) (fun W hS => (hS.cell (p := ⟨w.heap.size, 1, none⟩) hlt.out).trans cc1.out) Tryd.underlying3) (by assumption) ?_
  try simp only [Act.put, List.setIfInBounds_toArray, List.set_cons_zero, List.set_cons_succ]
  refine held_take 2 (.pointer (some ⟨w.heap.size, 36, none⟩)) rfl (by kernel_rfl) (by kernel_rfl) (by kernel_rfl) (held_pure (by rfl) (fun W => by go_simp)) (by assumption) ?_
  try simp only [Act.put, List.setIfInBounds_toArray, List.set_cons_zero, List.set_cons_succ]
  refine held_take 3 (.agg (dc o.d)) rfl (by kernel_rfl) (by kernel_rfl) (by kernel_rfl) (held_load (by rfl) 27 (.tmp 26) rfl (w.heap.size) 36 rfl o.d 5 (fun W hS => rangeAt_below rd.out hS hlt.out) UD hiD) (by assumption) ?_
  try simp only [Act.put, List.setIfInBounds_toArray, List.set_cons_zero, List.set_cons_succ]
  refine held_take 4 (.pointer (some ⟨w.heap.size, 68, none⟩)) rfl (by kernel_rfl) (by kernel_rfl) (by kernel_rfl) (held_pure (by rfl) (fun W => by go_simp)) (by assumption) ?_
  try simp only [Act.put, List.setIfInBounds_toArray, List.set_cons_zero, List.set_cons_succ]
  refine held_take 5 (.agg (dc o.e)) rfl (by kernel_rfl) (by kernel_rfl) (by kernel_rfl) (held_load (by rfl) 27 (.tmp 28) rfl (w.heap.size) 68 rfl o.e 5 (fun W hS => rangeAt_below re.out hS hlt.out) UD hiD) (by assumption) ?_
  try simp only [Act.put, List.setIfInBounds_toArray, List.set_cons_zero, List.set_cons_succ]
  refine held_take 7 (.pointer (some ⟨w.heap.size, 1, none⟩)) rfl (by kernel_rfl) (by kernel_rfl) (by kernel_rfl) (held_pure (by rfl) (fun W => by go_simp)) (by assumption) ?_
  try simp only [Act.put, List.setIfInBounds_toArray, List.set_cons_zero, List.set_cons_succ]
  refine held_take 8 (.int .i64 o.w) rfl (by kernel_rfl) (by kernel_rfl) (by kernel_rfl) (held_load1 (by rfl) 3 (.tmp 31) rfl w.heap.size 1 rfl .i64 (.int .i64 o.w) (fun W hS => (hS.cell (p := ⟨w.heap.size, 1, none⟩) hlt.out).trans cc1.out) Tryd.underlying3) (by assumption) ?_
  try simp only [Act.put, List.setIfInBounds_toArray, List.set_cons_zero, List.set_cons_succ]
  refine held_take 9 (.pointer (some ⟨w.heap.size, 36, none⟩)) rfl (by kernel_rfl) (by kernel_rfl) (by kernel_rfl) (held_pure (by rfl) (fun W => by go_simp)) (by assumption) ?_
  try simp only [Act.put, List.setIfInBounds_toArray, List.set_cons_zero, List.set_cons_succ]
  refine held_take 10 (.agg (dc o.d)) rfl (by kernel_rfl) (by kernel_rfl) (by kernel_rfl) (held_load (by rfl) 27 (.tmp 33) rfl (w.heap.size) 36 rfl o.d 5 (fun W hS => rangeAt_below rd.out hS hlt.out) UD hiD) (by assumption) ?_
  try simp only [Act.put, List.setIfInBounds_toArray, List.set_cons_zero, List.set_cons_succ]
  refine held_take 11 (.pointer (some ⟨w.heap.size, 68, none⟩)) rfl (by kernel_rfl) (by kernel_rfl) (by kernel_rfl) (held_pure (by rfl) (fun W => by go_simp)) (by assumption) ?_
  try simp only [Act.put, List.setIfInBounds_toArray, List.set_cons_zero, List.set_cons_succ]
  refine held_take 12 (.agg (dc o.e)) rfl (by kernel_rfl) (by kernel_rfl) (by kernel_rfl) (held_load (by rfl) 27 (.tmp 35) rfl (w.heap.size) 68 rfl o.e 5 (fun W hS => rangeAt_below re.out hS hlt.out) UD hiD) (by assumption) ?_
  try simp only [Act.put, List.setIfInBounds_toArray, List.set_cons_zero, List.set_cons_succ]
  refine held_step 6 (by kernel_rfl) rfl (by rfl) (fun K hK => ?_)
  go_simp
  refine (calls_box (hA.out _ (B0.out.trans (hH0.mono B0.out.size)))).mono ?_
  rintro e W6 ⟨⟨rfl, hBA⟩⟩
  dsimp only
  refine hK.out _ _ (hH0.trans (hBA.mono hH0.size)) (fun hH6 => ?_)
  clear hK K
  try simp only [Act.put, List.setIfInBounds_toArray, List.set_cons_zero, List.set_cons_succ]
  refine held_step 13 (by kernel_rfl) rfl (by rfl) (fun K hK => ?_)
  go_simp
  refine (calls_box (hB.out _ (B0.out.trans (hH6.mono B0.out.size)))).mono ?_
  rintro e W13 ⟨⟨rfl, hBB⟩⟩
  dsimp only
  refine hK.out _ _ (hH6.trans (hBB.mono hH6.size)) (fun hH13 => ?_)
  clear hK K
  try simp only [Act.put, List.setIfInBounds_toArray, List.set_cons_zero, List.set_cons_succ]
  refine held_take 14 (.bool true) rfl (by kernel_rfl) (by kernel_rfl) (by kernel_rfl) (held_eql (by rfl) 27 27 (.tmp 30) (.tmp 37) rfl dd dd true rfl rfl hgD eDD) (by assumption) ?_
  try simp only [Act.put, List.setIfInBounds_toArray, List.set_cons_zero, List.set_cons_succ]
  refine held_take 15 (.bool true) rfl (by kernel_rfl) (by kernel_rfl) (by kernel_rfl) (held_pure (by rfl) (fun W => by go_simp)) (by assumption) ?_
  try simp only [Act.put, List.setIfInBounds_toArray, List.set_cons_zero, List.set_cons_succ]
  refine held_done (by kernel_rfl) ?_ _
  have Bf := Box.mk (B0.out.trans (hH13.mono B0.out.size))
  clear hBA hBB hH0 hH6 hH13
  go_wp2
  go_ret
  exact ⟨rfl, Bf.out⟩

set_option maxRecDepth 100000 in
set_option maxHeartbeats 4000000 in
theorem numbersPlay_empty (o : OpV) (hk : o.kind = 7) (w : World) (dd : D32)
    (hA0 : ∀ W, Below w.heap.size w W → Calls Tryd.prog 32 #[.int .i64 o.w, .int .i64 o.n] W fun e W' => e = .returned (.agg (dc dd)) ∧ Below W.heap.size W W')
    (hB0 : ∀ W, Below w.heap.size w W → Calls Tryd.prog 33 #[.int .i64 o.w, .int .i64 o.n] W fun e W' => e = .returned (.agg (dc dd)) ∧ Below W.heap.size W W') :
    Calls Tryd.prog 15 #[.agg (opC o).toArray] w fun e w' => e = .returned (.bool true) ∧ Below w.heap.size w w' := by
  have UK : Tryd.prog.underlying 26 = some (.array 32 5) := Tryd.underlying26
  have hiK : Hid ((Tryd.prog.info? 26).map (·.size) = some 32) := by unfold Hid; kernel_rfl
  have UD : Tryd.prog.underlying 27 = some (.array 32 5) := Tryd.underlying27
  have hiD : Hid ((Tryd.prog.info? 27).map (·.size) = some 32) := by unfold Hid; kernel_rfl
  have bel0 := Below.refl_alloc w (.cells (opC o).toArray 32)
  have F0 : Box ((w.alloc (.cells (opC o).toArray 32)).heap[w.heap.size]? = some (.cells (opC o).toArray 32 (0, 0))) := ⟨heap_new rfl⟩
  have rk := Box.mk (rangeAt_cells (o := 4) F0.out (cs := bvs o.k.1) fun j hj => opC_k o j (by rwa [length_bvs, o.k.2] at hj))
  have rd := Box.mk (rangeAt_cells (o := 36) F0.out (cs := bvs o.d.1) fun j hj => opC_d o j (by rwa [length_bvs, o.d.2] at hj))
  have re := Box.mk (rangeAt_cells (o := 68) F0.out (cs := bvs o.e.1) fun j hj => opC_e o j (by rwa [length_bvs, o.e.2] at hj))
  have c0 : (w.alloc (.cells (opC o).toArray 32)).cell? ⟨w.heap.size, 0, none⟩ = some (.int .i64 7) := by rw [cell_of_row _ _ 0 _ _ _ F0.out, ← hk]; rfl
  have cc1 : Box ((w.alloc (.cells (opC o).toArray 32)).cell? ⟨w.heap.size, 1, none⟩ = some (.int .i64 o.w)) := ⟨by rw [cell_of_row _ _ 1 _ _ _ F0.out]; rfl⟩
  have cc2 : Box ((w.alloc (.cells (opC o).toArray 32)).cell? ⟨w.heap.size, 2, none⟩ = some (.int .i64 o.n)) := ⟨by rw [cell_of_row _ _ 2 _ _ _ F0.out]; rfl⟩
  have cc3 : Box ((w.alloc (.cells (opC o).toArray 32)).cell? ⟨w.heap.size, 3, none⟩ = some (.int .i64 o.m)) := ⟨by rw [cell_of_row _ _ 3 _ _ _ F0.out]; rfl⟩
  have B0 := Box.mk bel0
  have hlt := Box.mk (heap_lt F0.out)
  clear bel0 F0 hk
  generalize (opC o).toArray = cs at *
  have hgD : Tryd.prog.eqGuardType Tryd.prog.depth 27 = false := by kernel_rfl
  have eDD : ∀ (W : World), (Op.equalIn 10000 27 (.agg (dc dd)) (.agg (dc dd))).run Tryd.prog W = .ok true W := by
    obtain ⟨i5, hi5'⟩ := Option.isSome_iff_exists.1 (show (Tryd.prog.info? 5).isSome = true by kernel_rfl)
    intro W
    have := equalIn_d32 (d := 9998) Tryd.underlying27 hi5' Tryd.underlying5 (by kernel_rfl) dd dd W
    rwa [eqD_true rfl] at this
  have hA := Box.mk hA0
  have hB := Box.mk hB0
  clear hA0 hB0
  go_enter Tryd.func15, Tryd.ntmps15
  go_upto_region 1 with fail
  generalize w.alloc (.cells cs 32) = w1 at *
  go_upto_region 7 with fail
  refine held_begin (fun W => Below w1.heap.size w1 W) (by kernel_rfl) (Below.refl _ w1).drew (fun hH0 => ?_)
  refine held_take 0 (.pointer (some ⟨w.heap.size, 1, none⟩)) rfl (by kernel_rfl) (by kernel_rfl) (by kernel_rfl) (held_pure (by rfl) (fun W => by go_simp)) (by assumption) ?_
  try simp only [Act.put, List.setIfInBounds_toArray, List.set_cons_zero, List.set_cons_succ]
  refine held_take 1 (.int .i64 o.w) rfl (by kernel_rfl) (by kernel_rfl) (by kernel_rfl) (held_load1 (by rfl) 3 (.tmp 41) rfl w.heap.size 1 rfl .i64 (.int .i64 o.w) (fun W hS => (hS.cell (p := ⟨w.heap.size, 1, none⟩) hlt.out).trans cc1.out) Tryd.underlying3) (by assumption) ?_
  try simp only [Act.put, List.setIfInBounds_toArray, List.set_cons_zero, List.set_cons_succ]
  refine held_take 2 (.pointer (some ⟨w.heap.size, 2, none⟩)) rfl (by kernel_rfl) (by kernel_rfl) (by kernel_rfl) (held_pure (by rfl) (fun W => by go_simp)) (by assumption) ?_
  try simp only [Act.put, List.setIfInBounds_toArray, List.set_cons_zero, List.set_cons_succ]
  refine held_take 3 (.int .i64 o.n) rfl (by kernel_rfl) (by kernel_rfl) (by kernel_rfl) (held_load1 (by rfl) 3 (.tmp 43) rfl w.heap.size 2 rfl .i64 (.int .i64 o.n) (fun W hS => (hS.cell (p := ⟨w.heap.size, 2, none⟩) hlt.out).trans cc2.out) Tryd.underlying3) (by assumption) ?_
  try simp only [Act.put, List.setIfInBounds_toArray, List.set_cons_zero, List.set_cons_succ]
  refine held_take 5 (.pointer (some ⟨w.heap.size, 1, none⟩)) rfl (by kernel_rfl) (by kernel_rfl) (by kernel_rfl) (held_pure (by rfl) (fun W => by go_simp)) (by assumption) ?_
  try simp only [Act.put, List.setIfInBounds_toArray, List.set_cons_zero, List.set_cons_succ]
  refine held_take 6 (.int .i64 o.w) rfl (by kernel_rfl) (by kernel_rfl) (by kernel_rfl) (held_load1 (by rfl) 3 (.tmp 46) rfl w.heap.size 1 rfl .i64 (.int .i64 o.w) (fun W hS => (hS.cell (p := ⟨w.heap.size, 1, none⟩) hlt.out).trans cc1.out) Tryd.underlying3) (by assumption) ?_
  try simp only [Act.put, List.setIfInBounds_toArray, List.set_cons_zero, List.set_cons_succ]
  refine held_take 7 (.pointer (some ⟨w.heap.size, 2, none⟩)) rfl (by kernel_rfl) (by kernel_rfl) (by kernel_rfl) (held_pure (by rfl) (fun W => by go_simp)) (by assumption) ?_
  try simp only [Act.put, List.setIfInBounds_toArray, List.set_cons_zero, List.set_cons_succ]
  refine held_take 8 (.int .i64 o.n) rfl (by kernel_rfl) (by kernel_rfl) (by kernel_rfl) (held_load1 (by rfl) 3 (.tmp 48) rfl w.heap.size 2 rfl .i64 (.int .i64 o.n) (fun W hS => (hS.cell (p := ⟨w.heap.size, 2, none⟩) hlt.out).trans cc2.out) Tryd.underlying3) (by assumption) ?_
  try simp only [Act.put, List.setIfInBounds_toArray, List.set_cons_zero, List.set_cons_succ]
  refine held_step 4 (by kernel_rfl) rfl (by rfl) (fun K hK => ?_)
  go_simp
  refine (calls_box (hA.out _ (B0.out.trans (hH0.mono B0.out.size)))).mono ?_
  rintro e W4 ⟨⟨rfl, hBA⟩⟩
  dsimp only
  refine hK.out _ _ (hH0.trans (hBA.mono hH0.size)) (fun hH4 => ?_)
  clear hK K
  try simp only [Act.put, List.setIfInBounds_toArray, List.set_cons_zero, List.set_cons_succ]
  refine held_step 9 (by kernel_rfl) rfl (by rfl) (fun K hK => ?_)
  go_simp
  refine (calls_box (hB.out _ (B0.out.trans (hH4.mono B0.out.size)))).mono ?_
  rintro e W9 ⟨⟨rfl, hBB⟩⟩
  dsimp only
  refine hK.out _ _ (hH4.trans (hBB.mono hH4.size)) (fun hH9 => ?_)
  clear hK K
  try simp only [Act.put, List.setIfInBounds_toArray, List.set_cons_zero, List.set_cons_succ]
  refine held_take 10 (.bool true) rfl (by kernel_rfl) (by kernel_rfl) (by kernel_rfl) (held_eql (by rfl) 27 27 (.tmp 45) (.tmp 50) rfl dd dd true rfl rfl hgD eDD) (by assumption) ?_
  try simp only [Act.put, List.setIfInBounds_toArray, List.set_cons_zero, List.set_cons_succ]
  refine held_take 11 (.bool true) rfl (by kernel_rfl) (by kernel_rfl) (by kernel_rfl) (held_pure (by rfl) (fun W => by go_simp)) (by assumption) ?_
  try simp only [Act.put, List.setIfInBounds_toArray, List.set_cons_zero, List.set_cons_succ]
  refine held_done (by kernel_rfl) ?_ _
  have Bf := Box.mk (B0.out.trans (hH9.mono B0.out.size))
  clear hBA hBB hH0 hH4 hH9
  go_wp2
  go_ret
  exact ⟨rfl, Bf.out⟩

set_option maxRecDepth 100000 in
set_option maxHeartbeats 4000000 in
theorem numbersPlay_climb (o : OpV) (hk : o.kind = 8) (w : World) (dd : D32)
    (hA0 : ∀ W, Below w.heap.size w W → Calls Tryd.prog 34 #[.int .i64 o.w, .agg (dc o.k), .int .i64 o.n, .agg (dc o.d), .int .i64 o.m] W fun e W' => e = .returned (.agg (dc dd)) ∧ Below W.heap.size W W')
    (hB0 : ∀ W, Below w.heap.size w W → Calls Tryd.prog 35 #[.int .i64 o.w, .agg (dc o.k), .int .i64 o.n, .agg (dc o.d), .int .i64 o.m] W fun e W' => e = .returned (.agg (dc dd)) ∧ Below W.heap.size W W') :
    Calls Tryd.prog 15 #[.agg (opC o).toArray] w fun e w' => e = .returned (.bool true) ∧ Below w.heap.size w w' := by
  have UK : Tryd.prog.underlying 26 = some (.array 32 5) := Tryd.underlying26
  have hiK : Hid ((Tryd.prog.info? 26).map (·.size) = some 32) := by unfold Hid; kernel_rfl
  have UD : Tryd.prog.underlying 27 = some (.array 32 5) := Tryd.underlying27
  have hiD : Hid ((Tryd.prog.info? 27).map (·.size) = some 32) := by unfold Hid; kernel_rfl
  have bel0 := Below.refl_alloc w (.cells (opC o).toArray 32)
  have F0 : Box ((w.alloc (.cells (opC o).toArray 32)).heap[w.heap.size]? = some (.cells (opC o).toArray 32 (0, 0))) := ⟨heap_new rfl⟩
  have rk := Box.mk (rangeAt_cells (o := 4) F0.out (cs := bvs o.k.1) fun j hj => opC_k o j (by rwa [length_bvs, o.k.2] at hj))
  have rd := Box.mk (rangeAt_cells (o := 36) F0.out (cs := bvs o.d.1) fun j hj => opC_d o j (by rwa [length_bvs, o.d.2] at hj))
  have re := Box.mk (rangeAt_cells (o := 68) F0.out (cs := bvs o.e.1) fun j hj => opC_e o j (by rwa [length_bvs, o.e.2] at hj))
  have c0 : (w.alloc (.cells (opC o).toArray 32)).cell? ⟨w.heap.size, 0, none⟩ = some (.int .i64 8) := by rw [cell_of_row _ _ 0 _ _ _ F0.out, ← hk]; rfl
  have cc1 : Box ((w.alloc (.cells (opC o).toArray 32)).cell? ⟨w.heap.size, 1, none⟩ = some (.int .i64 o.w)) := ⟨by rw [cell_of_row _ _ 1 _ _ _ F0.out]; rfl⟩
  have cc2 : Box ((w.alloc (.cells (opC o).toArray 32)).cell? ⟨w.heap.size, 2, none⟩ = some (.int .i64 o.n)) := ⟨by rw [cell_of_row _ _ 2 _ _ _ F0.out]; rfl⟩
  have cc3 : Box ((w.alloc (.cells (opC o).toArray 32)).cell? ⟨w.heap.size, 3, none⟩ = some (.int .i64 o.m)) := ⟨by rw [cell_of_row _ _ 3 _ _ _ F0.out]; rfl⟩
  have B0 := Box.mk bel0
  have hlt := Box.mk (heap_lt F0.out)
  clear bel0 F0 hk
  generalize (opC o).toArray = cs at *
  have hgD : Tryd.prog.eqGuardType Tryd.prog.depth 27 = false := by kernel_rfl
  have eDD : ∀ (W : World), (Op.equalIn 10000 27 (.agg (dc dd)) (.agg (dc dd))).run Tryd.prog W = .ok true W := by
    obtain ⟨i5, hi5'⟩ := Option.isSome_iff_exists.1 (show (Tryd.prog.info? 5).isSome = true by kernel_rfl)
    intro W
    have := equalIn_d32 (d := 9998) Tryd.underlying27 hi5' Tryd.underlying5 (by kernel_rfl) dd dd W
    rwa [eqD_true rfl] at this
  have hA := Box.mk hA0
  have hB := Box.mk hB0
  clear hA0 hB0
  go_enter Tryd.func15, Tryd.ntmps15
  go_upto_region 1 with fail
  generalize w.alloc (.cells cs 32) = w1 at *
  go_upto_region 8 with fail
  refine held_begin (fun W => Below w1.heap.size w1 W) (by kernel_rfl) (Below.refl _ w1).drew (fun hH0 => ?_)
  refine held_take 0 (.pointer (some ⟨w.heap.size, 1, none⟩)) rfl (by kernel_rfl) (by kernel_rfl) (by kernel_rfl) (held_pure (by rfl) (fun W => by go_simp)) (by assumption) ?_
  try simp only [Act.put, List.setIfInBounds_toArray, List.set_cons_zero, List.set_cons_succ]
  refine held_take 1 (.int .i64 o.w) rfl (by kernel_rfl) (by kernel_rfl) (by kernel_rfl) (held_load1 (by rfl) 3 (.tmp 52) rfl w.heap.size 1 rfl .i64 (.int .i64 o.w) (fun W hS => (hS.cell (p := ⟨w.heap.size, 1, none⟩) hlt.out).trans cc1.out) Tryd.underlying3) (by assumption) ?_
  try simp only [Act.put, List.setIfInBounds_toArray, List.set_cons_zero, List.set_cons_succ]
  refine held_take 2 (.pointer (some ⟨w.heap.size, 4, none⟩)) rfl (by kernel_rfl) (by kernel_rfl) (by kernel_rfl) (held_pure (by rfl) (fun W => by go_simp)) (by assumption) ?_
  try simp only [Act.put, List.setIfInBounds_toArray, List.set_cons_zero, List.set_cons_succ]
  refine held_take 3 (.agg (dc o.k)) rfl (by kernel_rfl) (by kernel_rfl) (by kernel_rfl) (held_load (by rfl) 26 (.tmp 54) rfl (w.heap.size) 4 rfl o.k 5 (fun W hS => rangeAt_below rk.out hS hlt.out) UK hiK) (by assumption) ?_
  try simp only [Act.put, List.setIfInBounds_toArray, List.set_cons_zero, List.set_cons_succ]
  refine held_take 4 (.pointer (some ⟨w.heap.size, 2, none⟩)) rfl (by kernel_rfl) (by kernel_rfl) (by kernel_rfl) (held_pure (by rfl) (fun W => by go_simp)) (by assumption) ?_
  try simp only [Act.put, List.setIfInBounds_toArray, List.set_cons_zero, List.set_cons_succ]
  refine held_take 5 (.int .i64 o.n) rfl (by kernel_rfl) (by kernel_rfl) (by kernel_rfl) (held_load1 (by rfl) 3 (.tmp 56) rfl w.heap.size 2 rfl .i64 (.int .i64 o.n) (fun W hS => (hS.cell (p := ⟨w.heap.size, 2, none⟩) hlt.out).trans cc2.out) Tryd.underlying3) (by assumption) ?_
  try simp only [Act.put, List.setIfInBounds_toArray, List.set_cons_zero, List.set_cons_succ]
  refine held_take 6 (.pointer (some ⟨w.heap.size, 36, none⟩)) rfl (by kernel_rfl) (by kernel_rfl) (by kernel_rfl) (held_pure (by rfl) (fun W => by go_simp)) (by assumption) ?_
  try simp only [Act.put, List.setIfInBounds_toArray, List.set_cons_zero, List.set_cons_succ]
  refine held_take 7 (.agg (dc o.d)) rfl (by kernel_rfl) (by kernel_rfl) (by kernel_rfl) (held_load (by rfl) 27 (.tmp 58) rfl (w.heap.size) 36 rfl o.d 5 (fun W hS => rangeAt_below rd.out hS hlt.out) UD hiD) (by assumption) ?_
  try simp only [Act.put, List.setIfInBounds_toArray, List.set_cons_zero, List.set_cons_succ]
  refine held_take 8 (.pointer (some ⟨w.heap.size, 3, none⟩)) rfl (by kernel_rfl) (by kernel_rfl) (by kernel_rfl) (held_pure (by rfl) (fun W => by go_simp)) (by assumption) ?_
  try simp only [Act.put, List.setIfInBounds_toArray, List.set_cons_zero, List.set_cons_succ]
  refine held_take 9 (.int .i64 o.m) rfl (by kernel_rfl) (by kernel_rfl) (by kernel_rfl) (held_load1 (by rfl) 3 (.tmp 60) rfl w.heap.size 3 rfl .i64 (.int .i64 o.m) (fun W hS => (hS.cell (p := ⟨w.heap.size, 3, none⟩) hlt.out).trans cc3.out) Tryd.underlying3) (by assumption) ?_
  try simp only [Act.put, List.setIfInBounds_toArray, List.set_cons_zero, List.set_cons_succ]
  refine held_take 11 (.pointer (some ⟨w.heap.size, 1, none⟩)) rfl (by kernel_rfl) (by kernel_rfl) (by kernel_rfl) (held_pure (by rfl) (fun W => by go_simp)) (by assumption) ?_
  try simp only [Act.put, List.setIfInBounds_toArray, List.set_cons_zero, List.set_cons_succ]
  refine held_take 12 (.int .i64 o.w) rfl (by kernel_rfl) (by kernel_rfl) (by kernel_rfl) (held_load1 (by rfl) 3 (.tmp 63) rfl w.heap.size 1 rfl .i64 (.int .i64 o.w) (fun W hS => (hS.cell (p := ⟨w.heap.size, 1, none⟩) hlt.out).trans cc1.out) Tryd.underlying3) (by assumption) ?_
  try simp only [Act.put, List.setIfInBounds_toArray, List.set_cons_zero, List.set_cons_succ]
  refine held_take 13 (.pointer (some ⟨w.heap.size, 4, none⟩)) rfl (by kernel_rfl) (by kernel_rfl) (by kernel_rfl) (held_pure (by rfl) (fun W => by go_simp)) (by assumption) ?_
  try simp only [Act.put, List.setIfInBounds_toArray, List.set_cons_zero, List.set_cons_succ]
  refine held_take 14 (.agg (dc o.k)) rfl (by kernel_rfl) (by kernel_rfl) (by kernel_rfl) (held_load (by rfl) 26 (.tmp 65) rfl (w.heap.size) 4 rfl o.k 5 (fun W hS => rangeAt_below rk.out hS hlt.out) UK hiK) (by assumption) ?_
  try simp only [Act.put, List.setIfInBounds_toArray, List.set_cons_zero, List.set_cons_succ]
  refine held_take 15 (.pointer (some ⟨w.heap.size, 2, none⟩)) rfl (by kernel_rfl) (by kernel_rfl) (by kernel_rfl) (held_pure (by rfl) (fun W => by go_simp)) (by assumption) ?_
  try simp only [Act.put, List.setIfInBounds_toArray, List.set_cons_zero, List.set_cons_succ]
  refine held_take 16 (.int .i64 o.n) rfl (by kernel_rfl) (by kernel_rfl) (by kernel_rfl) (held_load1 (by rfl) 3 (.tmp 67) rfl w.heap.size 2 rfl .i64 (.int .i64 o.n) (fun W hS => (hS.cell (p := ⟨w.heap.size, 2, none⟩) hlt.out).trans cc2.out) Tryd.underlying3) (by assumption) ?_
  try simp only [Act.put, List.setIfInBounds_toArray, List.set_cons_zero, List.set_cons_succ]
  refine held_take 17 (.pointer (some ⟨w.heap.size, 36, none⟩)) rfl (by kernel_rfl) (by kernel_rfl) (by kernel_rfl) (held_pure (by rfl) (fun W => by go_simp)) (by assumption) ?_
  try simp only [Act.put, List.setIfInBounds_toArray, List.set_cons_zero, List.set_cons_succ]
  refine held_take 18 (.agg (dc o.d)) rfl (by kernel_rfl) (by kernel_rfl) (by kernel_rfl) (held_load (by rfl) 27 (.tmp 69) rfl (w.heap.size) 36 rfl o.d 5 (fun W hS => rangeAt_below rd.out hS hlt.out) UD hiD) (by assumption) ?_
  try simp only [Act.put, List.setIfInBounds_toArray, List.set_cons_zero, List.set_cons_succ]
  refine held_take 19 (.pointer (some ⟨w.heap.size, 3, none⟩)) rfl (by kernel_rfl) (by kernel_rfl) (by kernel_rfl) (held_pure (by rfl) (fun W => by go_simp)) (by assumption) ?_
  try simp only [Act.put, List.setIfInBounds_toArray, List.set_cons_zero, List.set_cons_succ]
  refine held_take 20 (.int .i64 o.m) rfl (by kernel_rfl) (by kernel_rfl) (by kernel_rfl) (held_load1 (by rfl) 3 (.tmp 71) rfl w.heap.size 3 rfl .i64 (.int .i64 o.m) (fun W hS => (hS.cell (p := ⟨w.heap.size, 3, none⟩) hlt.out).trans cc3.out) Tryd.underlying3) (by assumption) ?_
  try simp only [Act.put, List.setIfInBounds_toArray, List.set_cons_zero, List.set_cons_succ]
  refine held_step 10 (by kernel_rfl) rfl (by rfl) (fun K hK => ?_)
  go_simp
  refine (calls_box (hA.out _ (B0.out.trans (hH0.mono B0.out.size)))).mono ?_
  rintro e W10 ⟨⟨rfl, hBA⟩⟩
  dsimp only
  refine hK.out _ _ (hH0.trans (hBA.mono hH0.size)) (fun hH10 => ?_)
  clear hK K
  try simp only [Act.put, List.setIfInBounds_toArray, List.set_cons_zero, List.set_cons_succ]
  refine held_step 21 (by kernel_rfl) rfl (by rfl) (fun K hK => ?_)
  go_simp
  refine (calls_box (hB.out _ (B0.out.trans (hH10.mono B0.out.size)))).mono ?_
  rintro e W21 ⟨⟨rfl, hBB⟩⟩
  dsimp only
  refine hK.out _ _ (hH10.trans (hBB.mono hH10.size)) (fun hH21 => ?_)
  clear hK K
  try simp only [Act.put, List.setIfInBounds_toArray, List.set_cons_zero, List.set_cons_succ]
  refine held_take 22 (.bool true) rfl (by kernel_rfl) (by kernel_rfl) (by kernel_rfl) (held_eql (by rfl) 27 27 (.tmp 62) (.tmp 73) rfl dd dd true rfl rfl hgD eDD) (by assumption) ?_
  try simp only [Act.put, List.setIfInBounds_toArray, List.set_cons_zero, List.set_cons_succ]
  refine held_take 23 (.bool true) rfl (by kernel_rfl) (by kernel_rfl) (by kernel_rfl) (held_pure (by rfl) (fun W => by go_simp)) (by assumption) ?_
  try simp only [Act.put, List.setIfInBounds_toArray, List.set_cons_zero, List.set_cons_succ]
  refine held_done (by kernel_rfl) ?_ _
  have Bf := Box.mk (B0.out.trans (hH21.mono B0.out.size))
  clear hBA hBB hH0 hH10 hH21
  go_wp2
  go_ret
  exact ⟨rfl, Bf.out⟩
end Go.Proofs.YteiepenanffhcaaDoor

/- Reading arguments that came in: bytes, digests, lists of them. No program in sight. -/
namespace Go.Proofs.YteiepenanffhcaaDoor
open Go Go.RowKit Go.ChangeShapes Go.WideShapes Go.ChangeAt Go.Deep

def byteAt : Value → UInt8
  | .int _ k => UInt8.ofNat k.toNat
  | _ => 0
theorem bv_byteAt {k : Int} (h : (Lit.int .u8 k).wf = true) : bv (byteAt (.int .u8 k)) = .int .u8 k := by
  have hb := bounds_u8 h
  unfold byteAt bv
  congr 1
  rw [UInt8.toNat_ofNat']
  omega
theorem bvs_ext {cs : List Value} (h : ∀ i, i < cs.length → ∃ k, cs[i]? = some (.int .u8 k) ∧ (Lit.int .u8 k).wf = true) : cs = bvs (cs.map byteAt) := by
  refine List.ext_getElem? fun i => ?_
  rw [bvs_getElem?, List.getElem?_map]
  rcases Nat.lt_or_ge i cs.length with hi | hi
  · obtain ⟨k, hk, hw⟩ := h i hi
    rw [hk]; simp only [Option.map_some, bv_byteAt hw]
  · rw [List.getElem?_eq_none hi]; rfl

instance : Inhabited D32 := ⟨zero32⟩
section
variable {H : Type} {enc : TypeId × Value → H} {P : Program} {w : World} {base : Nat} {sp : Nat → Bool} {held : Bool} {t e : TypeId}

/-- An array of bytes, by its cells. -/
theorem trod_bytes {n fuel : Nat} {cs : List Value} {x : DataW H × List MemPlace} (ht : P.underlying t = some (.array n e)) (he : P.underlying e = some (.int .u8)) (hc : P.cellsOf e = 1) (hct : P.cellsOf t = n)
    (h : DataW.trod enc P w base sp held fuel t cs = some x) : ∃ l : List UInt8, l.length = n ∧ cs = bvs l := by
  obtain ⟨xs, m, rfl, rfl, hl, hn, hel⟩ := DataW.trod_array ht h
  rw [hct] at hl
  refine ⟨cs.map byteAt, by simpa using hl, bvs_ext fun i hi => ?_⟩
  have h1 := hel i (by omega)
  rw [hc, Nat.mul_one] at h1
  obtain ⟨y, hy⟩ : ∃ y, xs[i]? = some y := ⟨xs[i]'(by omega), List.getElem?_eq_getElem (by omega)⟩
  rw [hy] at h1
  obtain ⟨k, e1, _, hw⟩ := DataW.trod_int he h1
  refine ⟨k, ?_, hw⟩
  have := congrArg (·[0]?) e1
  simpa [List.getElem?_take, List.getElem?_drop] using this

theorem trod_d32 {fuel : Nat} {cs : List Value} {x : DataW H × List MemPlace} (ht : P.underlying t = some (.array 32 e)) (he : P.underlying e = some (.int .u8)) (hc : P.cellsOf e = 1) (hct : P.cellsOf t = 32)
    (h : DataW.trod enc P w base sp held fuel t cs = some x) : ∃ d : D32, cs = bvs d.1 := by
  obtain ⟨l, hl, hcs⟩ := trod_bytes ht he hc hct h
  exact ⟨⟨l, hl⟩, hcs⟩

theorem okWide_array {n : Nat} {r : Reach} {b0 : Nat} {v : Value} (ht : P.underlying t = some (.array n e)) (h : Value.okWide P w r b0 t v) : ∃ cs, v = .agg cs ∧ cs.size = P.cellsOf t := by
  simp only [Value.okWide, ht] at h
  obtain ⟨cs, h1, h2, _⟩ := h
  exact ⟨cs, h1, h2⟩

theorem open_d32 {r : Reach} {b0 : Nat} {v : Value} {d : DataW H} {p : List MemPlace} (ht : P.underlying t = some (.array 32 e)) (he : P.underlying e = some (.int .u8)) (hc : P.cellsOf e = 1) (hct : P.cellsOf t = 32)
    (hv : Value.okWide P w r b0 t v) (h : DataW.Trod enc P w base sp held t v d p) : ∃ x : D32, v = .agg (dc x) := by
  obtain ⟨cs, rfl, _⟩ := okWide_array ht hv
  obtain ⟨fuel, hf⟩ := h
  obtain ⟨x, hx⟩ := trod_d32 ht he hc hct hf
  refine ⟨x, ?_⟩
  have : cs.toList = bvs x.1 := hx
  unfold dc
  rw [← this]

/-- A list of bytes that came in: what the walk is told of it. -/
def InRow (w : World) (ao : Option Addr) (n c : Nat) (l : List UInt8) : Prop :=
  Row w ao n l ∧ (ao = none → n = 0 ∧ c = 0) ∧ n ≤ c

theorem row_of_ints {a : Addr} {zs : List Int} {len : Nat} (hl : len ≤ zs.length) (hc : ∀ i, i < zs.length → w.cell? (a.add i) = some (.int .u8 (zs.getD i 0))) (hw : ∀ n ∈ zs, (Lit.int .u8 n).wf = true) :
    ∃ l : List UInt8, Row w (some a) len l := by
  refine ⟨(zs.take len).map fun z => UInt8.ofNat z.toNat, by simp; omega, fun i hi => ?_⟩
  have hi' : i < len := by simp at hi; omega
  have h1 := hc i (by omega)
  have h0 := hc 0 (by omega)
  obtain ⟨b, o, s⟩ := a
  have hs : s = none := by simpa [Addr.add] using World.cell?_spot h0
  subst hs
  refine ⟨b, o, rfl, ?_⟩
  rw [Addr.add_mid] at h1
  rw [h1, List.getElem_map, List.getElem_take]
  have hiz : i < zs.length := by omega
  have hwi := bounds_u8 (hw _ (List.getElem_mem hiz))
  have : zs.getD i 0 = zs[i]'(by omega) := by simp [List.getD, List.getElem?_eq_getElem (show i < zs.length by omega)]
  rw [this, UInt8.toNat_ofNat']
  congr 2
  omega

theorem open_row {r : Reach} {b0 : Nat} {v : Value} {d : DataW H} {p : List MemPlace} (hsp : ∀ b, sp b = true) (ht : P.underlying t = some (.slice e)) (he : P.underlying e = some (.int .u8)) (hc : P.cellsOf e = 1)
    (hv : Value.okWide P w r b0 t v) (h : DataW.Trod enc P w base sp held t v d p) :
    ∃ (ao : Option Addr) (n c : Nat) (l : List UInt8), v = .slice ao n c ∧ InRow w ao n c l ∧ c ≤ maxLen ∧ ((ao = none ∧ d = .nil) ∨ ∃ es ss, d = .slice es ss ∧ es.length + ss.length = c) := by
  obtain ⟨a0, n, c, rfl⟩ := okWide_slice ht hv
  obtain ⟨fuel, hf⟩ := h
  rcases open_ints ht he hc hf with ⟨hcs, hx⟩ | ⟨a, len, cap, zs, hcs, _, hl, hm, hz, hx, hcell, hw⟩
  · simp [Value.cells] at hcs
    obtain ⟨rfl, rfl, rfl⟩ := hcs
    exact ⟨none, 0, 0, [], rfl, ⟨Row.nil, fun _ => ⟨rfl, rfl⟩, Nat.le_refl _⟩, Nat.zero_le _, .inl ⟨rfl, (Prod.mk.inj hx).1⟩⟩
  · simp [Value.cells] at hcs
    obtain ⟨rfl, rfl, rfl⟩ := hcs
    rw [hsp, if_pos rfl] at hz
    obtain ⟨l, hr⟩ := row_of_ints (len := n) (by omega) hcell hw
    refine ⟨some a, n, c, l, rfl, ⟨hr, (fun h => by cases h), hl⟩, hm, .inr ⟨_, _, (Prod.mk.inj hx).1, ?_⟩⟩
    simp [lits]; omega

/-- A list of digests that came in. -/
theorem open_digs {r : Reach} {b0 : Nat} {v : Value} {d : DataW H} {p : List MemPlace} {t2 : TypeId} (ht : P.underlying t = some (.slice t2)) (ht2 : P.underlying t2 = some (.array 32 e)) (he : P.underlying e = some (.int .u8)) (hc : P.cellsOf e = 1) (hct : P.cellsOf t2 = 32)
    (hv : Value.okWide P w r b0 t v) (h : DataW.Trod enc P w base sp held t v d p) :
    ∃ (ao : Option Addr) (n c : Nat) (ds : List D32), v = .slice ao n c ∧ Digs w ao n ds ∧ (ao = none → n = 0 ∧ c = 0) ∧ n ≤ c ∧ c ≤ maxLen := by
  obtain ⟨a0, n, c, rfl⟩ := okWide_slice ht hv
  obtain ⟨fuel, hf⟩ := h
  rcases open_slice ht hf with ⟨hcs, hx⟩ | ⟨a, len, cap, m, k, D, Pl, hcs, _, hl, hm, hmm, hx, hel⟩
  · simp [Value.cells] at hcs
    obtain ⟨rfl, rfl, rfl⟩ := hcs
    exact ⟨none, 0, 0, [], rfl, ⟨rfl, fun i h => absurd h (by simp)⟩, fun _ => ⟨rfl, rfl⟩, Nat.le_refl _, Nat.zero_le _⟩
  · simp [Value.cells] at hcs
    obtain ⟨rfl, rfl, rfl⟩ := hcs
    have hnm : n ≤ m := by rw [hmm]; split <;> omega
    rw [hct] at hel
    have each : ∀ i, i < n → ∃ d : D32, ∃ b o, a = ⟨b, o, none⟩ ∧ w.rangeAt b (o + 32 * i) (bvs d.1) := by
      intro i hi
      obtain ⟨cs', h1, h2⟩ := hel i (by omega)
      obtain ⟨d, rfl⟩ := trod_d32 ht2 he hc hct h2
      obtain ⟨h3, h4, h5⟩ := World.cells?_some h1
      have hd := d.2
      obtain ⟨b, o, s⟩ := a
      have hcell : ∀ j v, (bvs d.1)[j]? = some v → w.cell? (((⟨b, o, s⟩ : Addr).add (i * 32)).add j) = some v := by
        intro j v hv
        have := h5 j (by have := (List.getElem?_eq_some_iff.1 hv).1; simpa [hd] using this)
        rw [this]; exact hv
      have hs : s = none := by
        obtain ⟨c0, g1, g2⟩ := hel 0 (by omega)
        obtain ⟨d', rfl⟩ := trod_d32 ht2 he hc hct g2
        have hd' := d'.2
        obtain ⟨_, _, g5⟩ := World.cells?_some g1
        have := g5 0 (by omega)
        rw [bvs_getElem?, List.getElem?_eq_getElem (by omega)] at this
        simpa [Addr.add] using World.cell?_spot this
      subst hs
      refine ⟨d, b, o, rfl, fun j v hv => ?_⟩
      have := hcell j v hv
      rw [Addr.add_mid, Addr.add_mid] at this
      rw [show o + 32 * i + j = o + i * 32 + j by omega]; exact this
    obtain ⟨V, hV⟩ := choose_lt (α := D32) (p := fun i d => ∃ b o, a = ⟨b, o, none⟩ ∧ w.rangeAt b (o + 32 * i) (bvs d.1)) each
    refine ⟨some a, n, c, (List.range n).map V, rfl, ⟨by simp, fun i hi => ?_⟩, (fun h => by cases h), hl, hm⟩
    have hi' : i < n := by simpa using hi
    obtain ⟨b, o, rfl, hr⟩ := hV i hi'
    refine ⟨b, o, rfl, ?_⟩
    simpa using hr
end
end Go.Proofs.YteiepenanffhcaaDoor

/- Reading a node that came in. -/
namespace Go.Proofs.YteiepenanffhcaaDoor
open Go Go.RowKit Go.ChangeShapes Go.WideShapes Go.ChangeAt Go.Deep
set_option linter.unusedVariables false

/-- All sizes in a datum are within reach. -/
def Sized {H : Type} (P : Program) (t : TypeId) (d : DataW H) : Prop := ∀ n ∈ d.weights P t, n ≤ reachBytes
section
variable {H : Type} {enc : TypeId × Value → H} {P : Program} {w : World} {base : Nat} {sp : Nat → Bool} {held : Bool} {t e : TypeId}
theorem sized_arg {ts : List TypeId} {ds : List (DataW H)} (h : (DataW.weightsEach P ts ds).all (· ≤ reachBytes) = true) {j : Nat} {d : DataW H} (ht : ts[j]? = some t) (hd : ds[j]? = some d) : Sized P t d := fun n hn => by
  have := List.all_eq_true.1 h _ (DataW.weights_mem_each ht hd n hn)
  simpa using this
theorem sized_part {fs : Array Field} {parts : List (DataW H)} (hu : P.underlying t = some (.struct fs)) (h : Sized P t (.agg parts)) {i : Nat} {f : Field} {d : DataW H} (hf : fs[i]? = some f) (hd : parts[i]? = some d) : Sized P f.type d := fun n hn => by
  refine h n ?_
  have : (DataW.agg parts).weights P t = DataW.weightsEach P (fs.toList.map (·.type)) parts := by simp [DataW.weights, hu]
  rw [this]
  exact DataW.weights_mem_each (j := i) (by simp [hf]) hd n hn
theorem weights_mem_all : ∀ {ds : List (DataW H)} {j : Nat} {d : DataW H}, ds[j]? = some d → ∀ n ∈ d.weights P e, n ∈ DataW.weightsAll P e ds
  | d0 :: ds, 0, d, hd, n, hn => by
    simp only [List.getElem?_cons_zero, Option.some.injEq] at hd
    subst hd
    simp only [DataW.weightsAll, List.mem_append]
    exact Or.inl hn
  | d0 :: ds, j + 1, d, hd, n, hn => by
    simp only [List.getElem?_cons_succ] at hd
    simp only [DataW.weightsAll, List.mem_append]
    exact Or.inr (weights_mem_all hd n hn)
  | [], _, _, hd, _, _ => by simp at hd
theorem sized_elem {es ss : List (DataW H)} (hu : P.underlying t = some (.slice e)) (h : Sized P t (.slice es ss)) {i : Nat} {d : DataW H} (hd : es[i]? = some d) : Sized P e d := fun n hn => by
  refine h n ?_
  simp only [DataW.weights, hu, List.mem_cons, List.mem_append]
  exact .inr (.inl (weights_mem_all hd n hn))
theorem sized_len {es ss : List (DataW H)} (hu : P.underlying t = some (.slice e)) (h : Sized P t (.slice es ss)) : (es.length + ss.length) * P.bytesOf e ≤ reachBytes :=
  h _ (by simp [DataW.weights, hu])

theorem chain_step {cs x : List Value} (o k : Nat) (h : (cs.drop o).take k = x) : cs.drop o = x ++ cs.drop (o + k) := by
  rw [← h, ← List.drop_drop, List.take_append_drop]

/-- A list of bytes that came in, by its cell. -/
theorem trod_row {fuel : Nat} {cs : List Value} {x : DataW H × List MemPlace} (hsp : ∀ b, sp b = true) (ht : P.underlying t = some (.slice e)) (he : P.underlying e = some (.int .u8)) (hc : P.cellsOf e = 1) (hby : P.bytesOf e = 1)
    (h : DataW.trod enc P w base sp held fuel t cs = some x) :
    ∃ (ao : Option Addr) (n c : Nat) (l : List UInt8), cs = [.slice ao n c] ∧ InRow w ao n c l ∧ c ≤ maxLen ∧ (Sized P t x.1 → c ≤ 140737488351232) := by
  rcases open_ints ht he hc h with ⟨hcs, hx⟩ | ⟨a, len, cap, zs, hcs, _, hl, hm, hz, hx, hcell, hw⟩
  · exact ⟨none, 0, 0, [], hcs, ⟨Row.nil, fun _ => ⟨rfl, rfl⟩, Nat.le_refl _⟩, Nat.zero_le _, fun _ => by omega⟩
  · rw [hsp, if_pos rfl] at hz
    obtain ⟨l, hr⟩ := row_of_ints (len := len) (by omega) hcell hw
    refine ⟨some a, len, cap, l, hcs, ⟨hr, (fun h => by cases h), hl⟩, hm, fun hs => ?_⟩
    rw [hx] at hs
    have := sized_len ht hs
    rw [hby] at this
    simp only [lits, List.length_map, List.length_take, List.length_drop, reachBytes] at this
    omega
end

section
variable {H : Type} {enc : TypeId × Value → H} {w : World} {base : Nat} {sp : Nat → Bool} {held : Bool}
theorem field_of {fs : Array Field} {i t o : Nat} (h : (fs[i]?).map (fun f => (f.type, f.offset)) = some (t, o)) : ∃ f, fs[i]? = some f ∧ f.type = t ∧ f.offset = o := by
  cases hf : fs[i]? with
  | none => rw [hf] at h; cases h
  | some f => rw [hf] at h; simp only [Option.map_some, Option.some.injEq, Prod.mk.injEq] at h; exact ⟨f, rfl, h.1, h.2⟩

/-- A node that came in, by its cells. -/
theorem trod_node {fuel : Nat} {cs : List Value} {x : DataW H × List MemPlace} (hsp : ∀ b, sp b = true) (h : DataW.trod enc Tryd.prog w base sp held fuel 30 cs = some x) :
    ∃ (y : NodeV) (l : List UInt8), cs = nodeC y ∧ inI64 y.kind ∧ inI64 y.left ∧ inI64 y.right ∧ inI64 y.lc ∧ inI64 y.rc ∧ InRow w y.ao y.n y.c l ∧ y.c ≤ maxLen ∧ (Sized Tryd.prog 30 x.1 → y.c ≤ 140737488351232) := by
  have hu : Tryd.prog.underlying 30 = some (.struct (Tryd.prog.fieldsOf 30)) := by kernel_rfl
  obtain ⟨xs, n, _, hx, hlen, hxl, hf⟩ := DataW.trod_struct hu h
  have hfs : (Tryd.prog.fieldsOf 30).size = 9 := by kernel_rfl
  have hct : Tryd.prog.cellsOf 30 = 102 := by kernel_rfl
  rw [hfs] at hxl
  rw [hct] at hlen
  have ci : Tryd.prog.cellsOf 3 = 1 := by kernel_rfl
  have cd : Tryd.prog.cellsOf 27 = 32 := by kernel_rfl
  have ck : Tryd.prog.cellsOf 26 = 32 := by kernel_rfl
  have cb : Tryd.prog.cellsOf 28 = 1 := by kernel_rfl
  have c8 : Tryd.prog.cellsOf 5 = 1 := by kernel_rfl
  have by8 : Tryd.prog.bytesOf 5 = 1 := by kernel_rfl
  have get : ∀ (i t o : Nat), i < 9 → ((Tryd.prog.fieldsOf 30)[i]?).map (fun f => (f.type, f.offset)) = some (t, o) → ∃ y, DataW.trod enc Tryd.prog w base sp held n t ((cs.drop o).take (Tryd.prog.cellsOf t)) = some y ∧ (Sized Tryd.prog 30 x.1 → Sized Tryd.prog t y.1) := fun i t o hi h => by
    obtain ⟨f, h1, rfl, rfl⟩ := field_of h
    have hy : xs[i]? = some (xs[i]'(by omega)) := List.getElem?_eq_getElem (by omega)
    refine ⟨_, (hf i f h1).trans hy, fun hs => ?_⟩
    rw [hx] at hs
    exact sized_part hu hs h1 (by simp [hy])
  obtain ⟨y0, t0, _⟩ := get 0 3 0 (by omega) (by kernel_rfl)
  obtain ⟨y1, t1, _⟩ := get 1 3 1 (by omega) (by kernel_rfl)
  obtain ⟨y2, t2, _⟩ := get 2 3 2 (by omega) (by kernel_rfl)
  obtain ⟨y3, t3, _⟩ := get 3 3 3 (by omega) (by kernel_rfl)
  obtain ⟨y4, t4, _⟩ := get 4 3 4 (by omega) (by kernel_rfl)
  obtain ⟨y5, t5, _⟩ := get 5 27 5 (by omega) (by kernel_rfl)
  obtain ⟨y6, t6, _⟩ := get 6 27 37 (by omega) (by kernel_rfl)
  obtain ⟨y7, t7, _⟩ := get 7 26 69 (by omega) (by kernel_rfl)
  obtain ⟨y8, t8, s8⟩ := get 8 28 101 (by omega) (by kernel_rfl)
  rw [ci] at t0 t1 t2 t3 t4
  rw [cd] at t5 t6
  rw [ck] at t7
  rw [cb] at t8
  obtain ⟨a0, e0, _, w0⟩ := DataW.trod_int Tryd.underlying3 t0
  obtain ⟨a1, e1, _, w1⟩ := DataW.trod_int Tryd.underlying3 t1
  obtain ⟨a2, e2, _, w2⟩ := DataW.trod_int Tryd.underlying3 t2
  obtain ⟨a3, e3, _, w3⟩ := DataW.trod_int Tryd.underlying3 t3
  obtain ⟨a4, e4, _, w4⟩ := DataW.trod_int Tryd.underlying3 t4
  obtain ⟨d5, e5⟩ := trod_d32 Tryd.underlying27 Tryd.underlying5 c8 cd t5
  obtain ⟨d6, e6⟩ := trod_d32 Tryd.underlying27 Tryd.underlying5 c8 cd t6
  obtain ⟨d7, e7⟩ := trod_d32 Tryd.underlying26 Tryd.underlying5 c8 ck t7
  obtain ⟨ao, m, c, l, e8, hr, hm, hs⟩ := trod_row hsp Tryd.underlying28 Tryd.underlying5 c8 by8 t8
  refine ⟨⟨a0, a1, a2, a3, a4, d5, d6, d7, ao, m, c⟩, l, ?_, bounds_i64 w0, bounds_i64 w1, bounds_i64 w2, bounds_i64 w3, bounds_i64 w4, hr, hm, fun h => hs (s8 h)⟩
  have q0 := chain_step 0 1 e0
  rw [List.drop_zero] at q0
  rw [q0, chain_step (0 + 1) 1 e1, chain_step (0 + 1 + 1) 1 e2, chain_step (0 + 1 + 1 + 1) 1 e3, chain_step (0 + 1 + 1 + 1 + 1) 1 e4, chain_step (0 + 1 + 1 + 1 + 1 + 1) 32 e5, chain_step (0 + 1 + 1 + 1 + 1 + 1 + 32) 32 e6, chain_step (0 + 1 + 1 + 1 + 1 + 1 + 32 + 32) 32 e7, chain_step (0 + 1 + 1 + 1 + 1 + 1 + 32 + 32 + 32) 1 e8,
    List.drop_of_length_le (by omega)]
  rfl

theorem open_node {r : Reach} {b0 : Nat} {v : Value} {d : DataW H} {p : List MemPlace} (hsp : ∀ b, sp b = true) (hv : Value.okWide Tryd.prog w r b0 30 v) (h : DataW.Trod enc Tryd.prog w base sp held 30 v d p) :
    ∃ (y : NodeV) (l : List UInt8), v = .agg (nodeC y).toArray ∧ inI64 y.kind ∧ inI64 y.left ∧ inI64 y.right ∧ inI64 y.lc ∧ inI64 y.rc ∧ InRow w y.ao y.n y.c l ∧ y.c ≤ maxLen ∧ (Sized Tryd.prog 30 d → y.c ≤ 140737488351232) := by
  have hu : Tryd.prog.underlying 30 = some (.struct (Tryd.prog.fieldsOf 30)) := by kernel_rfl
  obtain ⟨cs, rfl, _⟩ := okWide_struct hu hv
  obtain ⟨fuel, hf⟩ := h
  obtain ⟨y, l, h1, h2⟩ := trod_node hsp hf
  refine ⟨y, l, ?_, h2⟩
  have : cs.toList = nodeC y := h1
  rw [← this]
end
end Go.Proofs.YteiepenanffhcaaDoor
