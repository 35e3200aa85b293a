/- One play of a call that is handed a list: Leaf. -/
import Derived.Test.YteiepenanffhcaaDoorVal3
import Derived.Test.YteiepenanffhcaaDoorNear
import Derived.Test.YteiepenanffhcaaDoorNum
import Derived.Test.YteiepenanffhcaaDoorRTree
namespace Go.Proofs.YteiepenanffhcaaDoor
open Go Go.RowKit
set_option linter.unusedVariables false

set_option maxRecDepth 100000 in
set_option maxHeartbeats 4000000 in
theorem valuePlay_leaf {S : S8} {K : List UInt32} (o : OpV) (hk : o.kind = 5) (n : Nat) (hn : n ≤ 140737488351232) (L : List UInt8) (hL : L.length = n) (g : Nat) (a1 : Option Addr) (c1 : Nat) (w : World) (hLa : Laid S K w) (hLr : LaidR S K w)
    (hg0 : w.heap[g]? = some (.cells (bvs (roomyL L)).toArray 5 (0, 0))) (hrow : Row w a1 n L) (hnone : a1 = none → n = 0 ∧ c1 = 0) (hle : n ≤ c1) (hmax : c1 ≤ maxLen) :
    Calls Tryd.prog 14 #[.agg (opC o).toArray, .slice (some ⟨g, 0, none⟩) (n + 100) (n + 100), .slice a1 n c1] w fun e W' => e = .returned (.bool true) ∧ Below w.heap.size w W' := by
  have UK : Tryd.prog.underlying 26 = some (.array 32 5) := Tryd.underlying26
  have hiK : Hid ((Tryd.prog.info? 26).map (·.size) = some 32) := by unfold Hid; kernel_rfl
  have bel0 := Below.refl_alloc w (.cells (opC o).toArray 32)
  have F0 : Box ((w.alloc (.cells (opC o).toArray 32)).heap[w.heap.size]? = some (.cells (opC o).toArray 32 (0, 0))) := ⟨heap_new rfl⟩
  have r4 := Box.mk (rangeAt_cells (o := 4) F0.out (cs := bvs o.k.1) fun j hj => opC_k o j (by rwa [length_bvs, o.k.2] at hj))
  have c0 : (w.alloc (.cells (opC o).toArray 32)).cell? ⟨w.heap.size, 0, none⟩ = some (.int .i64 5) := by rw [cell_of_row _ _ 0 _ _ _ F0.out, ← hk]; rfl
  have cc1 : Box ((w.alloc (.cells (opC o).toArray 32)).cell? ⟨w.heap.size, 1, none⟩ = some (.int .i64 o.w)) := ⟨by rw [cell_of_row _ _ 1 _ _ _ F0.out]; rfl⟩
  have HG := Box.mk ((bel0.block g (heap_lt hg0)).trans hg0)
  have HR := Box.mk (hrow.old bel0)
  have B0 := Box.mk bel0
  have HL := Box.mk hL
  have Hnone := Box.mk hnone
  have Hmax := Box.mk hmax
  have hlt := Box.mk (heap_lt F0.out)
  have hgl := Box.mk (heap_lt HG.out)
  have HLa := Box.mk (hLa.old bel0)
  have HLr := Box.mk (hLr.old bel0)
  have HK := Box.mk hLa.1
  have hcut : (n : Int) ≤ (n : Int) + 100 := by omega
  clear hrow hnone hmax hle hg0 hL bel0 F0 hk hLa hLr
  generalize (opC o).toArray = cs at *
  have hgD : Tryd.prog.eqGuardType Tryd.prog.depth 27 = false := by kernel_rfl
  go_enter Tryd.func14, Tryd.ntmps14
  go_upto_region 1 with fail
  generalize w.alloc (.cells cs 32) = w1 at *
  go_upto_region 19 with fail
  have hA : Box (∀ W, Below w1.heap.size w1 W → _) := ⟨fun W HH => leaf_any (S := S) (K := K) o.w o.k (some ⟨g, 0, none⟩) n (n + 100) L W (HLa.out.old HH) (row_front ((HH.block g hgl.out).trans HG.out) HL.out) (by intro h; cases h) hn⟩
  have hB : Box (∀ W, Below w1.heap.size w1 W → _) := ⟨fun W HH => rleaf_any (S := S) (K := K) o.w o.k a1 n c1 L W HK.out (HLr.out.old HH) (HR.out.old HH) hn⟩
  generalize leafD S K o.w o.k L = dd at *
  have eDD : ∀ (W : World), (Op.equalIn 10000 27 (.agg (dc dd)) (.agg (dc dd))).run Tryd.prog W = .ok true W := by
    obtain ⟨i5, hi5'⟩ := Option.isSome_iff_exists.1 (show (Tryd.prog.info? 5).isSome = true by kernel_rfl)
    intro W
    have := equalIn_d32 (d := 9998) Tryd.underlying27 hi5' Tryd.underlying5 (by kernel_rfl) dd dd W
    rwa [eqD_true rfl] at this
  refine held_begin (fun W => Below w1.heap.size w1 W) (by kernel_rfl) (Below.refl _ w1).drew (fun hH0 => ?_)
  refine held_take 0 (.pointer (some ⟨w.heap.size, 1, none⟩)) rfl (by kernel_rfl) (by kernel_rfl) (by kernel_rfl) (held_pure (by rfl) (fun W => by go_simp)) (by assumption) ?_
  try simp only [Act.put, List.setIfInBounds_toArray, List.set_cons_zero, List.set_cons_succ]
  refine held_take 1 (.int .i64 o.w) rfl (by kernel_rfl) (by kernel_rfl) (by kernel_rfl) (held_load1 (by rfl) 3 (.tmp 90) rfl w.heap.size 1 rfl .i64 (.int .i64 o.w) (fun W hS => (hS.cell (p := ⟨w.heap.size, 1, none⟩) hlt.out).trans cc1.out) Tryd.underlying3) (by assumption) ?_
  try simp only [Act.put, List.setIfInBounds_toArray, List.set_cons_zero, List.set_cons_succ]
  refine held_take 2 (.pointer (some ⟨w.heap.size, 4, none⟩)) rfl (by kernel_rfl) (by kernel_rfl) (by kernel_rfl) (held_pure (by rfl) (fun W => by go_simp)) (by assumption) ?_
  try simp only [Act.put, List.setIfInBounds_toArray, List.set_cons_zero, List.set_cons_succ]
  refine held_take 3 (.agg (dc o.k)) rfl (by kernel_rfl) (by kernel_rfl) (by kernel_rfl) (held_load (by rfl) 26 (.tmp 92) rfl (w.heap.size) 4 rfl o.k 5 (fun W hS => rangeAt_below r4.out hS hlt.out) UK hiK) (by assumption) ?_
  try simp only [Act.put, List.setIfInBounds_toArray, List.set_cons_zero, List.set_cons_succ]
  refine held_take 4 (.slice (some ⟨g, 0, none⟩) n (n + 100)) rfl (by kernel_rfl) (by kernel_rfl) (by kernel_rfl) (held_move (by rfl) (.tmp 7) rfl rfl) (by assumption) ?_
  try simp only [Act.put, List.setIfInBounds_toArray, List.set_cons_zero, List.set_cons_succ]
  refine held_take 6 (.pointer (some ⟨w.heap.size, 1, none⟩)) rfl (by kernel_rfl) (by kernel_rfl) (by kernel_rfl) (held_pure (by rfl) (fun W => by go_simp)) (by assumption) ?_
  try simp only [Act.put, List.setIfInBounds_toArray, List.set_cons_zero, List.set_cons_succ]
  refine held_take 7 (.int .i64 o.w) rfl (by kernel_rfl) (by kernel_rfl) (by kernel_rfl) (held_load1 (by rfl) 3 (.tmp 96) rfl w.heap.size 1 rfl .i64 (.int .i64 o.w) (fun W hS => (hS.cell (p := ⟨w.heap.size, 1, none⟩) hlt.out).trans cc1.out) Tryd.underlying3) (by assumption) ?_
  try simp only [Act.put, List.setIfInBounds_toArray, List.set_cons_zero, List.set_cons_succ]
  refine held_take 8 (.pointer (some ⟨w.heap.size, 4, none⟩)) rfl (by kernel_rfl) (by kernel_rfl) (by kernel_rfl) (held_pure (by rfl) (fun W => by go_simp)) (by assumption) ?_
  try simp only [Act.put, List.setIfInBounds_toArray, List.set_cons_zero, List.set_cons_succ]
  refine held_take 9 (.agg (dc o.k)) rfl (by kernel_rfl) (by kernel_rfl) (by kernel_rfl) (held_load (by rfl) 26 (.tmp 98) rfl (w.heap.size) 4 rfl o.k 5 (fun W hS => rangeAt_below r4.out hS hlt.out) UK hiK) (by assumption) ?_
  try simp only [Act.put, List.setIfInBounds_toArray, List.set_cons_zero, List.set_cons_succ]
  refine held_take 10 (.slice a1 n c1) rfl (by kernel_rfl) (by kernel_rfl) (by kernel_rfl) (held_move (by rfl) (.tmp 2) rfl rfl) (by assumption) ?_
  try simp only [Act.put, List.setIfInBounds_toArray, List.set_cons_zero, List.set_cons_succ]
  refine held_step 5 (by kernel_rfl) rfl (by rfl) (fun K hK => ?_)
  go_simp
  refine (calls_box (hA.out _ hH0)).mono ?_
  rintro e W5 ⟨⟨rfl, hBA⟩⟩
  dsimp only
  refine hK.out _ _ (hH0.trans (hBA.mono hH0.size)) (fun hH5 => ?_)
  clear hK K
  try simp only [Act.put, List.setIfInBounds_toArray, List.set_cons_zero, List.set_cons_succ]
  refine held_step 11 (by kernel_rfl) rfl (by rfl) (fun K hK => ?_)
  go_simp
  refine (calls_box (hB.out _ hH5)).mono ?_
  rintro e W11 ⟨⟨rfl, hBB⟩⟩
  dsimp only
  refine hK.out _ _ (hH5.trans (hBB.mono hH5.size)) (fun hH11 => ?_)
  clear hK K
  try simp only [Act.put, List.setIfInBounds_toArray, List.set_cons_zero, List.set_cons_succ]
  refine held_take 12 (.bool true) rfl (by kernel_rfl) (by kernel_rfl) (by kernel_rfl) (held_eql (by rfl) 27 27 (.tmp 95) (.tmp 101) rfl dd dd true rfl rfl hgD eDD) (by assumption) ?_
  try simp only [Act.put, List.setIfInBounds_toArray, List.set_cons_zero, List.set_cons_succ]
  refine held_take 13 (.bool true) rfl (by kernel_rfl) (by kernel_rfl) (by kernel_rfl) (held_pure (by rfl) (fun W => by go_simp)) (by assumption) ?_
  try simp only [Act.put, List.setIfInBounds_toArray, List.set_cons_zero, List.set_cons_succ]
  refine held_done (by kernel_rfl) ?_ _
  have Bf := Box.mk hH11
  clear hBA hBB hH0 hH5 hH11
  have hRI := Box.mk (roomyIs_any (some ⟨g, 0, none⟩) a1 (n + 100) (n + 100) n c1 (roomyL L) L _ (row_whole ((Bf.out.block g hgl.out).trans HG.out) HL.out) (HR.out.old Bf.out) (by unfold maxLen; omega) hn)
  rw [eqB_true rfl] at hRI
  go_wp2_with (go_at_call 27; refine (calls_box hRI.out).mono ?_)
  rintro e W9 ⟨⟨rfl, hB9⟩⟩
  have B9 := Box.mk (B0.out.trans ((Bf.out.trans (hB9.mono Bf.out.size)).mono B0.out.size))
  clear hB9
  go_wp2
  go_ret
  exact ⟨rfl, B9.out⟩
end Go.Proofs.YteiepenanffhcaaDoor
