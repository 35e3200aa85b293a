/- One play of a call that is handed a list: LeafText. -/
import Derived.Test.YteiepenanffhcaaDoorOp
import Derived.Test.YteiepenanffhcaaDoorRefText
namespace Go.Proofs.YteiepenanffhcaaDoor
open Go Go.RowKit
set_option linter.unusedVariables false

/-- A play of a call that is handed a list answers true, whatever the list of that length. -/
def VPok (o : OpV) (n : Nat) : Prop := ∀ (L : List UInt8), L.length = n → ∀ (g : Nat) (a1 : Option Addr) (c1 : Nat) (W : World), W.heap[g]? = some (.cells (bvs (roomyL L)).toArray 5 (0, 0)) → Row W a1 n L → (a1 = none → n = 0 ∧ c1 = 0) → n ≤ c1 → c1 ≤ maxLen →
  Calls Tryd.prog 14 #[.agg (opC o).toArray, .slice (some ⟨g, 0, none⟩) (n + 100) (n + 100), .slice a1 n c1] W fun e W' => e = .returned (.bool true) ∧ Below W.heap.size W W'

theorem row_front {w : World} {g n : Nat} {e : TypeId} {L : List UInt8} (h : w.heap[g]? = some (.cells (bvs (roomyL L)).toArray e (0, 0))) (hl : L.length = n) : Row w (some ⟨g, 0, none⟩) n L := by
  have := (Row.of_row h).take n (by rw [length_roomyL]; omega)
  have e1 : (roomyL L).take n = L := by
    unfold roomyL
    rw [List.take_append_of_le_length (by omega), List.take_of_length_le (by omega)]
  rwa [e1] at this
theorem row_whole {w : World} {g n : Nat} {e : TypeId} {L : List UInt8} (h : w.heap[g]? = some (.cells (bvs (roomyL L)).toArray e (0, 0))) (hl : L.length = n) : Row w (some ⟨g, 0, none⟩) (n + 100) (roomyL L) := by
  have := Row.of_row h
  rwa [length_roomyL, hl] at this
theorem own_read2 {w : World} {base : Nat} {e : TypeId} {v : Value} {l : List UInt8} (h : Own w base e v l) : ∃ ao c, v = .slice ao l.length c ∧ Row w ao l.length l := by
  obtain ⟨ao2, cap2, hv, hr2, hm2, hc2, _⟩ := h.open
  exact ⟨ao2, cap2, hv, hr2⟩

set_option maxRecDepth 100000 in
set_option maxHeartbeats 4000000 in
theorem valuePlay_texts (o : OpV) (hk : o.kind = 3) (n : Nat) (hn : n ≤ 140737488351232) : VPok o n := by
  intro L hL g a1 c1 w hg0 hrow hnone hle hmax
  have UK : Tryd.prog.underlying 26 = some (.array 32 5) := Tryd.underlying26
  have hiK : Hid ((Tryd.prog.info? 26).map (·.size) = some 32) := by unfold Hid; kernel_rfl
  have bel0 := Below.refl_alloc w (.cells (opC o).toArray 32)
  have F0 : Box ((w.alloc (.cells (opC o).toArray 32)).heap[w.heap.size]? = some (.cells (opC o).toArray 32 (0, 0))) := ⟨heap_new rfl⟩
  have hk4 : Box (∀ W : World, W.heap[w.heap.size]? = some (.cells (opC o).toArray 32 (0, 0)) → W.rangeAt w.heap.size 4 (bvs o.k.1)) := ⟨fun W hW => rangeAt_cells hW fun j hj => opC_k o j (by rwa [length_bvs, o.k.2] at hj)⟩
  have c0 : (w.alloc (.cells (opC o).toArray 32)).cell? ⟨w.heap.size, 0, none⟩ = some (.int .i64 3) := by rw [cell_of_row _ _ 0 _ _ _ F0.out, ← hk]; rfl
  have HG := Box.mk ((bel0.block g (heap_lt hg0)).trans hg0)
  have HR := Box.mk (hrow.old bel0)
  have B0 := Box.mk bel0
  have HL := Box.mk hL
  have Hnone := Box.mk hnone
  have Hmax := Box.mk hmax
  have r4 := Box.mk (hk4.out _ F0.out)
  have hlt := Box.mk (heap_lt F0.out)
  have hgl := Box.mk (heap_lt HG.out)
  have hcut : (n : Int) ≤ (n : Int) + 100 := by omega
  clear hrow hnone hmax hle hg0 hL bel0 F0 hk4 hk
  generalize (opC o).toArray = cs at *
  go_enter Tryd.func14, Tryd.ntmps14
  go_upto_region 1 with fail
  generalize w.alloc (.cells cs 32) = w1 at *
  go_upto_region 17 with fail
  have UB : Box (Tryd.prog.underlying 28 = some (.slice 5)) := ⟨Tryd.underlying28⟩
  have hA : Box (∀ W, Below w1.heap.size w1 W → _) := ⟨fun W HH => leafText_any o.k (some ⟨g, 0, none⟩) n (n + 100) L W (row_front ((HH.block g hgl.out).trans HG.out) HL.out) (by intro h; cases h) hn⟩
  have hB : Box (∀ W, Below w1.heap.size w1 W → _) := ⟨fun W HH => rleafText_any o.k a1 n c1 L W (HR.out.old HH) hn⟩
  have hT : Box ((0 :: (o.k.1 ++ L)).length = 33 + n) := ⟨by have := o.k.2; have := HL.out; simp; omega⟩
  generalize 0 :: (o.k.1 ++ L) = T at *
  refine held_begin (fun W => Below w1.heap.size w1 W) (by kernel_rfl) (Below.refl _ w1).drew (fun hH0 => ?_)
  refine held_take 0 (.pointer (some ⟨w.heap.size, 4, none⟩)) rfl (by kernel_rfl) (by kernel_rfl) (by kernel_rfl) (held_pure (by rfl) (fun W => by go_simp)) (by assumption) ?_
  try simp only [Act.put, List.setIfInBounds_toArray, List.set_cons_zero, List.set_cons_succ]
  refine held_take 1 (.agg (dc o.k)) rfl (by kernel_rfl) (by kernel_rfl) (by kernel_rfl) (held_load (by rfl) 26 (.tmp 79) rfl (w.heap.size) 4 rfl o.k 5 (fun W hS => rangeAt_below r4.out hS hlt.out) UK hiK) (by assumption) ?_
  try simp only [Act.put, List.setIfInBounds_toArray, List.set_cons_zero, List.set_cons_succ]
  refine held_take 2 (.slice (some ⟨g, 0, none⟩) n (n + 100)) rfl (by kernel_rfl) (by kernel_rfl) (by kernel_rfl) (held_move (by rfl) (.tmp 7) rfl rfl) (by assumption) ?_
  try simp only [Act.put, List.setIfInBounds_toArray, List.set_cons_zero, List.set_cons_succ]
  refine held_take 4 (.pointer (some ⟨w.heap.size, 4, none⟩)) rfl (by kernel_rfl) (by kernel_rfl) (by kernel_rfl) (held_pure (by rfl) (fun W => by go_simp)) (by assumption) ?_
  try simp only [Act.put, List.setIfInBounds_toArray, List.set_cons_zero, List.set_cons_succ]
  refine held_take 5 (.agg (dc o.k)) rfl (by kernel_rfl) (by kernel_rfl) (by kernel_rfl) (held_load (by rfl) 26 (.tmp 83) rfl (w.heap.size) 4 rfl o.k 5 (fun W hS => rangeAt_below r4.out hS hlt.out) UK hiK) (by assumption) ?_
  try simp only [Act.put, List.setIfInBounds_toArray, List.set_cons_zero, List.set_cons_succ]
  refine held_take 6 (.slice a1 n c1) rfl (by kernel_rfl) (by kernel_rfl) (by kernel_rfl) (held_move (by rfl) (.tmp 2) rfl rfl) (by assumption) ?_
  try simp only [Act.put, List.setIfInBounds_toArray, List.set_cons_zero, List.set_cons_succ]
  refine held_step 3 (by kernel_rfl) rfl (by rfl) (fun K hK => ?_)
  go_simp
  refine (calls_box (hA.out _ hH0)).mono ?_
  rintro e W3 ⟨⟨gA, capA, rfl, ownA, hBA⟩⟩
  dsimp only
  refine hK.out _ _ (hH0.trans (hBA.mono hH0.size)) (fun hH3 => ?_)
  clear hK K
  try simp only [Act.put, List.setIfInBounds_toArray, List.set_cons_zero, List.set_cons_succ]
  refine held_step 7 (by kernel_rfl) rfl (by rfl) (fun K hK => ?_)
  go_simp
  refine (calls_box (hB.out _ hH3)).mono ?_
  rintro e W7 ⟨⟨⟨vB, rfl, ownB⟩, hBB⟩⟩
  dsimp only
  refine hK.out _ _ (hH3.trans (hBB.mono hH3.size)) (fun hH7 => ?_)
  clear hK K
  try simp only [Act.put, List.setIfInBounds_toArray, List.set_cons_zero, List.set_cons_succ]
  have rA := ownA.row.1.old hBB
  obtain ⟨aB, cB, rfl, rB⟩ := own_read2 ownB
  try simp only [Act.put, List.setIfInBounds_toArray, List.set_cons_zero, List.set_cons_succ]
  have hSB := Box.mk (sameBytes_any (some ⟨gA, 0, none⟩) aB (33 + n) capA T.length cB T T _ rA rB (by unfold maxLen; omega) (by rw [hT.out]; unfold maxLen; omega))
  rw [eqB_true rfl] at hSB
  refine held_step 8 (by kernel_rfl) rfl (by rfl) (fun K hK => ?_)
  go_simp
  refine (calls_box (hSB.out)).mono ?_
  rintro e W8 ⟨⟨rfl, qS, rfl⟩⟩
  dsimp only
  refine hK.out _ _ (below_drewN2 hH7 qS) (fun hH8 => ?_)
  clear hK K
  try simp only [Act.put, List.setIfInBounds_toArray, List.set_cons_zero, List.set_cons_succ]
  refine held_take 9 (.bool true) rfl (by kernel_rfl) (by kernel_rfl) (by kernel_rfl) (held_pure (by rfl) (fun W => by go_simp)) (by assumption) ?_
  try simp only [Act.put, List.setIfInBounds_toArray, List.set_cons_zero, List.set_cons_succ]
  refine held_done (by kernel_rfl) ?_ _
  have Bf := Box.mk hH8
  clear ownA ownB rA rB hBA hBB hSB hH0 hH3 hH7 hH8
  have hRI := Box.mk (roomyIs_any (some ⟨g, 0, none⟩) a1 (n + 100) (n + 100) n c1 (roomyL L) L _ (row_whole ((Bf.out.block g hgl.out).trans HG.out) HL.out) (HR.out.old Bf.out) (by unfold maxLen; omega) hn)
  rw [eqB_true rfl] at hRI
  go_wp2_with (go_at_call 27; refine (calls_box hRI.out).mono ?_)
  rintro e W9 ⟨⟨rfl, hB9⟩⟩
  have B9 := Box.mk (B0.out.trans ((Bf.out.trans (hB9.mono Bf.out.size)).mono B0.out.size))
  clear hB9
  go_wp2
  go_ret
  exact ⟨rfl, B9.out⟩
end Go.Proofs.YteiepenanffhcaaDoor
