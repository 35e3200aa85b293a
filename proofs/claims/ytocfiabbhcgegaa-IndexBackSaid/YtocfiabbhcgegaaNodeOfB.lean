/- A branch's form as a node: the walk of node.nodeOf. -/
import Derived.Test.YtocfiabbhcgegaaNodeOf
namespace Go.Proofs.Ytocfiabbhcgegaa
open Go Go.RowKit
set_option linter.unusedVariables false

set_option maxRecDepth 100000 in
set_option maxHeartbeats 4000000 in
theorem nodeOf_branch (l r : Child) (w : World) :
    Calls Try.prog 33 #[.iface 79 (.agg (brC l r).toArray)] w fun e w' => e = .returned (.agg (nodeC ⟨2, l.page, r.page, l.count, r.count, l.sum, r.sum, zero32, none, 0, 0⟩).toArray) ∧ Below w.heap.size w w' := by
  have hz35 : ∀ W : World, (zeroValue 46).run Try.prog W = .ok (.agg (nodeC noNode).toArray) W := fun W => by kernel_rfl
  have hz81 : ∀ W : World, (zeroValue 79).run Try.prog W = .ok (.agg (brC noChild noChild).toArray) W := fun W => by kernel_rfl
  have hz79 : ∀ W : World, (zeroValue 77).run Try.prog W = .ok (.agg (chC noChild).toArray) W := fun W => by kernel_rfl
  have hs81 : Box ((brC noChild noChild).toArray.size = (brC l r).toArray.size) := ⟨by rw [List.size_toArray, List.size_toArray, length_brC, length_brC]⟩
  have hi81 : Box ((Try.prog.info? 79).map (·.size) = some (brC l r).toArray.size) := ⟨by
    have h : (Try.prog.info? 79).map (·.size) = some 68 := by kernel_rfl
    rw [h, List.size_toArray, length_brC]⟩
  have ha81 := Box.mk (brC_all l r)
  have hi79 : ∀ c : Child, Box ((Try.prog.info? 77).map (·.size) = some (chC c).toArray.size) := fun c => ⟨by
    have h : (Try.prog.info? 77).map (·.size) = some 34 := by kernel_rfl
    rw [h, List.size_toArray, length_chC]⟩
  have hj79 : ∀ c : Child, Box ((Try.prog.info? 77).map (·.size) = some (chC c).length) := fun c => ⟨by rw [← List.size_toArray]; exact (hi79 c).out⟩
  have hs79 : ∀ c : Child, Box ((chC noChild).toArray.size = (chC c).toArray.size) := fun c => ⟨by rw [List.size_toArray, List.size_toArray, length_chC, length_chC]⟩
  have ha79 : ∀ c : Child, Box ((chC c).toArray.all (·.oneCell') = true) := fun c => ⟨chC_all c⟩
  have hi35 : Box ((Try.prog.info? 46).map (·.size) = some (nodeC ⟨2, l.page, r.page, l.count, r.count, l.sum, r.sum, zero32, none, 0, 0⟩).toArray.size) := ⟨by
    have h : (Try.prog.info? 46).map (·.size) = some 102 := by kernel_rfl
    rw [h, List.size_toArray, length_nodeC]⟩
  have hs35 : Box ((nodeC noNode).toArray.size = (nodeC ⟨2, l.page, r.page, l.count, r.count, l.sum, r.sum, zero32, none, 0, 0⟩).toArray.size) := ⟨by rw [List.size_toArray, List.size_toArray, length_nodeC, length_nodeC]⟩
  have ha35 := Box.mk (nodeC_all ⟨2, l.page, r.page, l.count, r.count, l.sum, r.sum, zero32, none, 0, 0⟩)
  have hbn := Box.mk (built_node_branch l.page r.page l.count r.count l.sum r.sum)
  have UD : Try.prog.underlying 23 = some (.array 32 5) := Try.underlying23
  have hiD : Hid ((Try.prog.info? 23).map (·.size) = some 32) := by unfold Hid; kernel_rfl
  have ta : ∀ v W, (Instr.typeAssert (.iface 79 (.agg v)) 65 75 true).run Try.prog W = .ok (.tuple #[.agg (leafC zero32 (.slice none 0 0)).toArray, .bool false]) W := fun v W => by kernel_rfl
  have tb : ∀ v W, (Instr.typeAssert (.iface 79 (.agg v)) 65 79 true).run Try.prog W = .ok (.tuple #[.agg v, .bool true]) W := fun v W => by kernel_rfl
  have rl : ∀ W : World, W.heap[w.heap.size + 1]? = some (.cells (brC l r).toArray 79 (0, 0)) → W.rangeAt (w.heap.size + 1) 0 (chC l) := fun W hW => rangeAt_cells hW fun j hj => by
    rw [Nat.zero_add, ← Array.getElem?_toList]
    show (chC l ++ chC r)[j]? = _
    rw [List.getElem?_append_left hj]
  have rr : ∀ W : World, W.heap[w.heap.size + 1]? = some (.cells (brC l r).toArray 79 (0, 0)) → W.rangeAt (w.heap.size + 1) 34 (chC r) := fun W hW => rangeAt_cells hW fun j hj => by
    rw [brC_at, ← Array.getElem?_toList]
  have RL := Box.mk rl
  have RR := Box.mk rr
  have e0 : ∀ (c : Child) (W : World) (g : Nat), W.heap[g]? = some (.cells (chC c).toArray 77 (0, 0)) → W.cell? ⟨g, 0, none⟩ = some (.int .i64 c.page) ∧ W.cell? ⟨g, 1, none⟩ = some (.int .i64 c.count) ∧ W.rangeAt g 2 (bvs c.sum.1) := fun c W g hg => ⟨by rw [cell_of_row W g 0 _ _ _ hg]; exact chC_0 c, by rw [cell_of_row W g 1 _ _ _ hg]; exact chC_1 c, rangeAt_cells hg fun j hj => by
    rw [← Array.getElem?_toList]
    show (Value.int .i64 c.page :: Value.int .i64 c.count :: bvs c.sum.1)[2 + j]? = _
    rw [Nat.add_comm]; rfl⟩
  have E0 := Box.mk e0
  clear rl rr e0
  generalize hnr : (nodeC ⟨2, l.page, r.page, l.count, r.count, l.sum, r.sum, zero32, none, 0, 0⟩).toArray = nr at *
  have HNR := Box.mk hnr
  clear hnr
  generalize (nodeC noNode).toArray = zn at *
  generalize (brC noChild noChild).toArray = zb at *
  generalize (chC noChild).toArray = zc at *
  generalize (leafC zero32 (.slice none 0 0)).toArray = zl at *
  generalize (brC l r).toArray = lk at *
  go_enter Try.func33, Try.ntmps33
  go_wp2_with (refine wpList_store_row rfl 79 (.tmp 4) (.tmp 19) ?_ (w.heap.size + 1) zb lk 79 ?_ ?_ ?_ hs81.out hi81.out ha81.out ?_; rfl; rfl; rfl; exact heap_new (by simp))
  intro w1 g1 G1
  have z1 : w.heap.size + 2 ≤ w1.heap.size := by have := G1.size; simpa using this
  have b1 : Below w.heap.size w w1 := ((Below.refl_alloc w _).alloc (by simp) _).grown G1 (by simp; omega) (fun k hk => by cases hk; omega)
  have f2 : Box (w1.heap[w.heap.size]? = some (.cells zn 46 (0, 0))) := ⟨(G1.block w.heap.size (by simp; omega) (by simp)).trans (heap_old (heap_new rfl))⟩
  have rkl := Box.mk (RL.out _ g1.out)
  have rkr := Box.mk (RR.out _ g1.out)
  clear g1 G1 ta tb hz35 hz81
  go_upto_region 7 with fail
  go_cut [5, 6] (fun s t W => ∃ g5 g6, s = .pointer (some ⟨g5, 0, none⟩) ∧ t = .pointer (some ⟨g6, 0, none⟩) ∧ Hid (W.heap[g5]? = some (.cells (chC l).toArray 77 (0, 0))) ∧ Hid (W.heap[g6]? = some (.cells (chC r).toArray 77 (0, 0))) ∧ Below w1.heap.size w1 W)
  case first =>
    go_wp2_with fail
    refine held_begin (fun W => Below w1.heap.size w1 W) (by kernel_rfl) (Below.refl _ w1).drew (fun hH0 => ?_)
    refine held_take 0 (.pointer (some ⟨w.heap.size + 1, 0, none⟩)) rfl (by kernel_rfl) (by kernel_rfl) (by kernel_rfl) (held_pure (by rfl) (fun W => by go_simp)) (by assumption) ?_
    try simp only [Act.put, List.setIfInBounds_toArray, List.set_cons_zero, List.set_cons_succ]
    refine held_take 1 (.agg (chC l).toArray) rfl (by kernel_rfl) (by kernel_rfl) (by kernel_rfl) (yieldsIf_load_mid (by rfl) 77 (.tmp 20) rfl (w.heap.size + 1) 0 rfl (chC l) _ (fun W hS => rangeAt_below rkl.out hS (by omega)) Try.underlying77 rfl (hj79 l).out) (by assumption) ?_
    try simp only [Act.put, List.setIfInBounds_toArray, List.set_cons_zero, List.set_cons_succ]
    refine held_take 2 (.pointer (some ⟨w.heap.size + 1, 34, none⟩)) rfl (by kernel_rfl) (by kernel_rfl) (by kernel_rfl) (held_pure (by rfl) (fun W => by go_simp)) (by assumption) ?_
    try simp only [Act.put, List.setIfInBounds_toArray, List.set_cons_zero, List.set_cons_succ]
    refine held_take 3 (.agg (chC r).toArray) rfl (by kernel_rfl) (by kernel_rfl) (by kernel_rfl) (yieldsIf_load_mid (by rfl) 77 (.tmp 22) rfl (w.heap.size + 1) 34 rfl (chC r) _ (fun W hS => rangeAt_below rkr.out hS (by omega)) Try.underlying77 rfl (hj79 r).out) (by assumption) ?_
    try simp only [Act.put, List.setIfInBounds_toArray, List.set_cons_zero, List.set_cons_succ]
    have hz0 : w1.heap.size ≤ w1.drew.heap.size := Nat.le_refl _
    generalize w1.drew = W0 at *
    refine held_step2 4 5 (by kernel_rfl) rfl rfl (by rfl) (by rfl) (fun K hK => ?_) (fun K hK => ?_)
    · skip
      go_simp
      refine hK.out _ _ (hH0.alloc hH0.size _) (fun hH1 => ?_)
      clear hK K
      try simp only [Act.put, List.setIfInBounds_toArray, List.set_cons_zero, List.set_cons_succ]
      have k1 : (W0.alloc (.cells zc 77)).heap[W0.heap.size]? = some (.cells zc 77 (0, 0)) := heap_new rfl
      have y1 : (W0.alloc (.cells zc 77)).heap.size = W0.heap.size + 1 := by simp
      generalize W0.alloc (.cells zc 77) = W1 at *
      refine held_step 5 (by kernel_rfl) rfl (by rfl) (fun K hK => ?_)
      go_simp
      refine hK.out _ _ (hH1.alloc hH1.size _) (fun hH2 => ?_)
      clear hK K
      try simp only [Act.put, List.setIfInBounds_toArray, List.set_cons_zero, List.set_cons_succ]
      have k2 : Box ((W1.alloc (.cells zc 77)).heap[W0.heap.size + 1]? = some (.cells zc 77 (0, 0))) := ⟨heap_new y1.symm⟩
      have k1' : Box ((W1.alloc (.cells zc 77)).heap[W0.heap.size]? = some (.cells zc 77 (0, 0))) := ⟨heap_old k1⟩
      generalize W1.alloc (.cells zc 77) = W2 at *
      clear k1
      refine held_step 6 (by kernel_rfl) rfl (by rfl) (fun K hK => ?_)
      refine oper_of_list rfl ?_
      refine wpList_store_row rfl 77 (.tmp 5) (.tmp 21) rfl W0.heap.size zc (chC l).toArray 77 rfl rfl k1'.out (hs79 l).out (hi79 l).out (ha79 l).out ?_
      intro W3 g5 G5
      refine ⟨rfl, ?_⟩
      have h3 : Below w1.heap.size w1 W3 := hH2.grown G5 hH2.size (fun k hk => by cases hk; have := hH0.size; omega)
      have k6 : Box (W3.heap[(W0.heap.size + 1)]? = some (.cells zc 77 (0, 0))) := ⟨(G5.block _ (heap_lt k2.out) (by simp <;> omega)).trans k2.out⟩
      refine hK.out _ _ h3 (fun _ => ?_)
      clear hK K
      try simp only [Act.put]
      refine held_step 7 (by kernel_rfl) rfl (by rfl) (fun K hK => ?_)
      refine oper_of_list rfl ?_
      refine wpList_store_row rfl 77 (.tmp 6) (.tmp 23) rfl (W0.heap.size + 1) zc (chC r).toArray 77 rfl rfl k6.out (hs79 r).out (hi79 r).out (ha79 r).out ?_
      intro W4 g6 G6
      refine ⟨rfl, ?_⟩
      have h4 : Below w1.heap.size w1 W4 := h3.grown G6 h3.size (fun k hk => by cases hk; have := hH0.size; omega)
      have k5 : Hid (W4.heap[W0.heap.size]? = some (.cells (chC l).toArray 77 (0, 0))) := (G6.block _ (heap_lt g5.out) (by simp <;> omega)).trans g5.out
      refine hK.out _ _ h4 (fun _ => ?_)
      clear hK K
      try simp only [Act.put]
      refine held_done (by kernel_rfl) ?_ _
      go_wp2_with fail
      go_meet
      exact ⟨_, _, rfl, rfl, k5, g6, h4⟩
    · skip
      go_simp
      refine hK.out _ _ (hH0.alloc hH0.size _) (fun hH1 => ?_)
      clear hK K
      try simp only [Act.put, List.setIfInBounds_toArray, List.set_cons_zero, List.set_cons_succ]
      have k1 : (W0.alloc (.cells zc 77)).heap[W0.heap.size]? = some (.cells zc 77 (0, 0)) := heap_new rfl
      have y1 : (W0.alloc (.cells zc 77)).heap.size = W0.heap.size + 1 := by simp
      generalize W0.alloc (.cells zc 77) = W1 at *
      refine held_step 4 (by kernel_rfl) rfl (by rfl) (fun K hK => ?_)
      go_simp
      refine hK.out _ _ (hH1.alloc hH1.size _) (fun hH2 => ?_)
      clear hK K
      try simp only [Act.put, List.setIfInBounds_toArray, List.set_cons_zero, List.set_cons_succ]
      have k2 : Box ((W1.alloc (.cells zc 77)).heap[W0.heap.size + 1]? = some (.cells zc 77 (0, 0))) := ⟨heap_new y1.symm⟩
      have k1' : Box ((W1.alloc (.cells zc 77)).heap[W0.heap.size]? = some (.cells zc 77 (0, 0))) := ⟨heap_old k1⟩
      generalize W1.alloc (.cells zc 77) = W2 at *
      clear k1
      refine held_step 6 (by kernel_rfl) rfl (by rfl) (fun K hK => ?_)
      refine oper_of_list rfl ?_
      refine wpList_store_row rfl 77 (.tmp 5) (.tmp 21) rfl (W0.heap.size + 1) zc (chC l).toArray 77 rfl rfl k2.out (hs79 l).out (hi79 l).out (ha79 l).out ?_
      intro W3 g5 G5
      refine ⟨rfl, ?_⟩
      have h3 : Below w1.heap.size w1 W3 := hH2.grown G5 hH2.size (fun k hk => by cases hk; have := hH0.size; omega)
      have k6 : Box (W3.heap[W0.heap.size]? = some (.cells zc 77 (0, 0))) := ⟨(G5.block _ (heap_lt k1'.out) (by simp <;> omega)).trans k1'.out⟩
      refine hK.out _ _ h3 (fun _ => ?_)
      clear hK K
      try simp only [Act.put]
      refine held_step 7 (by kernel_rfl) rfl (by rfl) (fun K hK => ?_)
      refine oper_of_list rfl ?_
      refine wpList_store_row rfl 77 (.tmp 6) (.tmp 23) rfl W0.heap.size zc (chC r).toArray 77 rfl rfl k6.out (hs79 r).out (hi79 r).out (ha79 r).out ?_
      intro W4 g6 G6
      refine ⟨rfl, ?_⟩
      have h4 : Below w1.heap.size w1 W4 := h3.grown G6 h3.size (fun k hk => by cases hk; have := hH0.size; omega)
      have k5 : Hid (W4.heap[(W0.heap.size + 1)]? = some (.cells (chC l).toArray 77 (0, 0))) := (G6.block _ (heap_lt g5.out) (by simp <;> omega)).trans g5.out
      refine hK.out _ _ h4 (fun _ => ?_)
      clear hK K
      try simp only [Act.put]
      refine held_done (by kernel_rfl) ?_ _
      go_wp2_with fail
      go_meet
      exact ⟨_, _, rfl, rfl, k5, g6, h4⟩
  obtain ⟨g5, g6, rfl, rfl, h5, h6, bc⟩ := hcut
  obtain ⟨a0, a1, a2⟩ := E0.out l wc g5 h5.out
  obtain ⟨d0, d1, d2⟩ := E0.out r wc g6 h6.out
  have A2 := Box.mk a2
  have D2 := Box.mk d2
  have bw := b1.trans (bc.mono b1.size)
  have f3 : Box (wc.heap[w.heap.size]? = some (.cells zn 46 (0, 0))) := ⟨(bc.block _ (by omega)).trans f2.out⟩
  clear a2 d2 h5 h6 bc
  go_wp2_with (first
    | (refine wpList_load32g ?_ 23 (.tmp 32) ?_ g5 2 ?_ l.sum 5 ?_ UD hiD ?_; rfl; rfl; rfl; exact A2.out)
    | (refine wpList_load32g ?_ 23 (.tmp 34) ?_ g6 2 ?_ r.sum 5 ?_ UD hiD ?_; rfl; rfl; rfl; exact D2.out)
    | (refine wpList_builtg ?_ 46 [(0, .const (.int .i64 2)), (1, .tmp 25), (2, .tmp 27), (3, .tmp 29), (4, .tmp 31), (5, .tmp 33), (6, .tmp 35)] ?_ [(0, .int .i64 2), (1, .int .i64 l.page), (2, .int .i64 r.page), (3, .int .i64 l.count), (4, .int .i64 r.count), (5, .agg (dc l.sum)), (6, .agg (dc r.sum))] ?_ nr hbn.out ?_; rfl; rfl; rfl)
    | (refine wpList_store_row rfl 46 (.tmp 2) (.tmp 36) ?_ w.heap.size zn nr 46 ?_ ?_ f3.out hs35.out hi35.out ha35.out ?_; rfl; rfl; rfl))
  intro w3 g3 G3
  have b3 : Below w.heap.size w w3 := bw.grown G3 bw.size (fun k hk => by cases hk; exact Nat.le_refl _)
  go_wp2
  exact bodyPost_ret (v := .agg nr) (results_cell_row (p := 2) (ty := 46) rfl _ _ w.heap.size 46 _ (0, 0) _ rfl g3.out Try.underlying46 rfl hi35.out) rfl ⟨rfl, b3⟩
end Go.Proofs.Ytocfiabbhcgegaa
