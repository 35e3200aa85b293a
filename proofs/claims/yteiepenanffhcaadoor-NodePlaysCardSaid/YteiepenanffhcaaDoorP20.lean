/- Texts joined: NodeOfB, Decode, RDec. -/
import Derived.Test.YteiepenanffhcaaDoorP05
import Derived.Laws.ResultCell
import Derived.Test.YteiepenanffhcaaDoorP18
import Derived.Test.YteiepenanffhcaaDoorP06
import Derived.Test.YteiepenanffhcaaDoorP01
/- A branch's form as a node: the walk of node.nodeOf. -/
namespace Go.Proofs.YteiepenanffhcaaDoor
open Go Go.RowKit
set_option linter.unusedVariables false

set_option maxRecDepth 100000 in
set_option maxHeartbeats 4000000 in
theorem nodeOf_branch (l r : Child) (w : World) :
    Calls Tryd.prog 40 #[.iface 77 (.agg (brC l r).toArray)] w fun e w' => e = .returned (.agg (nodeC ⟨2, l.page, r.page, l.count, r.count, l.sum, r.sum, zero32, none, 0, 0⟩).toArray) ∧ Below w.heap.size w w' := by
  have hz35 : ∀ W : World, (zeroValue 30).run Tryd.prog W = .ok (.agg (nodeC noNode).toArray) W := fun W => by kernel_rfl
  have hz81 : ∀ W : World, (zeroValue 77).run Tryd.prog W = .ok (.agg (brC noChild noChild).toArray) W := fun W => by kernel_rfl
  have hz79 : ∀ W : World, (zeroValue 75).run Tryd.prog W = .ok (.agg (chC noChild).toArray) W := fun W => by kernel_rfl
  have hs81 : Box ((brC noChild noChild).toArray.size = (brC l r).toArray.size) := ⟨by rw [List.size_toArray, List.size_toArray, length_brC, length_brC]⟩
  have hi81 : Box ((Tryd.prog.info? 77).map (·.size) = some (brC l r).toArray.size) := ⟨by
    have h : (Tryd.prog.info? 77).map (·.size) = some 68 := by kernel_rfl
    rw [h, List.size_toArray, length_brC]⟩
  have ha81 := Box.mk (brC_all l r)
  have hi79 : ∀ c : Child, Box ((Tryd.prog.info? 75).map (·.size) = some (chC c).toArray.size) := fun c => ⟨by
    have h : (Tryd.prog.info? 75).map (·.size) = some 34 := by kernel_rfl
    rw [h, List.size_toArray, length_chC]⟩
  have hj79 : ∀ c : Child, Box ((Tryd.prog.info? 75).map (·.size) = some (chC c).length) := fun c => ⟨by rw [← List.size_toArray]; exact (hi79 c).out⟩
  have hs79 : ∀ c : Child, Box ((chC noChild).toArray.size = (chC c).toArray.size) := fun c => ⟨by rw [List.size_toArray, List.size_toArray, length_chC, length_chC]⟩
  have ha79 : ∀ c : Child, Box ((chC c).toArray.all (·.oneCell') = true) := fun c => ⟨chC_all c⟩
  have hi35 : Box ((Tryd.prog.info? 30).map (·.size) = some (nodeC ⟨2, l.page, r.page, l.count, r.count, l.sum, r.sum, zero32, none, 0, 0⟩).toArray.size) := ⟨by
    have h : (Tryd.prog.info? 30).map (·.size) = some 102 := by kernel_rfl
    rw [h, List.size_toArray, length_nodeC]⟩
  have hs35 : Box ((nodeC noNode).toArray.size = (nodeC ⟨2, l.page, r.page, l.count, r.count, l.sum, r.sum, zero32, none, 0, 0⟩).toArray.size) := ⟨by rw [List.size_toArray, List.size_toArray, length_nodeC, length_nodeC]⟩
  have ha35 := Box.mk (nodeC_all ⟨2, l.page, r.page, l.count, r.count, l.sum, r.sum, zero32, none, 0, 0⟩)
  have hbn := Box.mk (built_node_branch l.page r.page l.count r.count l.sum r.sum)
  have UD : Tryd.prog.underlying 27 = some (.array 32 5) := Tryd.underlying27
  have hiD : Hid ((Tryd.prog.info? 27).map (·.size) = some 32) := by unfold Hid; kernel_rfl
  have ta : ∀ v W, (Instr.typeAssert (.iface 77 (.agg v)) 55 73 true).run Tryd.prog W = .ok (.tuple #[.agg (leafC zero32 (.slice none 0 0)).toArray, .bool false]) W := fun v W => by kernel_rfl
  have tb : ∀ v W, (Instr.typeAssert (.iface 77 (.agg v)) 55 77 true).run Tryd.prog W = .ok (.tuple #[.agg v, .bool true]) W := fun v W => by kernel_rfl
  have rl : ∀ W : World, W.heap[w.heap.size + 1]? = some (.cells (brC l r).toArray 77 (0, 0)) → W.rangeAt (w.heap.size + 1) 0 (chC l) := fun W hW => rangeAt_cells hW fun j hj => by
    rw [Nat.zero_add, ← Array.getElem?_toList]
    show (chC l ++ chC r)[j]? = _
    rw [List.getElem?_append_left hj]
  have rr : ∀ W : World, W.heap[w.heap.size + 1]? = some (.cells (brC l r).toArray 77 (0, 0)) → W.rangeAt (w.heap.size + 1) 34 (chC r) := fun W hW => rangeAt_cells hW fun j hj => by
    rw [brC_at, ← Array.getElem?_toList]
  have RL := Box.mk rl
  have RR := Box.mk rr
  have e0 : ∀ (c : Child) (W : World) (g : Nat), W.heap[g]? = some (.cells (chC c).toArray 75 (0, 0)) → W.cell? ⟨g, 0, none⟩ = some (.int .i64 c.page) ∧ W.cell? ⟨g, 1, none⟩ = some (.int .i64 c.count) ∧ W.rangeAt g 2 (bvs c.sum.1) := fun c W g hg => ⟨by rw [cell_of_row W g 0 _ _ _ hg]; exact chC_0 c, by rw [cell_of_row W g 1 _ _ _ hg]; exact chC_1 c, rangeAt_cells hg fun j hj => by
    rw [← Array.getElem?_toList]
    show (Value.int .i64 c.page :: Value.int .i64 c.count :: bvs c.sum.1)[2 + j]? = _
    rw [Nat.add_comm]; rfl⟩
  have E0 := Box.mk e0
  clear rl rr e0
  generalize hnr : (nodeC ⟨2, l.page, r.page, l.count, r.count, l.sum, r.sum, zero32, none, 0, 0⟩).toArray = nr at *
  have HNR := Box.mk hnr
  clear hnr
  generalize (nodeC noNode).toArray = zn at *
  generalize (brC noChild noChild).toArray = zb at *
  generalize (chC noChild).toArray = zc at *
  generalize (leafC zero32 (.slice none 0 0)).toArray = zl at *
  generalize (brC l r).toArray = lk at *
  go_enter Tryd.func40, Tryd.ntmps40
  go_wp2_with (refine wpList_store_row rfl 77 (.tmp 4) (.tmp 19) ?_ (w.heap.size + 1) zb lk 77 ?_ ?_ ?_ hs81.out hi81.out ha81.out ?_; rfl; rfl; rfl; exact heap_new (by simp))
  intro w1 g1 G1
  have z1 : w.heap.size + 2 ≤ w1.heap.size := by have := G1.size; simpa using this
  have b1 : Below w.heap.size w w1 := ((Below.refl_alloc w _).alloc (by simp) _).grown G1 (by simp; omega) (fun k hk => by cases hk; omega)
  have f2 : Box (w1.heap[w.heap.size]? = some (.cells zn 30 (0, 0))) := ⟨(G1.block w.heap.size (by simp; omega) (by simp)).trans (heap_old (heap_new rfl))⟩
  have rkl := Box.mk (RL.out _ g1.out)
  have rkr := Box.mk (RR.out _ g1.out)
  clear g1 G1 ta tb hz35 hz81
  go_upto_region 7 with fail
  go_cut [5, 6] (fun s t W => ∃ g5 g6, s = .pointer (some ⟨g5, 0, none⟩) ∧ t = .pointer (some ⟨g6, 0, none⟩) ∧ Hid (W.heap[g5]? = some (.cells (chC l).toArray 75 (0, 0))) ∧ Hid (W.heap[g6]? = some (.cells (chC r).toArray 75 (0, 0))) ∧ Below w1.heap.size w1 W)
  case first =>
    go_wp2_with fail
    refine held_begin (fun W => Below w1.heap.size w1 W) (by kernel_rfl) (Below.refl _ w1).drew (fun hH0 => ?_)
    refine held_take 0 (.pointer (some ⟨w.heap.size + 1, 0, none⟩)) rfl (by kernel_rfl) (by kernel_rfl) (by kernel_rfl) (held_pure (by rfl) (fun W => by go_simp)) (by assumption) ?_
    try simp only [Act.put, List.setIfInBounds_toArray, List.set_cons_zero, List.set_cons_succ]
    refine held_take 1 (.agg (chC l).toArray) rfl (by kernel_rfl) (by kernel_rfl) (by kernel_rfl) (yieldsIf_load_mid (by rfl) 75 (.tmp 20) rfl (w.heap.size + 1) 0 rfl (chC l) _ (fun W hS => rangeAt_below rkl.out hS (by omega)) Tryd.underlying75 rfl (hj79 l).out) (by assumption) ?_
    try simp only [Act.put, List.setIfInBounds_toArray, List.set_cons_zero, List.set_cons_succ]
    refine held_take 2 (.pointer (some ⟨w.heap.size + 1, 34, none⟩)) rfl (by kernel_rfl) (by kernel_rfl) (by kernel_rfl) (held_pure (by rfl) (fun W => by go_simp)) (by assumption) ?_
    try simp only [Act.put, List.setIfInBounds_toArray, List.set_cons_zero, List.set_cons_succ]
    refine held_take 3 (.agg (chC r).toArray) rfl (by kernel_rfl) (by kernel_rfl) (by kernel_rfl) (yieldsIf_load_mid (by rfl) 75 (.tmp 22) rfl (w.heap.size + 1) 34 rfl (chC r) _ (fun W hS => rangeAt_below rkr.out hS (by omega)) Tryd.underlying75 rfl (hj79 r).out) (by assumption) ?_
    try simp only [Act.put, List.setIfInBounds_toArray, List.set_cons_zero, List.set_cons_succ]
    have hz0 : w1.heap.size ≤ w1.drew.heap.size := Nat.le_refl _
    generalize w1.drew = W0 at *
    refine held_step2 4 5 (by kernel_rfl) rfl rfl (by rfl) (by rfl) (fun K hK => ?_) (fun K hK => ?_)
    · skip
      go_simp
      refine hK.out _ _ (hH0.alloc hH0.size _) (fun hH1 => ?_)
      clear hK K
      try simp only [Act.put, List.setIfInBounds_toArray, List.set_cons_zero, List.set_cons_succ]
      have k1 : (W0.alloc (.cells zc 75)).heap[W0.heap.size]? = some (.cells zc 75 (0, 0)) := heap_new rfl
      have y1 : (W0.alloc (.cells zc 75)).heap.size = W0.heap.size + 1 := by simp
      generalize W0.alloc (.cells zc 75) = W1 at *
      refine held_step 5 (by kernel_rfl) rfl (by rfl) (fun K hK => ?_)
      go_simp
      refine hK.out _ _ (hH1.alloc hH1.size _) (fun hH2 => ?_)
      clear hK K
      try simp only [Act.put, List.setIfInBounds_toArray, List.set_cons_zero, List.set_cons_succ]
      have k2 : Box ((W1.alloc (.cells zc 75)).heap[W0.heap.size + 1]? = some (.cells zc 75 (0, 0))) := ⟨heap_new y1.symm⟩
      have k1' : Box ((W1.alloc (.cells zc 75)).heap[W0.heap.size]? = some (.cells zc 75 (0, 0))) := ⟨heap_old k1⟩
      generalize W1.alloc (.cells zc 75) = W2 at *
      clear k1
      refine held_step 6 (by kernel_rfl) rfl (by rfl) (fun K hK => ?_)
      refine oper_of_list rfl ?_
      refine wpList_store_row rfl 75 (.tmp 5) (.tmp 21) rfl W0.heap.size zc (chC l).toArray 75 rfl rfl k1'.out (hs79 l).out (hi79 l).out (ha79 l).out ?_
      intro W3 g5 G5
      refine ⟨rfl, ?_⟩
      have h3 : Below w1.heap.size w1 W3 := hH2.grown G5 hH2.size (fun k hk => by cases hk; have := hH0.size; omega)
      have k6 : Box (W3.heap[(W0.heap.size + 1)]? = some (.cells zc 75 (0, 0))) := ⟨(G5.block _ (heap_lt k2.out) (by simp <;> omega)).trans k2.out⟩
      refine hK.out _ _ h3 (fun _ => ?_)
      clear hK K
      try simp only [Act.put]
      refine held_step 7 (by kernel_rfl) rfl (by rfl) (fun K hK => ?_)
      refine oper_of_list rfl ?_
      refine wpList_store_row rfl 75 (.tmp 6) (.tmp 23) rfl (W0.heap.size + 1) zc (chC r).toArray 75 rfl rfl k6.out (hs79 r).out (hi79 r).out (ha79 r).out ?_
      intro W4 g6 G6
      refine ⟨rfl, ?_⟩
      have h4 : Below w1.heap.size w1 W4 := h3.grown G6 h3.size (fun k hk => by cases hk; have := hH0.size; omega)
      have k5 : Hid (W4.heap[W0.heap.size]? = some (.cells (chC l).toArray 75 (0, 0))) := (G6.block _ (heap_lt g5.out) (by simp <;> omega)).trans g5.out
      refine hK.out _ _ h4 (fun _ => ?_)
      clear hK K
      try simp only [Act.put]
      refine held_done (by kernel_rfl) ?_ _
      go_wp2_with fail
      go_meet
      exact ⟨_, _, rfl, rfl, k5, g6, h4⟩
    · skip
      go_simp
      refine hK.out _ _ (hH0.alloc hH0.size _) (fun hH1 => ?_)
      clear hK K
      try simp only [Act.put, List.setIfInBounds_toArray, List.set_cons_zero, List.set_cons_succ]
      have k1 : (W0.alloc (.cells zc 75)).heap[W0.heap.size]? = some (.cells zc 75 (0, 0)) := heap_new rfl
      have y1 : (W0.alloc (.cells zc 75)).heap.size = W0.heap.size + 1 := by simp
      generalize W0.alloc (.cells zc 75) = W1 at *
      refine held_step 4 (by kernel_rfl) rfl (by rfl) (fun K hK => ?_)
      go_simp
      refine hK.out _ _ (hH1.alloc hH1.size _) (fun hH2 => ?_)
      clear hK K
      try simp only [Act.put, List.setIfInBounds_toArray, List.set_cons_zero, List.set_cons_succ]
      have k2 : Box ((W1.alloc (.cells zc 75)).heap[W0.heap.size + 1]? = some (.cells zc 75 (0, 0))) := ⟨heap_new y1.symm⟩
      have k1' : Box ((W1.alloc (.cells zc 75)).heap[W0.heap.size]? = some (.cells zc 75 (0, 0))) := ⟨heap_old k1⟩
      generalize W1.alloc (.cells zc 75) = W2 at *
      clear k1
      refine held_step 6 (by kernel_rfl) rfl (by rfl) (fun K hK => ?_)
      refine oper_of_list rfl ?_
      refine wpList_store_row rfl 75 (.tmp 5) (.tmp 21) rfl (W0.heap.size + 1) zc (chC l).toArray 75 rfl rfl k2.out (hs79 l).out (hi79 l).out (ha79 l).out ?_
      intro W3 g5 G5
      refine ⟨rfl, ?_⟩
      have h3 : Below w1.heap.size w1 W3 := hH2.grown G5 hH2.size (fun k hk => by cases hk; have := hH0.size; omega)
      have k6 : Box (W3.heap[W0.heap.size]? = some (.cells zc 75 (0, 0))) := ⟨(G5.block _ (heap_lt k1'.out) (by simp <;> omega)).trans k1'.out⟩
      refine hK.out _ _ h3 (fun _ => ?_)
      clear hK K
      try simp only [Act.put]
      refine held_step 7 (by kernel_rfl) rfl (by rfl) (fun K hK => ?_)
      refine oper_of_list rfl ?_
      refine wpList_store_row rfl 75 (.tmp 6) (.tmp 23) rfl W0.heap.size zc (chC r).toArray 75 rfl rfl k6.out (hs79 r).out (hi79 r).out (ha79 r).out ?_
      intro W4 g6 G6
      refine ⟨rfl, ?_⟩
      have h4 : Below w1.heap.size w1 W4 := h3.grown G6 h3.size (fun k hk => by cases hk; have := hH0.size; omega)
      have k5 : Hid (W4.heap[(W0.heap.size + 1)]? = some (.cells (chC l).toArray 75 (0, 0))) := (G6.block _ (heap_lt g5.out) (by simp <;> omega)).trans g5.out
      refine hK.out _ _ h4 (fun _ => ?_)
      clear hK K
      try simp only [Act.put]
      refine held_done (by kernel_rfl) ?_ _
      go_wp2_with fail
      go_meet
      exact ⟨_, _, rfl, rfl, k5, g6, h4⟩
  obtain ⟨g5, g6, rfl, rfl, h5, h6, bc⟩ := hcut
  obtain ⟨a0, a1, a2⟩ := E0.out l wc g5 h5.out
  obtain ⟨d0, d1, d2⟩ := E0.out r wc g6 h6.out
  have A2 := Box.mk a2
  have D2 := Box.mk d2
  have bw := b1.trans (bc.mono b1.size)
  have f3 : Box (wc.heap[w.heap.size]? = some (.cells zn 30 (0, 0))) := ⟨(bc.block _ (by omega)).trans f2.out⟩
  clear a2 d2 h5 h6 bc
  go_wp2_with (first
    | (refine wpList_load32g ?_ 27 (.tmp 32) ?_ g5 2 ?_ l.sum 5 ?_ UD hiD ?_; rfl; rfl; rfl; exact A2.out)
    | (refine wpList_load32g ?_ 27 (.tmp 34) ?_ g6 2 ?_ r.sum 5 ?_ UD hiD ?_; rfl; rfl; rfl; exact D2.out)
    | (refine wpList_builtg ?_ 30 [(0, .const (.int .i64 2)), (1, .tmp 25), (2, .tmp 27), (3, .tmp 29), (4, .tmp 31), (5, .tmp 33), (6, .tmp 35)] ?_ [(0, .int .i64 2), (1, .int .i64 l.page), (2, .int .i64 r.page), (3, .int .i64 l.count), (4, .int .i64 r.count), (5, .agg (dc l.sum)), (6, .agg (dc r.sum))] ?_ nr hbn.out ?_; rfl; rfl; rfl)
    | (refine wpList_store_row rfl 30 (.tmp 2) (.tmp 36) ?_ w.heap.size zn nr 30 ?_ ?_ f3.out hs35.out hi35.out ha35.out ?_; rfl; rfl; rfl))
  intro w3 g3 G3
  have b3 : Below w.heap.size w w3 := bw.grown G3 bw.size (fun k hk => by cases hk; exact Nat.le_refl _)
  go_wp2
  exact bodyPost_ret (v := .agg nr) (results_cell_row (p := 2) (ty := 30) rfl _ _ w.heap.size 30 _ (0, 0) _ rfl g3.out Tryd.underlying30 rfl hi35.out) rfl ⟨rfl, b3⟩
end Go.Proofs.YteiepenanffhcaaDoor

/- Pages' loads as nodes: the walk of node.Decode. -/
namespace Go.Proofs.YteiepenanffhcaaDoor
open Go Go.RowKit
set_option linter.unusedVariables false

theorem results_row_tmp {P : Program} {fn : Func} {p u : Tmp} {ty : TypeId} (h : fn.results = #[.cell p ty, .tmp u]) (tmps : Array Value) (w : World) (g : Nat) (t : TypeId) (cs : Array Value) (fr : Nat × Nat) (d : TypeDesc)
    (hp : tmps.getD p undef = .pointer (some ⟨g, 0, none⟩)) (hg : w.heap[g]? = some (.cells cs t fr)) (hu : P.underlying ty = some d) (hd : (match d with | .struct _ | .array _ _ => true | _ => false) = true) (hi : (P.info? ty).map (·.size) = some cs.size)
    (v : Value) (hv : tmps.getD u undef = v) : (results fn tmps).run P w = .ok (.tuple #[.agg cs, v]) w := by
  rw [results_cell_tmp h, hp, hv]
  simp [asAddr, run_loadVar_row w g t ty cs fr d hg hu hd hi]
theorem nodeSize (x : NodeV) : Box ((Tryd.prog.info? 30).map (·.size) = some (nodeC x).toArray.size) := ⟨by
  have h : (Tryd.prog.info? 30).map (·.size) = some 102 := by kernel_rfl
  rw [h, List.size_toArray, length_nodeC]⟩
theorem nodeSize2 (x y : NodeV) : Box ((nodeC x).toArray.size = (nodeC y).toArray.size) := ⟨by rw [List.size_toArray, List.size_toArray, length_nodeC, length_nodeC]⟩

set_option maxRecDepth 100000 in
set_option maxHeartbeats 4000000 in
/-- No form: refused, and nothing is told. -/
theorem decode_none (kind : Int) (ao : Option Addr) (n c : Nat) (w : World) (h : (kind = 1 ∧ n < 32) ∨ (kind = 2 ∧ n < 80) ∨ (kind = 2 ∧ 80 < n) ∨ ((kind == 1) = false ∧ (kind == 2) = false)) :
    Calls Tryd.prog 20 #[.int .i64 kind, .slice ao n c] w fun e w' => e = .returned (.tuple #[.agg (nodeC noNode).toArray, .int .i64 90]) ∧ Below w.heap.size w w' := by
  have hz35 : ∀ W : World, (zeroValue 30).run Tryd.prog W = .ok (.agg (nodeC noNode).toArray) W := fun W => by kernel_rfl
  have hb35 : Box (Tryd.prog.built 30 [] = some (nodeC noNode).toArray) := ⟨by kernel_rfl⟩
  have hr := fun W => read_none kind ao n c W h
  have hi := nodeSize noNode
  have ha := Box.mk (nodeC_all noNode)
  clear h
  generalize (nodeC noNode).toArray = zn at *
  go_enter Tryd.func20, Tryd.ntmps20
  go_wp2_with (go_at_call 39; refine (hr _).mono ?_)
  rintro e w1 ⟨rfl, hB⟩
  have b1 : Below w.heap.size w w1 := (Below.refl_alloc w _).trans (hB.mono (by simp))
  have f1 : Box (w1.heap[w.heap.size]? = some (.cells zn 30 (0, 0))) := ⟨(hB.block _ (by simp)).trans (heap_new rfl)⟩
  clear hB hr
  go_wp2_with (first
    | ((with_reducible refine wpList_builtg ?_ 30 [] ?_ [] ?_ zn hb35.out ?_); rfl; rfl; rfl)
    | ((with_reducible refine wpList_store_row rfl 30 (.tmp 4) (.tmp 17) ?_ w.heap.size zn zn 30 ?_ ?_ f1.out rfl hi.out ha.out ?_); rfl; rfl; rfl))
  intro w2 g2 G2
  have b2 : Below w.heap.size w w2 := b1.grown G2 b1.size (fun k hk => by cases hk; exact Nat.le_refl _)
  go_wp2
  exact bodyPost_ret (v := .tuple #[.agg zn, .int .i64 90]) (results_row_tmp (p := 4) (u := 5) (ty := 30) rfl _ _ w.heap.size 30 _ (0, 0) _ rfl g2.out Tryd.underlying30 rfl hi.out _ rfl) rfl ⟨rfl, b2⟩

set_option maxRecDepth 100000 in
set_option maxHeartbeats 4000000 in
theorem decode_leaf (b o m c' : Nat) (l : List UInt8) (w : World) (h : Row w (some ⟨b, o, none⟩) (m + 32) l) (hmc : m ≤ c') (hmx : m ≤ 140737488351232) (hmax : c' + 32 ≤ 9223372036854775807) :
    Calls Tryd.prog 20 #[.int .i64 1, .slice (some ⟨b, o, none⟩) (m + 32) (c' + 32)] w fun e w' =>
      (if m ≤ 128 then ∃ ao' c'', e = .returned (.tuple #[.agg (nodeC ⟨1, 0, 0, 0, 0, zero32, zero32, keyOf l, ao', m, c''⟩).toArray, .int .i64 0]) ∧ Own w' w.heap.size 5 (.slice ao' m c'') (l.drop 32)
        else e = .returned (.tuple #[.agg (nodeC noNode).toArray, .int .i64 90])) ∧ Below w.heap.size w w' := by
  obtain ⟨o', ho⟩ : ∃ o', (c' = 0 ∧ o' = o) ∨ (0 < c' ∧ o' = o + 32) := by
    rcases Nat.eq_zero_or_pos c' with h0 | h0
    · exact ⟨o, .inl ⟨h0, rfl⟩⟩
    · exact ⟨o + 32, .inr ⟨h0, rfl⟩⟩
  have htail : Row w (some ⟨b, o', none⟩) m (l.drop 32) := by
    rcases ho with ⟨h0, rfl⟩ | ⟨_, rfl⟩
    · have hm : m = 0 := by omega
      subst hm
      rw [List.drop_of_length_le (by have := h.1; omega)]
      exact Row.nil
    · have := h.drop 32 (by omega)
      rwa [Nat.add_sub_cancel] at this
  have hz35 : ∀ W : World, (zeroValue 30).run Tryd.prog W = .ok (.agg (nodeC noNode).toArray) W := fun W => by kernel_rfl
  have hb35 : Box (Tryd.prog.built 30 [] = some (nodeC noNode).toArray) := ⟨by kernel_rfl⟩
  have hr : ∀ W, Below w.heap.size w W → _ := fun W hW => read_leaf b o o' m c' l W (h.old hW) hmc hmax ho
  have hst := fun W => leaf_stands (keyOf l) (some ⟨b, o', none⟩) m c' W
  have hno : ∀ W, Below w.heap.size w W → _ := fun W hW => nodeOf_leaf (keyOf l) (some ⟨b, o', none⟩) m c' (l.drop 32) W (htail.old hW) (fun h => by cases h) (by omega)
  have hi := nodeSize noNode
  have hs := nodeSize2 noNode
  have ha := Box.mk (nodeC_all noNode)
  have hsz := nodeSize
  have hal := nodeC_all
  clear h htail ho hmc
  generalize (leafC (keyOf l) (.slice (some ⟨b, o', none⟩) m c')).toArray = lf at *
  have m1 : ∀ (fuel : Nat) (W : World), (method (fuel + 1) 73 (.agg lf) "ledger/node.stands").run Tryd.prog W = .ok (82, .agg lf) W := fun fuel W => by kernel_rfl
  generalize hzn : (nodeC noNode).toArray = zn at *
  have HR := Box.mk hr
  have HNO := Box.mk hno
  clear hr hno hzn
  rcases Nat.lt_or_ge 128 m with h128 | h128
  · simp only [if_neg (Nat.not_le.2 h128)]
    rw [show decide (m ≤ 128) = false from decide_eq_false (Nat.not_le.2 h128)] at hst
    have hs' := hs noNode
    clear hsz hal HNO hs
    go_enter Tryd.func20, Tryd.ntmps20
    go_wp2_with (go_at_call 39; refine (HR.out _ (Below.refl_alloc w _)).mono ?_)
    rintro e w1 ⟨rfl, hB⟩
    have b1 : Below w.heap.size w w1 := (Below.refl_alloc w _).trans (hB.mono (by simp))
    have f1 : Box (w1.heap[w.heap.size]? = some (.cells zn 30 (0, 0))) := ⟨(hB.block _ (by simp)).trans (heap_new rfl)⟩
    clear hB
    go_wp2_with (go_at_call 82; refine (hst _).mono ?_)
    rintro e w2 ⟨rfl, hB⟩
    have b2 : Below w.heap.size w w2 := b1.trans (hB.mono b1.size)
    have f2 : Box (w2.heap[w.heap.size]? = some (.cells zn 30 (0, 0))) := ⟨(hB.block _ (heap_lt f1.out)).trans f1.out⟩
    clear hB b1 f1
    go_wp2_with (first
      | ((with_reducible refine wpList_builtg ?_ 30 [] ?_ [] ?_ zn hb35.out ?_); rfl; rfl; rfl)
      | ((with_reducible refine wpList_store_row rfl 30 (.tmp 4) (.tmp 17) ?_ w.heap.size zn zn 30 ?_ ?_ f2.out rfl hi.out ha.out ?_); rfl; rfl; rfl))
    intro w3 g3 G3
    have b3 : Below w.heap.size w w3 := b2.grown G3 b2.size (fun k hk => by cases hk; exact Nat.le_refl _)
    go_wp2
    exact bodyPost_ret (v := .tuple #[.agg zn, .int .i64 90]) (results_row_tmp (p := 4) (u := 5) (ty := 30) rfl _ _ w.heap.size 30 _ (0, 0) _ rfl g3.out Tryd.underlying30 rfl hi.out _ rfl) rfl ⟨rfl, b3⟩
  · simp only [if_pos h128]
    rw [show decide (m ≤ 128) = true from decide_eq_true h128] at hst
    go_enter Tryd.func20, Tryd.ntmps20
    go_wp2_with (go_at_call 39; refine (HR.out _ (Below.refl_alloc w _)).mono ?_)
    rintro e w1 ⟨rfl, hB⟩
    have b1 : Below w.heap.size w w1 := (Below.refl_alloc w _).trans (hB.mono (by simp))
    have f1 : Box (w1.heap[w.heap.size]? = some (.cells zn 30 (0, 0))) := ⟨(hB.block _ (by simp)).trans (heap_new rfl)⟩
    clear hB
    go_wp2_with (go_at_call 82; refine (hst _).mono ?_)
    rintro e w2 ⟨rfl, hB⟩
    have b2 : Below w.heap.size w w2 := b1.trans (hB.mono b1.size)
    have f2 : Box (w2.heap[w.heap.size]? = some (.cells zn 30 (0, 0))) := ⟨(hB.block _ (heap_lt f1.out)).trans f1.out⟩
    clear hB b1 f1
    have hl2 := heap_lt f2.out
    go_wp2_with (go_at_call 40; refine (HNO.out _ b2).mono ?_)
    rintro e w3 ⟨ao', c'', rfl, own, hB⟩
    have b3 : Below w.heap.size w w3 := b2.trans (hB.mono b2.size)
    have f3 : Box (w3.heap[w.heap.size]? = some (.cells zn 30 (0, 0))) := ⟨(hB.block _ hl2).trans f2.out⟩
    have own3 := own_base own b2.size
    have hs' := hs ⟨1, 0, 0, 0, 0, zero32, zero32, keyOf l, ao', m, c''⟩
    have hi' := hsz ⟨1, 0, 0, 0, 0, zero32, zero32, keyOf l, ao', m, c''⟩
    have ha' := Box.mk (hal ⟨1, 0, 0, 0, 0, zero32, zero32, keyOf l, ao', m, c''⟩)
    clear hsz hal hs own hB
    generalize hnr : (nodeC ⟨1, 0, 0, 0, 0, zero32, zero32, keyOf l, ao', m, c''⟩).toArray = nr at *
    have HNR := Box.mk hnr
    clear hnr
    go_wp2_with ((with_reducible refine wpList_store_row rfl 30 (.tmp 4) (.tmp 19) ?_ w.heap.size zn nr 30 ?_ ?_ f3.out hs'.out hi'.out ha'.out ?_); rfl; rfl; rfl)
    intro w4 g4 G4
    have b4 : Below w.heap.size w w4 := b3.grown G4 b3.size (fun k hk => by cases hk; exact Nat.le_refl _)
    have own4 : Own w4 w.heap.size 5 (.slice ao' m c'') (l.drop 32) := own_store own3 f3.out (by decide) G4
    go_wp2
    exact bodyPost_ret (v := .tuple #[.agg nr, .int .i64 0]) (results_row_tmp (p := 4) (u := 5) (ty := 30) rfl _ _ w.heap.size 30 _ (0, 0) _ rfl g4.out Tryd.underlying30 rfl hi'.out _ rfl) rfl ⟨⟨ao', c'', by rw [HNR.out], own4⟩, b4⟩
/-- The node that a branch's load tells. -/
def brNode (l : List UInt8) : NodeV := ⟨2, (chL l).page, (chR l).page, (chL l).count, (chR l).count, (chL l).sum, (chR l).sum, zero32, none, 0, 0⟩
set_option maxRecDepth 100000 in
set_option maxHeartbeats 4000000 in
theorem decode_branch (b o c' : Nat) (l : List UInt8) (w : World) (h : Row w (some ⟨b, o, none⟩) 80 l) (hmax : c' + 80 ≤ 9223372036854775807) :
    Calls Tryd.prog 20 #[.int .i64 2, .slice (some ⟨b, o, none⟩) 80 (c' + 80)] w fun e w' =>
      (if brStands (chL l) (chR l) = true then e = .returned (.tuple #[.agg (nodeC (brNode l)).toArray, .int .i64 0])
        else e = .returned (.tuple #[.agg (nodeC noNode).toArray, .int .i64 90])) ∧ Below w.heap.size w w' := by
  have hz35 : ∀ W : World, (zeroValue 30).run Tryd.prog W = .ok (.agg (nodeC noNode).toArray) W := fun W => by kernel_rfl
  have hb35 : Box (Tryd.prog.built 30 [] = some (nodeC noNode).toArray) := ⟨by kernel_rfl⟩
  have hr : ∀ W, Below w.heap.size w W → _ := fun W hW => read_branch b o c' l W (h.old hW) hmax
  have hst := fun W => branch_stands (chL l) (chR l) W
  have hno := fun W => nodeOf_branch (chL l) (chR l) W
  have hi := nodeSize noNode
  have hs' := nodeSize2 noNode (brNode l)
  have ha := Box.mk (nodeC_all noNode)
  have hi' := nodeSize (brNode l)
  have ha' := Box.mk (nodeC_all (brNode l))
  rw [show (⟨2, (chL l).page, (chR l).page, (chL l).count, (chR l).count, (chL l).sum, (chR l).sum, zero32, none, 0, 0⟩ : NodeV) = brNode l from rfl] at hno
  clear h
  generalize (brC (chL l) (chR l)).toArray = lf at *
  generalize (nodeC (brNode l)).toArray = nr at *
  generalize (nodeC noNode).toArray = zn at *
  generalize brStands (chL l) (chR l) = st at *
  have m1 : ∀ (fuel : Nat) (W : World), (method (fuel + 1) 77 (.agg lf) "ledger/node.stands").run Tryd.prog W = .ok (85, .agg lf) W := fun fuel W => by kernel_rfl
  have HR := Box.mk hr
  clear hr
  cases st
  · simp only [Bool.false_eq_true, if_false]
    clear hno hs'
    go_enter Tryd.func20, Tryd.ntmps20
    go_wp2_with (go_at_call 39; refine (HR.out _ (Below.refl_alloc w _)).mono ?_)
    rintro e w1 ⟨rfl, hB⟩
    have b1 : Below w.heap.size w w1 := (Below.refl_alloc w _).trans (hB.mono (by simp))
    have f1 : Box (w1.heap[w.heap.size]? = some (.cells zn 30 (0, 0))) := ⟨(hB.block _ (by simp)).trans (heap_new rfl)⟩
    clear hB
    go_wp2_with (go_at_call 85; refine (hst _).mono ?_)
    rintro e w2 ⟨rfl, hB⟩
    have b2 : Below w.heap.size w w2 := b1.trans (hB.mono b1.size)
    have f2 : Box (w2.heap[w.heap.size]? = some (.cells zn 30 (0, 0))) := ⟨(hB.block _ (heap_lt f1.out)).trans f1.out⟩
    clear hB b1 f1
    go_wp2_with (first
      | ((with_reducible refine wpList_builtg ?_ 30 [] ?_ [] ?_ zn hb35.out ?_); rfl; rfl; rfl)
      | ((with_reducible refine wpList_store_row rfl 30 (.tmp 4) (.tmp 17) ?_ w.heap.size zn zn 30 ?_ ?_ f2.out rfl hi.out ha.out ?_); rfl; rfl; rfl))
    intro w3 g3 G3
    have b3 : Below w.heap.size w w3 := b2.grown G3 b2.size (fun k hk => by cases hk; exact Nat.le_refl _)
    go_wp2
    exact bodyPost_ret (v := .tuple #[.agg zn, .int .i64 90]) (results_row_tmp (p := 4) (u := 5) (ty := 30) rfl _ _ w.heap.size 30 _ (0, 0) _ rfl g3.out Tryd.underlying30 rfl hi.out _ rfl) rfl ⟨rfl, b3⟩
  · simp only [if_true]
    go_enter Tryd.func20, Tryd.ntmps20
    go_wp2_with (go_at_call 39; refine (HR.out _ (Below.refl_alloc w _)).mono ?_)
    rintro e w1 ⟨rfl, hB⟩
    have b1 : Below w.heap.size w w1 := (Below.refl_alloc w _).trans (hB.mono (by simp))
    have f1 : Box (w1.heap[w.heap.size]? = some (.cells zn 30 (0, 0))) := ⟨(hB.block _ (by simp)).trans (heap_new rfl)⟩
    clear hB
    go_wp2_with (go_at_call 85; refine (hst _).mono ?_)
    rintro e w2 ⟨rfl, hB⟩
    have b2 : Below w.heap.size w w2 := b1.trans (hB.mono b1.size)
    have f2 : Box (w2.heap[w.heap.size]? = some (.cells zn 30 (0, 0))) := ⟨(hB.block _ (heap_lt f1.out)).trans f1.out⟩
    clear hB b1 f1
    have hl2 := heap_lt f2.out
    go_wp2_with (go_at_call 40; refine (hno _).mono ?_)
    rintro e w3 ⟨rfl, hB⟩
    have b3 : Below w.heap.size w w3 := b2.trans (hB.mono b2.size)
    have f3 : Box (w3.heap[w.heap.size]? = some (.cells zn 30 (0, 0))) := ⟨(hB.block _ hl2).trans f2.out⟩
    clear hB
    go_wp2_with ((with_reducible refine wpList_store_row rfl 30 (.tmp 4) (.tmp 19) ?_ w.heap.size zn nr 30 ?_ ?_ f3.out hs'.out hi'.out ha'.out ?_); rfl; rfl; rfl)
    intro w4 g4 G4
    have b4 : Below w.heap.size w w4 := b3.grown G4 b3.size (fun k hk => by cases hk; exact Nat.le_refl _)
    go_wp2
    exact bodyPost_ret (v := .tuple #[.agg nr, .int .i64 0]) (results_row_tmp (p := 4) (u := 5) (ty := 30) rfl _ _ w.heap.size 30 _ (0, 0) _ rfl g4.out Tryd.underlying30 rfl hi'.out _ rfl) rfl ⟨rfl, b4⟩
end Go.Proofs.YteiepenanffhcaaDoor

/- The reference's Decode: number, and the leaf's way. -/
namespace Go.Proofs.YteiepenanffhcaaDoor
open Go Go.RowKit
set_option linter.unusedVariables false

theorem row_getD {w : World} {b o n : Nat} {l : List UInt8} (h : Row w (some ⟨b, o, none⟩) n l) (i : Nat) (hi : i < l.length) : w.cell? ⟨b, o + i, none⟩ = some (.int .u8 ((l.getD i 0).toNat : Int)) := by
  rw [h.cell i hi]; simp [List.getD, List.getElem?_eq_getElem hi]
set_option maxRecDepth 100000 in
set_option maxHeartbeats 1000000 in
theorem rnumber_any (at1 : Nat) (at2 : Int) (hat : at2 = at1) (b o n c : Nat) (l : List UInt8) (w : World) (h : Row w (some ⟨b, o, none⟩) n l) (hn : at1 + 4 ≤ n) (hmx : n ≤ 140737488351232) :
    Calls Tryd.prog 41 #[.slice (some ⟨b, o, none⟩) n c, .int .i64 at2] w fun e w' => e = .returned (.int .i64 (dec4 (l.drop at1))) ∧ Below w.heap.size w w' := by
  subst hat
  have hl := h.1
  have r0 : w.cell? ⟨b, o + at1, none⟩ = some (.int .u8 ((l.getD at1 0).toNat : Int)) := row_getD h at1 (by omega)
  have r1 : w.cell? ⟨b, o + (at1 + 1), none⟩ = some (.int .u8 ((l.getD (at1 + 1) 0).toNat : Int)) := row_getD h (at1 + 1) (by omega)
  have r2 : w.cell? ⟨b, o + (at1 + 2), none⟩ = some (.int .u8 ((l.getD (at1 + 2) 0).toNat : Int)) := row_getD h (at1 + 2) (by omega)
  have r3 : w.cell? ⟨b, o + (at1 + 3), none⟩ = some (.int .u8 ((l.getD (at1 + 3) 0).toNat : Int)) := row_getD h (at1 + 3) (by omega)
  have hd : dec4 (l.drop at1) = (l.getD at1 0).toNat + 256 * (l.getD (at1 + 1) 0).toNat + 65536 * (l.getD (at1 + 2) 0).toNat + 16777216 * (l.getD (at1 + 3) 0).toNat := by
    unfold dec4
    simp only [List.getD_eq_getElem?_getD, List.getElem?_drop, Nat.add_zero]
  rw [hd]
  have x0 := (l.getD at1 0).toNat_lt
  have x1 := (l.getD (at1 + 1) 0).toNat_lt
  have x2 := (l.getD (at1 + 2) 0).toNat_lt
  have x3 := (l.getD (at1 + 3) 0).toNat_lt
  generalize (l.getD at1 0).toNat = y0 at *
  generalize (l.getD (at1 + 1) 0).toNat = y1 at *
  generalize (l.getD (at1 + 2) 0).toNat = y2 at *
  generalize (l.getD (at1 + 3) 0).toNat = y3 at *
  clear hd hl h
  have n0 : (0 : Int) ≤ (at1 : Int) := by omega
  have n1 : (0 : Int) ≤ (at1 : Int) + 1 := by omega
  have n2 : (0 : Int) ≤ (at1 : Int) + 2 := by omega
  have n3 : (0 : Int) ≤ (at1 : Int) + 3 := by omega
  have m0 : (at1 : Int) < (n : Int) := by omega
  have m1 : (at1 : Int) + 1 < (n : Int) := by omega
  have m2 : (at1 : Int) + 2 < (n : Int) := by omega
  have m3 : (at1 : Int) + 3 < (n : Int) := by omega
  have t1 : ((at1 : Int) + 1).toNat = at1 + 1 := by omega
  have t2 : ((at1 : Int) + 2).toNat = at1 + 2 := by omega
  have t3 : ((at1 : Int) + 3).toNat = at1 + 3 := by omega
  have e1 := IntWalk.i64_in ((at1 : Int) + 1) (by omega)
  have e2 := IntWalk.i64_in ((at1 : Int) + 2) (by omega)
  have e3 := IntWalk.i64_in ((at1 : Int) + 3) (by omega)
  have q1 := IntWalk.i64_in (256 * (y1 : Int)) (by omega)
  have q2 := IntWalk.i64_in (65536 * (y2 : Int)) (by omega)
  have q3 := IntWalk.i64_in (16777216 * (y3 : Int)) (by omega)
  have s1 := IntWalk.i64_in ((y0 : Int) + 256 * (y1 : Int)) (by omega)
  have s2 := IntWalk.i64_in ((y0 : Int) + 256 * (y1 : Int) + 65536 * (y2 : Int)) (by omega)
  have s3 := IntWalk.i64_in ((y0 : Int) + 256 * (y1 : Int) + 65536 * (y2 : Int) + 16777216 * (y3 : Int)) (by omega)
  go_enter Tryd.func41, Tryd.ntmps41
  go_wp2_with fail
  go_quiet (fail)
  go_wp2
  go_ret
  exact ⟨ret_int (by omega), below_drewN2 (Below.refl _ w) _⟩

/-- The first k bytes of a load, as a key. -/
def keyN (l : List UInt8) (k : Nat) : D32 := ⟨(l.take k ++ List.replicate 32 0).take 32, by simp⟩
theorem keyN_zero (l : List UInt8) : keyN l 0 = zero32 := Subtype.ext (by simp [keyN, zero32])
theorem keyN_full (l : List UInt8) (h : 32 ≤ l.length) : keyN l 32 = keyOf l := Subtype.ext (by
  show (l.take 32 ++ List.replicate 32 0).take 32 = (l ++ List.replicate 32 0).take 32
  rw [List.take_append_of_le_length (by simp; omega), List.take_append_of_le_length (by omega), List.take_take]
  simp)
theorem keyN_succ (l : List UInt8) (k : Nat) (hk : k < 32) (h : k < l.length) : setD (keyN l k) k l[k] = keyN l (k + 1) := Subtype.ext (by
  show ((l.take k ++ List.replicate 32 0).take 32).set k l[k] = (l.take (k + 1) ++ List.replicate 32 0).take 32
  apply List.ext_getElem?
  intro i
  rw [List.getElem?_set, List.length_take, List.length_append, List.length_replicate, List.length_take, List.getElem?_take, List.getElem?_take]
  have h1 : (l.take k).length = k := by rw [List.length_take]; omega
  have h2 : (l.take (k + 1)).length = k + 1 := by rw [List.length_take]; omega
  by_cases hi : i < 32
  · rw [if_pos hi, if_pos hi]
    by_cases hki : k = i
    · subst hki
      rw [if_pos rfl, if_pos (by omega), List.getElem?_append_left (by omega), List.getElem?_take, if_pos (by omega), List.getElem?_eq_getElem h]
    · rw [if_neg hki]
      by_cases hlt : i < k
      · rw [List.getElem?_append_left (by omega), List.getElem?_append_left (by omega), List.getElem?_take, List.getElem?_take, if_pos hlt, if_pos (by omega)]
      · rw [List.getElem?_append_right (by omega), List.getElem?_append_right (by omega), List.getElem?_replicate, List.getElem?_replicate, if_pos (by omega), if_pos (by omega)]
  · rw [if_neg hi, if_neg hi, if_neg (by omega)])
theorem nodeC_setkey (x : NodeV) (k : Nat) (hk : k < 32) (u : UInt8) : (nodeC x).set (69 + k) (bv u) = nodeC { x with key := setD x.key k u } := by
  have h : ∀ (A B C : List Value), A.length = 69 → B.length = 32 → (A ++ (B ++ C)).set (69 + k) (bv u) = A ++ (B.set k (bv u) ++ C) := fun A B C hA hB => by
    rw [List.set_append_right _ _ (by omega), hA, List.set_append_left _ _ (by omega), show 69 + k - 69 = k by omega]
  have e : ∀ y : D32, nodeC { x with key := y } = ([.int .i64 x.kind, .int .i64 x.left, .int .i64 x.right, .int .i64 x.lc, .int .i64 x.rc] ++ (bvs x.ls.1 ++ bvs x.rs.1)) ++ (bvs y.1 ++ [x.val]) := fun y => by
    show _ ++ _ = _
    simp only [List.append_assoc]
    rfl
  have e0 : nodeC x = _ := e x.key
  rw [e0, e, h _ _ _ (by simp [x.ls.2, x.rs.2]) (by simp [x.key.2]), bvs_put]
  rfl
end Go.Proofs.YteiepenanffhcaaDoor
