/- Texts joined: NodeOf, Op, UpTo. -/
import Derived.Test.YteiepenanffhcaaDoorP04
import Derived.Test.YteiepenanffhcaaDoorP03
import Derived.Test.YteiepenanffhcaaDoorP01
/- Forms as nodes: the walks of node.read (no form) and node.nodeOf. -/
namespace Go.Proofs.YteiepenanffhcaaDoor
open Go Go.RowKit
set_option linter.unusedVariables false

theorem rangeAt_grown {w w' : World} {b o : Nat} {cs : List Value} {row : Option Nat} (h : w.rangeAt b o cs) (hg : w.grownBy w' row) (hb : b < w.heap.size) (hne : row ≠ some b) : w'.rangeAt b o cs := fun j v hj =>
  (World.cell?_of_block (w := w) (w' := w') (a := ⟨b, o + j, none⟩) (hg.block b hb fun e => hne e.symm)).trans (h j v hj)
theorem own_store {w w' : World} {base b : Nat} {e t : TypeId} {C : Array Value} {v : Value} {l : List UInt8} (h : Own w base e v l) (f : w.heap[b]? = some (.cells C t (0, 0))) (hne : e ≠ t) (G : w.grownBy w' (some b)) : Own w' base e v l := by
  refine h.kept G ?_
  obtain ⟨hl, ⟨rfl, hn⟩ | ⟨g, cap, cur, rfl, h1, h2, h3⟩⟩ := h
  · exact .inl rfl
  · right
    intro hg
    have hgb : g = b := by simpa [Value.ownBlock] using hg
    subst hgb
    rw [f] at h2
    simp only [Option.some.injEq, Obj.cells.injEq] at h2
    exact hne h2.2.1.symm

set_option maxRecDepth 100000 in
set_option maxHeartbeats 2000000 in
theorem read_none (kind : Int) (ao : Option Addr) (n c : Nat) (w : World) (h : (kind = 1 ∧ n < 32) ∨ (kind = 2 ∧ n < 80) ∨ (kind = 2 ∧ 80 < n) ∨ ((kind == 1) = false ∧ (kind == 2) = false)) :
    Calls Tryd.prog 39 #[.int .i64 kind, .slice ao n c] w fun e w' => e = .returned .nilIface ∧ Below w.heap.size w w' := by
  rcases h with ⟨rfl, h⟩ | ⟨rfl, h⟩ | ⟨rfl, h⟩ | ⟨h, h'⟩
  all_goals
    go_enter Tryd.func39, Tryd.ntmps39
    go_wp2
    go_ret
    exact ⟨rfl, Below.refl _ w⟩

/-- The node with nothing in it. -/
def noNode : NodeV := ⟨0, 0, 0, 0, 0, zero32, zero32, zero32, none, 0, 0⟩
theorem built_node_leaf (k : D32) (ao : Option Addr) (n c : Nat) : Tryd.prog.built 30 [(0, .int .i64 1), (7, .agg (dc k)), (8, .slice ao n c)] = some (nodeC ⟨1, 0, 0, 0, 0, zero32, zero32, k, ao, n, c⟩).toArray := by
  match k with
  | ⟨[b0, b1, b2, b3, b4, b5, b6, b7, b8, b9, b10, b11, b12, b13, b14, b15, b16, b17, b18, b19, b20, b21, b22, b23, b24, b25, b26, b27, b28, b29, b30, b31], h⟩ => show _ = _; kernel_rfl
theorem built_node_branch (p q c d : Int) (s t : D32) : Tryd.prog.built 30 [(0, .int .i64 2), (1, .int .i64 p), (2, .int .i64 q), (3, .int .i64 c), (4, .int .i64 d), (5, .agg (dc s)), (6, .agg (dc t))] = some (nodeC ⟨2, p, q, c, d, s, t, zero32, none, 0, 0⟩).toArray := by
  match s, t with
  | ⟨[b0, b1, b2, b3, b4, b5, b6, b7, b8, b9, b10, b11, b12, b13, b14, b15, b16, b17, b18, b19, b20, b21, b22, b23, b24, b25, b26, b27, b28, b29, b30, b31], h⟩, ⟨[a0, a1, a2, a3, a4, a5, a6, a7, a8, a9, a10, a11, a12, a13, a14, a15, a16, a17, a18, a19, a20, a21, a22, a23, a24, a25, a26, a27, a28, a29, a30, a31], h'⟩ => show _ = _; kernel_rfl
theorem nodeC_all (x : NodeV) : (nodeC x).toArray.all (·.oneCell') = true := by
  rw [Array.all_eq_true_iff_forall_mem]
  intro v hv
  have hv' : v ∈ nodeC x := by simpa using hv
  unfold nodeC at hv'
  simp only [List.mem_append, List.mem_cons, List.not_mem_nil, or_false] at hv'
  rcases hv' with (rfl | rfl | rfl | rfl | rfl) | h | h | h | rfl
  · rfl
  · rfl
  · rfl
  · rfl
  · rfl
  · exact bvs_oneCell _ v h
  · exact bvs_oneCell _ v h
  · exact bvs_oneCell _ v h
  · rfl

set_option maxRecDepth 100000 in
set_option maxHeartbeats 4000000 in
theorem nodeOf_leaf (k : D32) (ao : Option Addr) (n c : Nat) (l : List UInt8) (w : World) (h : Row w ao n l) (hn : ao = none → n = 0 ∧ c = 0) (hb : n ≤ 140737488351232) :
    Calls Tryd.prog 40 #[.iface 73 (.agg (leafC k (.slice ao n c)).toArray)] w fun e w' => ∃ ao' c', e = .returned (.agg (nodeC ⟨1, 0, 0, 0, 0, zero32, zero32, k, ao', n, c'⟩).toArray) ∧ Own w' w.heap.size 5 (.slice ao' n c') l ∧ Below w.heap.size w w' := by
  have hz35 : ∀ W : World, (zeroValue 30).run Tryd.prog W = .ok (.agg (nodeC noNode).toArray) W := fun W => by kernel_rfl
  have hz77 : ∀ W : World, (zeroValue 73).run Tryd.prog W = .ok (.agg (leafC zero32 (.slice none 0 0)).toArray) W := fun W => by kernel_rfl
  -- GEN
  have h32 := leafC_32 k (.slice ao n c)
  have htk := leafC_take k (.slice ao n c)
  have hi77 : Box ((Tryd.prog.info? 73).map (·.size) = some (leafC k (.slice ao n c)).toArray.size) := ⟨by
    have h : (Tryd.prog.info? 73).map (·.size) = some 33 := by kernel_rfl
    rw [h, List.size_toArray, length_leafC]⟩
  have hs77 : Box ((leafC zero32 (.slice none 0 0)).toArray.size = (leafC k (.slice ao n c)).toArray.size) := ⟨by rw [List.size_toArray, List.size_toArray, length_leafC, length_leafC]⟩
  have hal77 := Box.mk (leafC_all k ao n c)
  have hi35 : ∀ x : NodeV, Box ((Tryd.prog.info? 30).map (·.size) = some (nodeC x).toArray.size) := fun x => ⟨by
    have h : (Tryd.prog.info? 30).map (·.size) = some 102 := by kernel_rfl
    rw [h, List.size_toArray, length_nodeC]⟩
  have hs35 : ∀ x : NodeV, Box ((nodeC noNode).toArray.size = (nodeC x).toArray.size) := fun x => ⟨by rw [List.size_toArray, List.size_toArray, length_nodeC, length_nodeC]⟩
  have hbn : ∀ ao' c', Box (Tryd.prog.built 30 [(0, .int .i64 1), (7, .agg (dc k)), (8, .slice ao' n c')] = some (nodeC ⟨1, 0, 0, 0, 0, zero32, zero32, k, ao', n, c'⟩).toArray) := fun ao' c' => ⟨built_node_leaf k ao' n c'⟩
  have UK : Tryd.prog.underlying 26 = some (.array 32 5) := Tryd.underlying26
  have hiK : Hid ((Tryd.prog.info? 26).map (·.size) = some 32) := by unfold Hid; kernel_rfl
  have hrk : ∀ W : World, W.heap[w.heap.size + 1]? = some (.cells (leafC k (.slice ao n c)).toArray 73 (0, 0)) → W.rangeAt (w.heap.size + 1) 0 (bvs k.1) := fun W hW => rangeAt_cells hW fun j hj => by
    rw [Nat.zero_add, ← Array.getElem?_toList]
    show (bvs k.1 ++ [Value.slice ao n c])[j]? = _
    rw [List.getElem?_append_left hj]
  have HRK := Box.mk hrk
  clear htk hrk
  generalize (nodeC noNode).toArray = zn at *
  generalize (leafC zero32 (.slice none 0 0)).toArray = zl at *
  generalize (leafC k (.slice ao n c)).toArray = lk at *
  have ta : ∀ W, (Instr.typeAssert (.iface 73 (.agg lk)) 55 73 true).run Tryd.prog W = .ok (.tuple #[.agg lk, .bool true]) W := fun W => by kernel_rfl
  go_enter Tryd.func40, Tryd.ntmps40
  go_wp2_with (refine wpList_store_row rfl 73 (.tmp 3) (.tmp 10) ?_ (w.heap.size + 1) zl lk 73 ?_ ?_ ?_ hs77.out hi77.out hal77.out ?_; rfl; rfl; rfl; exact heap_new (by simp))
  intro w1 g1 G1
  have z1 : w.heap.size + 2 ≤ w1.heap.size := by have := G1.size; simpa using this
  have b1 : Below w.heap.size w w1 := ((Below.refl_alloc w _).alloc (by simp) _).grown G1 (by simp; omega) (fun k hk => by cases hk; omega)
  have f2 : Box (w1.heap[w.heap.size]? = some (.cells zn 30 (0, 0))) := ⟨(G1.block w.heap.size (by simp; omega) (by simp)).trans (heap_old (heap_new rfl))⟩
  have rk := HRK.out _ g1.out
  have cv : w1.cell? ⟨w.heap.size + 1, 32, none⟩ = some (.slice ao n c) := by
    rw [cell_of_row w1 _ 32 _ _ _ g1.out]
    exact h32
  have CV := Box.mk cv
  have RK := Box.mk rk
  have hrow := Box.mk (h.old b1)
  clear cv rk g1 G1 h32 ta hz35 hz77
  go_wp2_with fail
  refine held_begin (fun W => Below w1.heap.size w1 W ∨ Below w.heap.size w W ∧ W.rangeAt (w.heap.size + 1) 0 (bvs k.1) ∧ W.cell? ⟨w.heap.size + 1, 32, none⟩ = some (.slice ao n c)) (by kernel_rfl) (.inl (Below.refl _ w1).drew) (fun hH0 => ?_)
  refine held_take 0 (.pointer (some ⟨w.heap.size + 1, 0, none⟩)) rfl (by kernel_rfl) (by kernel_rfl) (by kernel_rfl) (held_pure (by rfl) (fun W => by go_simp)) (by assumption) ?_
  try simp only [Act.put, List.setIfInBounds_toArray, List.set_cons_zero, List.set_cons_succ]
  refine held_take 1 (.agg (dc k)) rfl (by kernel_rfl) (by kernel_rfl) (by kernel_rfl) (held_load (by rfl) 26 (.tmp 11) rfl (w.heap.size + 1) 0 rfl k 5 (fun W hS => hS.elim (fun h1 => rangeAt_below RK.out h1 (by omega)) (fun h2 => h2.2.1)) UK hiK) (by assumption) ?_
  try simp only [Act.put, List.setIfInBounds_toArray, List.set_cons_zero, List.set_cons_succ]
  refine held_take 2 (.pointer (some ⟨w.heap.size + 1, 32, none⟩)) rfl (by kernel_rfl) (by kernel_rfl) (by kernel_rfl) (held_pure (by rfl) (fun W => by go_simp)) (by assumption) ?_
  try simp only [Act.put, List.setIfInBounds_toArray, List.set_cons_zero, List.set_cons_succ]
  refine held_take 3 (.slice ao n c) rfl (by kernel_rfl) (by kernel_rfl) (by kernel_rfl) (Or.inl ⟨by rfl, fun W hS => by have hc' : W.cell? ⟨w.heap.size + 1, 32, none⟩ = some (.slice ao n c) := (hS.elim (fun h1 => (h1.cell (p := ⟨w.heap.size + 1, 32, none⟩) (by show w.heap.size + 1 < _; omega)).trans CV.out) (fun h2 => h2.2.2)); clear hS; go_simp⟩) (by assumption) ?_
  try simp only [Act.put, List.setIfInBounds_toArray, List.set_cons_zero, List.set_cons_succ]
  clear hH0
  refine held_step 4 (by kernel_rfl) rfl (by rfl) (fun K hK => ?_)
  refine oper_of_list rfl ?_
  refine wpList_append_grow byteTy _ rfl (.const (.slice none 0 0)) (.tmp 14) rfl w.heap.size (.slice none 0 0) [] rfl ⟨rfl, .inl ⟨rfl, rfl⟩⟩ ao n c l rfl hn (Row.drewN hrow.out 1) (by rw [List.length_nil]; omega) b1.drew.size ?_
  intro v' w2 own2 G2
  refine ⟨rfl, ?_⟩
  have b2 : Below w1.heap.size w1 w2 := (Below.refl _ w1).drew.grown G2 (Nat.le_refl _) (fun k hk => by cases hk)
  refine hK.out _ _ (.inl b2) (fun _ => ?_)
  clear hK K G2
  try simp only [Act.put, List.setIfInBounds_toArray, List.set_cons_zero, List.set_cons_succ]
  obtain ⟨ao', c', hv, _⟩ := own2.open
  have hln : ([] ++ l).length = n := hrow.out.1
  rw [hln] at hv
  subst hv
  rw [List.nil_append] at own2
  clear hln
  have bw2 : Below w.heap.size w w2 := b1.trans (b2.mono b1.size)
  have f3 : Box (w2.heap[w.heap.size]? = some (.cells zn 30 (0, 0))) := ⟨(b2.block _ (by omega)).trans f2.out⟩
  have rk2 := rangeAt_below RK.out b2 (by omega)
  have cv2 : w2.cell? ⟨w.heap.size + 1, 32, none⟩ = some (.slice ao n c) := (b2.cell (p := ⟨w.heap.size + 1, 32, none⟩) (by show w.heap.size + 1 < _; omega)).trans CV.out
  have HBN := hbn ao' c'
  have HI := hi35 ⟨1, 0, 0, 0, 0, zero32, zero32, k, ao', n, c'⟩
  have HSS := hs35 ⟨1, 0, 0, 0, 0, zero32, zero32, k, ao', n, c'⟩
  have HAL := Box.mk (nodeC_all ⟨1, 0, 0, 0, 0, zero32, zero32, k, ao', n, c'⟩)
  generalize hnr : (nodeC ⟨1, 0, 0, 0, 0, zero32, zero32, k, ao', n, c'⟩).toArray = nr at *
  have HNR := Box.mk hnr
  clear hnr hbn hi35 hs35
  have hSn : (Below w1.heap.size w1 w2 ∨ Below w.heap.size w w2 ∧ w2.rangeAt (w.heap.size + 1) 0 (bvs k.1) ∧ w2.cell? ⟨w.heap.size + 1, 32, none⟩ = some (.slice ao n c)) := .inl b2
  refine held_take 5 (.agg nr) rfl (by kernel_rfl) (by kernel_rfl) (by kernel_rfl) (Or.inl ⟨by rfl, fun W hS => build_any rfl [(0, .const (.int .i64 1)), (7, .tmp 12), (8, .tmp 15)] [(0, .int .i64 1), (7, .agg (dc k)), (8, .slice ao' n c')] rfl rfl HBN.out⟩) (by assumption) ?_
  try simp only [Act.put, List.setIfInBounds_toArray, List.set_cons_zero, List.set_cons_succ]
  clear hSn
  refine held_step 6 (by kernel_rfl) rfl (by rfl) (fun K hK => ?_)
  refine oper_of_list rfl ?_
  refine wpList_store_row rfl 30 (.tmp 2) (.tmp 16) rfl w.heap.size zn nr 30 rfl rfl f3.out HSS.out HI.out HAL.out ?_
  intro w3 g3 G3
  refine ⟨rfl, ?_⟩
  have b3 : Below w.heap.size w w3 := bw2.grown G3 bw2.size (fun k hk => by cases hk; exact Nat.le_refl _)
  have rk3 : w3.rangeAt (w.heap.size + 1) 0 (bvs k.1) := rangeAt_grown rk2 G3 (by have := b2.size; omega) (by simp)
  have cv3 : w3.cell? ⟨w.heap.size + 1, 32, none⟩ = some (.slice ao n c) := (World.cell?_of_block (w := w2) (w' := w3) (a := ⟨w.heap.size + 1, 32, none⟩) (G3.block _ (by have := b2.size; show w.heap.size + 1 < _; omega) (by simp))).trans cv2
  have own3 : Own w3 w.heap.size 5 (.slice ao' n c') l := own_store own2 f3.out (by decide) G3
  refine hK.out _ _ (.inr ⟨b3, rk3, cv3⟩) (fun _ => ?_)
  clear hK K G3
  try simp only [Act.put]
  refine held_done (by kernel_rfl) ?_ _
  go_wp2
  exact bodyPost_ret (v := .agg nr) (results_cell_row (p := 2) (ty := 30) rfl _ _ w.heap.size 30 _ (0, 0) _ rfl g3.out Tryd.underlying30 rfl HI.out) rfl ⟨ao', c', by rw [HNR.out], own3, b3⟩
end Go.Proofs.YteiepenanffhcaaDoor

/- The scripts' calls as cells, and the walk of upTo over them. -/
namespace Go.Proofs.YteiepenanffhcaaDoor
open Go Go.RowKit
set_option linter.unusedVariables false

/-- One call of a script. -/
structure OpV where
  kind : Int
  w : Int
  n : Int
  m : Int
  k : D32
  d : D32
  e : D32
  vao : Option Addr
  vn : Nat
  vc : Nat
  nd : NodeV
/-- Its cells. -/
def opC (o : OpV) : List Value := [.int .i64 o.kind, .int .i64 o.w, .int .i64 o.n, .int .i64 o.m] ++ (bvs o.k.1 ++ (bvs o.d.1 ++ (bvs o.e.1 ++ ([.slice o.vao o.vn o.vc] ++ nodeC o.nd))))
theorem length_opC (o : OpV) : (opC o).length = 203 := by simp [opC, o.k.2, o.d.2, o.e.2, length_nodeC]
theorem opC_k (o : OpV) (j : Nat) (hj : j < 32) : (opC o).toArray[4 + j]? = (bvs o.k.1)[j]? := by
  rw [← Array.getElem?_toList]
  show (opC o)[4 + j]? = _
  unfold opC
  rw [List.getElem?_append_right (by simp), show 4 + j - [Value.int .i64 o.kind, .int .i64 o.w, .int .i64 o.n, .int .i64 o.m].length = j by simp, List.getElem?_append_left (by simp [o.k.2, hj])]
theorem opC_d (o : OpV) (j : Nat) (hj : j < 32) : (opC o).toArray[36 + j]? = (bvs o.d.1)[j]? := by
  rw [← Array.getElem?_toList]
  show (opC o)[36 + j]? = _
  unfold opC
  rw [List.getElem?_append_right (by simp; omega), show 36 + j - [Value.int .i64 o.kind, .int .i64 o.w, .int .i64 o.n, .int .i64 o.m].length = 32 + j by simp; omega, List.getElem?_append_right (by simp [o.k.2]), show 32 + j - (bvs o.k.1).length = j by simp [o.k.2], List.getElem?_append_left (by simp [o.d.2, hj])]
theorem opC_e (o : OpV) (j : Nat) (hj : j < 32) : (opC o).toArray[68 + j]? = (bvs o.e.1)[j]? := by
  rw [← Array.getElem?_toList]
  show (opC o)[68 + j]? = _
  unfold opC
  rw [List.getElem?_append_right (by simp; omega), show 68 + j - [Value.int .i64 o.kind, .int .i64 o.w, .int .i64 o.n, .int .i64 o.m].length = 64 + j by simp; omega, List.getElem?_append_right (by simp [o.k.2]; omega), show 64 + j - (bvs o.k.1).length = 32 + j by simp [o.k.2]; omega,
    List.getElem?_append_right (by simp [o.d.2]), show 32 + j - (bvs o.d.1).length = j by simp [o.d.2], List.getElem?_append_left (by simp [o.e.2, hj])]
theorem opC_tail (o : OpV) (j : Nat) : (opC o).toArray[100 + j]? = ([Value.slice o.vao o.vn o.vc] ++ nodeC o.nd)[j]? := by
  rw [← Array.getElem?_toList]
  show (opC o)[100 + j]? = _
  unfold opC
  rw [List.getElem?_append_right (by simp; omega), show 100 + j - [Value.int .i64 o.kind, .int .i64 o.w, .int .i64 o.n, .int .i64 o.m].length = 96 + j by simp; omega, List.getElem?_append_right (by simp [o.k.2]; omega), show 96 + j - (bvs o.k.1).length = 64 + j by simp [o.k.2]; omega,
    List.getElem?_append_right (by simp [o.d.2]; omega), show 64 + j - (bvs o.d.1).length = 32 + j by simp [o.d.2]; omega, List.getElem?_append_right (by simp [o.e.2]), show 32 + j - (bvs o.e.1).length = j by simp [o.e.2]]
theorem opC_val (o : OpV) : (opC o).toArray[100]? = some (.slice o.vao o.vn o.vc) := (opC_tail o 0).trans rfl
theorem opC_node (o : OpV) (j : Nat) : (opC o).toArray[101 + j]? = (nodeC o.nd)[j]? := by
  rw [show 101 + j = 100 + (1 + j) by omega, opC_tail o (1 + j), List.getElem?_append_right (by simp), show 1 + j - [Value.slice o.vao o.vn o.vc].length = j by simp]
theorem opC_nval (o : OpV) : (opC o).toArray[202]? = some (.slice o.nd.ao o.nd.n o.nd.c) := by
  rw [show 202 = 101 + 101 from rfl, opC_node, ← List.getElem?_toArray]
  exact nodeC_val o.nd
theorem opC_all (o : OpV) : (opC o).toArray.all (·.oneCell') = true := by
  rw [Array.all_eq_true_iff_forall_mem]
  intro v hv
  have hv' : v ∈ opC o := by simpa using hv
  unfold opC at hv'
  simp only [List.mem_append, List.mem_cons, List.not_mem_nil, or_false] at hv'
  rcases hv' with (rfl | rfl | rfl | rfl) | h | h | h | rfl | h
  · rfl
  · rfl
  · rfl
  · rfl
  · exact bvs_oneCell _ v h
  · exact bvs_oneCell _ v h
  · exact bvs_oneCell _ v h
  · rfl
  · have := Array.all_eq_true_iff_forall_mem.1 (nodeC_all o.nd) v (by simpa using h)
    exact this
def zeroOp : OpV := ⟨0, 0, 0, 0, zero32, zero32, zero32, none, 0, 0, noNode⟩
theorem opSize (o : OpV) : Box ((Tryd.prog.info? 32).map (·.size) = some (opC o).toArray.size) := ⟨by
  have h : (Tryd.prog.info? 32).map (·.size) = some 203 := by kernel_rfl
  rw [h, List.size_toArray, length_opC]⟩
theorem opSize2 (x y : OpV) : Box ((opC x).toArray.size = (opC y).toArray.size) := ⟨by rw [List.size_toArray, List.size_toArray, length_opC, length_opC]⟩
theorem opUnder : ∃ fs, Tryd.prog.underlying 32 = some (.struct fs) := ⟨_, Tryd.underlying32⟩

/-- A script in memory. -/
def Ops (w : World) (ao : Option Addr) (n : Nat) (os : List OpV) : Prop :=
  os.length = n ∧ ∀ i, (h : i < os.length) → ∃ b o, ao = some ⟨b, o, none⟩ ∧ w.rangeAt b (o + i * 203) (opC os[i])
theorem Ops.at0 {w : World} {ao : Option Addr} {n : Nat} {os : List OpV} (h : Ops w ao n os) (hn : 0 < n) : ∃ b o, ao = some ⟨b, o, none⟩ := by
  obtain ⟨hl, hc⟩ := h
  obtain ⟨b, o, e, _⟩ := hc 0 (by omega)
  exact ⟨b, o, e⟩
theorem Ops.range {w : World} {b o n : Nat} {os : List OpV} (h : Ops w (some ⟨b, o, none⟩) n os) (i : Nat) (hi : i < os.length) : w.rangeAt b (o + i * 203) (opC os[i]) := by
  obtain ⟨b', o', e, hc⟩ := h.2 i hi
  cases e; exact hc
theorem rangeAt_lt {w : World} {b o : Nat} {cs : List Value} (h : w.rangeAt b o cs) (hn : 0 < cs.length) : b < w.heap.size :=
  block_lt_of_cell (h 0 _ (List.getElem?_eq_getElem hn))
theorem Ops.old {w w' : World} {ao : Option Addr} {n : Nat} {os : List OpV} (h : Ops w ao n os) (hb : Below w.heap.size w w') : Ops w' ao n os :=
  ⟨h.1, fun i hi => by
    obtain ⟨b, o, e, hc⟩ := h.2 i hi
    exact ⟨b, o, e, rangeAt_below hc hb (rangeAt_lt hc (by rw [length_opC]; omega))⟩⟩

section
variable {P : Program} {Q : Exit → Act → World → Prop} {ops : Array Oper} {rest : List Oper} {o : Oper} {a : Act} {w : World}
theorem arm_mid (ty : TypeId) (x : Operand) (ho : o.op = .load ty x) (hw : Region.wanted o (yielded ops a.tmps) = true)
    (b off : Nat) (hx : a.eval x = .pointer (some ⟨b, off, none⟩)) (cs : List Value) (d : TypeDesc) (hS : w.rangeAt b off cs) (hu : P.underlying ty = some d) (hd : d.isRow = true) (hi : (P.info? ty).map (·.size) = some cs.length)
    (h : wpList P ops Q rest (a.put o.dst (.agg cs.toArray)) w) : wpList P ops Q (o :: rest) a w :=
  wpList_load_midg hw ty x ho b off hx cs d hS hu hd hi h
theorem arm_store_row (ty : TypeId) (x y : Operand) (ho : o.op = .store ty x y) (hgd : o.guard = none)
    (g : Nat) (old cells : Array Value) (et : TypeId) (hx : a.eval x = .pointer (some ⟨g, 0, none⟩)) (hy : a.eval y = .agg cells) (hg : w.heap[g]? = some (.cells old et (0, 0))) (hs : old.size = cells.size)
    (hi : (P.info? ty).map (·.size) = some cells.size) (h1 : cells.all (·.oneCell') = true)
    (h : ∀ w', Hid (w'.heap[g]? = some (.cells cells et (0, 0))) → w.grownBy w' (some g) → wpList P ops Q rest (a.put o.dst undef) w') : wpList P ops Q (o :: rest) a w :=
  wpList_store_row hgd ty x y ho g old cells et hx hy hg hs hi h1 h
end
end Go.Proofs.YteiepenanffhcaaDoor

/- The walk of upTo: every call of the script that is of a kind in the range is played. -/
namespace Go.Proofs.YteiepenanffhcaaDoor
open Go Go.RowKit
set_option linter.unusedVariables false

set_option maxRecDepth 100000 in
set_option maxHeartbeats 2000000 in
theorem upTo_any (lo hi : Int) (ao : Option Addr) (n c : Nat) (os : List OpV) (w : World) (h0 : Ops w ao n os) (mx : n ≤ 4611686018427387904)
    (hP0 : ∀ o ∈ os, lo ≤ o.kind → o.kind ≤ hi → ∀ W, Below w.heap.size w W → Calls Tryd.prog 11 #[.agg (opC o).toArray] W fun e W' => e = .returned (.bool true) ∧ Below W.heap.size W W') :
    Calls Tryd.prog 10 #[.slice ao n c, .int .i64 lo, .int .i64 hi] w fun e w' => e = .returned (.bool true) ∧ Below w.heap.size w w' := by
  have h := Box.mk h0
  have hl := Box.mk h0.1
  have hP := Box.mk hP0
  have hz := fun W : World => (show (zeroValue 32).run Tryd.prog W = .ok (.agg (opC zeroOp).toArray) W by kernel_rfl)
  have hsz := opSize
  have hsz2 := opSize2
  have hal := Box.mk opC_all
  have hlen := Box.mk length_opC
  obtain ⟨fs, UO⟩ := opUnder
  clear h0 hP0
  generalize hzo : (opC zeroOp).toArray = zo at *
  have HZO := Box.mk hzo
  clear hzo
  go_enter Tryd.func10, Tryd.ntmps10
  go_wp2
  go_loopw [7, 8, 9] (fun i p q wr => ∃ k : Nat, k ≤ n ∧ i = .int .i64 k ∧ Below w.heap.size w wr) (fun i p q _ => n - (intOf i).toNat)
  case atStart => exact ⟨0, Nat.zero_le _, rfl, Below.refl _ w⟩
  case round =>
    obtain ⟨k, hk, rfl, hB0⟩ := hrel
    have HB := Box.mk hB0
    clear hB0
    by_cases hlt : k < n
    · obtain ⟨b, o, rfl⟩ := h.out.at0 (by omega)
      have hkl : k < os.length := by rw [hl.out]; exact hlt
      have hr := Box.mk (rangeAt_below (h.out.range k hkl) HB.out (rangeAt_lt (h.out.range k hkl) (by rw [hlen.out]; omega)))
      have hPk := Box.mk (hP.out os[k] (List.getElem_mem hkl))
      generalize os[k] = x at *
      clear hkl
      have c0 : Box (∀ W : World, ∀ g, W.heap[g]? = some (.cells (opC x).toArray 32 (0, 0)) → W.cell? ⟨g, 0, none⟩ = some (.int .i64 x.kind)) := ⟨fun W g hW => by rw [cell_of_row _ _ 0 _ _ _ hW]; rfl⟩
      have hi1 := hsz x
      have hss := hsz2 zeroOp x
      rw [HZO.out] at hss
      have ha := Box.mk (hal.out x)
      have hlx := Box.mk (show (Tryd.prog.info? 32).map (·.size) = some (opC x).length by have := hi1.out; rwa [List.size_toArray] at this)
      generalize hcl : opC x = cl at *
      clear hcl
      have F4 : Box ((wr.alloc (.cells zo 32)).heap[wr.heap.size]? = some (.cells zo 32 (0, 0))) := ⟨heap_new rfl⟩
      go_wp2_with (first
        | ((with_reducible refine arm_mid 32 (.tmp 18) ?_ ?_ b (o + k * 203) ?_ cl _ hr.out UO rfl hlx.out ?_); rfl; rfl; rfl)
        | ((with_reducible refine arm_store_row 32 (.tmp 8) (.tmp 19) ?_ rfl wr.heap.size zo cl.toArray 32 ?_ ?_ F4.out hss.out hi1.out ha.out ?_); rfl; rfl; rfl))
      intro w2 g2 G2
      have b2 : Box (Below w.heap.size w w2) := ⟨HB.out.trans (((Below.refl_alloc wr (.cells zo 32)).grown G2 (by simp) (fun k hk => by cases hk; exact Nat.le_refl _)).mono HB.out.size)⟩
      have f2 := Box.mk (show w2.heap[wr.heap.size]? = some (.cells cl.toArray 32 (0, 0)) from g2.out)
      have k2 := c0.out w2 wr.heap.size f2.out
      clear g2 G2 F4 c0 hr hss ha hlx
      rcases Int.lt_or_le x.kind lo with q1 | q1
      · go_wp2
        go_roundw
        case rel => exact ⟨k + 1, by omega, by go_num, b2.out⟩
        case measure => simp [intOf]; omega
      · rcases Int.lt_or_le hi x.kind with q2 | q2
        · go_wp2
          go_roundw
          case rel => exact ⟨k + 1, by omega, by go_num, b2.out⟩
          case measure => simp [intOf]; omega
        · have hC := Box.mk (hPk.out q1 q2 w2 b2.out)
          go_wp2_with (first
            | ((with_reducible refine arm_row 32 (.tmp 8) ?_ ?_ wr.heap.size ?_ 32 cl.toArray (0, 0) _ f2.out UO rfl hi1.out ?_); rfl; rfl; rfl)
            | (go_at_call 11; refine (calls_box hC.out).mono ?_))
          rintro e w3 ⟨⟨rfl, hB⟩⟩
          have b3 := Box.mk (b2.out.trans (hB.mono b2.out.size))
          clear hB
          go_wp2
          go_roundw
          case rel => exact ⟨k + 1, by omega, by go_num, b3.out⟩
          case measure => simp [intOf]; omega
    · go_wp2
      go_ret
      exact ⟨rfl, HB.out⟩
end Go.Proofs.YteiepenanffhcaaDoor
