/- Forms as nodes: the walks of node.read (no form) and node.nodeOf. -/
import Derived.Test.YtocfiabbhcgegaaReadB
import Derived.Test.YtocfiabbhcgegaaFormOf
namespace Go.Proofs.Ytocfiabbhcgegaa
open Go Go.RowKit
set_option linter.unusedVariables false

theorem rangeAt_grown {w w' : World} {b o : Nat} {cs : List Value} {row : Option Nat} (h : w.rangeAt b o cs) (hg : w.grownBy w' row) (hb : b < w.heap.size) (hne : row ≠ some b) : w'.rangeAt b o cs := fun j v hj =>
  (World.cell?_of_block (w := w) (w' := w') (a := ⟨b, o + j, none⟩) (hg.block b hb fun e => hne e.symm)).trans (h j v hj)
theorem own_store {w w' : World} {base b : Nat} {e t : TypeId} {C : Array Value} {v : Value} {l : List UInt8} (h : Own w base e v l) (f : w.heap[b]? = some (.cells C t (0, 0))) (hne : e ≠ t) (G : w.grownBy w' (some b)) : Own w' base e v l := by
  refine h.kept G ?_
  obtain ⟨hl, ⟨rfl, hn⟩ | ⟨g, cap, cur, rfl, h1, h2, h3⟩⟩ := h
  · exact .inl rfl
  · right
    intro hg
    have hgb : g = b := by simpa [Value.ownBlock] using hg
    subst hgb
    rw [f] at h2
    simp only [Option.some.injEq, Obj.cells.injEq] at h2
    exact hne h2.2.1.symm

set_option maxRecDepth 100000 in
set_option maxHeartbeats 2000000 in
theorem read_none (kind : Int) (ao : Option Addr) (n c : Nat) (w : World) (h : (kind = 1 ∧ n < 32) ∨ (kind = 2 ∧ n < 80) ∨ (kind = 2 ∧ 80 < n) ∨ ((kind == 1) = false ∧ (kind == 2) = false)) :
    Calls Try.prog 32 #[.int .i64 kind, .slice ao n c] w fun e w' => e = .returned .nilIface ∧ Below w.heap.size w w' := by
  rcases h with ⟨rfl, h⟩ | ⟨rfl, h⟩ | ⟨rfl, h⟩ | ⟨h, h'⟩
  all_goals
    go_enter Try.func32, Try.ntmps32
    go_wp2
    go_ret
    exact ⟨rfl, Below.refl _ w⟩

/-- The node with nothing in it. -/
def noNode : NodeV := ⟨0, 0, 0, 0, 0, zero32, zero32, zero32, none, 0, 0⟩
theorem built_node_leaf (k : D32) (ao : Option Addr) (n c : Nat) : Try.prog.built 46 [(0, .int .i64 1), (7, .agg (dc k)), (8, .slice ao n c)] = some (nodeC ⟨1, 0, 0, 0, 0, zero32, zero32, k, ao, n, c⟩).toArray := by
  match k with
  | ⟨[b0, b1, b2, b3, b4, b5, b6, b7, b8, b9, b10, b11, b12, b13, b14, b15, b16, b17, b18, b19, b20, b21, b22, b23, b24, b25, b26, b27, b28, b29, b30, b31], h⟩ => show _ = _; kernel_rfl
theorem built_node_branch (p q c d : Int) (s t : D32) : Try.prog.built 46 [(0, .int .i64 2), (1, .int .i64 p), (2, .int .i64 q), (3, .int .i64 c), (4, .int .i64 d), (5, .agg (dc s)), (6, .agg (dc t))] = some (nodeC ⟨2, p, q, c, d, s, t, zero32, none, 0, 0⟩).toArray := by
  match s, t with
  | ⟨[b0, b1, b2, b3, b4, b5, b6, b7, b8, b9, b10, b11, b12, b13, b14, b15, b16, b17, b18, b19, b20, b21, b22, b23, b24, b25, b26, b27, b28, b29, b30, b31], h⟩, ⟨[a0, a1, a2, a3, a4, a5, a6, a7, a8, a9, a10, a11, a12, a13, a14, a15, a16, a17, a18, a19, a20, a21, a22, a23, a24, a25, a26, a27, a28, a29, a30, a31], h'⟩ => show _ = _; kernel_rfl
theorem nodeC_all (x : NodeV) : (nodeC x).toArray.all (·.oneCell') = true := by
  rw [Array.all_eq_true_iff_forall_mem]
  intro v hv
  have hv' : v ∈ nodeC x := by simpa using hv
  unfold nodeC at hv'
  simp only [List.mem_append, List.mem_cons, List.not_mem_nil, or_false] at hv'
  rcases hv' with (rfl | rfl | rfl | rfl | rfl) | h | h | h | rfl
  · rfl
  · rfl
  · rfl
  · rfl
  · rfl
  · exact bvs_oneCell _ v h
  · exact bvs_oneCell _ v h
  · exact bvs_oneCell _ v h
  · rfl

set_option maxRecDepth 100000 in
set_option maxHeartbeats 4000000 in
theorem nodeOf_leaf (k : D32) (ao : Option Addr) (n c : Nat) (l : List UInt8) (w : World) (h : Row w ao n l) (hn : ao = none → n = 0 ∧ c = 0) (hb : n ≤ 140737488351232) :
    Calls Try.prog 33 #[.iface 75 (.agg (leafC k (.slice ao n c)).toArray)] w fun e w' => ∃ ao' c', e = .returned (.agg (nodeC ⟨1, 0, 0, 0, 0, zero32, zero32, k, ao', n, c'⟩).toArray) ∧ Own w' w.heap.size 5 (.slice ao' n c') l ∧ Below w.heap.size w w' := by
  have hz35 : ∀ W : World, (zeroValue 46).run Try.prog W = .ok (.agg (nodeC noNode).toArray) W := fun W => by kernel_rfl
  have hz77 : ∀ W : World, (zeroValue 75).run Try.prog W = .ok (.agg (leafC zero32 (.slice none 0 0)).toArray) W := fun W => by kernel_rfl
  -- GEN
  have h32 := leafC_32 k (.slice ao n c)
  have htk := leafC_take k (.slice ao n c)
  have hi77 : Box ((Try.prog.info? 75).map (·.size) = some (leafC k (.slice ao n c)).toArray.size) := ⟨by
    have h : (Try.prog.info? 75).map (·.size) = some 33 := by kernel_rfl
    rw [h, List.size_toArray, length_leafC]⟩
  have hs77 : Box ((leafC zero32 (.slice none 0 0)).toArray.size = (leafC k (.slice ao n c)).toArray.size) := ⟨by rw [List.size_toArray, List.size_toArray, length_leafC, length_leafC]⟩
  have hal77 := Box.mk (leafC_all k ao n c)
  have hi35 : ∀ x : NodeV, Box ((Try.prog.info? 46).map (·.size) = some (nodeC x).toArray.size) := fun x => ⟨by
    have h : (Try.prog.info? 46).map (·.size) = some 102 := by kernel_rfl
    rw [h, List.size_toArray, length_nodeC]⟩
  have hs35 : ∀ x : NodeV, Box ((nodeC noNode).toArray.size = (nodeC x).toArray.size) := fun x => ⟨by rw [List.size_toArray, List.size_toArray, length_nodeC, length_nodeC]⟩
  have hbn : ∀ ao' c', Box (Try.prog.built 46 [(0, .int .i64 1), (7, .agg (dc k)), (8, .slice ao' n c')] = some (nodeC ⟨1, 0, 0, 0, 0, zero32, zero32, k, ao', n, c'⟩).toArray) := fun ao' c' => ⟨built_node_leaf k ao' n c'⟩
  have UK : Try.prog.underlying 44 = some (.array 32 5) := Try.underlying44
  have hiK : Hid ((Try.prog.info? 44).map (·.size) = some 32) := by unfold Hid; kernel_rfl
  have hrk : ∀ W : World, W.heap[w.heap.size + 1]? = some (.cells (leafC k (.slice ao n c)).toArray 75 (0, 0)) → W.rangeAt (w.heap.size + 1) 0 (bvs k.1) := fun W hW => rangeAt_cells hW fun j hj => by
    rw [Nat.zero_add, ← Array.getElem?_toList]
    show (bvs k.1 ++ [Value.slice ao n c])[j]? = _
    rw [List.getElem?_append_left hj]
  have HRK := Box.mk hrk
  clear htk hrk
  generalize (nodeC noNode).toArray = zn at *
  generalize (leafC zero32 (.slice none 0 0)).toArray = zl at *
  generalize (leafC k (.slice ao n c)).toArray = lk at *
  have ta : ∀ W, (Instr.typeAssert (.iface 75 (.agg lk)) 65 75 true).run Try.prog W = .ok (.tuple #[.agg lk, .bool true]) W := fun W => by kernel_rfl
  go_enter Try.func33, Try.ntmps33
  go_wp2_with (refine wpList_store_row rfl 75 (.tmp 3) (.tmp 10) ?_ (w.heap.size + 1) zl lk 75 ?_ ?_ ?_ hs77.out hi77.out hal77.out ?_; rfl; rfl; rfl; exact heap_new (by simp))
  intro w1 g1 G1
  have z1 : w.heap.size + 2 ≤ w1.heap.size := by have := G1.size; simpa using this
  have b1 : Below w.heap.size w w1 := ((Below.refl_alloc w _).alloc (by simp) _).grown G1 (by simp; omega) (fun k hk => by cases hk; omega)
  have f2 : Box (w1.heap[w.heap.size]? = some (.cells zn 46 (0, 0))) := ⟨(G1.block w.heap.size (by simp; omega) (by simp)).trans (heap_old (heap_new rfl))⟩
  have rk := HRK.out _ g1.out
  have cv : w1.cell? ⟨w.heap.size + 1, 32, none⟩ = some (.slice ao n c) := by
    rw [cell_of_row w1 _ 32 _ _ _ g1.out]
    exact h32
  have CV := Box.mk cv
  have RK := Box.mk rk
  have hrow := Box.mk (h.old b1)
  clear cv rk g1 G1 h32 ta hz35 hz77
  go_wp2_with fail
  refine held_begin (fun W => Below w1.heap.size w1 W ∨ Below w.heap.size w W ∧ W.rangeAt (w.heap.size + 1) 0 (bvs k.1) ∧ W.cell? ⟨w.heap.size + 1, 32, none⟩ = some (.slice ao n c)) (by kernel_rfl) (.inl (Below.refl _ w1).drew) (fun hH0 => ?_)
  refine held_take 0 (.pointer (some ⟨w.heap.size + 1, 0, none⟩)) rfl (by kernel_rfl) (by kernel_rfl) (by kernel_rfl) (held_pure (by rfl) (fun W => by go_simp)) (by assumption) ?_
  try simp only [Act.put, List.setIfInBounds_toArray, List.set_cons_zero, List.set_cons_succ]
  refine held_take 1 (.agg (dc k)) rfl (by kernel_rfl) (by kernel_rfl) (by kernel_rfl) (held_load (by rfl) 44 (.tmp 11) rfl (w.heap.size + 1) 0 rfl k 5 (fun W hS => hS.elim (fun h1 => rangeAt_below RK.out h1 (by omega)) (fun h2 => h2.2.1)) UK hiK) (by assumption) ?_
  try simp only [Act.put, List.setIfInBounds_toArray, List.set_cons_zero, List.set_cons_succ]
  refine held_take 2 (.pointer (some ⟨w.heap.size + 1, 32, none⟩)) rfl (by kernel_rfl) (by kernel_rfl) (by kernel_rfl) (held_pure (by rfl) (fun W => by go_simp)) (by assumption) ?_
  try simp only [Act.put, List.setIfInBounds_toArray, List.set_cons_zero, List.set_cons_succ]
  refine held_take 3 (.slice ao n c) rfl (by kernel_rfl) (by kernel_rfl) (by kernel_rfl) (Or.inl ⟨by rfl, fun W hS => by have hc' : W.cell? ⟨w.heap.size + 1, 32, none⟩ = some (.slice ao n c) := (hS.elim (fun h1 => (h1.cell (p := ⟨w.heap.size + 1, 32, none⟩) (by show w.heap.size + 1 < _; omega)).trans CV.out) (fun h2 => h2.2.2)); clear hS; go_simp⟩) (by assumption) ?_
  try simp only [Act.put, List.setIfInBounds_toArray, List.set_cons_zero, List.set_cons_succ]
  clear hH0
  refine held_step 4 (by kernel_rfl) rfl (by rfl) (fun K hK => ?_)
  refine oper_of_list rfl ?_
  refine wpList_append_grow byteTy _ rfl (.const (.slice none 0 0)) (.tmp 14) rfl w.heap.size (.slice none 0 0) [] rfl ⟨rfl, .inl ⟨rfl, rfl⟩⟩ ao n c l rfl hn (Row.drewN hrow.out 1) (by rw [List.length_nil]; omega) b1.drew.size ?_
  intro v' w2 own2 G2
  refine ⟨rfl, ?_⟩
  have b2 : Below w1.heap.size w1 w2 := (Below.refl _ w1).drew.grown G2 (Nat.le_refl _) (fun k hk => by cases hk)
  refine hK.out _ _ (.inl b2) (fun _ => ?_)
  clear hK K G2
  try simp only [Act.put, List.setIfInBounds_toArray, List.set_cons_zero, List.set_cons_succ]
  obtain ⟨ao', c', hv, _⟩ := own2.open
  have hln : ([] ++ l).length = n := hrow.out.1
  rw [hln] at hv
  subst hv
  rw [List.nil_append] at own2
  clear hln
  have bw2 : Below w.heap.size w w2 := b1.trans (b2.mono b1.size)
  have f3 : Box (w2.heap[w.heap.size]? = some (.cells zn 46 (0, 0))) := ⟨(b2.block _ (by omega)).trans f2.out⟩
  have rk2 := rangeAt_below RK.out b2 (by omega)
  have cv2 : w2.cell? ⟨w.heap.size + 1, 32, none⟩ = some (.slice ao n c) := (b2.cell (p := ⟨w.heap.size + 1, 32, none⟩) (by show w.heap.size + 1 < _; omega)).trans CV.out
  have HBN := hbn ao' c'
  have HI := hi35 ⟨1, 0, 0, 0, 0, zero32, zero32, k, ao', n, c'⟩
  have HSS := hs35 ⟨1, 0, 0, 0, 0, zero32, zero32, k, ao', n, c'⟩
  have HAL := Box.mk (nodeC_all ⟨1, 0, 0, 0, 0, zero32, zero32, k, ao', n, c'⟩)
  generalize hnr : (nodeC ⟨1, 0, 0, 0, 0, zero32, zero32, k, ao', n, c'⟩).toArray = nr at *
  have HNR := Box.mk hnr
  clear hnr hbn hi35 hs35
  have hSn : (Below w1.heap.size w1 w2 ∨ Below w.heap.size w w2 ∧ w2.rangeAt (w.heap.size + 1) 0 (bvs k.1) ∧ w2.cell? ⟨w.heap.size + 1, 32, none⟩ = some (.slice ao n c)) := .inl b2
  refine held_take 5 (.agg nr) rfl (by kernel_rfl) (by kernel_rfl) (by kernel_rfl) (Or.inl ⟨by rfl, fun W hS => build_any rfl [(0, .const (.int .i64 1)), (7, .tmp 12), (8, .tmp 15)] [(0, .int .i64 1), (7, .agg (dc k)), (8, .slice ao' n c')] rfl rfl HBN.out⟩) (by assumption) ?_
  try simp only [Act.put, List.setIfInBounds_toArray, List.set_cons_zero, List.set_cons_succ]
  clear hSn
  refine held_step 6 (by kernel_rfl) rfl (by rfl) (fun K hK => ?_)
  refine oper_of_list rfl ?_
  refine wpList_store_row rfl 46 (.tmp 2) (.tmp 16) rfl w.heap.size zn nr 46 rfl rfl f3.out HSS.out HI.out HAL.out ?_
  intro w3 g3 G3
  refine ⟨rfl, ?_⟩
  have b3 : Below w.heap.size w w3 := bw2.grown G3 bw2.size (fun k hk => by cases hk; exact Nat.le_refl _)
  have rk3 : w3.rangeAt (w.heap.size + 1) 0 (bvs k.1) := rangeAt_grown rk2 G3 (by have := b2.size; omega) (by simp)
  have cv3 : w3.cell? ⟨w.heap.size + 1, 32, none⟩ = some (.slice ao n c) := (World.cell?_of_block (w := w2) (w' := w3) (a := ⟨w.heap.size + 1, 32, none⟩) (G3.block _ (by have := b2.size; show w.heap.size + 1 < _; omega) (by simp))).trans cv2
  have own3 : Own w3 w.heap.size 5 (.slice ao' n c') l := own_store own2 f3.out (by decide) G3
  refine hK.out _ _ (.inr ⟨b3, rk3, cv3⟩) (fun _ => ?_)
  clear hK K G3
  try simp only [Act.put]
  refine held_done (by kernel_rfl) ?_ _
  go_wp2
  exact bodyPost_ret (v := .agg nr) (results_cell_row (p := 2) (ty := 46) rfl _ _ w.heap.size 46 _ (0, 0) _ rfl g3.out Try.underlying46 rfl HI.out) rfl ⟨ao', c', by rw [HNR.out], own3, b3⟩
end Go.Proofs.Ytocfiabbhcgegaa
