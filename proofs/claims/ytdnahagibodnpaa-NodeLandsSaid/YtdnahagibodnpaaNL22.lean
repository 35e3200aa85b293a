/- Texts joined: NodeOf, NodeOfB, Decode, Right. -/
import Derived.Test.YtdnahagibodnpaaNL21
import Derived.Test.YtdnahagibodnpaaNL18
import Derived.Laws.ResultCell
/- Forms as nodes: the walks of node.read (no form) and node.nodeOf. -/
namespace Go.Proofs.Ytdnahagibodnpaa
set_option linter.unusedSectionVars false
set_option linter.unusedSimpArgs false
open Go Go.RowKit
set_option linter.unusedVariables false
theorem rangeAt_grown {w w' : World} {b o : Nat} {cs : List Value} {row : Option Nat} (h : w.rangeAt b o cs) (hg : w.grownBy w' row) (hb : b < w.heap.size) (hne : row ≠ some b) : w'.rangeAt b o cs := fun j v hj =>
  (World.cell?_of_block (w := w) (w' := w') (a := ⟨b, o + j, none⟩) (hg.block b hb fun e => hne e.symm)).trans (h j v hj)
theorem own_store {w w' : World} {base b : Nat} {e t : TypeId} {C : Array Value} {v : Value} {l : List UInt8} (h : Own w base e v l) (f : w.heap[b]? = some (.cells C t (0, 0))) (hne : e ≠ t) (G : w.grownBy w' (some b)) : Own w' base e v l := by
  refine h.kept G ?_
  obtain ⟨hl, ⟨rfl, hn⟩ | ⟨g, cap, cur, rfl, h1, h2, h3⟩⟩ := h
  · exact .inl rfl
  · right
    intro hg
    have hgb : g = b := by simpa [Value.ownBlock] using hg
    subst hgb
    rw [f] at h2
    simp only [Option.some.injEq, Obj.cells.injEq] at h2
    exact hne h2.2.1.symm
set_option maxRecDepth 100000 in
set_option maxHeartbeats 2000000 in
theorem nread_none (kind : Int) (ao : Option Addr) (n c : Nat) (w : World) (h : (kind = 1 ∧ n < 32) ∨ (kind = 2 ∧ n < 80) ∨ (kind = 2 ∧ 80 < n) ∨ ((kind == 1) = false ∧ (kind == 2) = false)) :
    Calls Try.prog 30 #[.int .i64 kind, .slice ao n c] w fun e w' => e = .returned .nilIface ∧ Below w.heap.size w w' := by
  rcases h with ⟨rfl, h⟩ | ⟨rfl, h⟩ | ⟨rfl, h⟩ | ⟨h, h'⟩
  all_goals
    go_enter Try.func30, Try.ntmps30
    go_wp2
    go_ret
    exact ⟨rfl, Below.refl _ w⟩
def noNode : NodeV := ⟨0, 0, 0, 0, 0, zero32, zero32, zero32, none, 0, 0⟩
theorem built_node_leaf (k : D32) (ao : Option Addr) (n c : Nat) : Try.prog.built 39 [(0, .int .i64 1), (7, .agg (dc k)), (8, .slice ao n c)] = some (nodeC ⟨1, 0, 0, 0, 0, zero32, zero32, k, ao, n, c⟩).toArray := by
  match k with
  | ⟨[b0, b1, b2, b3, b4, b5, b6, b7, b8, b9, b10, b11, b12, b13, b14, b15, b16, b17, b18, b19, b20, b21, b22, b23, b24, b25, b26, b27, b28, b29, b30, b31], h⟩ => show _ = _; kernel_rfl
theorem built_node_branch (p q c d : Int) (s t : D32) : Try.prog.built 39 [(0, .int .i64 2), (1, .int .i64 p), (2, .int .i64 q), (3, .int .i64 c), (4, .int .i64 d), (5, .agg (dc s)), (6, .agg (dc t))] = some (nodeC ⟨2, p, q, c, d, s, t, zero32, none, 0, 0⟩).toArray := by
  match s, t with
  | ⟨[b0, b1, b2, b3, b4, b5, b6, b7, b8, b9, b10, b11, b12, b13, b14, b15, b16, b17, b18, b19, b20, b21, b22, b23, b24, b25, b26, b27, b28, b29, b30, b31], h⟩, ⟨[a0, a1, a2, a3, a4, a5, a6, a7, a8, a9, a10, a11, a12, a13, a14, a15, a16, a17, a18, a19, a20, a21, a22, a23, a24, a25, a26, a27, a28, a29, a30, a31], h'⟩ => show _ = _; kernel_rfl
theorem nodeC_all (x : NodeV) : (nodeC x).toArray.all (·.oneCell') = true := by
  rw [Array.all_eq_true_iff_forall_mem]
  intro v hv
  have hv' : v ∈ nodeC x := by simpa using hv
  unfold nodeC at hv'
  simp only [List.mem_append, List.mem_cons, List.not_mem_nil, or_false] at hv'
  rcases hv' with (rfl | rfl | rfl | rfl | rfl) | h | h | h | rfl
  · rfl
  · rfl
  · rfl
  · rfl
  · rfl
  · exact bvs_oneCell _ v h
  · exact bvs_oneCell _ v h
  · exact bvs_oneCell _ v h
  · rfl
set_option maxRecDepth 100000 in
set_option maxHeartbeats 4000000 in
theorem nodeOf_leaf (k : D32) (ao : Option Addr) (n c : Nat) (l : List UInt8) (w : World) (h : Row w ao n l) (hn : ao = none → n = 0 ∧ c = 0) (hb : n ≤ 140737488351232) :
    Calls Try.prog 31 #[.iface 89 (.agg (leafC k (.slice ao n c)).toArray)] w fun e w' => ∃ ao' c', e = .returned (.agg (nodeC ⟨1, 0, 0, 0, 0, zero32, zero32, k, ao', n, c'⟩).toArray) ∧ Own w' w.heap.size 5 (.slice ao' n c') l ∧ Below w.heap.size w w' := by
  have hz35 : ∀ W : World, (zeroValue 39).run Try.prog W = .ok (.agg (nodeC noNode).toArray) W := fun W => by kernel_rfl
  have hz77 : ∀ W : World, (zeroValue 89).run Try.prog W = .ok (.agg (leafC zero32 (.slice none 0 0)).toArray) W := fun W => by kernel_rfl
  have h32 := leafC_32 k (.slice ao n c)
  have htk := leafC_take k (.slice ao n c)
  have hi77 : Box ((Try.prog.info? 89).map (·.size) = some (leafC k (.slice ao n c)).toArray.size) := ⟨by
    have h : (Try.prog.info? 89).map (·.size) = some 33 := by kernel_rfl
    rw [h, List.size_toArray, length_leafC]⟩
  have hs77 : Box ((leafC zero32 (.slice none 0 0)).toArray.size = (leafC k (.slice ao n c)).toArray.size) := ⟨by rw [List.size_toArray, List.size_toArray, length_leafC, length_leafC]⟩
  have hal77 := Box.mk (leafC_all k ao n c)
  have hi35 : ∀ x : NodeV, Box ((Try.prog.info? 39).map (·.size) = some (nodeC x).toArray.size) := fun x => ⟨by
    have h : (Try.prog.info? 39).map (·.size) = some 102 := by kernel_rfl
    rw [h, List.size_toArray, length_nodeC]⟩
  have hs35 : ∀ x : NodeV, Box ((nodeC noNode).toArray.size = (nodeC x).toArray.size) := fun x => ⟨by rw [List.size_toArray, List.size_toArray, length_nodeC, length_nodeC]⟩
  have hbn : ∀ ao' c', Box (Try.prog.built 39 [(0, .int .i64 1), (7, .agg (dc k)), (8, .slice ao' n c')] = some (nodeC ⟨1, 0, 0, 0, 0, zero32, zero32, k, ao', n, c'⟩).toArray) := fun ao' c' => ⟨built_node_leaf k ao' n c'⟩
  have UK : Try.prog.underlying 37 = some (.array 32 5) := Try.underlying37
  have hiK : Hid ((Try.prog.info? 37).map (·.size) = some 32) := by unfold Hid; kernel_rfl
  have hrk : ∀ W : World, W.heap[w.heap.size + 1]? = some (.cells (leafC k (.slice ao n c)).toArray 89 (0, 0)) → W.rangeAt (w.heap.size + 1) 0 (bvs k.1) := fun W hW => rangeAt_cells hW fun j hj => by
    rw [Nat.zero_add, ← Array.getElem?_toList]
    show (bvs k.1 ++ [Value.slice ao n c])[j]? = _
    rw [List.getElem?_append_left hj]
  have HRK := Box.mk hrk
  clear htk hrk
  generalize (nodeC noNode).toArray = zn at *
  generalize (leafC zero32 (.slice none 0 0)).toArray = zl at *
  generalize (leafC k (.slice ao n c)).toArray = lk at *
  have ta : ∀ W, (Instr.typeAssert (.iface 89 (.agg lk)) 71 89 true).run Try.prog W = .ok (.tuple #[.agg lk, .bool true]) W := fun W => by kernel_rfl
  go_enter Try.func31, Try.ntmps31
  go_wp2_with (refine wpList_store_row rfl 89 (.tmp 3) (.tmp 10) ?_ (w.heap.size + 1) zl lk 89 ?_ ?_ ?_ hs77.out hi77.out hal77.out ?_; rfl; rfl; rfl; exact heap_new (by simp))
  intro w1 g1 G1
  have z1 : w.heap.size + 2 ≤ w1.heap.size := by have := G1.size; simpa using this
  have b1 : Below w.heap.size w w1 := ((Below.refl_alloc w _).alloc (by simp) _).grown G1 (by simp; omega) (fun k hk => by cases hk; omega)
  have f2 : Box (w1.heap[w.heap.size]? = some (.cells zn 39 (0, 0))) := ⟨(G1.block w.heap.size (by simp; omega) (by simp)).trans (heap_old (heap_new rfl))⟩
  have rk := HRK.out _ g1.out
  have cv : w1.cell? ⟨w.heap.size + 1, 32, none⟩ = some (.slice ao n c) := by
    rw [cell_of_row w1 _ 32 _ _ _ g1.out]
    exact h32
  have CV := Box.mk cv
  have RK := Box.mk rk
  have hrow := Box.mk (h.old b1)
  clear cv rk g1 G1 h32 ta hz35 hz77
  go_wp2_with fail
  refine held_begin (fun W => Below w1.heap.size w1 W ∨ Below w.heap.size w W ∧ W.rangeAt (w.heap.size + 1) 0 (bvs k.1) ∧ W.cell? ⟨w.heap.size + 1, 32, none⟩ = some (.slice ao n c)) (by kernel_rfl) (.inl (Below.refl _ w1).drew) (fun hH0 => ?_)
  refine held_take 0 (.pointer (some ⟨w.heap.size + 1, 0, none⟩)) rfl (by kernel_rfl) (by kernel_rfl) (by kernel_rfl) (held_pure (by rfl) (fun W => by go_simp)) (by assumption) ?_
  try simp only [Act.put, zq1, zq2, zq3]
  refine held_take 1 (.agg (dc k)) rfl (by kernel_rfl) (by kernel_rfl) (by kernel_rfl) (held_load (by rfl) 37 (.tmp 11) rfl (w.heap.size + 1) 0 rfl k 5 (fun W hS => hS.elim (fun h1 => rangeAt_below RK.out h1 (by omega)) (fun h2 => h2.2.1)) UK hiK) (by assumption) ?_
  try simp only [Act.put, zq1, zq2, zq3]
  refine held_take 2 (.pointer (some ⟨w.heap.size + 1, 32, none⟩)) rfl (by kernel_rfl) (by kernel_rfl) (by kernel_rfl) (held_pure (by rfl) (fun W => by go_simp)) (by assumption) ?_
  try simp only [Act.put, zq1, zq2, zq3]
  refine held_take 3 (.slice ao n c) rfl (by kernel_rfl) (by kernel_rfl) (by kernel_rfl) (Or.inl ⟨by rfl, fun W hS => by have hc' : W.cell? ⟨w.heap.size + 1, 32, none⟩ = some (.slice ao n c) := (hS.elim (fun h1 => (h1.cell (p := ⟨w.heap.size + 1, 32, none⟩) (by show w.heap.size + 1 < _; omega)).trans CV.out) (fun h2 => h2.2.2)); clear hS; go_simp⟩) (by assumption) ?_
  try simp only [Act.put, zq1, zq2, zq3]
  clear hH0
  refine held_step 4 (by kernel_rfl) rfl (by rfl) (fun K hK => ?_)
  refine oper_of_list rfl ?_
  refine wpList_append_grow byteTy _ rfl (.const (.slice none 0 0)) (.tmp 14) rfl w.heap.size (.slice none 0 0) [] rfl ⟨rfl, .inl ⟨rfl, rfl⟩⟩ ao n c l rfl hn (Row.drewN hrow.out 1) (by rw [List.length_nil]; omega) b1.drew.size ?_
  intro v' w2 own2 G2
  refine ⟨rfl, ?_⟩
  have b2 : Below w1.heap.size w1 w2 := (Below.refl _ w1).drew.grown G2 (Nat.le_refl _) (fun k hk => by cases hk)
  refine hK.out _ _ (.inl b2) (fun _ => ?_)
  clear hK K G2
  try simp only [Act.put, zq1, zq2, zq3]
  obtain ⟨ao', c', hv, _⟩ := own2.open
  have hln : ([] ++ l).length = n := hrow.out.1
  rw [hln] at hv
  subst hv
  rw [List.nil_append] at own2
  clear hln
  have bw2 : Below w.heap.size w w2 := b1.trans (b2.mono b1.size)
  have f3 : Box (w2.heap[w.heap.size]? = some (.cells zn 39 (0, 0))) := ⟨(b2.block _ (by omega)).trans f2.out⟩
  have rk2 := rangeAt_below RK.out b2 (by omega)
  have cv2 : w2.cell? ⟨w.heap.size + 1, 32, none⟩ = some (.slice ao n c) := (b2.cell (p := ⟨w.heap.size + 1, 32, none⟩) (by show w.heap.size + 1 < _; omega)).trans CV.out
  have HBN := hbn ao' c'
  have HI := hi35 ⟨1, 0, 0, 0, 0, zero32, zero32, k, ao', n, c'⟩
  have HSS := hs35 ⟨1, 0, 0, 0, 0, zero32, zero32, k, ao', n, c'⟩
  have HAL := Box.mk (nodeC_all ⟨1, 0, 0, 0, 0, zero32, zero32, k, ao', n, c'⟩)
  generalize hnr : (nodeC ⟨1, 0, 0, 0, 0, zero32, zero32, k, ao', n, c'⟩).toArray = nr at *
  have HNR := Box.mk hnr
  clear hnr hbn hi35 hs35
  have hSn : (Below w1.heap.size w1 w2 ∨ Below w.heap.size w w2 ∧ w2.rangeAt (w.heap.size + 1) 0 (bvs k.1) ∧ w2.cell? ⟨w.heap.size + 1, 32, none⟩ = some (.slice ao n c)) := .inl b2
  refine held_take 5 (.agg nr) rfl (by kernel_rfl) (by kernel_rfl) (by kernel_rfl) (Or.inl ⟨by rfl, fun W hS => build_any rfl [(0, .const (.int .i64 1)), (7, .tmp 12), (8, .tmp 15)] [(0, .int .i64 1), (7, .agg (dc k)), (8, .slice ao' n c')] rfl rfl HBN.out⟩) (by assumption) ?_
  try simp only [Act.put, zq1, zq2, zq3]
  clear hSn
  refine held_step 6 (by kernel_rfl) rfl (by rfl) (fun K hK => ?_)
  refine oper_of_list rfl ?_
  refine wpList_store_row rfl 39 (.tmp 2) (.tmp 16) rfl w.heap.size zn nr 39 rfl rfl f3.out HSS.out HI.out HAL.out ?_
  intro w3 g3 G3
  refine ⟨rfl, ?_⟩
  have b3 : Below w.heap.size w w3 := bw2.grown G3 bw2.size (fun k hk => by cases hk; exact Nat.le_refl _)
  have rk3 : w3.rangeAt (w.heap.size + 1) 0 (bvs k.1) := rangeAt_grown rk2 G3 (by have := b2.size; omega) (by simp)
  have cv3 : w3.cell? ⟨w.heap.size + 1, 32, none⟩ = some (.slice ao n c) := (World.cell?_of_block (w := w2) (w' := w3) (a := ⟨w.heap.size + 1, 32, none⟩) (G3.block _ (by have := b2.size; show w.heap.size + 1 < _; omega) (by simp))).trans cv2
  have own3 : Own w3 w.heap.size 5 (.slice ao' n c') l := own_store own2 f3.out (by decide) G3
  refine hK.out _ _ (.inr ⟨b3, rk3, cv3⟩) (fun _ => ?_)
  clear hK K G3
  try simp only [Act.put]
  refine held_done (by kernel_rfl) ?_ _
  go_wp2
  exact bodyPost_ret (v := .agg nr) (results_cell_row (p := 2) (ty := 39) rfl _ _ w.heap.size 39 _ (0, 0) _ rfl g3.out Try.underlying39 rfl HI.out) rfl ⟨ao', c', by rw [HNR.out], own3, b3⟩
end Go.Proofs.Ytdnahagibodnpaa

/- A branch's form as a node: the walk of node.nodeOf. -/
namespace Go.Proofs.Ytdnahagibodnpaa
set_option linter.unusedSectionVars false
set_option linter.unusedSimpArgs false
open Go Go.RowKit
set_option linter.unusedVariables false
set_option maxRecDepth 100000 in
set_option maxHeartbeats 4000000 in
theorem nodeOf_branch (l r : Child) (w : World) :
    Calls Try.prog 31 #[.iface 93 (.agg (brC l r).toArray)] w fun e w' => e = .returned (.agg (nodeC ⟨2, l.page, r.page, l.count, r.count, l.sum, r.sum, zero32, none, 0, 0⟩).toArray) ∧ Below w.heap.size w w' := by
  have hz35 : ∀ W : World, (zeroValue 39).run Try.prog W = .ok (.agg (nodeC noNode).toArray) W := fun W => by kernel_rfl
  have hz81 : ∀ W : World, (zeroValue 93).run Try.prog W = .ok (.agg (brC noChild noChild).toArray) W := fun W => by kernel_rfl
  have hz79 : ∀ W : World, (zeroValue 91).run Try.prog W = .ok (.agg (chC noChild).toArray) W := fun W => by kernel_rfl
  have hs81 : Box ((brC noChild noChild).toArray.size = (brC l r).toArray.size) := ⟨by rw [List.size_toArray, List.size_toArray, length_brC, length_brC]⟩
  have hi81 : Box ((Try.prog.info? 93).map (·.size) = some (brC l r).toArray.size) := ⟨by
    have h : (Try.prog.info? 93).map (·.size) = some 68 := by kernel_rfl
    rw [h, List.size_toArray, length_brC]⟩
  have ha81 := Box.mk (brC_all l r)
  have hi79 : ∀ c : Child, Box ((Try.prog.info? 91).map (·.size) = some (chC c).toArray.size) := fun c => ⟨by
    have h : (Try.prog.info? 91).map (·.size) = some 34 := by kernel_rfl
    rw [h, List.size_toArray, length_chC]⟩
  have hj79 : ∀ c : Child, Box ((Try.prog.info? 91).map (·.size) = some (chC c).length) := fun c => ⟨by rw [← List.size_toArray]; exact (hi79 c).out⟩
  have hs79 : ∀ c : Child, Box ((chC noChild).toArray.size = (chC c).toArray.size) := fun c => ⟨by rw [List.size_toArray, List.size_toArray, length_chC, length_chC]⟩
  have ha79 : ∀ c : Child, Box ((chC c).toArray.all (·.oneCell') = true) := fun c => ⟨chC_all c⟩
  have hi35 : Box ((Try.prog.info? 39).map (·.size) = some (nodeC ⟨2, l.page, r.page, l.count, r.count, l.sum, r.sum, zero32, none, 0, 0⟩).toArray.size) := ⟨by
    have h : (Try.prog.info? 39).map (·.size) = some 102 := by kernel_rfl
    rw [h, List.size_toArray, length_nodeC]⟩
  have hs35 : Box ((nodeC noNode).toArray.size = (nodeC ⟨2, l.page, r.page, l.count, r.count, l.sum, r.sum, zero32, none, 0, 0⟩).toArray.size) := ⟨by rw [List.size_toArray, List.size_toArray, length_nodeC, length_nodeC]⟩
  have ha35 := Box.mk (nodeC_all ⟨2, l.page, r.page, l.count, r.count, l.sum, r.sum, zero32, none, 0, 0⟩)
  have hbn := Box.mk (built_node_branch l.page r.page l.count r.count l.sum r.sum)
  have UD : Try.prog.underlying 36 = some (.array 32 5) := Try.underlying36
  have hiD : Hid ((Try.prog.info? 36).map (·.size) = some 32) := by unfold Hid; kernel_rfl
  have ta : ∀ v W, (Instr.typeAssert (.iface 93 (.agg v)) 71 89 true).run Try.prog W = .ok (.tuple #[.agg (leafC zero32 (.slice none 0 0)).toArray, .bool false]) W := fun v W => by kernel_rfl
  have tb : ∀ v W, (Instr.typeAssert (.iface 93 (.agg v)) 71 93 true).run Try.prog W = .ok (.tuple #[.agg v, .bool true]) W := fun v W => by kernel_rfl
  have rl : ∀ W : World, W.heap[w.heap.size + 1]? = some (.cells (brC l r).toArray 93 (0, 0)) → W.rangeAt (w.heap.size + 1) 0 (chC l) := fun W hW => rangeAt_cells hW fun j hj => by
    rw [Nat.zero_add, ← Array.getElem?_toList]
    show (chC l ++ chC r)[j]? = _
    rw [List.getElem?_append_left hj]
  have rr : ∀ W : World, W.heap[w.heap.size + 1]? = some (.cells (brC l r).toArray 93 (0, 0)) → W.rangeAt (w.heap.size + 1) 34 (chC r) := fun W hW => rangeAt_cells hW fun j hj => by
    rw [brC_at, ← Array.getElem?_toList]
  have RL := Box.mk rl
  have RR := Box.mk rr
  have e0 : ∀ (c : Child) (W : World) (g : Nat), W.heap[g]? = some (.cells (chC c).toArray 91 (0, 0)) → W.cell? ⟨g, 0, none⟩ = some (.int .i64 c.page) ∧ W.cell? ⟨g, 1, none⟩ = some (.int .i64 c.count) ∧ W.rangeAt g 2 (bvs c.sum.1) := fun c W g hg => ⟨by rw [cell_of_row W g 0 _ _ _ hg]; exact chC_0 c, by rw [cell_of_row W g 1 _ _ _ hg]; exact chC_1 c, rangeAt_cells hg fun j hj => by
    rw [← Array.getElem?_toList]
    show (Value.int .i64 c.page :: Value.int .i64 c.count :: bvs c.sum.1)[2 + j]? = _
    rw [Nat.add_comm]; rfl⟩
  have E0 := Box.mk e0
  clear rl rr e0
  generalize hnr : (nodeC ⟨2, l.page, r.page, l.count, r.count, l.sum, r.sum, zero32, none, 0, 0⟩).toArray = nr at *
  have HNR := Box.mk hnr
  clear hnr
  generalize (nodeC noNode).toArray = zn at *
  generalize (brC noChild noChild).toArray = zb at *
  generalize (chC noChild).toArray = zc at *
  generalize (leafC zero32 (.slice none 0 0)).toArray = zl at *
  generalize (brC l r).toArray = lk at *
  go_enter Try.func31, Try.ntmps31
  go_wp2_with (refine wpList_store_row rfl 93 (.tmp 4) (.tmp 19) ?_ (w.heap.size + 1) zb lk 93 ?_ ?_ ?_ hs81.out hi81.out ha81.out ?_; rfl; rfl; rfl; exact heap_new (by simp))
  intro w1 g1 G1
  have z1 : w.heap.size + 2 ≤ w1.heap.size := by have := G1.size; simpa using this
  have b1 : Below w.heap.size w w1 := ((Below.refl_alloc w _).alloc (by simp) _).grown G1 (by simp; omega) (fun k hk => by cases hk; omega)
  have f2 : Box (w1.heap[w.heap.size]? = some (.cells zn 39 (0, 0))) := ⟨(G1.block w.heap.size (by simp; omega) (by simp)).trans (heap_old (heap_new rfl))⟩
  have rkl := Box.mk (RL.out _ g1.out)
  have rkr := Box.mk (RR.out _ g1.out)
  clear g1 G1 ta tb hz35 hz81
  go_upto_region 7 with fail
  go_cut [5, 6] (fun s t W => ∃ g5 g6, s = .pointer (some ⟨g5, 0, none⟩) ∧ t = .pointer (some ⟨g6, 0, none⟩) ∧ Hid (W.heap[g5]? = some (.cells (chC l).toArray 91 (0, 0))) ∧ Hid (W.heap[g6]? = some (.cells (chC r).toArray 91 (0, 0))) ∧ Below w1.heap.size w1 W)
  case first =>
    go_wp2_with fail
    refine held_begin (fun W => Below w1.heap.size w1 W) (by kernel_rfl) (Below.refl _ w1).drew (fun hH0 => ?_)
    refine held_take 0 (.pointer (some ⟨w.heap.size + 1, 0, none⟩)) rfl (by kernel_rfl) (by kernel_rfl) (by kernel_rfl) (held_pure (by rfl) (fun W => by go_simp)) (by assumption) ?_
    try simp only [Act.put, zq1, zq2, zq3]
    refine held_take 1 (.agg (chC l).toArray) rfl (by kernel_rfl) (by kernel_rfl) (by kernel_rfl) (yieldsIf_load_mid (by rfl) 91 (.tmp 20) rfl (w.heap.size + 1) 0 rfl (chC l) _ (fun W hS => rangeAt_below rkl.out hS (by omega)) Try.underlying91 rfl (hj79 l).out) (by assumption) ?_
    try simp only [Act.put, zq1, zq2, zq3]
    refine held_take 2 (.pointer (some ⟨w.heap.size + 1, 34, none⟩)) rfl (by kernel_rfl) (by kernel_rfl) (by kernel_rfl) (held_pure (by rfl) (fun W => by go_simp)) (by assumption) ?_
    try simp only [Act.put, zq1, zq2, zq3]
    refine held_take 3 (.agg (chC r).toArray) rfl (by kernel_rfl) (by kernel_rfl) (by kernel_rfl) (yieldsIf_load_mid (by rfl) 91 (.tmp 22) rfl (w.heap.size + 1) 34 rfl (chC r) _ (fun W hS => rangeAt_below rkr.out hS (by omega)) Try.underlying91 rfl (hj79 r).out) (by assumption) ?_
    try simp only [Act.put, zq1, zq2, zq3]
    have hz0 : w1.heap.size ≤ w1.drew.heap.size := Nat.le_refl _
    generalize w1.drew = W0 at *
    refine held_step2 4 5 (by kernel_rfl) rfl rfl (by rfl) (by rfl) (fun K hK => ?_) (fun K hK => ?_)
    · skip
      go_simp
      refine hK.out _ _ (hH0.alloc hH0.size _) (fun hH1 => ?_)
      clear hK K
      try simp only [Act.put, zq1, zq2, zq3]
      have k1 : (W0.alloc (.cells zc 91)).heap[W0.heap.size]? = some (.cells zc 91 (0, 0)) := heap_new rfl
      have y1 : (W0.alloc (.cells zc 91)).heap.size = W0.heap.size + 1 := by simp
      generalize W0.alloc (.cells zc 91) = W1 at *
      refine held_step 5 (by kernel_rfl) rfl (by rfl) (fun K hK => ?_)
      go_simp
      refine hK.out _ _ (hH1.alloc hH1.size _) (fun hH2 => ?_)
      clear hK K
      try simp only [Act.put, zq1, zq2, zq3]
      have k2 : Box ((W1.alloc (.cells zc 91)).heap[W0.heap.size + 1]? = some (.cells zc 91 (0, 0))) := ⟨heap_new y1.symm⟩
      have k1' : Box ((W1.alloc (.cells zc 91)).heap[W0.heap.size]? = some (.cells zc 91 (0, 0))) := ⟨heap_old k1⟩
      generalize W1.alloc (.cells zc 91) = W2 at *
      clear k1
      refine held_step 6 (by kernel_rfl) rfl (by rfl) (fun K hK => ?_)
      refine oper_of_list rfl ?_
      refine wpList_store_row rfl 91 (.tmp 5) (.tmp 21) rfl W0.heap.size zc (chC l).toArray 91 rfl rfl k1'.out (hs79 l).out (hi79 l).out (ha79 l).out ?_
      intro W3 g5 G5
      refine ⟨rfl, ?_⟩
      have h3 : Below w1.heap.size w1 W3 := hH2.grown G5 hH2.size (fun k hk => by cases hk; have := hH0.size; omega)
      have k6 : Box (W3.heap[(W0.heap.size + 1)]? = some (.cells zc 91 (0, 0))) := ⟨(G5.block _ (heap_lt k2.out) (by simp <;> omega)).trans k2.out⟩
      refine hK.out _ _ h3 (fun _ => ?_)
      clear hK K
      try simp only [Act.put]
      refine held_step 7 (by kernel_rfl) rfl (by rfl) (fun K hK => ?_)
      refine oper_of_list rfl ?_
      refine wpList_store_row rfl 91 (.tmp 6) (.tmp 23) rfl (W0.heap.size + 1) zc (chC r).toArray 91 rfl rfl k6.out (hs79 r).out (hi79 r).out (ha79 r).out ?_
      intro W4 g6 G6
      refine ⟨rfl, ?_⟩
      have h4 : Below w1.heap.size w1 W4 := h3.grown G6 h3.size (fun k hk => by cases hk; have := hH0.size; omega)
      have k5 : Hid (W4.heap[W0.heap.size]? = some (.cells (chC l).toArray 91 (0, 0))) := (G6.block _ (heap_lt g5.out) (by simp <;> omega)).trans g5.out
      refine hK.out _ _ h4 (fun _ => ?_)
      clear hK K
      try simp only [Act.put]
      refine held_done (by kernel_rfl) ?_ _
      go_wp2_with fail
      go_meet
      exact ⟨_, _, rfl, rfl, k5, g6, h4⟩
    · skip
      go_simp
      refine hK.out _ _ (hH0.alloc hH0.size _) (fun hH1 => ?_)
      clear hK K
      try simp only [Act.put, zq1, zq2, zq3]
      have k1 : (W0.alloc (.cells zc 91)).heap[W0.heap.size]? = some (.cells zc 91 (0, 0)) := heap_new rfl
      have y1 : (W0.alloc (.cells zc 91)).heap.size = W0.heap.size + 1 := by simp
      generalize W0.alloc (.cells zc 91) = W1 at *
      refine held_step 4 (by kernel_rfl) rfl (by rfl) (fun K hK => ?_)
      go_simp
      refine hK.out _ _ (hH1.alloc hH1.size _) (fun hH2 => ?_)
      clear hK K
      try simp only [Act.put, zq1, zq2, zq3]
      have k2 : Box ((W1.alloc (.cells zc 91)).heap[W0.heap.size + 1]? = some (.cells zc 91 (0, 0))) := ⟨heap_new y1.symm⟩
      have k1' : Box ((W1.alloc (.cells zc 91)).heap[W0.heap.size]? = some (.cells zc 91 (0, 0))) := ⟨heap_old k1⟩
      generalize W1.alloc (.cells zc 91) = W2 at *
      clear k1
      refine held_step 6 (by kernel_rfl) rfl (by rfl) (fun K hK => ?_)
      refine oper_of_list rfl ?_
      refine wpList_store_row rfl 91 (.tmp 5) (.tmp 21) rfl (W0.heap.size + 1) zc (chC l).toArray 91 rfl rfl k2.out (hs79 l).out (hi79 l).out (ha79 l).out ?_
      intro W3 g5 G5
      refine ⟨rfl, ?_⟩
      have h3 : Below w1.heap.size w1 W3 := hH2.grown G5 hH2.size (fun k hk => by cases hk; have := hH0.size; omega)
      have k6 : Box (W3.heap[W0.heap.size]? = some (.cells zc 91 (0, 0))) := ⟨(G5.block _ (heap_lt k1'.out) (by simp <;> omega)).trans k1'.out⟩
      refine hK.out _ _ h3 (fun _ => ?_)
      clear hK K
      try simp only [Act.put]
      refine held_step 7 (by kernel_rfl) rfl (by rfl) (fun K hK => ?_)
      refine oper_of_list rfl ?_
      refine wpList_store_row rfl 91 (.tmp 6) (.tmp 23) rfl W0.heap.size zc (chC r).toArray 91 rfl rfl k6.out (hs79 r).out (hi79 r).out (ha79 r).out ?_
      intro W4 g6 G6
      refine ⟨rfl, ?_⟩
      have h4 : Below w1.heap.size w1 W4 := h3.grown G6 h3.size (fun k hk => by cases hk; have := hH0.size; omega)
      have k5 : Hid (W4.heap[(W0.heap.size + 1)]? = some (.cells (chC l).toArray 91 (0, 0))) := (G6.block _ (heap_lt g5.out) (by simp <;> omega)).trans g5.out
      refine hK.out _ _ h4 (fun _ => ?_)
      clear hK K
      try simp only [Act.put]
      refine held_done (by kernel_rfl) ?_ _
      go_wp2_with fail
      go_meet
      exact ⟨_, _, rfl, rfl, k5, g6, h4⟩
  obtain ⟨g5, g6, rfl, rfl, h5, h6, bc⟩ := hcut
  obtain ⟨a0, a1, a2⟩ := E0.out l wc g5 h5.out
  obtain ⟨d0, d1, d2⟩ := E0.out r wc g6 h6.out
  have A2 := Box.mk a2
  have D2 := Box.mk d2
  have bw := b1.trans (bc.mono b1.size)
  have f3 : Box (wc.heap[w.heap.size]? = some (.cells zn 39 (0, 0))) := ⟨(bc.block _ (by omega)).trans f2.out⟩
  clear a2 d2 h5 h6 bc
  go_wp2_with (first
    | (refine wpList_load32g ?_ 36 (.tmp 32) ?_ g5 2 ?_ l.sum 5 ?_ UD hiD ?_; rfl; rfl; rfl; exact A2.out)
    | (refine wpList_load32g ?_ 36 (.tmp 34) ?_ g6 2 ?_ r.sum 5 ?_ UD hiD ?_; rfl; rfl; rfl; exact D2.out)
    | (refine wpList_builtg ?_ 39 [(0, .const (.int .i64 2)), (1, .tmp 25), (2, .tmp 27), (3, .tmp 29), (4, .tmp 31), (5, .tmp 33), (6, .tmp 35)] ?_ [(0, .int .i64 2), (1, .int .i64 l.page), (2, .int .i64 r.page), (3, .int .i64 l.count), (4, .int .i64 r.count), (5, .agg (dc l.sum)), (6, .agg (dc r.sum))] ?_ nr hbn.out ?_; rfl; rfl; rfl)
    | (refine wpList_store_row rfl 39 (.tmp 2) (.tmp 36) ?_ w.heap.size zn nr 39 ?_ ?_ f3.out hs35.out hi35.out ha35.out ?_; rfl; rfl; rfl))
  intro w3 g3 G3
  have b3 : Below w.heap.size w w3 := bw.grown G3 bw.size (fun k hk => by cases hk; exact Nat.le_refl _)
  go_wp2
  exact bodyPost_ret (v := .agg nr) (results_cell_row (p := 2) (ty := 39) rfl _ _ w.heap.size 39 _ (0, 0) _ rfl g3.out Try.underlying39 rfl hi35.out) rfl ⟨rfl, b3⟩
end Go.Proofs.Ytdnahagibodnpaa

/- Pages' loads as nodes: the walk of node.Decode. -/
namespace Go.Proofs.Ytdnahagibodnpaa
set_option linter.unusedSectionVars false
set_option linter.unusedSimpArgs false
open Go Go.RowKit
set_option linter.unusedVariables false
theorem results_row_tmp {P : Program} {fn : Func} {p u : Tmp} {ty : TypeId} (h : fn.results = #[.cell p ty, .tmp u]) (tmps : Array Value) (w : World) (g : Nat) (t : TypeId) (cs : Array Value) (fr : Nat × Nat) (d : TypeDesc)
    (hp : tmps.getD p undef = .pointer (some ⟨g, 0, none⟩)) (hg : w.heap[g]? = some (.cells cs t fr)) (hu : P.underlying ty = some d) (hd : (match d with | .struct _ | .array _ _ => true | _ => false) = true) (hi : (P.info? ty).map (·.size) = some cs.size)
    (v : Value) (hv : tmps.getD u undef = v) : (results fn tmps).run P w = .ok (.tuple #[.agg cs, v]) w := by
  rw [results_cell_tmp h, hp, hv]
  simp [asAddr, run_loadVar_row w g t ty cs fr d hg hu hd hi]
theorem nodeSize (x : NodeV) : Box ((Try.prog.info? 39).map (·.size) = some (nodeC x).toArray.size) := ⟨by
  have h : (Try.prog.info? 39).map (·.size) = some 102 := by kernel_rfl
  rw [h, List.size_toArray, length_nodeC]⟩
theorem nodeSize2 (x y : NodeV) : Box ((nodeC x).toArray.size = (nodeC y).toArray.size) := ⟨by rw [List.size_toArray, List.size_toArray, length_nodeC, length_nodeC]⟩
set_option maxRecDepth 100000 in
set_option maxHeartbeats 4000000 in
theorem decode_none (kind : Int) (ao : Option Addr) (n c : Nat) (w : World) (h : (kind = 1 ∧ n < 32) ∨ (kind = 2 ∧ n < 80) ∨ (kind = 2 ∧ 80 < n) ∨ ((kind == 1) = false ∧ (kind == 2) = false)) :
    Calls Try.prog 13 #[.int .i64 kind, .slice ao n c] w fun e w' => e = .returned (.tuple #[.agg (nodeC noNode).toArray, .int .i64 90]) ∧ Below w.heap.size w w' := by
  have hz35 : ∀ W : World, (zeroValue 39).run Try.prog W = .ok (.agg (nodeC noNode).toArray) W := fun W => by kernel_rfl
  have hb35 : Box (Try.prog.built 39 [] = some (nodeC noNode).toArray) := ⟨by kernel_rfl⟩
  have hr := fun W => nread_none kind ao n c W h
  have hi := nodeSize noNode
  have ha := Box.mk (nodeC_all noNode)
  clear h
  generalize (nodeC noNode).toArray = zn at *
  go_enter Try.func13, Try.ntmps13
  go_wp2_with (go_at_call 30; refine (hr _).mono ?_)
  rintro e w1 ⟨rfl, hB⟩
  have b1 : Below w.heap.size w w1 := (Below.refl_alloc w _).trans (hB.mono (by simp))
  have f1 : Box (w1.heap[w.heap.size]? = some (.cells zn 39 (0, 0))) := ⟨(hB.block _ (by simp)).trans (heap_new rfl)⟩
  clear hB hr
  go_wp2_with (first
    | ((with_reducible refine wpList_builtg ?_ 39 [] ?_ [] ?_ zn hb35.out ?_); rfl; rfl; rfl)
    | ((with_reducible refine wpList_store_row rfl 39 (.tmp 4) (.tmp 17) ?_ w.heap.size zn zn 39 ?_ ?_ f1.out rfl hi.out ha.out ?_); rfl; rfl; rfl))
  intro w2 g2 G2
  have b2 : Below w.heap.size w w2 := b1.grown G2 b1.size (fun k hk => by cases hk; exact Nat.le_refl _)
  go_wp2
  exact bodyPost_ret (v := .tuple #[.agg zn, .int .i64 90]) (results_row_tmp (p := 4) (u := 5) (ty := 39) rfl _ _ w.heap.size 39 _ (0, 0) _ rfl g2.out Try.underlying39 rfl hi.out _ rfl) rfl ⟨rfl, b2⟩
set_option maxRecDepth 100000 in
set_option maxHeartbeats 4000000 in
theorem decode_leaf (b o m c' : Nat) (l : List UInt8) (w : World) (h : Row w (some ⟨b, o, none⟩) (m + 32) l) (hmc : m ≤ c') (hmx : m ≤ 140737488351232) (hmax : c' + 32 ≤ 9223372036854775807) :
    Calls Try.prog 13 #[.int .i64 1, .slice (some ⟨b, o, none⟩) (m + 32) (c' + 32)] w fun e w' =>
      (if m ≤ 128 then ∃ ao' c'', e = .returned (.tuple #[.agg (nodeC ⟨1, 0, 0, 0, 0, zero32, zero32, keyOf l, ao', m, c''⟩).toArray, .int .i64 0]) ∧ Own w' w.heap.size 5 (.slice ao' m c'') (l.drop 32)
        else e = .returned (.tuple #[.agg (nodeC noNode).toArray, .int .i64 90])) ∧ Below w.heap.size w w' := by
  obtain ⟨o', ho⟩ : ∃ o', (c' = 0 ∧ o' = o) ∨ (0 < c' ∧ o' = o + 32) := by
    rcases Nat.eq_zero_or_pos c' with h0 | h0
    · exact ⟨o, .inl ⟨h0, rfl⟩⟩
    · exact ⟨o + 32, .inr ⟨h0, rfl⟩⟩
  have htail : Row w (some ⟨b, o', none⟩) m (l.drop 32) := by
    rcases ho with ⟨h0, rfl⟩ | ⟨_, rfl⟩
    · have hm : m = 0 := by omega
      subst hm
      rw [List.drop_of_length_le (by have := h.1; omega)]
      exact Row.nil
    · have := h.drop 32 (by omega)
      rwa [Nat.add_sub_cancel] at this
  have hz35 : ∀ W : World, (zeroValue 39).run Try.prog W = .ok (.agg (nodeC noNode).toArray) W := fun W => by kernel_rfl
  have hb35 : Box (Try.prog.built 39 [] = some (nodeC noNode).toArray) := ⟨by kernel_rfl⟩
  have hr : ∀ W, Below w.heap.size w W → _ := fun W hW => read_leaf b o o' m c' l W (h.old hW) hmc hmax ho
  have hst := fun W => leaf_stands (keyOf l) (some ⟨b, o', none⟩) m c' W
  have hno : ∀ W, Below w.heap.size w W → _ := fun W hW => nodeOf_leaf (keyOf l) (some ⟨b, o', none⟩) m c' (l.drop 32) W (htail.old hW) (fun h => by cases h) (by omega)
  have hi := nodeSize noNode
  have hs := nodeSize2 noNode
  have ha := Box.mk (nodeC_all noNode)
  have hsz := nodeSize
  have hal := nodeC_all
  clear h htail ho hmc
  generalize (leafC (keyOf l) (.slice (some ⟨b, o', none⟩) m c')).toArray = lf at *
  have m1 : ∀ (fuel : Nat) (W : World), (method (fuel + 1) 89 (.agg lf) "ledger/node.stands").run Try.prog W = .ok (72, .agg lf) W := fun fuel W => by kernel_rfl
  generalize hzn : (nodeC noNode).toArray = zn at *
  have HR := Box.mk hr
  have HNO := Box.mk hno
  clear hr hno hzn
  rcases Nat.lt_or_ge 128 m with h128 | h128
  · simp only [if_neg (Nat.not_le.2 h128)]
    rw [show decide (m ≤ 128) = false from decide_eq_false (Nat.not_le.2 h128)] at hst
    have hs' := hs noNode
    clear hsz hal HNO hs
    go_enter Try.func13, Try.ntmps13
    go_wp2_with (go_at_call 30; refine (HR.out _ (Below.refl_alloc w _)).mono ?_)
    rintro e w1 ⟨rfl, hB⟩
    have b1 : Below w.heap.size w w1 := (Below.refl_alloc w _).trans (hB.mono (by simp))
    have f1 : Box (w1.heap[w.heap.size]? = some (.cells zn 39 (0, 0))) := ⟨(hB.block _ (by simp)).trans (heap_new rfl)⟩
    clear hB
    go_wp2_with (go_at_call 72; refine (hst _).mono ?_)
    rintro e w2 ⟨rfl, hB⟩
    have b2 : Below w.heap.size w w2 := b1.trans (hB.mono b1.size)
    have f2 : Box (w2.heap[w.heap.size]? = some (.cells zn 39 (0, 0))) := ⟨(hB.block _ (heap_lt f1.out)).trans f1.out⟩
    clear hB b1 f1
    go_wp2_with (first
      | ((with_reducible refine wpList_builtg ?_ 39 [] ?_ [] ?_ zn hb35.out ?_); rfl; rfl; rfl)
      | ((with_reducible refine wpList_store_row rfl 39 (.tmp 4) (.tmp 17) ?_ w.heap.size zn zn 39 ?_ ?_ f2.out rfl hi.out ha.out ?_); rfl; rfl; rfl))
    intro w3 g3 G3
    have b3 : Below w.heap.size w w3 := b2.grown G3 b2.size (fun k hk => by cases hk; exact Nat.le_refl _)
    go_wp2
    exact bodyPost_ret (v := .tuple #[.agg zn, .int .i64 90]) (results_row_tmp (p := 4) (u := 5) (ty := 39) rfl _ _ w.heap.size 39 _ (0, 0) _ rfl g3.out Try.underlying39 rfl hi.out _ rfl) rfl ⟨rfl, b3⟩
  · simp only [if_pos h128]
    rw [show decide (m ≤ 128) = true from decide_eq_true h128] at hst
    go_enter Try.func13, Try.ntmps13
    go_wp2_with (go_at_call 30; refine (HR.out _ (Below.refl_alloc w _)).mono ?_)
    rintro e w1 ⟨rfl, hB⟩
    have b1 : Below w.heap.size w w1 := (Below.refl_alloc w _).trans (hB.mono (by simp))
    have f1 : Box (w1.heap[w.heap.size]? = some (.cells zn 39 (0, 0))) := ⟨(hB.block _ (by simp)).trans (heap_new rfl)⟩
    clear hB
    go_wp2_with (go_at_call 72; refine (hst _).mono ?_)
    rintro e w2 ⟨rfl, hB⟩
    have b2 : Below w.heap.size w w2 := b1.trans (hB.mono b1.size)
    have f2 : Box (w2.heap[w.heap.size]? = some (.cells zn 39 (0, 0))) := ⟨(hB.block _ (heap_lt f1.out)).trans f1.out⟩
    clear hB b1 f1
    have hl2 := heap_lt f2.out
    go_wp2_with (go_at_call 31; refine (HNO.out _ b2).mono ?_)
    rintro e w3 ⟨ao', c'', rfl, own, hB⟩
    have b3 : Below w.heap.size w w3 := b2.trans (hB.mono b2.size)
    have f3 : Box (w3.heap[w.heap.size]? = some (.cells zn 39 (0, 0))) := ⟨(hB.block _ hl2).trans f2.out⟩
    have own3 := own_base own b2.size
    have hs' := hs ⟨1, 0, 0, 0, 0, zero32, zero32, keyOf l, ao', m, c''⟩
    have hi' := hsz ⟨1, 0, 0, 0, 0, zero32, zero32, keyOf l, ao', m, c''⟩
    have ha' := Box.mk (hal ⟨1, 0, 0, 0, 0, zero32, zero32, keyOf l, ao', m, c''⟩)
    clear hsz hal hs own hB
    generalize hnr : (nodeC ⟨1, 0, 0, 0, 0, zero32, zero32, keyOf l, ao', m, c''⟩).toArray = nr at *
    have HNR := Box.mk hnr
    clear hnr
    go_wp2_with ((with_reducible refine wpList_store_row rfl 39 (.tmp 4) (.tmp 19) ?_ w.heap.size zn nr 39 ?_ ?_ f3.out hs'.out hi'.out ha'.out ?_); rfl; rfl; rfl)
    intro w4 g4 G4
    have b4 : Below w.heap.size w w4 := b3.grown G4 b3.size (fun k hk => by cases hk; exact Nat.le_refl _)
    have own4 : Own w4 w.heap.size 5 (.slice ao' m c'') (l.drop 32) := own_store own3 f3.out (by decide) G4
    go_wp2
    exact bodyPost_ret (v := .tuple #[.agg nr, .int .i64 0]) (results_row_tmp (p := 4) (u := 5) (ty := 39) rfl _ _ w.heap.size 39 _ (0, 0) _ rfl g4.out Try.underlying39 rfl hi'.out _ rfl) rfl ⟨⟨ao', c'', by rw [HNR.out], own4⟩, b4⟩
def brNode (l : List UInt8) : NodeV := ⟨2, (chL l).page, (chR l).page, (chL l).count, (chR l).count, (chL l).sum, (chR l).sum, zero32, none, 0, 0⟩
set_option maxRecDepth 100000 in
set_option maxHeartbeats 4000000 in
theorem decode_branch (b o c' : Nat) (l : List UInt8) (w : World) (h : Row w (some ⟨b, o, none⟩) 80 l) (hmax : c' + 80 ≤ 9223372036854775807) :
    Calls Try.prog 13 #[.int .i64 2, .slice (some ⟨b, o, none⟩) 80 (c' + 80)] w fun e w' =>
      (if brStands (chL l) (chR l) = true then e = .returned (.tuple #[.agg (nodeC (brNode l)).toArray, .int .i64 0])
        else e = .returned (.tuple #[.agg (nodeC noNode).toArray, .int .i64 90])) ∧ Below w.heap.size w w' := by
  have hz35 : ∀ W : World, (zeroValue 39).run Try.prog W = .ok (.agg (nodeC noNode).toArray) W := fun W => by kernel_rfl
  have hb35 : Box (Try.prog.built 39 [] = some (nodeC noNode).toArray) := ⟨by kernel_rfl⟩
  have hr : ∀ W, Below w.heap.size w W → _ := fun W hW => read_branch b o c' l W (h.old hW) hmax
  have hst := fun W => branch_stands (chL l) (chR l) W
  have hno := fun W => nodeOf_branch (chL l) (chR l) W
  have hi := nodeSize noNode
  have hs' := nodeSize2 noNode (brNode l)
  have ha := Box.mk (nodeC_all noNode)
  have hi' := nodeSize (brNode l)
  have ha' := Box.mk (nodeC_all (brNode l))
  rw [show (⟨2, (chL l).page, (chR l).page, (chL l).count, (chR l).count, (chL l).sum, (chR l).sum, zero32, none, 0, 0⟩ : NodeV) = brNode l from rfl] at hno
  clear h
  generalize (brC (chL l) (chR l)).toArray = lf at *
  generalize (nodeC (brNode l)).toArray = nr at *
  generalize (nodeC noNode).toArray = zn at *
  generalize brStands (chL l) (chR l) = st at *
  have m1 : ∀ (fuel : Nat) (W : World), (method (fuel + 1) 93 (.agg lf) "ledger/node.stands").run Try.prog W = .ok (75, .agg lf) W := fun fuel W => by kernel_rfl
  have HR := Box.mk hr
  clear hr
  cases st
  · simp only [Bool.false_eq_true, if_false]
    clear hno hs'
    go_enter Try.func13, Try.ntmps13
    go_wp2_with (go_at_call 30; refine (HR.out _ (Below.refl_alloc w _)).mono ?_)
    rintro e w1 ⟨rfl, hB⟩
    have b1 : Below w.heap.size w w1 := (Below.refl_alloc w _).trans (hB.mono (by simp))
    have f1 : Box (w1.heap[w.heap.size]? = some (.cells zn 39 (0, 0))) := ⟨(hB.block _ (by simp)).trans (heap_new rfl)⟩
    clear hB
    go_wp2_with (go_at_call 75; refine (hst _).mono ?_)
    rintro e w2 ⟨rfl, hB⟩
    have b2 : Below w.heap.size w w2 := b1.trans (hB.mono b1.size)
    have f2 : Box (w2.heap[w.heap.size]? = some (.cells zn 39 (0, 0))) := ⟨(hB.block _ (heap_lt f1.out)).trans f1.out⟩
    clear hB b1 f1
    go_wp2_with (first
      | ((with_reducible refine wpList_builtg ?_ 39 [] ?_ [] ?_ zn hb35.out ?_); rfl; rfl; rfl)
      | ((with_reducible refine wpList_store_row rfl 39 (.tmp 4) (.tmp 17) ?_ w.heap.size zn zn 39 ?_ ?_ f2.out rfl hi.out ha.out ?_); rfl; rfl; rfl))
    intro w3 g3 G3
    have b3 : Below w.heap.size w w3 := b2.grown G3 b2.size (fun k hk => by cases hk; exact Nat.le_refl _)
    go_wp2
    exact bodyPost_ret (v := .tuple #[.agg zn, .int .i64 90]) (results_row_tmp (p := 4) (u := 5) (ty := 39) rfl _ _ w.heap.size 39 _ (0, 0) _ rfl g3.out Try.underlying39 rfl hi.out _ rfl) rfl ⟨rfl, b3⟩
  · simp only [if_true]
    go_enter Try.func13, Try.ntmps13
    go_wp2_with (go_at_call 30; refine (HR.out _ (Below.refl_alloc w _)).mono ?_)
    rintro e w1 ⟨rfl, hB⟩
    have b1 : Below w.heap.size w w1 := (Below.refl_alloc w _).trans (hB.mono (by simp))
    have f1 : Box (w1.heap[w.heap.size]? = some (.cells zn 39 (0, 0))) := ⟨(hB.block _ (by simp)).trans (heap_new rfl)⟩
    clear hB
    go_wp2_with (go_at_call 75; refine (hst _).mono ?_)
    rintro e w2 ⟨rfl, hB⟩
    have b2 : Below w.heap.size w w2 := b1.trans (hB.mono b1.size)
    have f2 : Box (w2.heap[w.heap.size]? = some (.cells zn 39 (0, 0))) := ⟨(hB.block _ (heap_lt f1.out)).trans f1.out⟩
    clear hB b1 f1
    have hl2 := heap_lt f2.out
    go_wp2_with (go_at_call 31; refine (hno _).mono ?_)
    rintro e w3 ⟨rfl, hB⟩
    have b3 : Below w.heap.size w w3 := b2.trans (hB.mono b2.size)
    have f3 : Box (w3.heap[w.heap.size]? = some (.cells zn 39 (0, 0))) := ⟨(hB.block _ hl2).trans f2.out⟩
    clear hB
    go_wp2_with ((with_reducible refine wpList_store_row rfl 39 (.tmp 4) (.tmp 19) ?_ w.heap.size zn nr 39 ?_ ?_ f3.out hs'.out hi'.out ha'.out ?_); rfl; rfl; rfl)
    intro w4 g4 G4
    have b4 : Below w.heap.size w w4 := b3.grown G4 b3.size (fun k hk => by cases hk; exact Nat.le_refl _)
    go_wp2
    exact bodyPost_ret (v := .tuple #[.agg nr, .int .i64 0]) (results_row_tmp (p := 4) (u := 5) (ty := 39) rfl _ _ w.heap.size 39 _ (0, 0) _ rfl g4.out Try.underlying39 rfl hi'.out _ rfl) rfl ⟨rfl, b4⟩
end Go.Proofs.Ytdnahagibodnpaa

/- Which nodes are right: the walks of the law's own side and right. -/
namespace Go.Proofs.Ytdnahagibodnpaa
set_option linter.unusedSectionVars false
set_option linter.unusedSimpArgs false
open Go Go.RowKit
set_option linter.unusedVariables false
set_option maxRecDepth 100000 in
set_option maxHeartbeats 2000000 in
theorem side_any (p q : Int) (d : D32) (w : World) :
    Calls Try.prog 23 #[.int .i64 p, .int .i64 q, .agg (dc d)] w fun e w' => e = .returned (.bool (chStands ⟨p, q, d⟩)) ∧ Below w.heap.size w w' := by
  have UD : Try.prog.underlying 36 = some (.array 32 5) := Try.underlying36
  have hiD : Hid ((Try.prog.info? 36).map (·.size) = some 32) := by unfold Hid; kernel_rfl
  have bzD : Try.prog.built 36 [] = some (dc zero32) := by kernel_rfl
  have hgD : Try.prog.eqGuardType Try.prog.depth 36 = false := by kernel_rfl
  have he : ∀ W, (Op.equalIn 10000 36 (.agg (dc d)) (.agg (dc zero32))).run Try.prog W = .ok (eqD d zero32) W := by
    obtain ⟨i5, hi5'⟩ := Option.isSome_iff_exists.1 (show (Try.prog.info? 5).isSome = true by kernel_rfl)
    exact fun W => equalIn_d32 (d := 9998) Try.underlying36 hi5' Try.underlying5 (by kernel_rfl) d zero32 W
  obtain ⟨r, hr⟩ : ∃ r, chStands ⟨p, q, d⟩ = r := ⟨_, rfl⟩
  rw [hr]
  have HR := Box.mk hr
  clear hr
  generalize hrd : eqD d zero32 = rd at he
  have HRD := Box.mk hrd
  clear hrd
  by_cases hp : p = 0
  · subst hp
    by_cases hq : q = 0
    · subst hq
      have hrr : r = rd := by
        rw [← HR.out, ← HRD.out]
        unfold chStands eqCh noChild
        simp
      subst hrr
      go_enter Try.func23, Try.ntmps23
      go_wp2_with (first
        | ((with_reducible refine wpList_load32g ?_ 36 (.tmp 5) ?_ w.heap.size 0 ?_ d 5 ?_ UD hiD ?_); rfl; rfl; rfl; exact rangeAt_block (heap_new rfl))
        | ((with_reducible refine wpList_builtg ?_ 36 [] ?_ [] ?_ (dc zero32) bzD ?_); rfl; rfl; rfl)
        | ((with_reducible refine wpList_yields ?_ (held_eql ?_ 36 36 (.tmp 12) (.tmp 13) ?_ d zero32 r ?_ ?_ hgD he) ?_); rfl; rfl; rfl; rfl; rfl))
      go_ret
      exact ⟨rfl, Below.refl_alloc w _⟩
    · have qf : (q == 0) = false := by rw [beq_eq_false_iff_ne]; exact hq
      have hrr : r = false := by
        rw [← HR.out]
        unfold chStands
        simp [eqCh, noChild, hq]
      subst hrr
      clear he HR HRD
      go_enter Try.func23, Try.ntmps23
      go_wp2
      go_ret
      exact ⟨rfl, Below.refl_alloc w _⟩
  · have pf : (p == 0) = false := by rw [beq_eq_false_iff_ne]; exact hp
    rcases Int.lt_or_le p 2 with k1 | k1
    · skip
      have hrr : r = false := by
        rw [← HR.out]
        unfold chStands
        simp [hp, Int.not_le.2 k1]
      subst hrr
      clear he HR HRD
      go_enter Try.func23, Try.ntmps23
      go_wp2
      go_ret
      exact ⟨rfl, Below.refl_alloc w _⟩
    · rcases Int.lt_or_le 4095 p with k2 | k2
      · have k2' : ¬ p < 4096 := by omega
        have hrr : r = false := by
          rw [← HR.out]
          unfold chStands
          simp [hp, k2']
        subst hrr
        clear he HR HRD
        go_enter Try.func23, Try.ntmps23
        go_wp2
        go_ret
        exact ⟨rfl, Below.refl_alloc w _⟩
      · have k2' : p < 4096 := by omega
        rcases Int.lt_or_le q 1 with k3 | k3
        · have k3' : ¬ 0 < q := by omega
          have hrr : r = false := by
            rw [← HR.out]
            unfold chStands
            simp [hp, k3']
          subst hrr
          clear he HR HRD
          go_enter Try.func23, Try.ntmps23
          go_wp2
          go_ret
          exact ⟨rfl, Below.refl_alloc w _⟩
        · have k3' : 0 < q := by omega
          rcases Int.lt_or_le 4096 q with k4 | k4
          · skip
            have hrr : r = false := by
              rw [← HR.out]
              unfold chStands
              simp [hp, Int.not_le.2 k4]
            subst hrr
            clear he HR HRD
            go_enter Try.func23, Try.ntmps23
            go_wp2
            go_ret
            exact ⟨by show Ending.returned (Value.bool (decide (q ≤ 4096))) = _; rw [decide_eq_false (by omega)], Below.refl_alloc w _⟩
          · skip
            have hrr : r = true := by
              rw [← HR.out]
              unfold chStands
              simp [hp, k1, k2', k3', k4]
            subst hrr
            clear he HR HRD
            go_enter Try.func23, Try.ntmps23
            go_wp2
            go_ret
            exact ⟨rfl, Below.refl_alloc w _⟩
end Go.Proofs.Ytdnahagibodnpaa
