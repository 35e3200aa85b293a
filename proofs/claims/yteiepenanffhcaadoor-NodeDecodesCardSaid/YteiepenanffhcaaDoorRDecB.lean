/- The reference's Decode: the ways that refuse, a branch's way, all in one. -/
import Derived.Test.YteiepenanffhcaaDoorRDecL
namespace Go.Proofs.YteiepenanffhcaaDoor
open Go Go.RowKit
set_option linter.unusedVariables false

section
variable {P : Program} {Q : Exit → Act → World → Prop} {ops : Array Oper} {rest : List Oper} {o : Oper} {a : Act} {w : World}
/-- A number stored into a cell of a block of any cells. -/
theorem arm_store_num (ty : TypeId) (x y : Operand) (ho : o.op = .store ty x y) (hgd : o.guard = none) (b off : Nat) (hx : a.eval x = .pointer (some ⟨b, off, none⟩)) (k : IntKind) (z : Int) (hy : a.eval y = .int k z)
    (hs : (P.info? ty).map (·.size) = some 1) (C : List Value) (e : TypeId) (hg : w.heap[b]? = some (.cells C.toArray e (0, 0))) (hlt : off < C.length)
    (h : ∀ w', Hid (w'.heap[b]? = some (.cells (C.set off (.int k z)).toArray e (0, 0))) → w.grownBy w' (some b) → wpList P ops Q rest (a.put o.dst undef) w') : wpList P ops Q (o :: rest) a w := by
  have hc : w.cell? ⟨b, off, none⟩ = some C[off] := by
    rw [cell_of_row w b off _ e (0, 0) hg, ← Array.getElem?_toList, List.getElem?_eq_getElem hlt]
  have hf : w.frozen? ⟨b, off, none⟩ = false := by
    unfold World.frozen?
    rw [hg]
    simp
  refine wpList_store_int hgd ty x y ho ⟨b, off, none⟩ (.int k z) hx hy ⟨_, _, rfl⟩ hs ⟨_, hc⟩ hf (h _ ?_ (grownBy_setC _ _ _))
  show _ = _
  rw [heap_setCell_same w b off _ e _ hg]
  congr 2
  apply Array.ext'
  simp
end
theorem nodeC_setls (x : NodeV) (k : Nat) (hk : k < 32) (u : UInt8) : (nodeC x).set (5 + k) (bv u) = nodeC { x with ls := setD x.ls k u } := by
  have h : ∀ (A B C : List Value), A.length = 5 → B.length = 32 → (A ++ (B ++ C)).set (5 + k) (bv u) = A ++ (B.set k (bv u) ++ C) := fun A B C hA hB => by
    rw [List.set_append_right _ _ (by omega), hA, List.set_append_left _ _ (by omega), show 5 + k - 5 = k by omega]
  unfold nodeC
  rw [h _ _ _ (by simp) (by simp [x.ls.2]), bvs_put]
  rfl
theorem nodeC_setrs (x : NodeV) (k : Nat) (hk : k < 32) (u : UInt8) : (nodeC x).set (37 + k) (bv u) = nodeC { x with rs := setD x.rs k u } := by
  have h : ∀ (A B C : List Value), A.length = 37 → B.length = 32 → (A ++ (B ++ C)).set (37 + k) (bv u) = A ++ (B.set k (bv u) ++ C) := fun A B C hA hB => by
    rw [List.set_append_right _ _ (by omega), hA, List.set_append_left _ _ (by omega), show 37 + k - 37 = k by omega]
  have e : ∀ y : D32, nodeC { x with rs := y } = ([.int .i64 x.kind, .int .i64 x.left, .int .i64 x.right, .int .i64 x.lc, .int .i64 x.rc] ++ bvs x.ls.1) ++ (bvs y.1 ++ (bvs x.key.1 ++ [x.val])) := fun y => by
    show _ ++ _ = _
    simp only [List.append_assoc]
    rfl
  have e0 : nodeC x = _ := e x.rs
  rw [e0, e, h _ _ _ (by simp [x.ls.2]) (by simp [x.rs.2]), bvs_put]
  rfl
/-- A branch as far as Decode has read it. -/
def brN (lp rp lc rc : Int) (ls rs : D32) : NodeV := ⟨2, lp, rp, lc, rc, ls, rs, zero32, none, 0, 0⟩
theorem right_brNode (l : List UInt8) : rightB (brNode l) = brStands (chL l) (chR l) := by
  have h1 : isLeafB (brNode l) = false := by
    cases h : isLeafB (brNode l)
    · rfl
    · have := leafB_kind h; cases this
  have h2 : isBrB (brNode l) = true := by
    unfold isBrB brNode
    rw [eqD_true rfl]
    simp
  unfold rightB
  rw [h1, h2]
  show (false || (true && brStands _ _)) = _
  rw [Bool.true_and, Bool.false_or]
  rfl

set_option maxRecDepth 100000 in
set_option maxHeartbeats 2000000 in
theorem rdec_one_short (ao : Option Addr) (n c : Nat) (w : World) (hn : n < 32) :
    Calls Tryd.prog 21 #[.int .i64 1, .slice ao n c] w fun e w' => e = .returned (.tuple #[.agg (nodeC noNode).toArray, .int .i64 90]) ∧ Below w.heap.size w w' := by
  have hi30 : ∀ x : NodeV, Box ((Tryd.prog.info? 30).map (·.size) = some (nodeC x).toArray.size) := nodeSize
  have hss : ∀ x y : NodeV, Box ((nodeC x).toArray.size = (nodeC y).toArray.size) := nodeSize2
  have hal : ∀ x : NodeV, Box ((nodeC x).toArray.all (·.oneCell') = true) := fun x => ⟨nodeC_all x⟩
  obtain ⟨zn, hzn⟩ : ∃ zn, (nodeC noNode).toArray = zn := ⟨_, rfl⟩
  have hz30 : ∀ W : World, (zeroValue 30).run Tryd.prog W = .ok (.agg zn) W := fun W => by rw [← hzn]; kernel_rfl
  have hb30 : Box (Tryd.prog.built 30 [] = some zn) := ⟨by rw [← hzn]; kernel_rfl⟩
  have hzs : ∀ x : NodeV, Box (zn.size = (nodeC x).toArray.size) := fun x => ⟨by rw [← hzn]; exact (hss _ _).out⟩
  have hiz : Box ((Tryd.prog.info? 30).map (·.size) = some zn.size) := ⟨by rw [← hzn]; exact (hi30 _).out⟩
  have haz : Box (zn.all (·.oneCell') = true) := ⟨by rw [← hzn]; exact (hal _).out⟩
  have HZN := Box.mk hzn
  clear hzn
  have hb1 : Box (Tryd.prog.built 30 [(0, .int .i64 1)] = some (nodeC ⟨1, 0, 0, 0, 0, zero32, zero32, zero32, none, 0, 0⟩).toArray) := ⟨by kernel_rfl⟩
  obtain ⟨n1, hn1⟩ : ∃ n1 : NodeV, n1 = ⟨1, 0, 0, 0, 0, zero32, zero32, zero32, none, 0, 0⟩ := ⟨_, rfl⟩
  rw [← hn1] at hb1
  have HN1 := Box.mk hn1
  clear hn1
  go_enter Tryd.func21, Tryd.ntmps21
  go_upto_region 1 with fail
  refine wp_anyWorld (fun W => Box (W.heap[w.heap.size]? = some (.cells zn 30 (0, 0))) ∧ Box (Below w.heap.size w W) ∧ Box (W.heap.size = w.heap.size + 1)) ⟨⟨heap_new rfl⟩, ⟨Below.refl_alloc w _⟩, ⟨by simp⟩⟩ ?_
  rintro W ⟨A0, B0, s0⟩
  obtain ⟨M, hM⟩ : ∃ M, W.heap.size = M := ⟨_, rfl⟩
  have HM := Box.mk (show M = w.heap.size + 1 by rw [← hM]; exact s0.out)
  have HM2 := Box.mk hM
  clear hM
  go_wp2_with (first
    | ((with_reducible refine arm_built 30 [(0, .tmp 11)] ?_ rfl [(0, .int .i64 1)] ?_ (nodeC n1).toArray hb1.out ?_); rfl; rfl)
    | ((with_reducible refine arm_store_row 30 (.tmp 6) (.tmp 12) ?_ rfl W.heap.size zn (nodeC n1).toArray 30 ?_ ?_ ?_ (hzs _).out (hi30 _).out (hal _).out ?_); rfl; rfl; rfl; exact heap_new rfl))
  intro w2 g2 G2
  have B2 := Box.mk ((B0.out.alloc B0.out.size (.cells zn 30)).grown G2 (B0.out.alloc B0.out.size _).size (fun k hk => by cases hk; have := s0.out; omega))
  have x2 := Box.mk (show w2.heap[M]? = some (.cells (nodeC n1).toArray 30 (0, 0)) by rw [← HM2.out]; exact g2.out)
  have q2 := Box.mk ((G2.block w.heap.size (by have := s0.out; simp; omega) (by have := s0.out; simp; omega)).trans (heap_old (o := .cells zn 30) A0.out))
  rw [HM2.out]
  clear g2 G2 A0 B0 s0 HM2
  have g1 : (n : Int) < 32 := by omega
  go_wp2_with (first
    | ((with_reducible refine arm_built 30 [] ?_ ?_ [] ?_ zn hb30.out ?_); rfl; rfl; rfl)
    | ((with_reducible refine arm_store_row 30 (.tmp 4) (.tmp 23) ?_ rfl w.heap.size zn zn 30 ?_ ?_ q2.out rfl hiz.out haz.out ?_); rfl; rfl; rfl))
  intro w8 g8 G8
  have b8 := Box.mk (B2.out.grown G8 B2.out.size (fun k hk => by cases hk; omega))
  go_wp2
  exact bodyPost_ret (v := .tuple #[.agg zn, .int .i64 90]) (results_row_tmp (p := 4) (u := 5) (ty := 30) rfl _ _ w.heap.size 30 _ (0, 0) _ rfl g8.out Tryd.underlying30 rfl hiz.out _ rfl) rfl ⟨by rw [HZN.out], b8.out⟩

set_option maxRecDepth 100000 in
set_option maxHeartbeats 2000000 in
theorem rdec_one_long (ao : Option Addr) (n c : Nat) (w : World) (hn : 160 < n) :
    Calls Tryd.prog 21 #[.int .i64 1, .slice ao n c] w fun e w' => e = .returned (.tuple #[.agg (nodeC noNode).toArray, .int .i64 90]) ∧ Below w.heap.size w w' := by
  have hi30 : ∀ x : NodeV, Box ((Tryd.prog.info? 30).map (·.size) = some (nodeC x).toArray.size) := nodeSize
  have hss : ∀ x y : NodeV, Box ((nodeC x).toArray.size = (nodeC y).toArray.size) := nodeSize2
  have hal : ∀ x : NodeV, Box ((nodeC x).toArray.all (·.oneCell') = true) := fun x => ⟨nodeC_all x⟩
  obtain ⟨zn, hzn⟩ : ∃ zn, (nodeC noNode).toArray = zn := ⟨_, rfl⟩
  have hz30 : ∀ W : World, (zeroValue 30).run Tryd.prog W = .ok (.agg zn) W := fun W => by rw [← hzn]; kernel_rfl
  have hb30 : Box (Tryd.prog.built 30 [] = some zn) := ⟨by rw [← hzn]; kernel_rfl⟩
  have hzs : ∀ x : NodeV, Box (zn.size = (nodeC x).toArray.size) := fun x => ⟨by rw [← hzn]; exact (hss _ _).out⟩
  have hiz : Box ((Tryd.prog.info? 30).map (·.size) = some zn.size) := ⟨by rw [← hzn]; exact (hi30 _).out⟩
  have haz : Box (zn.all (·.oneCell') = true) := ⟨by rw [← hzn]; exact (hal _).out⟩
  have HZN := Box.mk hzn
  clear hzn
  have hb1 : Box (Tryd.prog.built 30 [(0, .int .i64 1)] = some (nodeC ⟨1, 0, 0, 0, 0, zero32, zero32, zero32, none, 0, 0⟩).toArray) := ⟨by kernel_rfl⟩
  obtain ⟨n1, hn1⟩ : ∃ n1 : NodeV, n1 = ⟨1, 0, 0, 0, 0, zero32, zero32, zero32, none, 0, 0⟩ := ⟨_, rfl⟩
  rw [← hn1] at hb1
  have HN1 := Box.mk hn1
  clear hn1
  go_enter Tryd.func21, Tryd.ntmps21
  go_upto_region 1 with fail
  refine wp_anyWorld (fun W => Box (W.heap[w.heap.size]? = some (.cells zn 30 (0, 0))) ∧ Box (Below w.heap.size w W) ∧ Box (W.heap.size = w.heap.size + 1)) ⟨⟨heap_new rfl⟩, ⟨Below.refl_alloc w _⟩, ⟨by simp⟩⟩ ?_
  rintro W ⟨A0, B0, s0⟩
  obtain ⟨M, hM⟩ : ∃ M, W.heap.size = M := ⟨_, rfl⟩
  have HM := Box.mk (show M = w.heap.size + 1 by rw [← hM]; exact s0.out)
  have HM2 := Box.mk hM
  clear hM
  go_wp2_with (first
    | ((with_reducible refine arm_built 30 [(0, .tmp 11)] ?_ rfl [(0, .int .i64 1)] ?_ (nodeC n1).toArray hb1.out ?_); rfl; rfl)
    | ((with_reducible refine arm_store_row 30 (.tmp 6) (.tmp 12) ?_ rfl W.heap.size zn (nodeC n1).toArray 30 ?_ ?_ ?_ (hzs _).out (hi30 _).out (hal _).out ?_); rfl; rfl; rfl; exact heap_new rfl))
  intro w2 g2 G2
  have B2 := Box.mk ((B0.out.alloc B0.out.size (.cells zn 30)).grown G2 (B0.out.alloc B0.out.size _).size (fun k hk => by cases hk; have := s0.out; omega))
  have x2 := Box.mk (show w2.heap[M]? = some (.cells (nodeC n1).toArray 30 (0, 0)) by rw [← HM2.out]; exact g2.out)
  have q2 := Box.mk ((G2.block w.heap.size (by have := s0.out; simp; omega) (by have := s0.out; simp; omega)).trans (heap_old (o := .cells zn 30) A0.out))
  rw [HM2.out]
  clear g2 G2 A0 B0 s0 HM2
  have g1 : ¬ ((n : Int) < 32) := by omega
  have g2 : (160 : Int) < (n : Int) := by omega
  go_wp2_with (first
    | ((with_reducible refine arm_built 30 [] ?_ ?_ [] ?_ zn hb30.out ?_); rfl; rfl; rfl)
    | ((with_reducible refine arm_store_row 30 (.tmp 4) (.tmp 23) ?_ rfl w.heap.size zn zn 30 ?_ ?_ q2.out rfl hiz.out haz.out ?_); rfl; rfl; rfl))
  intro w8 g8 G8
  have b8 := Box.mk (B2.out.grown G8 B2.out.size (fun k hk => by cases hk; omega))
  go_wp2
  exact bodyPost_ret (v := .tuple #[.agg zn, .int .i64 90]) (results_row_tmp (p := 4) (u := 5) (ty := 30) rfl _ _ w.heap.size 30 _ (0, 0) _ rfl g8.out Tryd.underlying30 rfl hiz.out _ rfl) rfl ⟨by rw [HZN.out], b8.out⟩

set_option maxRecDepth 100000 in
set_option maxHeartbeats 2000000 in
theorem rdec_two_short (ao : Option Addr) (n c : Nat) (w : World) (hn : n < 80) :
    Calls Tryd.prog 21 #[.int .i64 2, .slice ao n c] w fun e w' => e = .returned (.tuple #[.agg (nodeC noNode).toArray, .int .i64 90]) ∧ Below w.heap.size w w' := by
  have hi30 : ∀ x : NodeV, Box ((Tryd.prog.info? 30).map (·.size) = some (nodeC x).toArray.size) := nodeSize
  have hss : ∀ x y : NodeV, Box ((nodeC x).toArray.size = (nodeC y).toArray.size) := nodeSize2
  have hal : ∀ x : NodeV, Box ((nodeC x).toArray.all (·.oneCell') = true) := fun x => ⟨nodeC_all x⟩
  obtain ⟨zn, hzn⟩ : ∃ zn, (nodeC noNode).toArray = zn := ⟨_, rfl⟩
  have hz30 : ∀ W : World, (zeroValue 30).run Tryd.prog W = .ok (.agg zn) W := fun W => by rw [← hzn]; kernel_rfl
  have hb30 : Box (Tryd.prog.built 30 [] = some zn) := ⟨by rw [← hzn]; kernel_rfl⟩
  have hzs : ∀ x : NodeV, Box (zn.size = (nodeC x).toArray.size) := fun x => ⟨by rw [← hzn]; exact (hss _ _).out⟩
  have hiz : Box ((Tryd.prog.info? 30).map (·.size) = some zn.size) := ⟨by rw [← hzn]; exact (hi30 _).out⟩
  have haz : Box (zn.all (·.oneCell') = true) := ⟨by rw [← hzn]; exact (hal _).out⟩
  have HZN := Box.mk hzn
  clear hzn
  have hb1 : Box (Tryd.prog.built 30 [(0, .int .i64 2)] = some (nodeC ⟨2, 0, 0, 0, 0, zero32, zero32, zero32, none, 0, 0⟩).toArray) := ⟨by kernel_rfl⟩
  obtain ⟨n1, hn1⟩ : ∃ n1 : NodeV, n1 = ⟨2, 0, 0, 0, 0, zero32, zero32, zero32, none, 0, 0⟩ := ⟨_, rfl⟩
  rw [← hn1] at hb1
  have HN1 := Box.mk hn1
  clear hn1
  go_enter Tryd.func21, Tryd.ntmps21
  go_upto_region 1 with fail
  refine wp_anyWorld (fun W => Box (W.heap[w.heap.size]? = some (.cells zn 30 (0, 0))) ∧ Box (Below w.heap.size w W) ∧ Box (W.heap.size = w.heap.size + 1)) ⟨⟨heap_new rfl⟩, ⟨Below.refl_alloc w _⟩, ⟨by simp⟩⟩ ?_
  rintro W ⟨A0, B0, s0⟩
  obtain ⟨M, hM⟩ : ∃ M, W.heap.size = M := ⟨_, rfl⟩
  have HM := Box.mk (show M = w.heap.size + 1 by rw [← hM]; exact s0.out)
  have HM2 := Box.mk hM
  clear hM
  go_wp2_with (first
    | ((with_reducible refine arm_built 30 [(0, .tmp 11)] ?_ rfl [(0, .int .i64 2)] ?_ (nodeC n1).toArray hb1.out ?_); rfl; rfl)
    | ((with_reducible refine arm_store_row 30 (.tmp 6) (.tmp 12) ?_ rfl W.heap.size zn (nodeC n1).toArray 30 ?_ ?_ ?_ (hzs _).out (hi30 _).out (hal _).out ?_); rfl; rfl; rfl; exact heap_new rfl))
  intro w2 g2 G2
  have B2 := Box.mk ((B0.out.alloc B0.out.size (.cells zn 30)).grown G2 (B0.out.alloc B0.out.size _).size (fun k hk => by cases hk; have := s0.out; omega))
  have x2 := Box.mk (show w2.heap[M]? = some (.cells (nodeC n1).toArray 30 (0, 0)) by rw [← HM2.out]; exact g2.out)
  have q2 := Box.mk ((G2.block w.heap.size (by have := s0.out; simp; omega) (by have := s0.out; simp; omega)).trans (heap_old (o := .cells zn 30) A0.out))
  rw [HM2.out]
  clear g2 G2 A0 B0 s0 HM2
  have g1 : ((n : Int) != 80) = true := by rw [bne_iff_ne]; omega
  go_wp2_with (first
    | ((with_reducible refine arm_built 30 [] ?_ ?_ [] ?_ zn hb30.out ?_); rfl; rfl; rfl)
    | ((with_reducible refine arm_store_row 30 (.tmp 4) (.tmp 58) ?_ rfl w.heap.size zn zn 30 ?_ ?_ q2.out rfl hiz.out haz.out ?_); rfl; rfl; rfl))
  intro w8 g8 G8
  have b8 := Box.mk (B2.out.grown G8 B2.out.size (fun k hk => by cases hk; omega))
  go_wp2
  exact bodyPost_ret (v := .tuple #[.agg zn, .int .i64 90]) (results_row_tmp (p := 4) (u := 5) (ty := 30) rfl _ _ w.heap.size 30 _ (0, 0) _ rfl g8.out Tryd.underlying30 rfl hiz.out _ rfl) rfl ⟨by rw [HZN.out], b8.out⟩

set_option maxRecDepth 100000 in
set_option maxHeartbeats 2000000 in
theorem rdec_two_long (ao : Option Addr) (n c : Nat) (w : World) (hn : 80 < n) :
    Calls Tryd.prog 21 #[.int .i64 2, .slice ao n c] w fun e w' => e = .returned (.tuple #[.agg (nodeC noNode).toArray, .int .i64 90]) ∧ Below w.heap.size w w' := by
  have hi30 : ∀ x : NodeV, Box ((Tryd.prog.info? 30).map (·.size) = some (nodeC x).toArray.size) := nodeSize
  have hss : ∀ x y : NodeV, Box ((nodeC x).toArray.size = (nodeC y).toArray.size) := nodeSize2
  have hal : ∀ x : NodeV, Box ((nodeC x).toArray.all (·.oneCell') = true) := fun x => ⟨nodeC_all x⟩
  obtain ⟨zn, hzn⟩ : ∃ zn, (nodeC noNode).toArray = zn := ⟨_, rfl⟩
  have hz30 : ∀ W : World, (zeroValue 30).run Tryd.prog W = .ok (.agg zn) W := fun W => by rw [← hzn]; kernel_rfl
  have hb30 : Box (Tryd.prog.built 30 [] = some zn) := ⟨by rw [← hzn]; kernel_rfl⟩
  have hzs : ∀ x : NodeV, Box (zn.size = (nodeC x).toArray.size) := fun x => ⟨by rw [← hzn]; exact (hss _ _).out⟩
  have hiz : Box ((Tryd.prog.info? 30).map (·.size) = some zn.size) := ⟨by rw [← hzn]; exact (hi30 _).out⟩
  have haz : Box (zn.all (·.oneCell') = true) := ⟨by rw [← hzn]; exact (hal _).out⟩
  have HZN := Box.mk hzn
  clear hzn
  have hb1 : Box (Tryd.prog.built 30 [(0, .int .i64 2)] = some (nodeC ⟨2, 0, 0, 0, 0, zero32, zero32, zero32, none, 0, 0⟩).toArray) := ⟨by kernel_rfl⟩
  obtain ⟨n1, hn1⟩ : ∃ n1 : NodeV, n1 = ⟨2, 0, 0, 0, 0, zero32, zero32, zero32, none, 0, 0⟩ := ⟨_, rfl⟩
  rw [← hn1] at hb1
  have HN1 := Box.mk hn1
  clear hn1
  go_enter Tryd.func21, Tryd.ntmps21
  go_upto_region 1 with fail
  refine wp_anyWorld (fun W => Box (W.heap[w.heap.size]? = some (.cells zn 30 (0, 0))) ∧ Box (Below w.heap.size w W) ∧ Box (W.heap.size = w.heap.size + 1)) ⟨⟨heap_new rfl⟩, ⟨Below.refl_alloc w _⟩, ⟨by simp⟩⟩ ?_
  rintro W ⟨A0, B0, s0⟩
  obtain ⟨M, hM⟩ : ∃ M, W.heap.size = M := ⟨_, rfl⟩
  have HM := Box.mk (show M = w.heap.size + 1 by rw [← hM]; exact s0.out)
  have HM2 := Box.mk hM
  clear hM
  go_wp2_with (first
    | ((with_reducible refine arm_built 30 [(0, .tmp 11)] ?_ rfl [(0, .int .i64 2)] ?_ (nodeC n1).toArray hb1.out ?_); rfl; rfl)
    | ((with_reducible refine arm_store_row 30 (.tmp 6) (.tmp 12) ?_ rfl W.heap.size zn (nodeC n1).toArray 30 ?_ ?_ ?_ (hzs _).out (hi30 _).out (hal _).out ?_); rfl; rfl; rfl; exact heap_new rfl))
  intro w2 g2 G2
  have B2 := Box.mk ((B0.out.alloc B0.out.size (.cells zn 30)).grown G2 (B0.out.alloc B0.out.size _).size (fun k hk => by cases hk; have := s0.out; omega))
  have x2 := Box.mk (show w2.heap[M]? = some (.cells (nodeC n1).toArray 30 (0, 0)) by rw [← HM2.out]; exact g2.out)
  have q2 := Box.mk ((G2.block w.heap.size (by have := s0.out; simp; omega) (by have := s0.out; simp; omega)).trans (heap_old (o := .cells zn 30) A0.out))
  rw [HM2.out]
  clear g2 G2 A0 B0 s0 HM2
  have g1 : ((n : Int) != 80) = true := by rw [bne_iff_ne]; omega
  go_wp2_with (first
    | ((with_reducible refine arm_built 30 [] ?_ ?_ [] ?_ zn hb30.out ?_); rfl; rfl; rfl)
    | ((with_reducible refine arm_store_row 30 (.tmp 4) (.tmp 58) ?_ rfl w.heap.size zn zn 30 ?_ ?_ q2.out rfl hiz.out haz.out ?_); rfl; rfl; rfl))
  intro w8 g8 G8
  have b8 := Box.mk (B2.out.grown G8 B2.out.size (fun k hk => by cases hk; omega))
  go_wp2
  exact bodyPost_ret (v := .tuple #[.agg zn, .int .i64 90]) (results_row_tmp (p := 4) (u := 5) (ty := 30) rfl _ _ w.heap.size 30 _ (0, 0) _ rfl g8.out Tryd.underlying30 rfl hiz.out _ rfl) rfl ⟨by rw [HZN.out], b8.out⟩

set_option maxRecDepth 100000 in
set_option maxHeartbeats 2000000 in
theorem rdec_other (kind : Int) (ao : Option Addr) (n c : Nat) (w : World) (h1 : (kind == 1) = false) (h2 : (kind != 2) = true) :
    Calls Tryd.prog 21 #[.int .i64 kind, .slice ao n c] w fun e w' => e = .returned (.tuple #[.agg (nodeC noNode).toArray, .int .i64 90]) ∧ Below w.heap.size w w' := by
  have hi30 : ∀ x : NodeV, Box ((Tryd.prog.info? 30).map (·.size) = some (nodeC x).toArray.size) := nodeSize
  have hss : ∀ x y : NodeV, Box ((nodeC x).toArray.size = (nodeC y).toArray.size) := nodeSize2
  have hal : ∀ x : NodeV, Box ((nodeC x).toArray.all (·.oneCell') = true) := fun x => ⟨nodeC_all x⟩
  obtain ⟨zn, hzn⟩ : ∃ zn, (nodeC noNode).toArray = zn := ⟨_, rfl⟩
  have hz30 : ∀ W : World, (zeroValue 30).run Tryd.prog W = .ok (.agg zn) W := fun W => by rw [← hzn]; kernel_rfl
  have hb30 : Box (Tryd.prog.built 30 [] = some zn) := ⟨by rw [← hzn]; kernel_rfl⟩
  have hzs : ∀ x : NodeV, Box (zn.size = (nodeC x).toArray.size) := fun x => ⟨by rw [← hzn]; exact (hss _ _).out⟩
  have hiz : Box ((Tryd.prog.info? 30).map (·.size) = some zn.size) := ⟨by rw [← hzn]; exact (hi30 _).out⟩
  have haz : Box (zn.all (·.oneCell') = true) := ⟨by rw [← hzn]; exact (hal _).out⟩
  have HZN := Box.mk hzn
  clear hzn
  have hb1 : Box (Tryd.prog.built 30 [(0, .int .i64 kind)] = some (nodeC ⟨kind, 0, 0, 0, 0, zero32, zero32, zero32, none, 0, 0⟩).toArray) := ⟨by kernel_rfl⟩
  obtain ⟨n1, hn1⟩ : ∃ n1 : NodeV, n1 = ⟨kind, 0, 0, 0, 0, zero32, zero32, zero32, none, 0, 0⟩ := ⟨_, rfl⟩
  rw [← hn1] at hb1
  have HN1 := Box.mk hn1
  clear hn1
  go_enter Tryd.func21, Tryd.ntmps21
  go_upto_region 1 with fail
  refine wp_anyWorld (fun W => Box (W.heap[w.heap.size]? = some (.cells zn 30 (0, 0))) ∧ Box (Below w.heap.size w W) ∧ Box (W.heap.size = w.heap.size + 1)) ⟨⟨heap_new rfl⟩, ⟨Below.refl_alloc w _⟩, ⟨by simp⟩⟩ ?_
  rintro W ⟨A0, B0, s0⟩
  obtain ⟨M, hM⟩ : ∃ M, W.heap.size = M := ⟨_, rfl⟩
  have HM := Box.mk (show M = w.heap.size + 1 by rw [← hM]; exact s0.out)
  have HM2 := Box.mk hM
  clear hM
  go_wp2_with (first
    | ((with_reducible refine arm_built 30 [(0, .tmp 11)] ?_ rfl [(0, .int .i64 kind)] ?_ (nodeC n1).toArray hb1.out ?_); rfl; rfl)
    | ((with_reducible refine arm_store_row 30 (.tmp 6) (.tmp 12) ?_ rfl W.heap.size zn (nodeC n1).toArray 30 ?_ ?_ ?_ (hzs _).out (hi30 _).out (hal _).out ?_); rfl; rfl; rfl; exact heap_new rfl))
  intro w2 g2 G2
  have B2 := Box.mk ((B0.out.alloc B0.out.size (.cells zn 30)).grown G2 (B0.out.alloc B0.out.size _).size (fun k hk => by cases hk; have := s0.out; omega))
  have x2 := Box.mk (show w2.heap[M]? = some (.cells (nodeC n1).toArray 30 (0, 0)) by rw [← HM2.out]; exact g2.out)
  have q2 := Box.mk ((G2.block w.heap.size (by have := s0.out; simp; omega) (by have := s0.out; simp; omega)).trans (heap_old (o := .cells zn 30) A0.out))
  rw [HM2.out]
  clear g2 G2 A0 B0 s0 HM2
  go_wp2_with (first
    | ((with_reducible refine arm_built 30 [] ?_ ?_ [] ?_ zn hb30.out ?_); rfl; rfl; rfl)
    | ((with_reducible refine arm_store_row 30 (.tmp 4) (.tmp 58) ?_ rfl w.heap.size zn zn 30 ?_ ?_ q2.out rfl hiz.out haz.out ?_); rfl; rfl; rfl))
  intro w8 g8 G8
  have b8 := Box.mk (B2.out.grown G8 B2.out.size (fun k hk => by cases hk; omega))
  go_wp2
  exact bodyPost_ret (v := .tuple #[.agg zn, .int .i64 90]) (results_row_tmp (p := 4) (u := 5) (ty := 30) rfl _ _ w.heap.size 30 _ (0, 0) _ rfl g8.out Tryd.underlying30 rfl hiz.out _ rfl) rfl ⟨by rw [HZN.out], b8.out⟩

set_option maxRecDepth 100000 in
set_option maxHeartbeats 8000000 in
theorem rdec_branch (b o c : Nat) (l : List UInt8) (w : World) (h0 : Row w (some ⟨b, o, none⟩) 80 l) :
    Calls Tryd.prog 21 #[.int .i64 2, .slice (some ⟨b, o, none⟩) 80 c] w fun e w' =>
      (if brStands (chL l) (chR l) = true then e = .returned (.tuple #[.agg (nodeC (brNode l)).toArray, .int .i64 0])
        else e = .returned (.tuple #[.agg (nodeC noNode).toArray, .int .i64 90])) ∧ Below w.heap.size w w' := by
  have hi30 : ∀ x : NodeV, Box ((Tryd.prog.info? 30).map (·.size) = some (nodeC x).toArray.size) := nodeSize
  have hss : ∀ x y : NodeV, Box ((nodeC x).toArray.size = (nodeC y).toArray.size) := nodeSize2
  have hal : ∀ x : NodeV, Box ((nodeC x).toArray.all (·.oneCell') = true) := fun x => ⟨nodeC_all x⟩
  obtain ⟨zn, hzn⟩ : ∃ zn, (nodeC noNode).toArray = zn := ⟨_, rfl⟩
  have hz30 : ∀ W : World, (zeroValue 30).run Tryd.prog W = .ok (.agg zn) W := fun W => by rw [← hzn]; kernel_rfl
  have hb30 : Box (Tryd.prog.built 30 [] = some zn) := ⟨by rw [← hzn]; kernel_rfl⟩
  have hzs : ∀ x : NodeV, Box (zn.size = (nodeC x).toArray.size) := fun x => ⟨by rw [← hzn]; exact (hss _ _).out⟩
  have hiz : Box ((Tryd.prog.info? 30).map (·.size) = some zn.size) := ⟨by rw [← hzn]; exact (hi30 _).out⟩
  have haz : Box (zn.all (·.oneCell') = true) := ⟨by rw [← hzn]; exact (hal _).out⟩
  have HZN := Box.mk hzn
  have hi3 : Box ((Tryd.prog.info? 3).map (·.size) = some 1) := ⟨by kernel_rfl⟩
  have hi5 : Box ((Tryd.prog.info? 5).map (·.size) = some 1) := ⟨by kernel_rfl⟩
  have hR := Box.mk h0
  have hl := Box.mk h0.1
  have hrt := Box.mk (fun W => rright_any (brNode l) W)
  rw [right_brNode] at hrt
  obtain ⟨st, hst⟩ : ∃ st, brStands (chL l) (chR l) = st := ⟨_, rfl⟩
  rw [hst] at hrt ⊢
  have hfin := Box.mk (show brNode l = brN (dec4 l) (dec4 (l.drop 4)) (dec4 (l.drop 8)) (dec4 (l.drop 12)) (keyN (l.drop 16) 32) (keyN (l.drop 48) 32) by
    rw [keyN_full _ (by rw [List.length_drop]; have := hl.out; omega), keyN_full _ (by rw [List.length_drop]; have := hl.out; omega)]
    rfl)
  have hd0 := Box.mk (show dec4 l = dec4 (l.drop 0) by rw [List.drop_zero])
  clear h0 hzn hst
  have hb1 : Box (Tryd.prog.built 30 [(0, .int .i64 2)] = some (nodeC ⟨2, 0, 0, 0, 0, zero32, zero32, zero32, none, 0, 0⟩).toArray) := ⟨by kernel_rfl⟩
  obtain ⟨n1, hn1⟩ : ∃ n1 : NodeV, n1 = ⟨2, 0, 0, 0, 0, zero32, zero32, zero32, none, 0, 0⟩ := ⟨_, rfl⟩
  rw [← hn1] at hb1
  have HN1 := Box.mk hn1
  clear hn1
  go_enter Tryd.func21, Tryd.ntmps21
  go_upto_region 1 with fail
  refine wp_anyWorld (fun W => Box (W.heap[w.heap.size]? = some (.cells zn 30 (0, 0))) ∧ Box (Below w.heap.size w W) ∧ Box (W.heap.size = w.heap.size + 1)) ⟨⟨heap_new rfl⟩, ⟨Below.refl_alloc w _⟩, ⟨by simp⟩⟩ ?_
  rintro W ⟨A0, B0, s0⟩
  obtain ⟨M, hM⟩ : ∃ M, W.heap.size = M := ⟨_, rfl⟩
  have HM := Box.mk (show M = w.heap.size + 1 by rw [← hM]; exact s0.out)
  have HM2 := Box.mk hM
  clear hM
  go_wp2_with (first
    | ((with_reducible refine arm_built 30 [(0, .tmp 11)] ?_ rfl [(0, .int .i64 2)] ?_ (nodeC n1).toArray hb1.out ?_); rfl; rfl)
    | ((with_reducible refine arm_store_row 30 (.tmp 6) (.tmp 12) ?_ rfl W.heap.size zn (nodeC n1).toArray 30 ?_ ?_ ?_ (hzs _).out (hi30 _).out (hal _).out ?_); rfl; rfl; rfl; exact heap_new rfl))
  intro w2 g2 G2
  have B2 := Box.mk ((B0.out.alloc B0.out.size (.cells zn 30)).grown G2 (B0.out.alloc B0.out.size _).size (fun k hk => by cases hk; have := s0.out; omega))
  have x2 := Box.mk (show w2.heap[M]? = some (.cells (nodeC n1).toArray 30 (0, 0)) by rw [← HM2.out]; exact g2.out)
  have q2 := Box.mk ((G2.block w.heap.size (by have := s0.out; simp; omega) (by have := s0.out; simp; omega)).trans (heap_old (o := .cells zn 30) A0.out))
  rw [HM2.out]
  clear g2 G2 A0 B0 s0 HM2
  have HX := Box.mk (show n1 = brN 0 0 0 0 zero32 zero32 from HN1.out)
  rw [HX.out] at x2
  have hne : ((80 : Int) != 80) = false := rfl
  have hnum := Box.mk (rnumber_any 0 0 rfl b o 80 c l w2 (hR.out.old B2.out) (by omega) (by omega))
  go_wp2_with (go_at_call 41; refine (calls_box hnum.out).mono ?_)
  rintro e w3 ⟨⟨rfl, hB⟩⟩
  have x3 := Box.mk ((hB.block _ (heap_lt x2.out)).trans x2.out)
  have q3 := Box.mk ((hB.block _ (heap_lt q2.out)).trans q2.out)
  have b3 := Box.mk (B2.out.trans (hB.mono B2.out.size))
  clear hB hnum x2 q2 B2 hne
  have hl3 := Box.mk (show 1 < (nodeC (brN 0 0 0 0 zero32 zero32)).length by rw [length_nodeC]; omega)
  go_wp2_with ((with_reducible refine arm_store_num 3 (.tmp 61) (.tmp 60) ?_ rfl M 1 ?_ .i64 (dec4 (l.drop 0)) ?_ hi3.out (nodeC (brN 0 0 0 0 zero32 zero32)) 30 x3.out hl3.out ?_); rfl; rfl; rfl)
  intro w4 g G
  have y3 := Box.mk (show w4.heap[M]? = some (.cells (nodeC (brN (dec4 (l.drop 0)) 0 0 0 zero32 zero32)).toArray 30 (0, 0)) from g.out)
  have r3 := Box.mk ((G.block _ (heap_lt q3.out) (by have := HM.out; simp; omega)).trans q3.out)
  have d3 := Box.mk (b3.out.grown G b3.out.size (fun k hk => by cases hk; have := HM.out; omega))
  clear g G x3 q3 b3 hl3
  have hnum := Box.mk (rnumber_any 4 4 rfl b o 80 c l w4 (hR.out.old d3.out) (by omega) (by omega))
  go_wp2_with (go_at_call 41; refine (calls_box hnum.out).mono ?_)
  rintro e w5 ⟨⟨rfl, hB⟩⟩
  have x4 := Box.mk ((hB.block _ (heap_lt y3.out)).trans y3.out)
  have q4 := Box.mk ((hB.block _ (heap_lt r3.out)).trans r3.out)
  have b4 := Box.mk (d3.out.trans (hB.mono d3.out.size))
  clear hB hnum y3 r3 d3
  have hl4 := Box.mk (show 2 < (nodeC (brN (dec4 (l.drop 0)) 0 0 0 zero32 zero32)).length by rw [length_nodeC]; omega)
  go_wp2_with ((with_reducible refine arm_store_num 3 (.tmp 64) (.tmp 63) ?_ rfl M 2 ?_ .i64 (dec4 (l.drop 4)) ?_ hi3.out (nodeC (brN (dec4 (l.drop 0)) 0 0 0 zero32 zero32)) 30 x4.out hl4.out ?_); rfl; rfl; rfl)
  intro w6 g G
  have y4 := Box.mk (show w6.heap[M]? = some (.cells (nodeC (brN (dec4 (l.drop 0)) (dec4 (l.drop 4)) 0 0 zero32 zero32)).toArray 30 (0, 0)) from g.out)
  have r4 := Box.mk ((G.block _ (heap_lt q4.out) (by have := HM.out; simp; omega)).trans q4.out)
  have d4 := Box.mk (b4.out.grown G b4.out.size (fun k hk => by cases hk; have := HM.out; omega))
  clear g G x4 q4 b4 hl4
  have hnum := Box.mk (rnumber_any 8 8 rfl b o 80 c l w6 (hR.out.old d4.out) (by omega) (by omega))
  go_wp2_with (go_at_call 41; refine (calls_box hnum.out).mono ?_)
  rintro e w7 ⟨⟨rfl, hB⟩⟩
  have x5 := Box.mk ((hB.block _ (heap_lt y4.out)).trans y4.out)
  have q5 := Box.mk ((hB.block _ (heap_lt r4.out)).trans r4.out)
  have b5 := Box.mk (d4.out.trans (hB.mono d4.out.size))
  clear hB hnum y4 r4 d4
  have hl5 := Box.mk (show 3 < (nodeC (brN (dec4 (l.drop 0)) (dec4 (l.drop 4)) 0 0 zero32 zero32)).length by rw [length_nodeC]; omega)
  go_wp2_with ((with_reducible refine arm_store_num 3 (.tmp 67) (.tmp 66) ?_ rfl M 3 ?_ .i64 (dec4 (l.drop 8)) ?_ hi3.out (nodeC (brN (dec4 (l.drop 0)) (dec4 (l.drop 4)) 0 0 zero32 zero32)) 30 x5.out hl5.out ?_); rfl; rfl; rfl)
  intro w8 g G
  have y5 := Box.mk (show w8.heap[M]? = some (.cells (nodeC (brN (dec4 (l.drop 0)) (dec4 (l.drop 4)) (dec4 (l.drop 8)) 0 zero32 zero32)).toArray 30 (0, 0)) from g.out)
  have r5 := Box.mk ((G.block _ (heap_lt q5.out) (by have := HM.out; simp; omega)).trans q5.out)
  have d5 := Box.mk (b5.out.grown G b5.out.size (fun k hk => by cases hk; have := HM.out; omega))
  clear g G x5 q5 b5 hl5
  have hnum := Box.mk (rnumber_any 12 12 rfl b o 80 c l w8 (hR.out.old d5.out) (by omega) (by omega))
  go_wp2_with (go_at_call 41; refine (calls_box hnum.out).mono ?_)
  rintro e w9 ⟨⟨rfl, hB⟩⟩
  have x6 := Box.mk ((hB.block _ (heap_lt y5.out)).trans y5.out)
  have q6 := Box.mk ((hB.block _ (heap_lt r5.out)).trans r5.out)
  have b6 := Box.mk (d5.out.trans (hB.mono d5.out.size))
  clear hB hnum y5 r5 d5
  have hl6 := Box.mk (show 4 < (nodeC (brN (dec4 (l.drop 0)) (dec4 (l.drop 4)) (dec4 (l.drop 8)) 0 zero32 zero32)).length by rw [length_nodeC]; omega)
  go_wp2_with ((with_reducible refine arm_store_num 3 (.tmp 70) (.tmp 69) ?_ rfl M 4 ?_ .i64 (dec4 (l.drop 12)) ?_ hi3.out (nodeC (brN (dec4 (l.drop 0)) (dec4 (l.drop 4)) (dec4 (l.drop 8)) 0 zero32 zero32)) 30 x6.out hl6.out ?_); rfl; rfl; rfl)
  intro w10 g G
  have y6 := Box.mk (show w10.heap[M]? = some (.cells (nodeC (brN (dec4 (l.drop 0)) (dec4 (l.drop 4)) (dec4 (l.drop 8)) (dec4 (l.drop 12)) zero32 zero32)).toArray 30 (0, 0)) from g.out)
  have r6 := Box.mk ((G.block _ (heap_lt q6.out) (by have := HM.out; simp; omega)).trans q6.out)
  have d6 := Box.mk (b6.out.grown G b6.out.size (fun k hk => by cases hk; have := HM.out; omega))
  clear g G x6 q6 b6 hl6
  have z0 := Box.mk (show w10.heap[M]? = some (.cells (nodeC (brN (dec4 (l.drop 0)) (dec4 (l.drop 4)) (dec4 (l.drop 8)) (dec4 (l.drop 12)) (keyN (l.drop 16) 0) (keyN (l.drop 48) 0))).toArray 30 (0, 0)) by rw [keyN_zero, keyN_zero]; exact y6.out)
  clear y6
  go_wp2
  go_loopw [9] (fun i wr => ∃ k : Nat, k ≤ 32 ∧ i = .int .i64 k ∧ Box (wr.heap[M]? = some (.cells (nodeC (brN (dec4 (l.drop 0)) (dec4 (l.drop 4)) (dec4 (l.drop 8)) (dec4 (l.drop 12)) (keyN (l.drop 16) k) (keyN (l.drop 48) k))).toArray 30 (0, 0))) ∧ Box (wr.heap[w.heap.size]? = some (.cells zn 30 (0, 0))) ∧ Box (Below w.heap.size w wr)) (fun i _ => 32 - (intOf i).toNat)
  case atStart => exact ⟨0, Nat.zero_le _, rfl, z0, r6, d6⟩
  clear z0 r6 d6
  case round =>
    obtain ⟨k, hk, rfl, xr, qr, br⟩ := hrel
    by_cases hlt : k < 32
    · have hk1 : 16 + k < l.length := by rw [hl.out]; omega
      have hk2 : 48 + k < l.length := by rw [hl.out]; omega
      have e1 : wr.cell? ⟨b, o + (16 + k), none⟩ = some (.int .u8 (l[16 + k]'hk1).toNat) := (hR.out.old br.out).cell (16 + k) hk1
      have E2 := Box.mk (hR.out.cell (48 + k) hk2)
      have s1 := Box.mk (show setD (keyN (l.drop 16) k) k (l[16 + k]'hk1) = keyN (l.drop 16) (k + 1) by
        rw [← keyN_succ (l.drop 16) k hlt (by rw [List.length_drop]; omega), List.getElem_drop])
      have s2 := Box.mk (show setD (keyN (l.drop 48) k) k (l[48 + k]'hk2) = keyN (l.drop 48) (k + 1) by
        rw [← keyN_succ (l.drop 48) k hlt (by rw [List.length_drop]; omega), List.getElem_drop])
      obtain ⟨u, hu⟩ : ∃ u, l[16 + k]'hk1 = u := ⟨_, rfl⟩
      obtain ⟨v, hv⟩ : ∃ v, l[48 + k]'hk2 = v := ⟨_, rfl⟩
      rw [hu] at e1 s1
      rw [hv] at E2 s2
      have p1 := Box.mk (show (nodeC (brN (dec4 (l.drop 0)) (dec4 (l.drop 4)) (dec4 (l.drop 8)) (dec4 (l.drop 12)) (keyN (l.drop 16) k) (keyN (l.drop 48) k))).set (5 + k) (bv u) = nodeC (brN (dec4 (l.drop 0)) (dec4 (l.drop 4)) (dec4 (l.drop 8)) (dec4 (l.drop 12)) (keyN (l.drop 16) (k + 1)) (keyN (l.drop 48) k)) by rw [nodeC_setls _ k hlt u, ← s1.out]; rfl)
      have p2 := Box.mk (show (nodeC (brN (dec4 (l.drop 0)) (dec4 (l.drop 4)) (dec4 (l.drop 8)) (dec4 (l.drop 12)) (keyN (l.drop 16) (k + 1)) (keyN (l.drop 48) k))).set (37 + k) (bv v) = nodeC (brN (dec4 (l.drop 0)) (dec4 (l.drop 4)) (dec4 (l.drop 8)) (dec4 (l.drop 12)) (keyN (l.drop 16) (k + 1)) (keyN (l.drop 48) (k + 1))) by rw [nodeC_setrs _ k hlt v, ← s2.out]; rfl)
      have hq1 := Box.mk (show 5 + k < (nodeC (brN (dec4 (l.drop 0)) (dec4 (l.drop 4)) (dec4 (l.drop 8)) (dec4 (l.drop 12)) (keyN (l.drop 16) k) (keyN (l.drop 48) k))).length by rw [length_nodeC]; omega)
      have hq2 := Box.mk (show 37 + k < (nodeC (brN (dec4 (l.drop 0)) (dec4 (l.drop 4)) (dec4 (l.drop 8)) (dec4 (l.drop 12)) (keyN (l.drop 16) (k + 1)) (keyN (l.drop 48) k))).length by rw [length_nodeC]; omega)
      clear hu hv hk1 hk2 s1 s2
      generalize nodeC (brN (dec4 (l.drop 0)) (dec4 (l.drop 4)) (dec4 (l.drop 8)) (dec4 (l.drop 12)) (keyN (l.drop 16) k) (keyN (l.drop 48) k)) = c0 at *
      generalize nodeC (brN (dec4 (l.drop 0)) (dec4 (l.drop 4)) (dec4 (l.drop 8)) (dec4 (l.drop 12)) (keyN (l.drop 16) (k + 1)) (keyN (l.drop 48) k)) = c1 at *
      have k0 : (0 : Int) ≤ (k : Int) := by omega
      have k1 : (k : Int) < 32 := by omega
      have n1' : (0 : Int) ≤ 16 + (k : Int) := by omega
      have n2' : 16 + (k : Int) < 80 := by omega
      have n3' : (16 + (k : Int)).toNat = 16 + k := by omega
      have n4' := IntWalk.i64_in (16 + (k : Int)) (by omega)
      go_wp2_with ((with_reducible refine arm_store_cell 5 (.tmp 82) (.tmp 80) ?_ ?_ M (5 + k) ?_ u ?_ hi5.out c0 30 xr.out hq1.out ?_); rfl; rfl; rfl; rfl)
      intro w3b g3 G3
      have x3 := Box.mk (show w3b.heap[M]? = some (.cells c1.toArray 30 (0, 0)) by rw [← p1.out]; exact g3.out)
      have q3 := Box.mk ((G3.block _ (heap_lt qr.out) (by have := HM.out; simp; omega)).trans qr.out)
      have b3 := Box.mk (br.out.grown G3 br.out.size (fun k hk => by cases hk; have := HM.out; omega))
      have e2 : w3b.cell? ⟨b, o + (48 + k), none⟩ = some (.int .u8 v.toNat) := (b3.out.cell (p := ⟨b, o + (48 + k), none⟩) (hR.out.lt (by omega))).trans E2.out
      clear g3 G3 xr qr br e1 n1' n2' n3' n4'
      have n1' : (0 : Int) ≤ 48 + (k : Int) := by omega
      have n2' : 48 + (k : Int) < 80 := by omega
      have n3' : (48 + (k : Int)).toNat = 48 + k := by omega
      have n4' := IntWalk.i64_in (48 + (k : Int)) (by omega)
      go_wp2_with ((with_reducible refine arm_store_cell 5 (.tmp 90) (.tmp 88) ?_ ?_ M (37 + k) ?_ v ?_ hi5.out c1 30 x3.out hq2.out ?_); rfl; rfl; rfl; rfl)
      intro w4b g4 G4
      have x4 := Box.mk (show w4b.heap[M]? = some (.cells (nodeC (brN (dec4 (l.drop 0)) (dec4 (l.drop 4)) (dec4 (l.drop 8)) (dec4 (l.drop 12)) (keyN (l.drop 16) (k + 1)) (keyN (l.drop 48) (k + 1)))).toArray 30 (0, 0)) by rw [← p2.out]; exact g4.out)
      have q4 := Box.mk ((G4.block _ (heap_lt q3.out) (by have := HM.out; simp; omega)).trans q3.out)
      have b4 := Box.mk (b3.out.grown G4 b3.out.size (fun k hk => by cases hk; have := HM.out; omega))
      clear g4 G4 x3 q3 b3 e2 n1' n2' n3' n4'
      go_wp2
      go_roundw
      case rel => exact ⟨k + 1, by omega, by go_num, x4, q4, b4⟩
      case measure => simp [intOf]; omega
    · obtain rfl : k = 32 := by omega
      rw [show ((32 : Nat) : Int) = 32 from rfl]
      rw [← hd0.out, ← hfin.out] at xr
      have I5 := hi30 (brNode l)
      have A5 := hal (brNode l)
      have Z5 := hzs (brNode l)
      obtain ⟨cz, hcz⟩ : ∃ cz, (nodeC (brNode l)).toArray = cz := ⟨_, rfl⟩
      rw [hcz] at xr I5 A5 Z5 hrt
      have HCZ := Box.mk hcz
      clear hd0 hfin hcz
      go_wp2_with (first
        | ((with_reducible refine arm_row 30 (.tmp 6) ?_ rfl M ?_ 30 cz (0, 0) _ xr.out Tryd.underlying30 rfl I5.out ?_); rfl; rfl)
        | (go_at_call 37; refine (calls_box (hrt.out _)).mono ?_))
      rintro e w5 ⟨⟨rfl, hB⟩⟩
      have x5 := Box.mk ((hB.block _ (heap_lt xr.out)).trans xr.out)
      have q5 := Box.mk ((hB.block _ (heap_lt qr.out)).trans qr.out)
      have b5 := Box.mk (br.out.trans (hB.mono br.out.size))
      clear hB xr qr br hrt
      cases st
      · skip
        go_wp2_with (first
          | ((with_reducible refine arm_built 30 [] ?_ ?_ [] ?_ zn hb30.out ?_); rfl; rfl; rfl)
          | ((with_reducible refine arm_store_row 30 (.tmp 4) (.tmp 95) ?_ rfl w.heap.size zn zn 30 ?_ ?_ q5.out rfl hiz.out haz.out ?_); rfl; rfl; rfl))
        intro w8 g8 G8
        have b8 := Box.mk (b5.out.grown G8 b5.out.size (fun k hk => by cases hk; omega))
        go_wp2
        exact bodyPost_ret (v := .tuple #[.agg zn, .int .i64 90]) (results_row_tmp (p := 4) (u := 5) (ty := 30) rfl _ _ w.heap.size 30 _ (0, 0) _ rfl g8.out Tryd.underlying30 rfl hiz.out _ rfl) rfl ⟨by rw [HZN.out], b8.out⟩
      · skip
        go_wp2_with (first
          | ((with_reducible refine arm_row 30 (.tmp 6) ?_ rfl M ?_ 30 cz (0, 0) _ x5.out Tryd.underlying30 rfl I5.out ?_); rfl; rfl)
          | ((with_reducible refine arm_store_row 30 (.tmp 4) (.tmp 96) ?_ rfl w.heap.size zn cz 30 ?_ ?_ q5.out Z5.out I5.out A5.out ?_); rfl; rfl; rfl))
        intro w8 g8 G8
        have b8 := Box.mk (b5.out.grown G8 b5.out.size (fun k hk => by cases hk; omega))
        go_wp2
        exact bodyPost_ret (v := .tuple #[.agg cz, .int .i64 0]) (results_row_tmp (p := 4) (u := 5) (ty := 30) rfl _ _ w.heap.size 30 _ (0, 0) _ rfl g8.out Tryd.underlying30 rfl I5.out _ rfl) rfl ⟨by rw [HCZ.out], b8.out⟩
end Go.Proofs.YteiepenanffhcaaDoor
