/- Texts joined: REnc, Val1, EncLaw. -/
import Derived.Test.YteiepenanffhcaaDoorP18
import Derived.Test.YteiepenanffhcaaDoorP07
import Derived.Test.YteiepenanffhcaaDoorP06
import Derived.Test.YteiepenanffhcaaDoorP05
import Derived.Test.YteiepenanffhcaaDoorP09
/- The reference's Encode. -/
namespace Go.Proofs.YteiepenanffhcaaDoor
open Go Go.RowKit
set_option linter.unusedVariables false

theorem leafB_kind {x : NodeV} (h : isLeafB x = true) : x.kind = 1 := by
  unfold isLeafB at h
  simp only [Bool.and_eq_true, decide_eq_true_eq] at h
  exact h.1.1.1
theorem brB_kind {x : NodeV} (h : isBrB x = true) : x.kind = 2 := by
  unfold isBrB at h
  simp only [Bool.and_eq_true, decide_eq_true_eq] at h
  exact h.1.1
theorem leafB_notBr {x : NodeV} (h : isLeafB x = true) : isBrB x = false := by
  cases hb : isBrB x
  · rfl
  · have := leafB_kind h; have := brB_kind hb; omega
/-- What a node is laid out as. -/
inductive NodeLay (x : NodeV) : Prop
  | leaf (h : isLeafB x = true) (hn : x.n ≤ 128)
  | branch (h0 : isLeafB x = false) (h : isBrB x = true) (hs : brStands ⟨x.left, x.lc, x.ls⟩ ⟨x.right, x.rc, x.rs⟩ = true)
  | none (h : rightB x = false)
theorem nodeLay (x : NodeV) : NodeLay x := by
  cases h1 : isLeafB x
  · cases h2 : isBrB x
    · exact .none (by unfold rightB; rw [h1, h2]; rfl)
    · cases h3 : brStands ⟨x.left, x.lc, x.ls⟩ ⟨x.right, x.rc, x.rs⟩
      · exact .none (by unfold rightB; rw [h1, h2, h3]; rfl)
      · exact .branch h1 h2 h3
  · by_cases hn : x.n ≤ 128
    · exact .leaf h1 hn
    · exact .none (by unfold rightB; rw [h1, leafB_notBr h1, decide_eq_false hn]; rfl)
theorem right_leaf {x : NodeV} (h : isLeafB x = true) (hn : x.n ≤ 128) : rightB x = true := by unfold rightB; rw [h, decide_eq_true hn]; rfl
theorem right_branch {x : NodeV} (h : isBrB x = true) (hs : brStands ⟨x.left, x.lc, x.ls⟩ ⟨x.right, x.rc, x.rs⟩ = true) : rightB x = true := by unfold rightB; rw [h, hs]; simp

set_option maxRecDepth 100000 in
set_option maxHeartbeats 1000000 in
theorem renc_yes (x : NodeV) (w : World) (t : List UInt8) (hr : rightB x = true)
    (hl : ∀ W, Below w.heap.size w W → Calls Tryd.prog 38 #[.agg (nodeC x).toArray] W fun e w' => (∃ v, e = .returned v ∧ Own w' W.heap.size 5 v t) ∧ Below W.heap.size W w') :
    Calls Tryd.prog 18 #[.agg (nodeC x).toArray] w fun e w' => (∃ v, e = .returned (.tuple #[v, .int .i64 0]) ∧ Own w' w.heap.size 5 v t) ∧ Below w.heap.size w w' := by
  have F1 := Box.mk (show (w.alloc (.cells (nodeC x).toArray 30)).heap[w.heap.size]? = some (.cells (nodeC x).toArray 30 (0, 0)) from heap_new rfl)
  have B1 := Box.mk (Below.refl_alloc w (.cells (nodeC x).toArray 30))
  have s1 := Box.mk (show (w.alloc (.cells (nodeC x).toArray 30)).heap.size = w.heap.size + 1 by simp)
  have hi30 : Box ((Tryd.prog.info? 30).map (·.size) = some (nodeC x).toArray.size) := ⟨by
    have h : (Tryd.prog.info? 30).map (·.size) = some 102 := by kernel_rfl
    rw [h, List.size_toArray, length_nodeC]⟩
  have HR := Box.mk (fun W => rright_any x W)
  rw [hr] at HR
  have HL := Box.mk hl
  clear hl hr
  generalize (nodeC x).toArray = cs at *
  go_enter Tryd.func18, Tryd.ntmps18
  go_upto_region 1 with fail
  generalize w.alloc (.cells cs 30) = w1 at *
  go_wp2_with (first
    | ((with_reducible refine arm_row 30 (.tmp 1) ?_ rfl w.heap.size ?_ 30 cs (0, 0) _ F1.out Tryd.underlying30 rfl hi30.out ?_); rfl; rfl)
    | (go_at_call 37; refine (calls_box (HR.out _)).mono ?_))
  rintro e w2 ⟨⟨rfl, hB⟩⟩
  have B2 := Box.mk (B1.out.trans (hB.mono B1.out.size))
  have F2 := Box.mk ((hB.block _ (heap_lt F1.out)).trans F1.out)
  have s2 := Box.mk (show w.heap.size ≤ w2.heap.size by have := hB.size; have := s1.out; omega)
  clear hB F1 B1 HR
  go_wp2_with (first
    | ((with_reducible refine arm_row 30 (.tmp 1) ?_ rfl w.heap.size ?_ 30 cs (0, 0) _ F2.out Tryd.underlying30 rfl hi30.out ?_); rfl; rfl)
    | (go_at_call 38; refine (calls_box (HL.out _ B2.out)).mono ?_))
  rintro e w3 ⟨⟨⟨v, rfl, own3⟩, hB⟩⟩
  have B3 := Box.mk (B2.out.trans (hB.mono B2.out.size))
  have O3 := Box.mk (own_base4 own3 s2.out)
  clear hB own3
  go_wp2
  go_ret2
  exact ⟨⟨_, rfl, O3.out⟩, B3.out⟩

set_option maxRecDepth 100000 in
set_option maxHeartbeats 1000000 in
theorem renc_none (x : NodeV) (w : World) (hr : rightB x = false) :
    Calls Tryd.prog 18 #[.agg (nodeC x).toArray] w fun e w' => e = .returned (.tuple #[.slice none 0 0, .int .i64 90]) ∧ Below w.heap.size w w' := by
  have F1 := Box.mk (show (w.alloc (.cells (nodeC x).toArray 30)).heap[w.heap.size]? = some (.cells (nodeC x).toArray 30 (0, 0)) from heap_new rfl)
  have B1 := Box.mk (Below.refl_alloc w (.cells (nodeC x).toArray 30))
  have hi30 : Box ((Tryd.prog.info? 30).map (·.size) = some (nodeC x).toArray.size) := ⟨by
    have h : (Tryd.prog.info? 30).map (·.size) = some 102 := by kernel_rfl
    rw [h, List.size_toArray, length_nodeC]⟩
  have HR := Box.mk (fun W => rright_any x W)
  rw [hr] at HR
  clear hr
  generalize (nodeC x).toArray = cs at *
  go_enter Tryd.func18, Tryd.ntmps18
  go_upto_region 1 with fail
  generalize w.alloc (.cells cs 30) = w1 at *
  go_wp2_with (first
    | ((with_reducible refine arm_row 30 (.tmp 1) ?_ rfl w.heap.size ?_ 30 cs (0, 0) _ F1.out Tryd.underlying30 rfl hi30.out ?_); rfl; rfl)
    | (go_at_call 37; refine (calls_box (HR.out _)).mono ?_))
  rintro e w2 ⟨⟨rfl, hB⟩⟩
  have B2 := Box.mk (B1.out.trans (hB.mono B1.out.size))
  clear hB F1 B1 HR
  go_wp2
  go_ret2
  exact ⟨rfl, B2.out⟩

theorem renc_leaf (x : NodeV) (w : World) (hx : isLeafB x = true) (hn : x.n ≤ 128) (l : List UInt8) (h : Row w x.ao x.n l) :
    Calls Tryd.prog 18 #[.agg (nodeC x).toArray] w fun e w' => (∃ v, e = .returned (.tuple #[v, .int .i64 0]) ∧ Own w' w.heap.size 5 v (x.key.1 ++ l)) ∧ Below w.heap.size w w' :=
  renc_yes x w _ (right_leaf hx hn) fun W hW => rload_leaf x W (leafB_kind hx) l (h.old hW) (by omega)
theorem renc_branch (x : NodeV) (w : World) (hx : isBrB x = true) (hs : brStands ⟨x.left, x.lc, x.ls⟩ ⟨x.right, x.rc, x.rs⟩ = true) :
    Calls Tryd.prog 18 #[.agg (nodeC x).toArray] w fun e w' => (∃ v, e = .returned (.tuple #[v, .int .i64 0]) ∧ Own w' w.heap.size 5 v (brEnc x)) ∧ Below w.heap.size w w' := by
  have hs2 := hs
  unfold brStands at hs2
  simp only [Bool.and_eq_true] at hs2
  have p1 := chStands_page hs2.1.1.1.1
  have p2 := chStands_page hs2.1.1.1.2
  have p3 := chStands_count hs2.1.1.1.1
  have p4 := chStands_count hs2.1.1.1.2
  simp only at p1 p2 p3 p4
  refine renc_yes x w _ (right_branch hx hs) fun W hW => ?_
  exact rload_branch x W (brB_kind hx) x.left.toNat x.right.toNat x.lc.toNat x.rc.toNat (by omega) (by omega) (by omega) (by omega) (by omega) (by omega) (by omega) (by omega)
end Go.Proofs.YteiepenanffhcaaDoor

/- One play of a call that is handed a list: Encode. -/
namespace Go.Proofs.YteiepenanffhcaaDoor
open Go Go.RowKit
set_option linter.unusedVariables false

section
variable {P : Program} {Q : Exit → Act → World → Prop} {ops : Array Oper} {rest : List Oper} {o : Oper} {a : Act} {w : World}
/-- A slice stored into a cell of a block of any cells. -/
theorem arm_store_slice (ty : TypeId) (x y : Operand) (ho : o.op = .store ty x y) (hgd : o.guard = none) (b off : Nat) (hx : a.eval x = .pointer (some ⟨b, off, none⟩)) (ao : Option Addr) (n c : Nat) (hy : a.eval y = .slice ao n c)
    (hs : (P.info? ty).map (·.size) = some 1) (C : List Value) (e : TypeId) (hg : w.heap[b]? = some (.cells C.toArray e (0, 0))) (hlt : off < C.length)
    (h : ∀ w', Hid (w'.heap[b]? = some (.cells (C.set off (.slice ao n c)).toArray e (0, 0))) → w.grownBy w' (some b) → wpList P ops Q rest (a.put o.dst undef) w') : wpList P ops Q (o :: rest) a w := by
  have hc : w.cell? ⟨b, off, none⟩ = some C[off] := by
    rw [cell_of_row w b off _ e (0, 0) hg, ← Array.getElem?_toList, List.getElem?_eq_getElem hlt]
  have hf : w.frozen? ⟨b, off, none⟩ = false := by
    unfold World.frozen?
    rw [hg]
    simp
  refine wpList_plain hgd fun _ hK => ?_
  cases hq : P.info? ty with
  | none => simp [hq] at hs
  | some i =>
    have hs' : i.size = 1 := by simpa [hq] using hs
    unfold Oper.wp execOp
    simp only [ho, hx, hy, Instr.storeAt, Instr.sureAddr, Sem.run_bind, Sem.run_pure, Result.andThen_ok]
    have : (storeVar ty ⟨b, off, none⟩ (.slice ao n c)).run P w = .ok () (w.setCell ⟨b, off, none⟩ (.slice ao n c)) := by
      simp [storeVar, sizeOf, typeInfo, hq, hs', Value.cells, storeCells, hc, hf, go_sem]
    rw [this]
    refine hK _ _ (h _ ?_ (grownBy_setC _ _ _))
    show _ = _
    rw [heap_setCell_same w b off _ e _ hg]
    congr 2
    apply Array.ext'
    simp
end
theorem nodeC_setval (x : NodeV) (ao : Option Addr) (n c : Nat) : (nodeC x).set 101 (.slice ao n c) = nodeC { x with ao := ao, n := n, c := c } := by
  have h : ∀ (A : List Value) (u v : Value), A.length = 101 → (A ++ [u]).set 101 v = A ++ [v] := fun A u v hA => by
    rw [List.set_append_right _ _ (by omega), hA]; rfl
  unfold nodeC
  simp only [← List.append_assoc]
  exact h _ _ _ (by simp [x.ls.2, x.rs.2, x.key.2])
/-- What Encode hands out: the bytes t, the number er. -/
def EncOut (W : World) (t : List UInt8) (er : Int) (e : Ending) (W' : World) : Prop :=
  (∃ a c, e = .returned (.tuple #[.slice a t.length c, .int .i64 er]) ∧ Row W' a t.length t) ∧ Below W.heap.size W W'

/-- Encode of a node that is not right. -/
theorem nenc_none (x : NodeV) (q1 : inI64 x.left) (q2 : inI64 x.right) (q3 : inI64 x.lc) (q4 : inI64 x.rc) (l : List UInt8) (w : World) (h : Row w x.ao x.n l) (hn : x.ao = none → x.n = 0 ∧ x.c = 0) (hb : x.n ≤ 140737488351232) (hr : rightB x = false) :
    Calls Tryd.prog 17 #[.agg (nodeC x).toArray] w fun e w' => e = .returned (.tuple #[.slice none 0 0, .int .i64 90]) ∧ Below w.heap.size w w' := by
  cases h1 : isLeafB x
  · cases h2 : isBrB x
    · exact encode_none x q1 q2 q3 q4 h1 h2 w
    · have h3 : ¬ brStands ⟨x.left, x.lc, x.ls⟩ ⟨x.right, x.rc, x.rs⟩ = true := fun h3 => by rw [right_branch h2 h3] at hr; cases hr
      exact (encode_branch x q1 q2 q3 q4 h1 h2 w).mono fun e w' ⟨h, hb⟩ => ⟨by rw [if_neg h3] at h; exact h, hb⟩
  · have h3 : ¬ x.n ≤ 128 := fun h3 => by rw [right_leaf h1 h3] at hr; cases hr
    exact (encode_leaf x q1 q2 q3 q4 h1 l w h hn hb).mono fun e w' ⟨h, hb⟩ => ⟨by rw [if_neg h3] at h; exact h, hb⟩

set_option maxRecDepth 100000 in
set_option maxHeartbeats 4000000 in
theorem valuePlay_enc (o : OpV) (hk : o.kind = 1) (n : Nat) (hn : n ≤ 140737488351232) (L : List UInt8) (hL : L.length = n) (g : Nat) (a1 : Option Addr) (c1 : Nat) (w : World)
    (hg0 : w.heap[g]? = some (.cells (bvs (roomyL L)).toArray 5 (0, 0))) (hrow : Row w a1 n L) (hnone : a1 = none → n = 0 ∧ c1 = 0) (hle : n ≤ c1) (hmax : c1 ≤ maxLen)
    (t : List UInt8) (ht : t.length ≤ 140737488351232) (er : Int) (her : er = 0 ∨ er = 90)
    (hA0 : ∀ W, Below w.heap.size w W → Calls Tryd.prog 17 #[.agg (nodeC { o.nd with ao := some ⟨g, 0, none⟩, n := n, c := n + 100 }).toArray] W (EncOut W t er))
    (hB0 : ∀ W, Below w.heap.size w W → Calls Tryd.prog 18 #[.agg (nodeC { o.nd with ao := a1, n := n, c := c1 }).toArray] W (EncOut W t er)) :
    Calls Tryd.prog 14 #[.agg (opC o).toArray, .slice (some ⟨g, 0, none⟩) (n + 100) (n + 100), .slice a1 n c1] w fun e W' => e = .returned (.bool true) ∧ Below w.heap.size w W' := by
  have hi30 : ∀ x : NodeV, Box ((Tryd.prog.info? 30).map (·.size) = some (nodeC x).toArray.size) := fun x => ⟨by
    have h : (Tryd.prog.info? 30).map (·.size) = some 102 := by kernel_rfl
    rw [h, List.size_toArray, length_nodeC]⟩
  have hi30l : Hid ((Tryd.prog.info? 30).map (·.size) = some (nodeC o.nd).length) := by
    have h : (Tryd.prog.info? 30).map (·.size) = some 102 := by kernel_rfl
    unfold Hid
    rw [h, length_nodeC]
  have hss : ∀ x y : NodeV, Box ((nodeC x).toArray.size = (nodeC y).toArray.size) := fun x y => ⟨by rw [List.size_toArray, List.size_toArray, length_nodeC, length_nodeC]⟩
  have hal : ∀ x : NodeV, Box ((nodeC x).toArray.all (·.oneCell') = true) := fun x => ⟨nodeC_all x⟩
  have hz30 : ∀ W : World, (zeroValue 30).run Tryd.prog W = .ok (.agg (nodeC noNode).toArray) W := fun W => by kernel_rfl
  have hi28 : Box ((Tryd.prog.info? 28).map (·.size) = some 1) := ⟨by kernel_rfl⟩
  have bel0 := Below.refl_alloc w (.cells (opC o).toArray 32)
  have F0 : Box ((w.alloc (.cells (opC o).toArray 32)).heap[w.heap.size]? = some (.cells (opC o).toArray 32 (0, 0))) := ⟨heap_new rfl⟩
  have r101 := Box.mk (rangeAt_cells (o := 101) F0.out (cs := nodeC o.nd) fun j hj => opC_node o j)
  have c0 : (w.alloc (.cells (opC o).toArray 32)).cell? ⟨w.heap.size, 0, none⟩ = some (.int .i64 1) := by rw [cell_of_row _ _ 0 _ _ _ F0.out, ← hk]; rfl
  have HG := Box.mk ((bel0.block g (heap_lt hg0)).trans hg0)
  have HR := Box.mk (hrow.old bel0)
  have B0 := Box.mk bel0
  have HL := Box.mk hL
  have Hnone := Box.mk hnone
  have Hmax := Box.mk hmax
  have hlt := Box.mk (heap_lt F0.out)
  have hgl := Box.mk (heap_lt HG.out)
  have hcut : (n : Int) ≤ (n : Int) + 100 := by omega
  have hA := Box.mk hA0
  have hB := Box.mk hB0
  have Hht := Box.mk ht
  have hna : ∀ (ao : Option Addr) (m c : Nat), Box ((nodeC o.nd).set 101 (.slice ao m c) = nodeC { o.nd with ao := ao, n := m, c := c }) := fun ao m c => ⟨nodeC_setval o.nd ao m c⟩
  have hl101 := Box.mk (show 101 < (nodeC o.nd).length by rw [length_nodeC]; omega)
  clear hrow hnone hmax hle hg0 hL bel0 F0 hk hA0 hB0 ht
  generalize (opC o).toArray = cs at *
  go_enter Tryd.func14, Tryd.ntmps14
  go_upto_region 1 with fail
  generalize w.alloc (.cells cs 32) = w1 at *
  go_upto_region 5 with fail
  go_wp2_with (first
    | ((with_reducible refine arm_mid 30 (.tmp 27) ?_ rfl w.heap.size 101 ?_ (nodeC o.nd) _ r101.out Tryd.underlying30 rfl hi30l.out ?_); rfl; rfl)
    | ((with_reducible refine arm_store_row 30 (.tmp 9) (.tmp 28) ?_ rfl w1.heap.size (nodeC noNode).toArray (nodeC o.nd).toArray 30 ?_ ?_ ?_ (hss _ _).out (hi30 _).out (hal _).out ?_); rfl; rfl; rfl; exact heap_new rfl))
  intro w2 g2 G2
  have B12 := Box.mk ((Below.refl_alloc w1 (.cells (nodeC noNode).toArray 30)).grown G2 (by simp) (fun k hk => by cases hk; omega))
  have x2 := Box.mk (show w2.heap[w1.heap.size]? = some (.cells (nodeC o.nd).toArray 30 (0, 0)) from g2.out)
  clear g2 G2
  go_wp2_with ((with_reducible refine arm_store_slice 28 (.tmp 30) (.tmp 29) ?_ rfl w1.heap.size 101 ?_ (some ⟨g, 0, none⟩) n (n + 100) ?_ hi28.out (nodeC o.nd) 30 x2.out hl101.out ?_); rfl; rfl; rfl)
  intro w3 g3 G3
  have B13 := Box.mk (B12.out.grown G3 B12.out.size (fun k hk => by cases hk; omega))
  have x3 := Box.mk (show w3.heap[w1.heap.size]? = some (.cells (nodeC { o.nd with ao := some ⟨g, 0, none⟩, n := n, c := n + 100 }).toArray 30 (0, 0)) by rw [← (hna _ _ _).out]; exact g3.out)
  have r3 := Box.mk (rangeAt_below r101.out B13.out hlt.out)
  clear g3 G3 B12 x2
  go_wp2_with (first
    | ((with_reducible refine arm_mid 30 (.tmp 31) ?_ rfl w.heap.size 101 ?_ (nodeC o.nd) _ r3.out Tryd.underlying30 rfl hi30l.out ?_); rfl; rfl)
    | ((with_reducible refine arm_store_row 30 (.tmp 10) (.tmp 32) ?_ rfl w3.heap.size (nodeC noNode).toArray (nodeC o.nd).toArray 30 ?_ ?_ ?_ (hss _ _).out (hi30 _).out (hal _).out ?_); rfl; rfl; rfl; exact heap_new rfl))
  intro w4 g4 G4
  have B34 := Box.mk ((Below.refl_alloc w3 (.cells (nodeC noNode).toArray 30)).grown G4 (by simp) (fun k hk => by cases hk; omega))
  have x4 := Box.mk (show w4.heap[w3.heap.size]? = some (.cells (nodeC o.nd).toArray 30 (0, 0)) from g4.out)
  clear g4 G4
  go_wp2_with ((with_reducible refine arm_store_slice 28 (.tmp 34) (.tmp 33) ?_ rfl w3.heap.size 101 ?_ a1 n c1 ?_ hi28.out (nodeC o.nd) 30 x4.out hl101.out ?_); rfl; rfl; rfl)
  intro w5 g5 G5
  have B35 := Box.mk (B34.out.grown G5 B34.out.size (fun k hk => by cases hk; omega))
  have x5 := Box.mk (show w5.heap[w3.heap.size]? = some (.cells (nodeC { o.nd with ao := a1, n := n, c := c1 }).toArray 30 (0, 0)) by rw [← (hna _ _ _).out]; exact g5.out)
  have y5 := Box.mk ((B35.out.block _ (heap_lt x3.out)).trans x3.out)
  have b5 := Box.mk (B13.out.trans (B35.out.mono B13.out.size))
  clear g5 G5 B34 x4 x3 B35 B13 r3 r101
  have iA := hi30 { o.nd with ao := some ⟨g, 0, none⟩, n := n, c := n + 100 }
  have iB := hi30 { o.nd with ao := a1, n := n, c := c1 }
  generalize (nodeC { o.nd with ao := some ⟨g, 0, none⟩, n := n, c := n + 100 }).toArray = csA at *
  generalize (nodeC { o.nd with ao := a1, n := n, c := c1 }).toArray = csB at *
  have hA5 := Box.mk (hA.out w5 (B0.out.trans (b5.out.mono B0.out.size)))
  clear hA hi30 hi30l hss hal hna
  go_wp2_with (first
    | ((with_reducible refine arm_row 30 (.tmp 9) ?_ rfl w1.heap.size ?_ 30 csA (0, 0) _ y5.out Tryd.underlying30 rfl iA.out ?_); rfl; rfl)
    | (go_at_call 17; refine (calls_box hA5.out).mono ?_))
  rintro e w6 ⟨⟨⟨aA, cA, rfl, rowA⟩, hB6⟩⟩
  have b6 := Box.mk (b5.out.trans (hB6.mono b5.out.size))
  have x6 := Box.mk ((hB6.block _ (heap_lt x5.out)).trans x5.out)
  have rA := Box.mk rowA
  have hB7 := Box.mk (hB.out w6 (B0.out.trans (b6.out.mono B0.out.size)))
  clear hB6 rowA b5 x5 y5 hA5 hB
  go_wp2_with (first
    | ((with_reducible refine arm_row 30 (.tmp 10) ?_ rfl w3.heap.size ?_ 30 csB (0, 0) _ x6.out Tryd.underlying30 rfl iB.out ?_); rfl; rfl)
    | (go_at_call 18; refine (calls_box hB7.out).mono ?_))
  rintro e w7 ⟨⟨⟨aB, cB, rfl, rowB⟩, hB8⟩⟩
  have b7 := Box.mk (b6.out.trans (hB8.mono b6.out.size))
  have hSB := Box.mk (sameBytes_any aA aB t.length cA t.length cB t t w7 (rA.out.old hB8) rowB (by have := Hht.out; unfold maxLen; omega) (by have := Hht.out; unfold maxLen; omega))
  rw [eqB_true rfl] at hSB
  clear hB8 rowB b6 x6 rA hB7
  go_wp2_with (go_at_call 19; refine (calls_box hSB.out).mono ?_)
  rintro e w8 ⟨⟨rfl, qS, rfl⟩⟩
  have b8 := Box.mk (below_drewN2 b7.out qS)
  have hRI := Box.mk (roomyIs_any (some ⟨g, 0, none⟩) a1 (n + 100) (n + 100) n c1 (roomyL L) L _ (row_whole ((b8.out.block g hgl.out).trans HG.out) HL.out) (HR.out.old b8.out) (by unfold maxLen; omega) hn)
  rw [eqB_true rfl] at hRI
  clear hSB b7
  go_wp2_with (go_at_call 27; refine (calls_box hRI.out).mono ?_)
  rintro e W9 ⟨⟨rfl, hB9⟩⟩
  have B9 := Box.mk (B0.out.trans ((b8.out.trans (hB9.mono b8.out.size)).mono B0.out.size))
  clear hB9
  go_wp2
  go_ret
  exact ⟨rfl, B9.out⟩
end Go.Proofs.YteiepenanffhcaaDoor

/- NodeEncodes: the walk of the law. -/
namespace Go.Proofs.YteiepenanffhcaaDoor
open Go Go.RowKit
set_option linter.unusedVariables false

theorem encOut_own {W W' : World} {t : List UInt8} {v : Value} {e : Ending} {er : Int} (he : e = .returned (.tuple #[v, .int .i64 er])) (ho : Own W' W.heap.size 5 v t) (hb : Below W.heap.size W W') : EncOut W t er e W' := by
  obtain ⟨a, c, hv, hr⟩ := own_read2 ho
  subst hv
  exact ⟨⟨a, c, he, hr⟩, hb⟩
theorem encOut_none {W W' : World} {e : Ending} (he : e = .returned (.tuple #[.slice none 0 0, .int .i64 90])) (hb : Below W.heap.size W W') : EncOut W [] 90 e W' :=
  ⟨⟨none, 0, he, Row.nil⟩, hb⟩
theorem encodes_each {w : World} {o : OpV} (hi : OpIn w o) (hk : o.kind = 1) (W : World) (hb : Below w.heap.size w W) :
    Calls Tryd.prog 11 #[.agg (opC o).toArray] W fun e W' => e = .returned (.bool true) ∧ Below W.heap.size W W' := by
  obtain ⟨lv, hv⟩ := hi.val
  obtain ⟨ln, hn⟩ := hi.nval
  refine plays_val1 o hk W lv ln (hv.old hb) hi.vlen (hn.old hb) hi.nlen fun L hL g a1 c1 W' hW h3 h4 h5 h6 h7 => ?_
  have rA : ∀ W2, Below W'.heap.size W' W2 → Row W2 (some ⟨g, 0, none⟩) o.nd.n L := fun W2 h2 => row_front ((h2.block g (heap_lt h3)).trans h3) hL
  have rB : ∀ W2, Below W'.heap.size W' W2 → Row W2 a1 o.nd.n L := fun W2 h2 => h4.old h2
  rcases nodeLay { o.nd with ao := some ⟨g, 0, none⟩, n := o.nd.n, c := o.nd.n + 100 } with ⟨hx, hn128⟩ | ⟨hx0, hx, hs⟩ | hx
  · have hn1 : o.nd.n ≤ 128 := hn128
    refine valuePlay_enc o hk o.nd.n hi.nlen L hL g a1 c1 W' h3 h4 h5 h6 h7 (o.nd.key.1 ++ L) (by rw [List.length_append, o.nd.key.2]; omega) 0 (.inl rfl) (fun W2 h2 => ?_) (fun W2 h2 => ?_)
    · refine (encode_leaf { o.nd with ao := some ⟨g, 0, none⟩, n := o.nd.n, c := o.nd.n + 100 } hi.left hi.right hi.lc hi.rc hx L W2 (rA W2 h2) (by intro h; cases h) hi.nlen).mono fun e W3 ⟨h, h'⟩ => ?_
      rw [if_pos hn128] at h
      obtain ⟨g', cap, he, ho⟩ := h
      exact encOut_own he ho h'
    · refine (renc_leaf { o.nd with ao := a1, n := o.nd.n, c := c1 } W2 hx hn1 L (rB W2 h2)).mono fun e W3 ⟨⟨v, he, ho⟩, h'⟩ => encOut_own he ho h'
  · have hbl : (brEnc { o.nd with ao := some ⟨g, 0, none⟩, n := o.nd.n, c := o.nd.n + 100 }).length ≤ 140737488351232 := by
      show (brT _ _ _ _ _ _).length ≤ _
      simp [brT, le4, o.nd.ls.2, o.nd.rs.2]
    refine valuePlay_enc o hk o.nd.n hi.nlen L hL g a1 c1 W' h3 h4 h5 h6 h7 (brEnc { o.nd with ao := some ⟨g, 0, none⟩, n := o.nd.n, c := o.nd.n + 100 }) hbl 0 (.inl rfl) (fun W2 h2 => ?_) (fun W2 h2 => ?_)
    · refine (encode_branch { o.nd with ao := some ⟨g, 0, none⟩, n := o.nd.n, c := o.nd.n + 100 } hi.left hi.right hi.lc hi.rc hx0 hx W2).mono fun e W3 ⟨h, h'⟩ => ?_
      rw [if_pos hs] at h
      obtain ⟨g', cap, he, ho⟩ := h
      exact encOut_own he ho h'
    · refine (renc_branch { o.nd with ao := a1, n := o.nd.n, c := c1 } W2 hx hs).mono fun e W3 ⟨⟨v, he, ho⟩, h'⟩ => encOut_own he ho h'
  · refine valuePlay_enc o hk o.nd.n hi.nlen L hL g a1 c1 W' h3 h4 h5 h6 h7 [] (by simp) 90 (.inr rfl) (fun W2 h2 => ?_) (fun W2 h2 => ?_)
    · exact (nenc_none { o.nd with ao := some ⟨g, 0, none⟩, n := o.nd.n, c := o.nd.n + 100 } hi.left hi.right hi.lc hi.rc L W2 (rA W2 h2) (by intro h; cases h) hi.nlen hx).mono fun e W3 ⟨h, h'⟩ => encOut_none h h'
    · exact (renc_none { o.nd with ao := a1, n := o.nd.n, c := c1 } W2 hx).mono fun e W3 ⟨h, h'⟩ => encOut_none h h'

set_option maxHeartbeats 800000 in
theorem encodes_walk (ao : Option Addr) (n c : Nat) (os : List OpV) (w : World) (h : Ops w ao n os) (mx : n ≤ 4611686018427387904) (hin : ∀ o ∈ os, OpIn w o) :
    Calls Tryd.prog 3 #[.slice ao n c] w fun e w' => e = .returned (.bool true) ∧ Below w.heap.size w w' := by
  have hU := Box.mk (upTo_any 1 1 ao n c os w h mx fun o ho h1 h2 W hb => encodes_each (hin o ho) (by omega) W hb)
  clear h hin
  go_enter Tryd.func3, Tryd.ntmps3
  go_wp2_with (go_at_call 10; refine (calls_box hU.out).mono ?_)
  rintro e w1 ⟨⟨rfl, hB⟩⟩
  go_wp2
  go_ret
  exact ⟨rfl, hB⟩
end Go.Proofs.YteiepenanffhcaaDoor
