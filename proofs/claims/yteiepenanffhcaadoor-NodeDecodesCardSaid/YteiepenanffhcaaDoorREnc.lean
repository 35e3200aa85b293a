/- The reference's Encode. -/
import Derived.Test.YteiepenanffhcaaDoorRLoad
import Derived.Test.YteiepenanffhcaaDoorRRight
namespace Go.Proofs.YteiepenanffhcaaDoor
open Go Go.RowKit
set_option linter.unusedVariables false

theorem leafB_kind {x : NodeV} (h : isLeafB x = true) : x.kind = 1 := by
  unfold isLeafB at h
  simp only [Bool.and_eq_true, decide_eq_true_eq] at h
  exact h.1.1.1
theorem brB_kind {x : NodeV} (h : isBrB x = true) : x.kind = 2 := by
  unfold isBrB at h
  simp only [Bool.and_eq_true, decide_eq_true_eq] at h
  exact h.1.1
theorem leafB_notBr {x : NodeV} (h : isLeafB x = true) : isBrB x = false := by
  cases hb : isBrB x
  · rfl
  · have := leafB_kind h; have := brB_kind hb; omega
/-- What a node is laid out as. -/
inductive NodeLay (x : NodeV) : Prop
  | leaf (h : isLeafB x = true) (hn : x.n ≤ 128)
  | branch (h0 : isLeafB x = false) (h : isBrB x = true) (hs : brStands ⟨x.left, x.lc, x.ls⟩ ⟨x.right, x.rc, x.rs⟩ = true)
  | none (h : rightB x = false)
theorem nodeLay (x : NodeV) : NodeLay x := by
  cases h1 : isLeafB x
  · cases h2 : isBrB x
    · exact .none (by unfold rightB; rw [h1, h2]; rfl)
    · cases h3 : brStands ⟨x.left, x.lc, x.ls⟩ ⟨x.right, x.rc, x.rs⟩
      · exact .none (by unfold rightB; rw [h1, h2, h3]; rfl)
      · exact .branch h1 h2 h3
  · by_cases hn : x.n ≤ 128
    · exact .leaf h1 hn
    · exact .none (by unfold rightB; rw [h1, leafB_notBr h1, decide_eq_false hn]; rfl)
theorem right_leaf {x : NodeV} (h : isLeafB x = true) (hn : x.n ≤ 128) : rightB x = true := by unfold rightB; rw [h, decide_eq_true hn]; rfl
theorem right_branch {x : NodeV} (h : isBrB x = true) (hs : brStands ⟨x.left, x.lc, x.ls⟩ ⟨x.right, x.rc, x.rs⟩ = true) : rightB x = true := by unfold rightB; rw [h, hs]; simp

set_option maxRecDepth 100000 in
set_option maxHeartbeats 1000000 in
theorem renc_yes (x : NodeV) (w : World) (t : List UInt8) (hr : rightB x = true)
    (hl : ∀ W, Below w.heap.size w W → Calls Tryd.prog 38 #[.agg (nodeC x).toArray] W fun e w' => (∃ v, e = .returned v ∧ Own w' W.heap.size 5 v t) ∧ Below W.heap.size W w') :
    Calls Tryd.prog 18 #[.agg (nodeC x).toArray] w fun e w' => (∃ v, e = .returned (.tuple #[v, .int .i64 0]) ∧ Own w' w.heap.size 5 v t) ∧ Below w.heap.size w w' := by
  have F1 := Box.mk (show (w.alloc (.cells (nodeC x).toArray 30)).heap[w.heap.size]? = some (.cells (nodeC x).toArray 30 (0, 0)) from heap_new rfl)
  have B1 := Box.mk (Below.refl_alloc w (.cells (nodeC x).toArray 30))
  have s1 := Box.mk (show (w.alloc (.cells (nodeC x).toArray 30)).heap.size = w.heap.size + 1 by simp)
  have hi30 : Box ((Tryd.prog.info? 30).map (·.size) = some (nodeC x).toArray.size) := ⟨by
    have h : (Tryd.prog.info? 30).map (·.size) = some 102 := by kernel_rfl
    rw [h, List.size_toArray, length_nodeC]⟩
  have HR := Box.mk (fun W => rright_any x W)
  rw [hr] at HR
  have HL := Box.mk hl
  clear hl hr
  generalize (nodeC x).toArray = cs at *
  go_enter Tryd.func18, Tryd.ntmps18
  go_upto_region 1 with fail
  generalize w.alloc (.cells cs 30) = w1 at *
  go_wp2_with (first
    | ((with_reducible refine arm_row 30 (.tmp 1) ?_ rfl w.heap.size ?_ 30 cs (0, 0) _ F1.out Tryd.underlying30 rfl hi30.out ?_); rfl; rfl)
    | (go_at_call 37; refine (calls_box (HR.out _)).mono ?_))
  rintro e w2 ⟨⟨rfl, hB⟩⟩
  have B2 := Box.mk (B1.out.trans (hB.mono B1.out.size))
  have F2 := Box.mk ((hB.block _ (heap_lt F1.out)).trans F1.out)
  have s2 := Box.mk (show w.heap.size ≤ w2.heap.size by have := hB.size; have := s1.out; omega)
  clear hB F1 B1 HR
  go_wp2_with (first
    | ((with_reducible refine arm_row 30 (.tmp 1) ?_ rfl w.heap.size ?_ 30 cs (0, 0) _ F2.out Tryd.underlying30 rfl hi30.out ?_); rfl; rfl)
    | (go_at_call 38; refine (calls_box (HL.out _ B2.out)).mono ?_))
  rintro e w3 ⟨⟨⟨v, rfl, own3⟩, hB⟩⟩
  have B3 := Box.mk (B2.out.trans (hB.mono B2.out.size))
  have O3 := Box.mk (own_base4 own3 s2.out)
  clear hB own3
  go_wp2
  go_ret2
  exact ⟨⟨_, rfl, O3.out⟩, B3.out⟩

set_option maxRecDepth 100000 in
set_option maxHeartbeats 1000000 in
theorem renc_none (x : NodeV) (w : World) (hr : rightB x = false) :
    Calls Tryd.prog 18 #[.agg (nodeC x).toArray] w fun e w' => e = .returned (.tuple #[.slice none 0 0, .int .i64 90]) ∧ Below w.heap.size w w' := by
  have F1 := Box.mk (show (w.alloc (.cells (nodeC x).toArray 30)).heap[w.heap.size]? = some (.cells (nodeC x).toArray 30 (0, 0)) from heap_new rfl)
  have B1 := Box.mk (Below.refl_alloc w (.cells (nodeC x).toArray 30))
  have hi30 : Box ((Tryd.prog.info? 30).map (·.size) = some (nodeC x).toArray.size) := ⟨by
    have h : (Tryd.prog.info? 30).map (·.size) = some 102 := by kernel_rfl
    rw [h, List.size_toArray, length_nodeC]⟩
  have HR := Box.mk (fun W => rright_any x W)
  rw [hr] at HR
  clear hr
  generalize (nodeC x).toArray = cs at *
  go_enter Tryd.func18, Tryd.ntmps18
  go_upto_region 1 with fail
  generalize w.alloc (.cells cs 30) = w1 at *
  go_wp2_with (first
    | ((with_reducible refine arm_row 30 (.tmp 1) ?_ rfl w.heap.size ?_ 30 cs (0, 0) _ F1.out Tryd.underlying30 rfl hi30.out ?_); rfl; rfl)
    | (go_at_call 37; refine (calls_box (HR.out _)).mono ?_))
  rintro e w2 ⟨⟨rfl, hB⟩⟩
  have B2 := Box.mk (B1.out.trans (hB.mono B1.out.size))
  clear hB F1 B1 HR
  go_wp2
  go_ret2
  exact ⟨rfl, B2.out⟩

theorem renc_leaf (x : NodeV) (w : World) (hx : isLeafB x = true) (hn : x.n ≤ 128) (l : List UInt8) (h : Row w x.ao x.n l) :
    Calls Tryd.prog 18 #[.agg (nodeC x).toArray] w fun e w' => (∃ v, e = .returned (.tuple #[v, .int .i64 0]) ∧ Own w' w.heap.size 5 v (x.key.1 ++ l)) ∧ Below w.heap.size w w' :=
  renc_yes x w _ (right_leaf hx hn) fun W hW => rload_leaf x W (leafB_kind hx) l (h.old hW) (by omega)
theorem renc_branch (x : NodeV) (w : World) (hx : isBrB x = true) (hs : brStands ⟨x.left, x.lc, x.ls⟩ ⟨x.right, x.rc, x.rs⟩ = true) :
    Calls Tryd.prog 18 #[.agg (nodeC x).toArray] w fun e w' => (∃ v, e = .returned (.tuple #[v, .int .i64 0]) ∧ Own w' w.heap.size 5 v (brEnc x)) ∧ Below w.heap.size w w' := by
  have hs2 := hs
  unfold brStands at hs2
  simp only [Bool.and_eq_true] at hs2
  have p1 := chStands_page hs2.1.1.1.1
  have p2 := chStands_page hs2.1.1.1.2
  have p3 := chStands_count hs2.1.1.1.1
  have p4 := chStands_count hs2.1.1.1.2
  simp only at p1 p2 p3 p4
  refine renc_yes x w _ (right_branch hx hs) fun W hW => ?_
  exact rload_branch x W (brB_kind hx) x.left.toNat x.right.toNat x.lc.toNat x.rc.toNat (by omega) (by omega) (by omega) (by omega) (by omega) (by omega) (by omega) (by omega)
end Go.Proofs.YteiepenanffhcaaDoor
