/- Pages' loads as nodes: the walk of node.Decode. -/
import Derived.Test.YtocfiabbhcgegaaNodeOfB
import Derived.Laws.ResultCell
namespace Go.Proofs.Ytocfiabbhcgegaa
open Go Go.RowKit
set_option linter.unusedVariables false

theorem results_row_tmp {P : Program} {fn : Func} {p u : Tmp} {ty : TypeId} (h : fn.results = #[.cell p ty, .tmp u]) (tmps : Array Value) (w : World) (g : Nat) (t : TypeId) (cs : Array Value) (fr : Nat × Nat) (d : TypeDesc)
    (hp : tmps.getD p undef = .pointer (some ⟨g, 0, none⟩)) (hg : w.heap[g]? = some (.cells cs t fr)) (hu : P.underlying ty = some d) (hd : (match d with | .struct _ | .array _ _ => true | _ => false) = true) (hi : (P.info? ty).map (·.size) = some cs.size)
    (v : Value) (hv : tmps.getD u undef = v) : (results fn tmps).run P w = .ok (.tuple #[.agg cs, v]) w := by
  rw [results_cell_tmp h, hp, hv]
  simp [asAddr, run_loadVar_row w g t ty cs fr d hg hu hd hi]
theorem nodeSize (x : NodeV) : Box ((Try.prog.info? 46).map (·.size) = some (nodeC x).toArray.size) := ⟨by
  have h : (Try.prog.info? 46).map (·.size) = some 102 := by kernel_rfl
  rw [h, List.size_toArray, length_nodeC]⟩
theorem nodeSize2 (x y : NodeV) : Box ((nodeC x).toArray.size = (nodeC y).toArray.size) := ⟨by rw [List.size_toArray, List.size_toArray, length_nodeC, length_nodeC]⟩

set_option maxRecDepth 100000 in
set_option maxHeartbeats 4000000 in
/-- No form: refused, and nothing is told. -/
theorem decode_none (kind : Int) (ao : Option Addr) (n c : Nat) (w : World) (h : (kind = 1 ∧ n < 32) ∨ (kind = 2 ∧ n < 80) ∨ (kind = 2 ∧ 80 < n) ∨ ((kind == 1) = false ∧ (kind == 2) = false)) :
    Calls Try.prog 15 #[.int .i64 kind, .slice ao n c] w fun e w' => e = .returned (.tuple #[.agg (nodeC noNode).toArray, .int .i64 90]) ∧ Below w.heap.size w w' := by
  have hz35 : ∀ W : World, (zeroValue 46).run Try.prog W = .ok (.agg (nodeC noNode).toArray) W := fun W => by kernel_rfl
  have hb35 : Box (Try.prog.built 46 [] = some (nodeC noNode).toArray) := ⟨by kernel_rfl⟩
  have hr := fun W => read_none kind ao n c W h
  have hi := nodeSize noNode
  have ha := Box.mk (nodeC_all noNode)
  clear h
  generalize (nodeC noNode).toArray = zn at *
  go_enter Try.func15, Try.ntmps15
  go_wp2_with (go_at_call 32; refine (hr _).mono ?_)
  rintro e w1 ⟨rfl, hB⟩
  have b1 : Below w.heap.size w w1 := (Below.refl_alloc w _).trans (hB.mono (by simp))
  have f1 : Box (w1.heap[w.heap.size]? = some (.cells zn 46 (0, 0))) := ⟨(hB.block _ (by simp)).trans (heap_new rfl)⟩
  clear hB hr
  go_wp2_with (first
    | ((with_reducible refine wpList_builtg ?_ 46 [] ?_ [] ?_ zn hb35.out ?_); rfl; rfl; rfl)
    | ((with_reducible refine wpList_store_row rfl 46 (.tmp 4) (.tmp 17) ?_ w.heap.size zn zn 46 ?_ ?_ f1.out rfl hi.out ha.out ?_); rfl; rfl; rfl))
  intro w2 g2 G2
  have b2 : Below w.heap.size w w2 := b1.grown G2 b1.size (fun k hk => by cases hk; exact Nat.le_refl _)
  go_wp2
  exact bodyPost_ret (v := .tuple #[.agg zn, .int .i64 90]) (results_row_tmp (p := 4) (u := 5) (ty := 46) rfl _ _ w.heap.size 46 _ (0, 0) _ rfl g2.out Try.underlying46 rfl hi.out _ rfl) rfl ⟨rfl, b2⟩

set_option maxRecDepth 100000 in
set_option maxHeartbeats 4000000 in
theorem decode_leaf (b o m c' : Nat) (l : List UInt8) (w : World) (h : Row w (some ⟨b, o, none⟩) (m + 32) l) (hmc : m ≤ c') (hmx : m ≤ 140737488351232) (hmax : c' + 32 ≤ 9223372036854775807) :
    Calls Try.prog 15 #[.int .i64 1, .slice (some ⟨b, o, none⟩) (m + 32) (c' + 32)] w fun e w' =>
      (if m ≤ 128 then ∃ ao' c'', e = .returned (.tuple #[.agg (nodeC ⟨1, 0, 0, 0, 0, zero32, zero32, keyOf l, ao', m, c''⟩).toArray, .int .i64 0]) ∧ Own w' w.heap.size 5 (.slice ao' m c'') (l.drop 32)
        else e = .returned (.tuple #[.agg (nodeC noNode).toArray, .int .i64 90])) ∧ Below w.heap.size w w' := by
  obtain ⟨o', ho⟩ : ∃ o', (c' = 0 ∧ o' = o) ∨ (0 < c' ∧ o' = o + 32) := by
    rcases Nat.eq_zero_or_pos c' with h0 | h0
    · exact ⟨o, .inl ⟨h0, rfl⟩⟩
    · exact ⟨o + 32, .inr ⟨h0, rfl⟩⟩
  have htail : Row w (some ⟨b, o', none⟩) m (l.drop 32) := by
    rcases ho with ⟨h0, rfl⟩ | ⟨_, rfl⟩
    · have hm : m = 0 := by omega
      subst hm
      rw [List.drop_of_length_le (by have := h.1; omega)]
      exact Row.nil
    · have := h.drop 32 (by omega)
      rwa [Nat.add_sub_cancel] at this
  have hz35 : ∀ W : World, (zeroValue 46).run Try.prog W = .ok (.agg (nodeC noNode).toArray) W := fun W => by kernel_rfl
  have hb35 : Box (Try.prog.built 46 [] = some (nodeC noNode).toArray) := ⟨by kernel_rfl⟩
  have hr : ∀ W, Below w.heap.size w W → _ := fun W hW => read_leaf b o o' m c' l W (h.old hW) hmc hmax ho
  have hst := fun W => leaf_stands (keyOf l) (some ⟨b, o', none⟩) m c' W
  have hno : ∀ W, Below w.heap.size w W → _ := fun W hW => nodeOf_leaf (keyOf l) (some ⟨b, o', none⟩) m c' (l.drop 32) W (htail.old hW) (fun h => by cases h) (by omega)
  have hi := nodeSize noNode
  have hs := nodeSize2 noNode
  have ha := Box.mk (nodeC_all noNode)
  have hsz := nodeSize
  have hal := nodeC_all
  clear h htail ho hmc
  generalize (leafC (keyOf l) (.slice (some ⟨b, o', none⟩) m c')).toArray = lf at *
  have m1 : ∀ (fuel : Nat) (W : World), (method (fuel + 1) 75 (.agg lf) "ledger/node.stands").run Try.prog W = .ok (59, .agg lf) W := fun fuel W => by kernel_rfl
  generalize hzn : (nodeC noNode).toArray = zn at *
  have HR := Box.mk hr
  have HNO := Box.mk hno
  clear hr hno hzn
  rcases Nat.lt_or_ge 128 m with h128 | h128
  · simp only [if_neg (Nat.not_le.2 h128)]
    rw [show decide (m ≤ 128) = false from decide_eq_false (Nat.not_le.2 h128)] at hst
    have hs' := hs noNode
    clear hsz hal HNO hs
    go_enter Try.func15, Try.ntmps15
    go_wp2_with (go_at_call 32; refine (HR.out _ (Below.refl_alloc w _)).mono ?_)
    rintro e w1 ⟨rfl, hB⟩
    have b1 : Below w.heap.size w w1 := (Below.refl_alloc w _).trans (hB.mono (by simp))
    have f1 : Box (w1.heap[w.heap.size]? = some (.cells zn 46 (0, 0))) := ⟨(hB.block _ (by simp)).trans (heap_new rfl)⟩
    clear hB
    go_wp2_with (go_at_call 59; refine (hst _).mono ?_)
    rintro e w2 ⟨rfl, hB⟩
    have b2 : Below w.heap.size w w2 := b1.trans (hB.mono b1.size)
    have f2 : Box (w2.heap[w.heap.size]? = some (.cells zn 46 (0, 0))) := ⟨(hB.block _ (heap_lt f1.out)).trans f1.out⟩
    clear hB b1 f1
    go_wp2_with (first
      | ((with_reducible refine wpList_builtg ?_ 46 [] ?_ [] ?_ zn hb35.out ?_); rfl; rfl; rfl)
      | ((with_reducible refine wpList_store_row rfl 46 (.tmp 4) (.tmp 17) ?_ w.heap.size zn zn 46 ?_ ?_ f2.out rfl hi.out ha.out ?_); rfl; rfl; rfl))
    intro w3 g3 G3
    have b3 : Below w.heap.size w w3 := b2.grown G3 b2.size (fun k hk => by cases hk; exact Nat.le_refl _)
    go_wp2
    exact bodyPost_ret (v := .tuple #[.agg zn, .int .i64 90]) (results_row_tmp (p := 4) (u := 5) (ty := 46) rfl _ _ w.heap.size 46 _ (0, 0) _ rfl g3.out Try.underlying46 rfl hi.out _ rfl) rfl ⟨rfl, b3⟩
  · simp only [if_pos h128]
    rw [show decide (m ≤ 128) = true from decide_eq_true h128] at hst
    go_enter Try.func15, Try.ntmps15
    go_wp2_with (go_at_call 32; refine (HR.out _ (Below.refl_alloc w _)).mono ?_)
    rintro e w1 ⟨rfl, hB⟩
    have b1 : Below w.heap.size w w1 := (Below.refl_alloc w _).trans (hB.mono (by simp))
    have f1 : Box (w1.heap[w.heap.size]? = some (.cells zn 46 (0, 0))) := ⟨(hB.block _ (by simp)).trans (heap_new rfl)⟩
    clear hB
    go_wp2_with (go_at_call 59; refine (hst _).mono ?_)
    rintro e w2 ⟨rfl, hB⟩
    have b2 : Below w.heap.size w w2 := b1.trans (hB.mono b1.size)
    have f2 : Box (w2.heap[w.heap.size]? = some (.cells zn 46 (0, 0))) := ⟨(hB.block _ (heap_lt f1.out)).trans f1.out⟩
    clear hB b1 f1
    have hl2 := heap_lt f2.out
    go_wp2_with (go_at_call 33; refine (HNO.out _ b2).mono ?_)
    rintro e w3 ⟨ao', c'', rfl, own, hB⟩
    have b3 : Below w.heap.size w w3 := b2.trans (hB.mono b2.size)
    have f3 : Box (w3.heap[w.heap.size]? = some (.cells zn 46 (0, 0))) := ⟨(hB.block _ hl2).trans f2.out⟩
    have own3 := own_base own b2.size
    have hs' := hs ⟨1, 0, 0, 0, 0, zero32, zero32, keyOf l, ao', m, c''⟩
    have hi' := hsz ⟨1, 0, 0, 0, 0, zero32, zero32, keyOf l, ao', m, c''⟩
    have ha' := Box.mk (hal ⟨1, 0, 0, 0, 0, zero32, zero32, keyOf l, ao', m, c''⟩)
    clear hsz hal hs own hB
    generalize hnr : (nodeC ⟨1, 0, 0, 0, 0, zero32, zero32, keyOf l, ao', m, c''⟩).toArray = nr at *
    have HNR := Box.mk hnr
    clear hnr
    go_wp2_with ((with_reducible refine wpList_store_row rfl 46 (.tmp 4) (.tmp 19) ?_ w.heap.size zn nr 46 ?_ ?_ f3.out hs'.out hi'.out ha'.out ?_); rfl; rfl; rfl)
    intro w4 g4 G4
    have b4 : Below w.heap.size w w4 := b3.grown G4 b3.size (fun k hk => by cases hk; exact Nat.le_refl _)
    have own4 : Own w4 w.heap.size 5 (.slice ao' m c'') (l.drop 32) := own_store own3 f3.out (by decide) G4
    go_wp2
    exact bodyPost_ret (v := .tuple #[.agg nr, .int .i64 0]) (results_row_tmp (p := 4) (u := 5) (ty := 46) rfl _ _ w.heap.size 46 _ (0, 0) _ rfl g4.out Try.underlying46 rfl hi'.out _ rfl) rfl ⟨⟨ao', c'', by rw [HNR.out], own4⟩, b4⟩
/-- The node that a branch's load tells. -/
def brNode (l : List UInt8) : NodeV := ⟨2, (chL l).page, (chR l).page, (chL l).count, (chR l).count, (chL l).sum, (chR l).sum, zero32, none, 0, 0⟩
set_option maxRecDepth 100000 in
set_option maxHeartbeats 4000000 in
theorem decode_branch (b o c' : Nat) (l : List UInt8) (w : World) (h : Row w (some ⟨b, o, none⟩) 80 l) (hmax : c' + 80 ≤ 9223372036854775807) :
    Calls Try.prog 15 #[.int .i64 2, .slice (some ⟨b, o, none⟩) 80 (c' + 80)] w fun e w' =>
      (if brStands (chL l) (chR l) = true then e = .returned (.tuple #[.agg (nodeC (brNode l)).toArray, .int .i64 0])
        else e = .returned (.tuple #[.agg (nodeC noNode).toArray, .int .i64 90])) ∧ Below w.heap.size w w' := by
  have hz35 : ∀ W : World, (zeroValue 46).run Try.prog W = .ok (.agg (nodeC noNode).toArray) W := fun W => by kernel_rfl
  have hb35 : Box (Try.prog.built 46 [] = some (nodeC noNode).toArray) := ⟨by kernel_rfl⟩
  have hr : ∀ W, Below w.heap.size w W → _ := fun W hW => read_branch b o c' l W (h.old hW) hmax
  have hst := fun W => branch_stands (chL l) (chR l) W
  have hno := fun W => nodeOf_branch (chL l) (chR l) W
  have hi := nodeSize noNode
  have hs' := nodeSize2 noNode (brNode l)
  have ha := Box.mk (nodeC_all noNode)
  have hi' := nodeSize (brNode l)
  have ha' := Box.mk (nodeC_all (brNode l))
  rw [show (⟨2, (chL l).page, (chR l).page, (chL l).count, (chR l).count, (chL l).sum, (chR l).sum, zero32, none, 0, 0⟩ : NodeV) = brNode l from rfl] at hno
  clear h
  generalize (brC (chL l) (chR l)).toArray = lf at *
  generalize (nodeC (brNode l)).toArray = nr at *
  generalize (nodeC noNode).toArray = zn at *
  generalize brStands (chL l) (chR l) = st at *
  have m1 : ∀ (fuel : Nat) (W : World), (method (fuel + 1) 79 (.agg lf) "ledger/node.stands").run Try.prog W = .ok (62, .agg lf) W := fun fuel W => by kernel_rfl
  have HR := Box.mk hr
  clear hr
  cases st
  · simp only [Bool.false_eq_true, if_false]
    clear hno hs'
    go_enter Try.func15, Try.ntmps15
    go_wp2_with (go_at_call 32; refine (HR.out _ (Below.refl_alloc w _)).mono ?_)
    rintro e w1 ⟨rfl, hB⟩
    have b1 : Below w.heap.size w w1 := (Below.refl_alloc w _).trans (hB.mono (by simp))
    have f1 : Box (w1.heap[w.heap.size]? = some (.cells zn 46 (0, 0))) := ⟨(hB.block _ (by simp)).trans (heap_new rfl)⟩
    clear hB
    go_wp2_with (go_at_call 62; refine (hst _).mono ?_)
    rintro e w2 ⟨rfl, hB⟩
    have b2 : Below w.heap.size w w2 := b1.trans (hB.mono b1.size)
    have f2 : Box (w2.heap[w.heap.size]? = some (.cells zn 46 (0, 0))) := ⟨(hB.block _ (heap_lt f1.out)).trans f1.out⟩
    clear hB b1 f1
    go_wp2_with (first
      | ((with_reducible refine wpList_builtg ?_ 46 [] ?_ [] ?_ zn hb35.out ?_); rfl; rfl; rfl)
      | ((with_reducible refine wpList_store_row rfl 46 (.tmp 4) (.tmp 17) ?_ w.heap.size zn zn 46 ?_ ?_ f2.out rfl hi.out ha.out ?_); rfl; rfl; rfl))
    intro w3 g3 G3
    have b3 : Below w.heap.size w w3 := b2.grown G3 b2.size (fun k hk => by cases hk; exact Nat.le_refl _)
    go_wp2
    exact bodyPost_ret (v := .tuple #[.agg zn, .int .i64 90]) (results_row_tmp (p := 4) (u := 5) (ty := 46) rfl _ _ w.heap.size 46 _ (0, 0) _ rfl g3.out Try.underlying46 rfl hi.out _ rfl) rfl ⟨rfl, b3⟩
  · simp only [if_true]
    go_enter Try.func15, Try.ntmps15
    go_wp2_with (go_at_call 32; refine (HR.out _ (Below.refl_alloc w _)).mono ?_)
    rintro e w1 ⟨rfl, hB⟩
    have b1 : Below w.heap.size w w1 := (Below.refl_alloc w _).trans (hB.mono (by simp))
    have f1 : Box (w1.heap[w.heap.size]? = some (.cells zn 46 (0, 0))) := ⟨(hB.block _ (by simp)).trans (heap_new rfl)⟩
    clear hB
    go_wp2_with (go_at_call 62; refine (hst _).mono ?_)
    rintro e w2 ⟨rfl, hB⟩
    have b2 : Below w.heap.size w w2 := b1.trans (hB.mono b1.size)
    have f2 : Box (w2.heap[w.heap.size]? = some (.cells zn 46 (0, 0))) := ⟨(hB.block _ (heap_lt f1.out)).trans f1.out⟩
    clear hB b1 f1
    have hl2 := heap_lt f2.out
    go_wp2_with (go_at_call 33; refine (hno _).mono ?_)
    rintro e w3 ⟨rfl, hB⟩
    have b3 : Below w.heap.size w w3 := b2.trans (hB.mono b2.size)
    have f3 : Box (w3.heap[w.heap.size]? = some (.cells zn 46 (0, 0))) := ⟨(hB.block _ hl2).trans f2.out⟩
    clear hB
    go_wp2_with ((with_reducible refine wpList_store_row rfl 46 (.tmp 4) (.tmp 19) ?_ w.heap.size zn nr 46 ?_ ?_ f3.out hs'.out hi'.out ha'.out ?_); rfl; rfl; rfl)
    intro w4 g4 G4
    have b4 : Below w.heap.size w w4 := b3.grown G4 b3.size (fun k hk => by cases hk; exact Nat.le_refl _)
    go_wp2
    exact bodyPost_ret (v := .tuple #[.agg nr, .int .i64 0]) (results_row_tmp (p := 4) (u := 5) (ty := 46) rfl _ _ w.heap.size 46 _ (0, 0) _ rfl g4.out Try.underlying46 rfl hi'.out _ rfl) rfl ⟨rfl, b4⟩
end Go.Proofs.Ytocfiabbhcgegaa
