/- Texts joined: Node, Text, Lay. -/
import Derived.Test.YteiepenanffhcaaDoorRows
import Derived.Test.YteiepenanffhcaaDoorP00
import Derived.ChangeKeysEq
/- Nodes, their children and their forms as cells; which of them may be so. -/
namespace Go.Proofs.YteiepenanffhcaaDoor
open Go Go.RowKit
set_option linter.unusedVariables false

/-- A child of a branch. -/
structure Child where
  page : Int
  count : Int
  sum : D32
/-- Its cells. -/
def chC (c : Child) : List Value := .int .i64 c.page :: .int .i64 c.count :: bvs c.sum.1
theorem length_chC (c : Child) : (chC c).length = 34 := by simp [chC, c.sum.2]
/-- Are two children the same? -/
def eqCh (a b : Child) : Bool := (a.page == b.page) && (a.count == b.count) && eqD a.sum b.sum
/-- No child. -/
def noChild : Child := ⟨0, 0, zero32⟩
/-- May a branch have this child? -/
def chStands (c : Child) : Bool := if c.page = 0 then eqCh c noChild else decide (2 ≤ c.page) && decide (c.page < 4096) && decide (0 < c.count) && decide (c.count ≤ 4096)

theorem chC_0 (c : Child) : (chC c).toArray[0]? = some (.int .i64 c.page) := rfl
theorem chC_1 (c : Child) : (chC c).toArray[1]? = some (.int .i64 c.count) := rfl
theorem chC_2 (c : Child) : (chC c).toArray.extract 2 34 = dc c.sum := by
  have h : ∀ (l : List Value), l.length = 32 → ∀ a b : Value, ((a :: b :: l).toArray).extract 2 34 = l.toArray := fun l hl a b => by
    apply Array.ext'
    simp [List.extract]
    exact List.take_of_length_le (by omega)
  exact h (bvs c.sum.1) (by rw [length_bvs, c.sum.2]) _ _

theorem part_int {P : Program} {t : TypeId} (ht : P.underlying t = some (.int .i64)) {xs : Array Value} {off : Nat} {v : Value} (hx : xs[off]? = some v) (w : World) : (part t xs off).run P w = .ok v w := by
  simp [part, isAgg, run_underlying ht, hx]
theorem part_d32 {P : Program} {t e : TypeId} (ht : P.underlying t = some (.array 32 e)) (hi : Hid ((P.info? t).map (·.size) = some 32)) {xs : Array Value} {off : Nat} (w : World) : (part t xs off).run P w = .ok (.agg (xs.extract off (off + 32))) w := by
  have hi' := hi.out
  cases hq : P.info? t with
  | none => simp [hq] at hi'
  | some i =>
    have hs : i.size = 32 := by simpa [hq] using hi'
    simp [part, isAgg, run_underlying ht, sizeOf, typeInfo, hq, hs]

theorem eqFields_cons {P : Program} {d : Nat} {xs ys : Array Value} {w : World} (f : Field) (fs : List Field) (t o : Nat) (ht : f.type = t) (ho : f.offset = o) (h : f.name ≠ "_") {a b : Value} {r : Bool} (pa : (part t xs o).run P w = .ok a w) (pb : (part t ys o).run P w = .ok b w)
    (e : (Op.equalIn d t a b).run P w = .ok r w) : (Op.eqFields d xs ys (f :: fs)).run P w = if r = true then (Op.eqFields d xs ys fs).run P w else .ok false w := by
  subst ht ho
  rw [Op.eqFields, if_pos h]
  simp only [Sem.run_bind, pa, pb, e, Result.andThen_ok]
  cases r <;> simp [Sem.run_pure]
theorem eqFields_nil {P : Program} {d : Nat} {xs ys : Array Value} {w : World} : (Op.eqFields d xs ys []).run P w = .ok true w := by rw [Op.eqFields]; rfl
theorem eq_child (a b : Child) (w : World) : (Op.equalIn 10000 75 (.agg (chC a).toArray) (.agg (chC b).toArray)).run Tryd.prog w = .ok (eqCh a b) w := by
  have ht : Tryd.prog.underlying 75 = some (.struct (Tryd.prog.fieldsOf 75)) := by kernel_rfl
  have hp : Tryd.prog.stoodInHeld 75 = false := by kernel_rfl
  have hf : (Tryd.prog.fieldsOf 75).toList.map (fun f => (f.name, f.type, f.offset)) = [("page", 3, 0), ("count", 3, 1), ("sum", 27, 2)] := by kernel_rfl
  rw [run_equalIn_struct w 9999 _ _ _ ht hp]
  have u3 : Tryd.prog.underlying 3 = some (.int .i64) := Tryd.underlying3
  have u30 : Tryd.prog.underlying 27 = some (.array 32 5) := Tryd.underlying27
  have hi30 : Hid ((Tryd.prog.info? 27).map (·.size) = some 32) := by unfold Hid; kernel_rfl
  have e30 : ∀ (x y : D32) (W : World), (Op.equalIn 9999 27 (.agg (dc x)) (.agg (dc y))).run Tryd.prog W = .ok (eqD x y) W := by
    obtain ⟨i5, hi5'⟩ := Option.isSome_iff_exists.1 (show (Tryd.prog.info? 5).isSome = true by kernel_rfl)
    exact fun x y W => equalIn_d32 (d := 9997) Tryd.underlying27 hi5' Tryd.underlying5 (by kernel_rfl) x y W
  have e3 : ∀ (x y : Int) (W : World), (Op.equalIn 9999 3 (.int .i64 x) (.int .i64 y)).run Tryd.prog W = .ok (x == y) W := fun x y W => run_equalIn_int W 9998 _ _ _ _ _ u3
  revert hf
  generalize (Tryd.prog.fieldsOf 75).toList = l
  intro hf
  have hlen : l.length = 3 := by simpa using congrArg List.length hf
  match l, hlen, hf with
  | [f1, f2, f3], _, hf =>
    simp only [List.map_cons, List.map_nil, List.cons.injEq, Prod.mk.injEq, and_true] at hf
    obtain ⟨⟨n1, t1, o1⟩, ⟨n2, t2, o2⟩, n3, t3, o3⟩ := hf
    have g1 : ∀ c : Child, (part 3 (chC c).toArray 0).run Tryd.prog w = .ok (.int .i64 c.page) w := fun c => part_int u3 (chC_0 c) w
    have g2 : ∀ c : Child, (part 3 (chC c).toArray 1).run Tryd.prog w = .ok (.int .i64 c.count) w := fun c => part_int u3 (chC_1 c) w
    have g3 : ∀ c : Child, (part 27 (chC c).toArray 2).run Tryd.prog w = .ok (.agg (dc c.sum)) w := fun c => by rw [part_d32 u30 hi30 w]; rw [chC_2]
    rw [eqFields_cons f1 _ _ _ t1 o1 (by rw [n1]; decide) (g1 a) (g1 b) (e3 _ _ w), eqFields_cons f2 _ _ _ t2 o2 (by rw [n2]; decide) (g2 a) (g2 b) (e3 _ _ w), eqFields_cons f3 _ _ _ t3 o3 (by rw [n3]; decide) (g3 a) (g3 b) (e30 _ _ w), eqFields_nil]
    unfold eqCh
    cases a.page == b.page <;> cases a.count == b.count <;> cases eqD a.sum b.sum <;> rfl
section
variable {P : Program} {S : World → Prop}
/-- A comparison of two structs or arrays: its answer is known. -/
theorem held_eqlA {o : Oper} {a : Act} {ops : Array Oper} (hw : Region.wanted o (yielded ops a.tmps) = true) (t t' : TypeId) (x y : Operand) (ho : o.op = .binOp .eql t x y t') (c d : Array Value) (r : Bool)
    (hx : a.eval x = .agg c) (hy : a.eval y = .agg d) (hm : P.eqGuardType P.depth t = false) (he : ∀ W, (Op.equalIn 10000 t (.agg c) (.agg d)).run P W = .ok r W) : YieldsIf P ops S o (.bool r) a :=
  held_pure hw fun W => by
    unfold execOp
    simp only [ho, hx, hy, Sem.run_bind, run_eql_struct, run_eqGuard_agg (hm := hm), he, Result.andThen_ok]
    rfl
end

theorem chC_all (c : Child) : (chC c).toArray.all (·.oneCell') = true := by
  rw [Array.all_eq_true_iff_forall_mem]
  intro v hv
  have hv' : v ∈ chC c := by simpa using hv
  unfold chC at hv'
  simp only [List.mem_cons] at hv'
  rcases hv' with rfl | rfl | h
  · rfl
  · rfl
  · exact bvs_oneCell _ v h

set_option maxRecDepth 100000 in
set_option maxHeartbeats 800000 in
theorem child_stands (c : Child) (w : World) : Calls Tryd.prog 83 #[.agg (chC c).toArray] w fun e w' => e = .returned (.bool (chStands c)) ∧ Below w.heap.size w w' := by
  have h0 := chC_0 c
  have h1 := chC_1 c
  have hz : Tryd.prog.built 75 [] = some (chC noChild).toArray := by kernel_rfl
  have hi : Box ((Tryd.prog.info? 75).map (·.size) = some (chC c).toArray.size) := ⟨by
    have h : (Tryd.prog.info? 75).map (·.size) = some 34 := by kernel_rfl
    rw [h, List.size_toArray, length_chC]⟩
  have hgd : Tryd.prog.eqGuardType Tryd.prog.depth 75 = false := by kernel_rfl
  by_cases hp : c.page = 0
  · have hs : chStands c = eqCh c noChild := by unfold chStands; rw [if_pos hp]
    rw [hs]
    have he : ∀ W, (Op.equalIn 10000 75 (.agg (chC c).toArray) (.agg (chC noChild).toArray)).run Tryd.prog W = .ok (eqCh c noChild) W := fun W => eq_child c noChild W
    generalize eqCh c noChild = r at he ⊢
    rw [hp] at h0
    clear hs hp
    generalize (chC noChild).toArray = zs at hz he
    generalize (chC c).toArray = cs at *
    go_enter Tryd.func83, Tryd.ntmps83
    go_wp2_with (first
      | ((with_reducible refine wpList_load_row rfl 75 (.tmp 1) ?_ w.heap.size ?_ 75 cs (0, 0) _ ?_ Tryd.underlying75 rfl hi.out ?_); rfl; rfl; exact heap_new rfl)
      | ((with_reducible refine wpList_builtg ?_ 75 [] ?_ [] ?_ zs hz ?_); rfl; rfl; rfl)
      | ((with_reducible refine wpList_yields ?_ (held_eqlA ?_ 75 75 (.tmp 6) (.tmp 7) ?_ cs zs r ?_ ?_ hgd he) ?_); rfl; rfl; rfl; rfl; rfl))
    go_ret
    exact ⟨rfl, Below.refl_alloc w _⟩
  · have hpf : (c.page == 0) = false := by rw [beq_eq_false_iff_ne]; exact hp
    have hs : chStands c = (decide (2 ≤ c.page) && decide (c.page < 4096) && decide (0 < c.count) && decide (c.count ≤ 4096)) := by unfold chStands; rw [if_neg hp]
    rw [hs]
    clear hs hi hz
    generalize c.page = p at *
    generalize c.count = q at *
    generalize (chC c).toArray = cs at *
    by_cases k1 : 2 ≤ p
    · by_cases k2 : p < 4096
      · by_cases k3 : 0 < q
        · by_cases k4 : q ≤ 4096
          all_goals
            go_enter Tryd.func83, Tryd.ntmps83
            go_wp2
            go_ret
            exact ⟨by simp <;> omega, Below.refl_alloc w _⟩
        · go_enter Tryd.func83, Tryd.ntmps83
          go_wp2
          go_ret
          exact ⟨by simp <;> omega, Below.refl_alloc w _⟩
      · go_enter Tryd.func83, Tryd.ntmps83
        go_wp2
        go_ret
        exact ⟨by simp <;> omega, Below.refl_alloc w _⟩
    · go_enter Tryd.func83, Tryd.ntmps83
      go_wp2
      go_ret
      exact ⟨by simp <;> omega, Below.refl_alloc w _⟩

/-- The cells of a branch. -/
def brC (l r : Child) : List Value := chC l ++ chC r
theorem length_brC (l r : Child) : (brC l r).length = 68 := by simp [brC, length_chC]
/-- May a branch be so? -/
def brStands (l r : Child) : Bool := chStands l && chStands r && (l.page != r.page) && decide (2 ≤ l.count + r.count) && decide (l.count + r.count ≤ 4096)
theorem chStands_count {c : Child} (h : chStands c = true) : 0 ≤ c.count ∧ c.count ≤ 4096 := by
  unfold chStands at h
  split at h
  · unfold eqCh noChild at h
    simp only [Bool.and_eq_true, beq_iff_eq] at h
    omega
  · simp only [Bool.and_eq_true, decide_eq_true_eq] at h
    omega
theorem brC_0 (l r : Child) : (brC l r).toArray[0]? = some (.int .i64 l.page) := rfl
theorem brC_1 (l r : Child) : (brC l r).toArray[1]? = some (.int .i64 l.count) := rfl
theorem brC_at (l r : Child) (i : Nat) : (brC l r).toArray[34 + i]? = (chC r).toArray[i]? := by
  rw [← Array.getElem?_toList, ← Array.getElem?_toList]
  show (chC l ++ chC r)[34 + i]? = (chC r)[i]?
  rw [List.getElem?_append_right (by rw [length_chC]; omega), length_chC, Nat.add_sub_cancel_left]
theorem rangeAt_cells {w : World} {b o : Nat} {C : Array Value} {e : TypeId} {fr : Nat × Nat} {cs : List Value} (hg : w.heap[b]? = some (.cells C e fr)) (h : ∀ j, j < cs.length → C[o + j]? = cs[j]?) : w.rangeAt b o cs := fun j v hj => by
  rw [cell_of_row w b (o + j) C e fr hg, h j (List.getElem?_eq_some_iff.1 hj).1, hj]
section
variable {P : Program} {Q : Exit → Act → World → Prop}
theorem wpList_load_midg {ops : Array Oper} {rest : List Oper} {o : Oper} {a : Act} {w : World} (hw : Region.wanted o (yielded ops a.tmps) = true) (ty : TypeId) (x : Operand) (ho : o.op = .load ty x)
    (b off : Nat) (hx : a.eval x = .pointer (some ⟨b, off, none⟩)) (cs : List Value) (d : TypeDesc) (hS : w.rangeAt b off cs) (hu : P.underlying ty = some d) (hd : d.isRow = true) (hi : (P.info? ty).map (·.size) = some cs.length)
    (h : wpList P ops Q rest (a.put o.dst (.agg cs.toArray)) w) : wpList P ops Q (o :: rest) a w :=
  wpList_yields hw (yieldsIf_load_mid hw ty x ho b off hx cs d (fun W hW => by rw [hW]; exact hS) hu hd hi) h
end

set_option maxRecDepth 100000 in
set_option maxHeartbeats 800000 in
theorem branch_stands (l r : Child) (w : World) : Calls Tryd.prog 85 #[.agg (brC l r).toArray] w fun e w' => e = .returned (.bool (brStands l r)) ∧ Below w.heap.size w w' := by
  have h0 := brC_0 l r
  have h1 := brC_1 l r
  have h34 : (brC l r).toArray[34]? = some (.int .i64 r.page) := (brC_at l r 0).trans (chC_0 r)
  have h35 : (brC l r).toArray[35]? = some (.int .i64 r.count) := (brC_at l r 1).trans (chC_1 r)
  have i79 : ∀ c : Child, Box ((Tryd.prog.info? 75).map (·.size) = some (chC c).length) := fun c => ⟨by
    have h : (Tryd.prog.info? 75).map (·.size) = some 34 := by kernel_rfl
    rw [h, length_chC]⟩
  have r0 : ∀ W : World, W.heap[w.heap.size]? = some (.cells (brC l r).toArray 77 (0, 0)) → W.rangeAt w.heap.size 0 (chC l) := fun W hW => rangeAt_cells hW fun j hj => by
    rw [Nat.zero_add, ← Array.getElem?_toList]
    show (chC l ++ chC r)[j]? = _
    rw [List.getElem?_append_left hj]
  have r34 : ∀ W : World, W.heap[w.heap.size]? = some (.cells (brC l r).toArray 77 (0, 0)) → W.rangeAt w.heap.size 34 (chC r) := fun W hW => rangeAt_cells hW fun j hj => by
    rw [brC_at, ← Array.getElem?_toList]
  have sl : ∀ W, _ := fun W => child_stands l W
  have sr : ∀ W, _ := fun W => child_stands r W
  have hI1 := (i79 l).out
  have hI2 := (i79 r).out
  have HR0 := Box.mk r0
  have HR34 := Box.mk r34
  clear r0 r34 i79
  have key : (chStands l = false ∧ brStands l r = false) ∨ (chStands l = true ∧ chStands r = false ∧ brStands l r = false) ∨
      (chStands l = true ∧ chStands r = true ∧ wrap64 (l.count + r.count) = l.count + r.count ∧ brStands l r = ((l.page != r.page) && decide (2 ≤ l.count + r.count) && decide (l.count + r.count ≤ 4096))) := by
    unfold brStands
    cases hl : chStands l
    · exact .inl ⟨rfl, by simp⟩
    · cases hr : chStands r
      · exact .inr (.inl ⟨rfl, rfl, by simp⟩)
      · have b1 := chStands_count hl
        have b2 := chStands_count hr
        exact .inr (.inr ⟨rfl, rfl, by unfold wrap64; omega, by simp⟩)
  generalize (chC l) = cl at *
  generalize (chC r) = cr at *
  generalize (brC l r).toArray = cs at *
  -- BST
  rcases key with ⟨k1, k2⟩ | ⟨k1, k2, k3⟩ | ⟨k1, k2, k3, k4⟩
  · rw [k2]
    simp only [k1] at sl
    clear k1 k2
    go_enter Tryd.func85, Tryd.ntmps85
    go_wp2_with (first
      | ((with_reducible refine wpList_load_midg ?_ 75 (.tmp 12) ?_ w.heap.size 0 ?_ cl _ ?_ Tryd.underlying75 rfl hI1 ?_); rfl; rfl; rfl; exact HR0.out _ (heap_new rfl))
      | ((with_reducible refine wpList_load_midg ?_ 75 (.tmp 11) ?_ w.heap.size 0 ?_ cl _ ?_ Tryd.underlying75 rfl hI1 ?_); rfl; rfl; rfl; exact HR0.out _ (heap_new rfl))
      | (go_at_call 83; refine (sl _).mono ?_))
    rintro e w1 ⟨rfl, hB⟩
    have b1 : Below w.heap.size w w1 := (Below.refl_alloc w _).trans (hB.mono (by simp))
    go_wp2
    go_ret
    exact ⟨rfl, b1⟩
  · rw [k3]
    simp only [k1] at sl
    simp only [k2] at sr
    clear k1 k2 k3
    go_enter Tryd.func85, Tryd.ntmps85
    go_wp2_with (first
      | ((with_reducible refine wpList_load_midg ?_ 75 (.tmp 12) ?_ w.heap.size 0 ?_ cl _ ?_ Tryd.underlying75 rfl hI1 ?_); rfl; rfl; rfl; exact HR0.out _ (heap_new rfl))
      | ((with_reducible refine wpList_load_midg ?_ 75 (.tmp 11) ?_ w.heap.size 0 ?_ cl _ ?_ Tryd.underlying75 rfl hI1 ?_); rfl; rfl; rfl; exact HR0.out _ (heap_new rfl))
      | (go_at_call 83; refine (sl _).mono ?_))
    rintro e w1 ⟨rfl, hB⟩
    have b1 : Below w.heap.size w w1 := (Below.refl_alloc w _).trans (hB.mono (by simp))
    have g1 : Box (w1.heap[w.heap.size]? = some (.cells cs 77 (0, 0))) := ⟨(hB.block _ (by simp)).trans (heap_new rfl)⟩
    clear hB sl
    go_wp2_with (first
      | ((with_reducible refine wpList_load_midg ?_ 75 (.tmp 15) ?_ w.heap.size 34 ?_ cr _ ?_ Tryd.underlying75 rfl hI2 ?_); rfl; rfl; rfl; exact HR34.out _ g1.out)
      | (go_at_call 83; refine (sr _).mono ?_))
    rintro e w2 ⟨rfl, hB2⟩
    have b2 : Below w.heap.size w w2 := b1.trans (hB2.mono b1.size)
    go_wp2
    go_ret
    exact ⟨rfl, b2⟩
  · rw [k4]
    simp only [k1] at sl
    simp only [k2] at sr
    clear k1 k2 k4
    generalize l.page = lp at *
    generalize r.page = rp at *
    generalize l.count = lc at *
    generalize r.count = rc at *
    have HK3 := Box.mk k3
    rcases Int.lt_trichotomy lp rp with m1 | m1 | m1
    · have m0 : (lp != rp) = true := by rw [bne_iff_ne]; omega
      rw [m0, Bool.true_and]
      rcases Int.lt_or_le (lc + rc) 2 with m2 | m2
      · rw [decide_eq_false (by omega), Bool.false_and]
        go_enter Tryd.func85, Tryd.ntmps85
        go_wp2_with (first
          | ((with_reducible refine wpList_load_midg ?_ 75 (.tmp 12) ?_ w.heap.size 0 ?_ cl _ ?_ Tryd.underlying75 rfl hI1 ?_); rfl; rfl; rfl; exact HR0.out _ (heap_new rfl))
          | ((with_reducible refine wpList_load_midg ?_ 75 (.tmp 11) ?_ w.heap.size 0 ?_ cl _ ?_ Tryd.underlying75 rfl hI1 ?_); rfl; rfl; rfl; exact HR0.out _ (heap_new rfl))
          | (go_at_call 83; refine (sl _).mono ?_))
        rintro e w1 ⟨rfl, hB⟩
        have b1 : Below w.heap.size w w1 := (Below.refl_alloc w _).trans (hB.mono (by simp))
        have g1 : Box (w1.heap[w.heap.size]? = some (.cells cs 77 (0, 0))) := ⟨(hB.block _ (by simp)).trans (heap_new rfl)⟩
        clear hB sl
        go_wp2_with (first
          | ((with_reducible refine wpList_load_midg ?_ 75 (.tmp 15) ?_ w.heap.size 34 ?_ cr _ ?_ Tryd.underlying75 rfl hI2 ?_); rfl; rfl; rfl; exact HR34.out _ g1.out)
          | (go_at_call 83; refine (sr _).mono ?_))
        rintro e w2 ⟨rfl, hB2⟩
        have b2 : Below w.heap.size w w2 := b1.trans (hB2.mono b1.size)
        have g2 : Box (w2.heap[w.heap.size]? = some (.cells cs 77 (0, 0))) := ⟨(hB2.block _ (heap_lt g1.out)).trans g1.out⟩
        have c0 : w2.cell? ⟨w.heap.size, 0, none⟩ = some (.int .i64 lp) := by rw [cell_of_row w2 _ 0 _ _ _ g2.out]; exact h0
        have c34 : w2.cell? ⟨w.heap.size, 34, none⟩ = some (.int .i64 rp) := by rw [cell_of_row w2 _ 34 _ _ _ g2.out]; exact h34
        clear hB2 sr g1
        go_wp2
        go_ret
        exact ⟨rfl, b2⟩
      · rw [decide_eq_true m2, Bool.true_and]
        rcases Int.lt_or_le 4096 (lc + rc) with m3 | m3
        · rw [decide_eq_false (by omega)]
          go_enter Tryd.func85, Tryd.ntmps85
          go_wp2_with (first
            | ((with_reducible refine wpList_load_midg ?_ 75 (.tmp 12) ?_ w.heap.size 0 ?_ cl _ ?_ Tryd.underlying75 rfl hI1 ?_); rfl; rfl; rfl; exact HR0.out _ (heap_new rfl))
            | ((with_reducible refine wpList_load_midg ?_ 75 (.tmp 11) ?_ w.heap.size 0 ?_ cl _ ?_ Tryd.underlying75 rfl hI1 ?_); rfl; rfl; rfl; exact HR0.out _ (heap_new rfl))
            | (go_at_call 83; refine (sl _).mono ?_))
          rintro e w1 ⟨rfl, hB⟩
          have b1 : Below w.heap.size w w1 := (Below.refl_alloc w _).trans (hB.mono (by simp))
          have g1 : Box (w1.heap[w.heap.size]? = some (.cells cs 77 (0, 0))) := ⟨(hB.block _ (by simp)).trans (heap_new rfl)⟩
          clear hB sl
          go_wp2_with (first
            | ((with_reducible refine wpList_load_midg ?_ 75 (.tmp 15) ?_ w.heap.size 34 ?_ cr _ ?_ Tryd.underlying75 rfl hI2 ?_); rfl; rfl; rfl; exact HR34.out _ g1.out)
            | (go_at_call 83; refine (sr _).mono ?_))
          rintro e w2 ⟨rfl, hB2⟩
          have b2 : Below w.heap.size w w2 := b1.trans (hB2.mono b1.size)
          have g2 : Box (w2.heap[w.heap.size]? = some (.cells cs 77 (0, 0))) := ⟨(hB2.block _ (heap_lt g1.out)).trans g1.out⟩
          have c0 : w2.cell? ⟨w.heap.size, 0, none⟩ = some (.int .i64 lp) := by rw [cell_of_row w2 _ 0 _ _ _ g2.out]; exact h0
          have c34 : w2.cell? ⟨w.heap.size, 34, none⟩ = some (.int .i64 rp) := by rw [cell_of_row w2 _ 34 _ _ _ g2.out]; exact h34
          clear hB2 sr g1
          go_wp2
          go_ret
          exact ⟨by show Ending.returned (Value.bool (decide (lc + rc ≤ 4096))) = _; rw [decide_eq_false (by omega)], b2⟩
        · rw [decide_eq_true m3]
          go_enter Tryd.func85, Tryd.ntmps85
          go_wp2_with (first
            | ((with_reducible refine wpList_load_midg ?_ 75 (.tmp 12) ?_ w.heap.size 0 ?_ cl _ ?_ Tryd.underlying75 rfl hI1 ?_); rfl; rfl; rfl; exact HR0.out _ (heap_new rfl))
            | ((with_reducible refine wpList_load_midg ?_ 75 (.tmp 11) ?_ w.heap.size 0 ?_ cl _ ?_ Tryd.underlying75 rfl hI1 ?_); rfl; rfl; rfl; exact HR0.out _ (heap_new rfl))
            | (go_at_call 83; refine (sl _).mono ?_))
          rintro e w1 ⟨rfl, hB⟩
          have b1 : Below w.heap.size w w1 := (Below.refl_alloc w _).trans (hB.mono (by simp))
          have g1 : Box (w1.heap[w.heap.size]? = some (.cells cs 77 (0, 0))) := ⟨(hB.block _ (by simp)).trans (heap_new rfl)⟩
          clear hB sl
          go_wp2_with (first
            | ((with_reducible refine wpList_load_midg ?_ 75 (.tmp 15) ?_ w.heap.size 34 ?_ cr _ ?_ Tryd.underlying75 rfl hI2 ?_); rfl; rfl; rfl; exact HR34.out _ g1.out)
            | (go_at_call 83; refine (sr _).mono ?_))
          rintro e w2 ⟨rfl, hB2⟩
          have b2 : Below w.heap.size w w2 := b1.trans (hB2.mono b1.size)
          have g2 : Box (w2.heap[w.heap.size]? = some (.cells cs 77 (0, 0))) := ⟨(hB2.block _ (heap_lt g1.out)).trans g1.out⟩
          have c0 : w2.cell? ⟨w.heap.size, 0, none⟩ = some (.int .i64 lp) := by rw [cell_of_row w2 _ 0 _ _ _ g2.out]; exact h0
          have c34 : w2.cell? ⟨w.heap.size, 34, none⟩ = some (.int .i64 rp) := by rw [cell_of_row w2 _ 34 _ _ _ g2.out]; exact h34
          clear hB2 sr g1
          go_wp2
          go_ret
          exact ⟨rfl, b2⟩
    · have m0 : (lp != rp) = false := by rw [bne_eq_false_iff_eq]; exact m1
      rw [m0, Bool.false_and, Bool.false_and]
      subst m1
      go_enter Tryd.func85, Tryd.ntmps85
      go_wp2_with (first
        | ((with_reducible refine wpList_load_midg ?_ 75 (.tmp 12) ?_ w.heap.size 0 ?_ cl _ ?_ Tryd.underlying75 rfl hI1 ?_); rfl; rfl; rfl; exact HR0.out _ (heap_new rfl))
        | ((with_reducible refine wpList_load_midg ?_ 75 (.tmp 11) ?_ w.heap.size 0 ?_ cl _ ?_ Tryd.underlying75 rfl hI1 ?_); rfl; rfl; rfl; exact HR0.out _ (heap_new rfl))
        | (go_at_call 83; refine (sl _).mono ?_))
      rintro e w1 ⟨rfl, hB⟩
      have b1 : Below w.heap.size w w1 := (Below.refl_alloc w _).trans (hB.mono (by simp))
      have g1 : Box (w1.heap[w.heap.size]? = some (.cells cs 77 (0, 0))) := ⟨(hB.block _ (by simp)).trans (heap_new rfl)⟩
      clear hB sl
      go_wp2_with (first
        | ((with_reducible refine wpList_load_midg ?_ 75 (.tmp 15) ?_ w.heap.size 34 ?_ cr _ ?_ Tryd.underlying75 rfl hI2 ?_); rfl; rfl; rfl; exact HR34.out _ g1.out)
        | (go_at_call 83; refine (sr _).mono ?_))
      rintro e w2 ⟨rfl, hB2⟩
      have b2 : Below w.heap.size w w2 := b1.trans (hB2.mono b1.size)
      have g2 : Box (w2.heap[w.heap.size]? = some (.cells cs 77 (0, 0))) := ⟨(hB2.block _ (heap_lt g1.out)).trans g1.out⟩
      have c0 : w2.cell? ⟨w.heap.size, 0, none⟩ = some (.int .i64 lp) := by rw [cell_of_row w2 _ 0 _ _ _ g2.out]; exact h0
      have c34 : w2.cell? ⟨w.heap.size, 34, none⟩ = some (.int .i64 lp) := by rw [cell_of_row w2 _ 34 _ _ _ g2.out]; exact h34
      clear hB2 sr g1
      go_wp2
      go_ret
      exact ⟨rfl, b2⟩
    · have m0 : (lp != rp) = true := by rw [bne_iff_ne]; omega
      rw [m0, Bool.true_and]
      rcases Int.lt_or_le (lc + rc) 2 with m2 | m2
      · rw [decide_eq_false (by omega), Bool.false_and]
        go_enter Tryd.func85, Tryd.ntmps85
        go_wp2_with (first
          | ((with_reducible refine wpList_load_midg ?_ 75 (.tmp 12) ?_ w.heap.size 0 ?_ cl _ ?_ Tryd.underlying75 rfl hI1 ?_); rfl; rfl; rfl; exact HR0.out _ (heap_new rfl))
          | ((with_reducible refine wpList_load_midg ?_ 75 (.tmp 11) ?_ w.heap.size 0 ?_ cl _ ?_ Tryd.underlying75 rfl hI1 ?_); rfl; rfl; rfl; exact HR0.out _ (heap_new rfl))
          | (go_at_call 83; refine (sl _).mono ?_))
        rintro e w1 ⟨rfl, hB⟩
        have b1 : Below w.heap.size w w1 := (Below.refl_alloc w _).trans (hB.mono (by simp))
        have g1 : Box (w1.heap[w.heap.size]? = some (.cells cs 77 (0, 0))) := ⟨(hB.block _ (by simp)).trans (heap_new rfl)⟩
        clear hB sl
        go_wp2_with (first
          | ((with_reducible refine wpList_load_midg ?_ 75 (.tmp 15) ?_ w.heap.size 34 ?_ cr _ ?_ Tryd.underlying75 rfl hI2 ?_); rfl; rfl; rfl; exact HR34.out _ g1.out)
          | (go_at_call 83; refine (sr _).mono ?_))
        rintro e w2 ⟨rfl, hB2⟩
        have b2 : Below w.heap.size w w2 := b1.trans (hB2.mono b1.size)
        have g2 : Box (w2.heap[w.heap.size]? = some (.cells cs 77 (0, 0))) := ⟨(hB2.block _ (heap_lt g1.out)).trans g1.out⟩
        have c0 : w2.cell? ⟨w.heap.size, 0, none⟩ = some (.int .i64 lp) := by rw [cell_of_row w2 _ 0 _ _ _ g2.out]; exact h0
        have c34 : w2.cell? ⟨w.heap.size, 34, none⟩ = some (.int .i64 rp) := by rw [cell_of_row w2 _ 34 _ _ _ g2.out]; exact h34
        clear hB2 sr g1
        go_wp2
        go_ret
        exact ⟨rfl, b2⟩
      · rw [decide_eq_true m2, Bool.true_and]
        rcases Int.lt_or_le 4096 (lc + rc) with m3 | m3
        · rw [decide_eq_false (by omega)]
          go_enter Tryd.func85, Tryd.ntmps85
          go_wp2_with (first
            | ((with_reducible refine wpList_load_midg ?_ 75 (.tmp 12) ?_ w.heap.size 0 ?_ cl _ ?_ Tryd.underlying75 rfl hI1 ?_); rfl; rfl; rfl; exact HR0.out _ (heap_new rfl))
            | ((with_reducible refine wpList_load_midg ?_ 75 (.tmp 11) ?_ w.heap.size 0 ?_ cl _ ?_ Tryd.underlying75 rfl hI1 ?_); rfl; rfl; rfl; exact HR0.out _ (heap_new rfl))
            | (go_at_call 83; refine (sl _).mono ?_))
          rintro e w1 ⟨rfl, hB⟩
          have b1 : Below w.heap.size w w1 := (Below.refl_alloc w _).trans (hB.mono (by simp))
          have g1 : Box (w1.heap[w.heap.size]? = some (.cells cs 77 (0, 0))) := ⟨(hB.block _ (by simp)).trans (heap_new rfl)⟩
          clear hB sl
          go_wp2_with (first
            | ((with_reducible refine wpList_load_midg ?_ 75 (.tmp 15) ?_ w.heap.size 34 ?_ cr _ ?_ Tryd.underlying75 rfl hI2 ?_); rfl; rfl; rfl; exact HR34.out _ g1.out)
            | (go_at_call 83; refine (sr _).mono ?_))
          rintro e w2 ⟨rfl, hB2⟩
          have b2 : Below w.heap.size w w2 := b1.trans (hB2.mono b1.size)
          have g2 : Box (w2.heap[w.heap.size]? = some (.cells cs 77 (0, 0))) := ⟨(hB2.block _ (heap_lt g1.out)).trans g1.out⟩
          have c0 : w2.cell? ⟨w.heap.size, 0, none⟩ = some (.int .i64 lp) := by rw [cell_of_row w2 _ 0 _ _ _ g2.out]; exact h0
          have c34 : w2.cell? ⟨w.heap.size, 34, none⟩ = some (.int .i64 rp) := by rw [cell_of_row w2 _ 34 _ _ _ g2.out]; exact h34
          clear hB2 sr g1
          go_wp2
          go_ret
          exact ⟨by show Ending.returned (Value.bool (decide (lc + rc ≤ 4096))) = _; rw [decide_eq_false (by omega)], b2⟩
        · rw [decide_eq_true m3]
          go_enter Tryd.func85, Tryd.ntmps85
          go_wp2_with (first
            | ((with_reducible refine wpList_load_midg ?_ 75 (.tmp 12) ?_ w.heap.size 0 ?_ cl _ ?_ Tryd.underlying75 rfl hI1 ?_); rfl; rfl; rfl; exact HR0.out _ (heap_new rfl))
            | ((with_reducible refine wpList_load_midg ?_ 75 (.tmp 11) ?_ w.heap.size 0 ?_ cl _ ?_ Tryd.underlying75 rfl hI1 ?_); rfl; rfl; rfl; exact HR0.out _ (heap_new rfl))
            | (go_at_call 83; refine (sl _).mono ?_))
          rintro e w1 ⟨rfl, hB⟩
          have b1 : Below w.heap.size w w1 := (Below.refl_alloc w _).trans (hB.mono (by simp))
          have g1 : Box (w1.heap[w.heap.size]? = some (.cells cs 77 (0, 0))) := ⟨(hB.block _ (by simp)).trans (heap_new rfl)⟩
          clear hB sl
          go_wp2_with (first
            | ((with_reducible refine wpList_load_midg ?_ 75 (.tmp 15) ?_ w.heap.size 34 ?_ cr _ ?_ Tryd.underlying75 rfl hI2 ?_); rfl; rfl; rfl; exact HR34.out _ g1.out)
            | (go_at_call 83; refine (sr _).mono ?_))
          rintro e w2 ⟨rfl, hB2⟩
          have b2 : Below w.heap.size w w2 := b1.trans (hB2.mono b1.size)
          have g2 : Box (w2.heap[w.heap.size]? = some (.cells cs 77 (0, 0))) := ⟨(hB2.block _ (heap_lt g1.out)).trans g1.out⟩
          have c0 : w2.cell? ⟨w.heap.size, 0, none⟩ = some (.int .i64 lp) := by rw [cell_of_row w2 _ 0 _ _ _ g2.out]; exact h0
          have c34 : w2.cell? ⟨w.heap.size, 34, none⟩ = some (.int .i64 rp) := by rw [cell_of_row w2 _ 34 _ _ _ g2.out]; exact h34
          clear hB2 sr g1
          go_wp2
          go_ret
          exact ⟨rfl, b2⟩
  -- BSTEND
end Go.Proofs.YteiepenanffhcaaDoor

namespace Go.Proofs.YteiepenanffhcaaDoor
open Go Go.RowKit

theorem byteTy : ByteTy Tryd.prog 28 5 := by
  have h : (Tryd.prog.info? 5).map (fun i => (i.zero, i.size, i.bytes)) = some (some (.int .u8 0), 1, 1) := by kernel_rfl
  obtain ⟨i, h1, h2, h3, h4⟩ := info_parts h
  exact ⟨i, Tryd.underlying28, h1, h2, h3, h4⟩

theorem ret_int {k : IntKind} {a b : Int} (h : a = b) : Ending.returned (.int k a) = .returned (.int k b) := by rw [h]
set_option maxHeartbeats 400000 in
theorem leafText_any (kk : D32) (ao : Option Addr) (n c : Nat) (l : List UInt8) (w : World) (h : Row w ao n l) (hn : ao = none → n = 0 ∧ c = 0) (hb : n ≤ 140737488351232) :
    Calls Tryd.prog 23 #[.agg (dc kk), .slice ao n c] w fun e w' => ∃ g cap, e = .returned (.slice (some ⟨g, 0, none⟩) (33 + n) cap) ∧ Own w' w.heap.size 5 (.slice (some ⟨g, 0, none⟩) (33 + n) cap) (0 :: (kk.1 ++ l)) ∧ Below w.heap.size w w' := by
  go_enter Tryd.func23, Tryd.ntmps23
  go_wp2_with (first
    | (refine wpList_make_bytes byteTy _ rfl _ _ rfl w.heap.size _ _ _ (33 + n) rfl rfl (by go_num) (by omega) ?_ ?_)
    )
  · simp
  intro w1 hown1 hg1 hs1
  go_wp2_with (first
    | (refine wpList_append_room byteTy _ rfl (.tmp 9) (.tmp 10) rfl w.heap.size _ 0 (33 + n) [] rfl rfl (hown1.alloc _) (some ⟨w1.heap.size, 0, none⟩) 1 1 [0] rfl (by simp) ?_ (by omega) ?_))
  · exact Row.lit w1 _ 5 [0] rfl
  intro w2 hown2 hg2
  have hsz1 : w.heap.size + 1 ≤ w1.heap.size := by omega
  have hb1 : Below (w.heap.size + 1) (w.alloc (.cells (dc kk) 26)) w1 := (Below.refl _ _).grown hg1 (by simp) (fun k hk => by cases hk)
  have hb2 : Below (w.heap.size + 1) (w.alloc (.cells (dc kk) 26)) w2 := (hb1.alloc hsz1 _).grown hg2 (by simp; omega) (fun k hk => by cases hk; omega)
  have hb2' : Below w.heap.size w w2 := (Below.refl_alloc w _).trans (hb2.mono (by omega))
  have hsz2 : w.heap.size ≤ w2.heap.size := hb2'.size
  go_wp2_with (first
    | (refine wpList_append_room byteTy _ rfl (.tmp 12) (.tmp 13) rfl w.heap.size _ 1 (33 + n) _ rfl rfl hown2 (some ⟨w.heap.size, 0, none⟩) 32 32 kk.1 rfl (by simp) ?_ (by omega) ?_)
    | (refine wpList_append_room byteTy _ rfl (.tmp 14) (.tmp 15) rfl w.heap.size _ 33 (33 + n) _ rfl ?_ (by assumption) ao n c l rfl hn ?_ (by omega) ?_))
  · have := (Row.lit w (dc kk) 26 kk.1 (dc_toList kk)).below hb2 (fun b o e => by cases e; omega)
    rwa [kk.2] at this
  intro w3 hown3 hg3
  have hb3 : Below w.heap.size w w3 := (hb2'.grown hg3 hsz2 (fun k hk => by cases hk; omega))
  go_wp2_with (first
    | (refine wpList_append_room byteTy _ rfl (.tmp 14) (.tmp 15) rfl w.heap.size _ 33 (33 + n) _ rfl ?_ hown3 ao n c l rfl hn ?_ (by omega) ?_))
  · simp [kk.2]
  · exact h.old hb3
  intro w4 hown4 hg4
  have hb4 : Below w.heap.size w w4 := (hb3.grown hg4 (Nat.le_trans hsz2 hg3.size) (fun k hk => by cases hk; omega))
  go_wp2
  go_ret
  exact ⟨_, _, rfl, by simpa using hown4, hb4⟩

/-- A width held within its bounds. -/
def clamp (n lo hi : Int) : Int := max lo (min n hi)
theorem within_any (n lo hi : Int) (w : World) : Calls Tryd.prog 45 #[.int .i64 n, .int .i64 lo, .int .i64 hi] w fun e w' => e = .returned (.int .i64 (clamp n lo hi)) ∧ w = w' := by
  by_cases h1 : hi < n
  · by_cases h2 : lo < hi
    all_goals
      go_enter Tryd.func45, Tryd.ntmps45
      go_wp2
      go_ret
      exact ⟨ret_int (by unfold clamp; omega), rfl⟩
  · by_cases h2 : lo < n
    all_goals
      go_enter Tryd.func45, Tryd.ntmps45
      go_wp2
      go_ret
      exact ⟨ret_int (by unfold clamp; omega), rfl⟩

/-- The statements' own 'within', its ends in order. -/
theorem lwithin_any (n lo hi : Int) (w : World) (h : lo ≤ hi) : Calls Tryd.prog 46 #[.int .i64 n, .int .i64 lo, .int .i64 hi] w fun e w' => e = .returned (.int .i64 (clamp n lo hi)) ∧ w = w' := by
  by_cases h1 : n < lo
  · go_enter Tryd.func46, Tryd.ntmps46
    go_wp2
    go_ret
    exact ⟨ret_int (by unfold clamp; omega), rfl⟩
  · by_cases h2 : hi < n
    all_goals
      go_enter Tryd.func46, Tryd.ntmps46
      go_wp2
      go_ret
      exact ⟨ret_int (by unfold clamp; omega), rfl⟩

/-- The number of bytes that count at a width. -/
def wid (width : Int) : Nat := (clamp width 0 32).toNat
theorem wid_eq (width : Int) : clamp width 0 32 = (wid width : Int) := by unfold wid clamp; omega
theorem wid_le (width : Int) : wid width ≤ 32 := by unfold wid clamp; omega

set_option maxHeartbeats 400000 in
theorem branchText_any (width : Int) (ll rr : D32) (w : World) :
    Calls Tryd.prog 28 #[.int .i64 width, .agg (dc ll), .agg (dc rr)] w fun e w' => ∃ g cap, e = .returned (.slice (some ⟨g, 0, none⟩) (1 + 2 * wid width) cap) ∧
      Own w' w.heap.size 5 (.slice (some ⟨g, 0, none⟩) (1 + 2 * wid width) cap) (1 :: (ll.1.take (wid width) ++ rr.1.take (wid width))) ∧ Below w.heap.size w w' := by
  have hc := wid_eq width
  have hc32 := wid_le width
  generalize wid width = c at hc hc32 ⊢
  have hll := ll.2
  have hrr0 := rr.2
  have hl1 : 32 ≤ ll.1.length := by omega
  have hl2 : 32 ≤ rr.1.length := by omega
  have hl3 : (ll.1.take c).length = c := by rw [List.length_take]; omega
  clear hll hrr0
  have HL3 := Lib.hid hl3
  clear hl3
  have HC := Lib.hid hc
  clear hc
  go_enter Tryd.func28, Tryd.ntmps28
  go_wp2_with (first
    | (go_at_call 45; refine (within_any _ _ _ _).mono ?_; rintro e w' ⟨rfl, rfl⟩; rw [HC.out])
    | (refine wpList_make_bytes byteTy _ rfl _ _ rfl w.heap.size _ _ _ (1 + 2 * c) rfl rfl (by go_num) (by omega) ?_ ?_))
  · simp; omega
  intro w1 hown1 hg1 hs1
  go_wp2_with (first
    | (refine wpList_append_room byteTy _ rfl (.tmp 14) (.tmp 15) rfl w.heap.size _ 0 (1 + 2 * c) [] rfl rfl (hown1.alloc _) (some ⟨w1.heap.size, 0, none⟩) 1 1 [1] rfl (by simp) ?_ (by omega) ?_))
  · exact Row.lit w1 _ 5 [1] rfl
  intro w2 hown2 hg2
  have hb1 : Below (w.heap.size + 2) ((w.alloc (.cells (dc ll) 27)).alloc (.cells (dc rr) 27)) w1 := (Below.refl _ _).grown hg1 (by simp) (fun k hk => by cases hk)
  have hb2 : Below (w.heap.size + 2) ((w.alloc (.cells (dc ll) 27)).alloc (.cells (dc rr) 27)) w2 := (hb1.alloc (by omega) _).grown hg2 (by simp; omega) (fun k hk => by cases hk; omega)
  have hbw : Below w.heap.size w w2 := ((Below.refl_alloc w _).alloc (by simp) _).trans (hb2.mono (by omega))
  have hrl : Row w2 (some ⟨w.heap.size, 0, none⟩) c (ll.1.take c) := (((((Row.lit w (dc ll) 27 ll.1 (dc_toList ll)).old ((Below.refl _ _).alloc (Nat.le_refl _) _)).below hb2 (fun b o e => by cases e; omega))).take c (by omega))
  have hrr : Row w2 (some ⟨w.heap.size + 1, 0, none⟩) c (rr.1.take c) := by
    have := ((Row.lit (w.alloc (.cells (dc ll) 27)) (dc rr) 27 rr.1 (dc_toList rr)).below hb2 (fun b o e => by cases e; simp)).take c (by omega)
    simpa using this
  have hlt1 : w.heap.size + 1 < w2.heap.size := by have := hb2.size; simp at this; omega
  have hrr' : Row w2.drew (some ⟨w.heap.size + 1, 0, none⟩) c (rr.1.take c) := hrr
  have hne1 : (some (w.heap.size + 1 + 1) : Option Nat) ≠ some (w.heap.size + 1) := by simp
  have hal : Tryd.prog.arrayLen 27 = 32 := by kernel_rfl
  have hcc : (c : Int) ≤ 32 := by omega
  go_wp2
  go_region_law (first
    | (refine step_append_bytes byteTy rfl (.tmp 17) (.tmp 19) rfl w.heap.size _ 1 (1 + 2 * c) _ rfl rfl hown2 ⟨w.heap.size, 0, none⟩ c 32 (ll.1.take c) rfl hrl (by omega) ?_; intro w3 hown3 hg3)
    | (refine step_append_bytes byteTy rfl (.tmp 20) (.tmp 22) rfl w.heap.size _ (1 + c) (1 + 2 * c) _ rfl (by rw [List.length_append, HL3.out]; rfl) hown3 ⟨w.heap.size + 1, 0, none⟩ c 32 (rr.1.take c) rfl (hrr'.grown hg3 (by exact hlt1) (by exact hne1)) (by omega) ?_; intro w4 hown4 hg4))
  have hb3 : Below w.heap.size w w3 := hbw.drew.grown hg3 (by have := hbw.size; simpa using this) (fun k hk => by cases hk; omega)
  have hb4 : Below w.heap.size w w4 := hb3.grown hg4 hb3.size (fun k hk => by cases hk; omega)
  have hfin : Own w4 w.heap.size 5 (.slice (some ⟨w.heap.size + 1 + 1, 0, none⟩) (1 + 2 * c) (1 + 2 * c)) (1 :: (ll.1.take c ++ rr.1.take c)) := by
    have e : 1 + c + c = 1 + 2 * c := by omega
    rw [e] at hown4; simpa using hown4
  have e12 : 1 + c + c = 1 + 2 * c := by omega
  have HE := Lib.hid e12
  clear e12
  go_wp2
  go_ret
  exact ⟨_, _, by rw [← HE.out]; rfl, hfin, hb4⟩
end Go.Proofs.YteiepenanffhcaaDoor

/- Leaves and branches as bytes: the walks of lay; a law for one operation out of the law for a list. -/
namespace Go.Proofs.YteiepenanffhcaaDoor
open Go Go.RowKit
set_option linter.unusedVariables false

section
variable {P : Program}
theorem oper_mono2 {o : Oper} {a : Act} {w : World} {K K' : Act → World → Prop} {Q Q' : Exit → Act → World → Prop} (h : ∀ a w, K a w → K' a w) (hq : ∀ e a w, e ≠ .normal → Q e a w → Q' e a w)
    (hh : o.wp P a w K Q) : o.wp P a w K' Q' := by
  have hl : LetsOut Q → LetsOut Q' := fun ⟨a, w, x⟩ => ⟨a, w, hq _ _ _ (by intro e; cases e) x⟩
  unfold Oper.wp at *
  generalize (execOp a.eval o).run P w = r at *
  cases r with
  | ok n w' =>
    cases n <;> simp only [Oper.upon] at hh ⊢ <;>
      first
        | exact h _ _ hh
        | exact Calls.mono hh (fun e w'' he => by cases e <;> first | exact h _ _ he | exact hq _ _ _ (by intro e; cases e) he | exact hl he)
        | exact Rows.mono hh (fun _ _ he => h _ _ he)
  | halt x w' => cases x <;> simp only [Oper.upon] at hh ⊢ <;> first | exact hh | exact hq _ _ _ (by intro e; cases e) hh | exact hl hh
/-- From the law for a list of operations to one operation of a region that draws. -/
theorem oper_of_list {o : Oper} {a : Act} {w : World} {K : Act → World → Prop} {Q : Exit → Act → World → Prop} (hg : o.guard = none)
    (h : wpList P #[] (fun e a w => e = .normal ∧ K a w) [o] a w) : o.wp P a w K Q := by
  have hw : Region.wanted o (yielded #[] a.tmps) = true := by simp [Region.wanted, hg]
  unfold wpList at h
  rw [if_pos hw] at h
  rcases h with h | ⟨_, a', w', h, _⟩
  · exact oper_mono2 (fun a w h => h.2) (fun e a w h1 h2 => absurd h2.1 h1) h
  · cases h
end
/-- The cells of a leaf. -/
def leafC (k : D32) (v : Value) : List Value := bvs k.1 ++ [v]
theorem length_leafC (k : D32) (v : Value) : (leafC k v).length = 33 := by simp [leafC, k.2]
theorem leafC_32 (k : D32) (v : Value) : (leafC k v).toArray[32]? = some v := by
  rw [← Array.getElem?_toList]
  show (bvs k.1 ++ [v])[32]? = _
  rw [List.getElem?_append_right (by rw [length_bvs, k.2]; omega), length_bvs, k.2]
  rfl
theorem leafC_take (k : D32) (v : Value) : ((leafC k v).toArray.toList.drop 0).take k.1.length = bvs k.1 := by
  show (bvs k.1 ++ [v]).take k.1.length = _
  rw [← length_bvs k.1, List.take_left']
  rfl


set_option maxHeartbeats 800000 in
theorem leaf_stands (k : D32) (ao : Option Addr) (n c : Nat) (w : World) : Calls Tryd.prog 82 #[.agg (leafC k (.slice ao n c)).toArray] w fun e w' => e = .returned (.bool (decide (n ≤ 128))) ∧ Below w.heap.size w w' := by
  have h := leafC_32 k (.slice ao n c)
  generalize (leafC k (.slice ao n c)).toArray = cs at *
  go_enter Tryd.func82, Tryd.ntmps82
  go_wp2
  go_ret
  exact ⟨by simp <;> omega, Below.refl_alloc w _⟩

set_option maxRecDepth 100000 in
set_option maxHeartbeats 800000 in
theorem leaf_lay (k : D32) (ao : Option Addr) (n c : Nat) (l : List UInt8) (w : World) (h : Row w ao n l) (hn : ao = none → n = 0 ∧ c = 0) (hb : n ≤ 140737488351232) :
    Calls Tryd.prog 81 #[.agg (leafC k (.slice ao n c)).toArray] w fun e w' => ∃ g cap, e = .returned (.slice (some ⟨g, 0, none⟩) (32 + n) cap) ∧ Own w' w.heap.size 5 (.slice (some ⟨g, 0, none⟩) (32 + n) cap) (k.1 ++ l) ∧ Below w.heap.size w w' := by
  have h32 := leafC_32 k (.slice ao n c)
  have htk := leafC_take k (.slice ao n c)
  have hrow0 : Row (w.alloc (.cells (leafC k (.slice ao n c)).toArray 73)) (some ⟨w.heap.size, 0, none⟩) k.1.length k.1 := Row.of_block (heap_alloc_new w _) htk
  rw [k.2] at hrow0
  have hc0 : (w.alloc (.cells (leafC k (.slice ao n c)).toArray 73)).cell? ⟨w.heap.size, 32, none⟩ = some (.slice ao n c) := by
    rw [cell_of_row _ w.heap.size 32 _ 73 (0, 0) (heap_alloc_new w _)]
    exact h32
  have hk2 := Box.mk k.2
  have hb0 : Below w.heap.size w (w.alloc (.cells (leafC k (.slice ao n c)).toArray 73)) := Below.refl_alloc w _
  generalize (leafC k (.slice ao n c)).toArray = cs at *
  have hal : Tryd.prog.arrayLen 26 = 32 := by kernel_rfl
  have hni : (n : Int) ≤ 140737488351232 := by omega
  have hn0 : (0 : Int) ≤ (n : Int) := by omega
  have hwr : IntKind.i64.wrap ((32 : Int) + (n : Int)) = (32 : Int) + (n : Int) := by rw [IntKind.wrap_i64]; omega
  have HB := Box.mk hb0
  have HC := Box.mk hc0
  have HR := Box.mk hrow0
  have hz1 : w.heap.size < (w.alloc (.cells cs 73)).heap.size := by simp
  have HZ := Box.mk hz1
  clear hb0 hc0 hrow0 hz1 h32 htk
  go_enter Tryd.func81, Tryd.ntmps81
  go_wp2_with fail
  generalize hw1 : w.alloc (.cells cs 73) = w1 at *
  have hzz : w.heap.size ≤ w1.heap.size := Nat.le_of_lt HZ.out
  clear hw1
  refine held_begin (fun W => Below w1.heap.size w1 W) (by kernel_rfl) (Below.refl _ w1).drew (fun hH => ?_)
  refine held_take 0 (.pointer (some ⟨w.heap.size, 32, none⟩)) rfl (by kernel_rfl) (by kernel_rfl) (by kernel_rfl) (held_pure (by rfl) (fun W => by go_simp)) (by assumption) ?_
  try simp only [Act.put, List.setIfInBounds_toArray, List.set_cons_zero, List.set_cons_succ]
  refine held_take 1 (.slice ao n c) rfl (by kernel_rfl) (by kernel_rfl) (by kernel_rfl) (Or.inl ⟨by rfl, fun W hS => by have hc' : W.cell? ⟨w.heap.size, 32, none⟩ = some (.slice ao n c) := (hS.cell (p := ⟨w.heap.size, 32, none⟩) HZ.out).trans HC.out; go_simp⟩) (by assumption) ?_
  try simp only [Act.put, List.setIfInBounds_toArray, List.set_cons_zero, List.set_cons_succ]
  refine held_take 2 (.int .i64 (n : Int)) rfl (by kernel_rfl) (by kernel_rfl) (by kernel_rfl) (held_pure (by rfl) (fun W => by go_simp)) (by assumption) ?_
  try simp only [Act.put, List.setIfInBounds_toArray, List.set_cons_zero, List.set_cons_succ]
  refine held_take 3 (.int .i64 ((32 : Int) + (n : Int))) rfl (by kernel_rfl) (by kernel_rfl) (by kernel_rfl) (held_pure (by rfl) (fun W => by go_simp)) (by assumption) ?_
  try simp only [Act.put, List.setIfInBounds_toArray, List.set_cons_zero, List.set_cons_succ]
  refine held_take 5 (.pointer (some ⟨w.heap.size, 0, none⟩)) rfl (by kernel_rfl) (by kernel_rfl) (by kernel_rfl) (held_pure (by rfl) (fun W => by go_simp)) (by assumption) ?_
  try simp only [Act.put, List.setIfInBounds_toArray, List.set_cons_zero, List.set_cons_succ]
  refine held_take 6 (.slice (some ⟨w.heap.size, 0, none⟩) 32 32) rfl (by kernel_rfl) (by kernel_rfl) (by kernel_rfl) (held_pure (by rfl) (fun W => by go_simp)) (by assumption) ?_
  try simp only [Act.put, List.setIfInBounds_toArray, List.set_cons_zero, List.set_cons_succ]
  refine held_take 8 (.pointer (some ⟨w.heap.size, 32, none⟩)) rfl (by kernel_rfl) (by kernel_rfl) (by kernel_rfl) (held_pure (by rfl) (fun W => by go_simp)) (by assumption) ?_
  try simp only [Act.put, List.setIfInBounds_toArray, List.set_cons_zero, List.set_cons_succ]
  refine held_take 9 (.slice ao n c) rfl (by kernel_rfl) (by kernel_rfl) (by kernel_rfl) (Or.inl ⟨by rfl, fun W hS => by have hc' : W.cell? ⟨w.heap.size, 32, none⟩ = some (.slice ao n c) := (hS.cell (p := ⟨w.heap.size, 32, none⟩) HZ.out).trans HC.out; go_simp⟩) (by assumption) ?_
  try simp only [Act.put, List.setIfInBounds_toArray, List.set_cons_zero, List.set_cons_succ]
  generalize hw2 : w1.drew = w2 at *
  have hd : Below w1.heap.size w1 w2 := hH
  have zd : w.heap.size ≤ w2.heap.size := Nat.le_trans hzz hd.size
  clear hw2
  refine held_step 4 (by kernel_rfl) rfl (by rfl) (fun K hK => ?_)
  refine oper_of_list rfl ?_
  refine wpList_make_bytes byteTy _ rfl _ _ rfl w.heap.size _ _ _ (32 + n) rfl rfl (by go_num) (by omega) zd ?_
  intro w3 own3 G3 z3
  refine ⟨rfl, ?_⟩
  refine hK.out _ _ (hH.grown G3 hH.size (fun k hk => by cases hk)) (fun hH4 => ?_)
  clear hK K
  try simp only [Act.put, List.setIfInBounds_toArray, List.set_cons_zero, List.set_cons_succ]
  have b3 : Below w.heap.size w w3 := (HB.out.trans (hH4.mono hzz))
  refine held_step 7 (by kernel_rfl) rfl (by rfl) (fun K hK => ?_)
  refine oper_of_list rfl ?_
  refine wpList_append_room byteTy _ rfl (.tmp 7) (.tmp 9) rfl w.heap.size _ 0 (32 + n) [] rfl rfl own3 (some ⟨w.heap.size, 0, none⟩) 32 32 k.1 rfl (fun h => by cases h) (HR.out.below hH4 (fun b o e => by cases e; exact HZ.out)) (by omega) ?_
  intro w4 own4 G4
  refine ⟨rfl, ?_⟩
  refine hK.out _ _ (hH4.grown G4 hH4.size (fun k hk => by cases hk; exact hd.size)) (fun hH7 => ?_)
  clear hK K
  try simp only [Act.put, List.setIfInBounds_toArray, List.set_cons_zero, List.set_cons_succ]
  have b4 : Below w.heap.size w w4 := (HB.out.trans (hH7.mono hzz))
  refine held_step 10 (by kernel_rfl) rfl (by rfl) (fun K hK => ?_)
  refine oper_of_list rfl ?_
  refine wpList_append_room byteTy _ rfl (.tmp 10) (.tmp 12) rfl w.heap.size _ 32 (32 + n) _ rfl (by simp [hk2.out]) own4 ao n c l rfl hn (h.old b4) (by omega) ?_
  intro w5 own5 G5
  refine ⟨rfl, ?_⟩
  refine hK.out _ _ (hH7.grown G5 hH7.size (fun k hk => by cases hk; exact hd.size)) (fun hH10 => ?_)
  clear hK K
  try simp only [Act.put, List.setIfInBounds_toArray, List.set_cons_zero, List.set_cons_succ]
  refine held_take 11 (.slice (some ⟨w2.heap.size, 0, none⟩) (32 + n) (32 + n)) rfl (by kernel_rfl) (by kernel_rfl) (by kernel_rfl) (held_pure (by rfl) (fun W => by go_simp)) (by assumption) ?_
  try simp only [Act.put, List.setIfInBounds_toArray, List.set_cons_zero, List.set_cons_succ]
  refine held_done (by kernel_rfl) ?_ _
  have b5 : Below w.heap.size w w5 := (HB.out.trans (hH10.mono hzz))
  go_wp2
  go_ret
  exact ⟨_, _, rfl, by simpa using own5, b5⟩
end Go.Proofs.YteiepenanffhcaaDoor
