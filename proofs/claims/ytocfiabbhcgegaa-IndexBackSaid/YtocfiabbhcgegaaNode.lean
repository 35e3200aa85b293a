/- Nodes, their children and their forms as cells; which of them may be so. -/
import Derived.Test.YtocfiabbhcgegaaRows
import Derived.Test.YtocfiabbhcgegaaHeld
import Derived.ChangeKeysEq
namespace Go.Proofs.Ytocfiabbhcgegaa
open Go Go.RowKit
set_option linter.unusedVariables false

/-- A child of a branch. -/
structure Child where
  page : Int
  count : Int
  sum : D32
/-- Its cells. -/
def chC (c : Child) : List Value := .int .i64 c.page :: .int .i64 c.count :: bvs c.sum.1
theorem length_chC (c : Child) : (chC c).length = 34 := by simp [chC, c.sum.2]
/-- Are two children the same? -/
def eqCh (a b : Child) : Bool := (a.page == b.page) && (a.count == b.count) && eqD a.sum b.sum
/-- No child. -/
def noChild : Child := ⟨0, 0, zero32⟩
/-- May a branch have this child? -/
def chStands (c : Child) : Bool := if c.page = 0 then eqCh c noChild else decide (2 ≤ c.page) && decide (c.page < 4096) && decide (0 < c.count) && decide (c.count ≤ 4096)

theorem chC_0 (c : Child) : (chC c).toArray[0]? = some (.int .i64 c.page) := rfl
theorem chC_1 (c : Child) : (chC c).toArray[1]? = some (.int .i64 c.count) := rfl
theorem chC_2 (c : Child) : (chC c).toArray.extract 2 34 = dc c.sum := by
  have h : ∀ (l : List Value), l.length = 32 → ∀ a b : Value, ((a :: b :: l).toArray).extract 2 34 = l.toArray := fun l hl a b => by
    apply Array.ext'
    simp [List.extract]
    exact List.take_of_length_le (by omega)
  exact h (bvs c.sum.1) (by rw [length_bvs, c.sum.2]) _ _

theorem part_int {P : Program} {t : TypeId} (ht : P.underlying t = some (.int .i64)) {xs : Array Value} {off : Nat} {v : Value} (hx : xs[off]? = some v) (w : World) : (part t xs off).run P w = .ok v w := by
  simp [part, isAgg, run_underlying ht, hx]
theorem part_d32 {P : Program} {t e : TypeId} (ht : P.underlying t = some (.array 32 e)) (hi : Hid ((P.info? t).map (·.size) = some 32)) {xs : Array Value} {off : Nat} (w : World) : (part t xs off).run P w = .ok (.agg (xs.extract off (off + 32))) w := by
  have hi' := hi.out
  cases hq : P.info? t with
  | none => simp [hq] at hi'
  | some i =>
    have hs : i.size = 32 := by simpa [hq] using hi'
    simp [part, isAgg, run_underlying ht, sizeOf, typeInfo, hq, hs]

theorem eqFields_cons {P : Program} {d : Nat} {xs ys : Array Value} {w : World} (f : Field) (fs : List Field) (t o : Nat) (ht : f.type = t) (ho : f.offset = o) (h : f.name ≠ "_") {a b : Value} {r : Bool} (pa : (part t xs o).run P w = .ok a w) (pb : (part t ys o).run P w = .ok b w)
    (e : (Op.equalIn d t a b).run P w = .ok r w) : (Op.eqFields d xs ys (f :: fs)).run P w = if r = true then (Op.eqFields d xs ys fs).run P w else .ok false w := by
  subst ht ho
  rw [Op.eqFields, if_pos h]
  simp only [Sem.run_bind, pa, pb, e, Result.andThen_ok]
  cases r <;> simp [Sem.run_pure]
theorem eqFields_nil {P : Program} {d : Nat} {xs ys : Array Value} {w : World} : (Op.eqFields d xs ys []).run P w = .ok true w := by rw [Op.eqFields]; rfl
theorem eq_child (a b : Child) (w : World) : (Op.equalIn 10000 77 (.agg (chC a).toArray) (.agg (chC b).toArray)).run Try.prog w = .ok (eqCh a b) w := by
  have ht : Try.prog.underlying 77 = some (.struct (Try.prog.fieldsOf 77)) := by kernel_rfl
  have hp : Try.prog.stoodInHeld 77 = false := by kernel_rfl
  have hf : (Try.prog.fieldsOf 77).toList.map (fun f => (f.name, f.type, f.offset)) = [("page", 3, 0), ("count", 3, 1), ("sum", 23, 2)] := by kernel_rfl
  rw [run_equalIn_struct w 9999 _ _ _ ht hp]
  have u3 : Try.prog.underlying 3 = some (.int .i64) := Try.underlying3
  have u30 : Try.prog.underlying 23 = some (.array 32 5) := Try.underlying23
  have hi30 : Hid ((Try.prog.info? 23).map (·.size) = some 32) := by unfold Hid; kernel_rfl
  have e30 : ∀ (x y : D32) (W : World), (Op.equalIn 9999 23 (.agg (dc x)) (.agg (dc y))).run Try.prog W = .ok (eqD x y) W := by
    obtain ⟨i5, hi5'⟩ := Option.isSome_iff_exists.1 (show (Try.prog.info? 5).isSome = true by kernel_rfl)
    exact fun x y W => equalIn_d32 (d := 9997) Try.underlying23 hi5' Try.underlying5 (by kernel_rfl) x y W
  have e3 : ∀ (x y : Int) (W : World), (Op.equalIn 9999 3 (.int .i64 x) (.int .i64 y)).run Try.prog W = .ok (x == y) W := fun x y W => run_equalIn_int W 9998 _ _ _ _ _ u3
  revert hf
  generalize (Try.prog.fieldsOf 77).toList = l
  intro hf
  have hlen : l.length = 3 := by simpa using congrArg List.length hf
  match l, hlen, hf with
  | [f1, f2, f3], _, hf =>
    simp only [List.map_cons, List.map_nil, List.cons.injEq, Prod.mk.injEq, and_true] at hf
    obtain ⟨⟨n1, t1, o1⟩, ⟨n2, t2, o2⟩, n3, t3, o3⟩ := hf
    have g1 : ∀ c : Child, (part 3 (chC c).toArray 0).run Try.prog w = .ok (.int .i64 c.page) w := fun c => part_int u3 (chC_0 c) w
    have g2 : ∀ c : Child, (part 3 (chC c).toArray 1).run Try.prog w = .ok (.int .i64 c.count) w := fun c => part_int u3 (chC_1 c) w
    have g3 : ∀ c : Child, (part 23 (chC c).toArray 2).run Try.prog w = .ok (.agg (dc c.sum)) w := fun c => by rw [part_d32 u30 hi30 w]; rw [chC_2]
    rw [eqFields_cons f1 _ _ _ t1 o1 (by rw [n1]; decide) (g1 a) (g1 b) (e3 _ _ w), eqFields_cons f2 _ _ _ t2 o2 (by rw [n2]; decide) (g2 a) (g2 b) (e3 _ _ w), eqFields_cons f3 _ _ _ t3 o3 (by rw [n3]; decide) (g3 a) (g3 b) (e30 _ _ w), eqFields_nil]
    unfold eqCh
    cases a.page == b.page <;> cases a.count == b.count <;> cases eqD a.sum b.sum <;> rfl
section
variable {P : Program} {S : World → Prop}
/-- A comparison of two structs or arrays: its answer is known. -/
theorem held_eqlA {o : Oper} {a : Act} {ops : Array Oper} (hw : Region.wanted o (yielded ops a.tmps) = true) (t t' : TypeId) (x y : Operand) (ho : o.op = .binOp .eql t x y t') (c d : Array Value) (r : Bool)
    (hx : a.eval x = .agg c) (hy : a.eval y = .agg d) (hm : P.eqGuardType P.depth t = false) (he : ∀ W, (Op.equalIn 10000 t (.agg c) (.agg d)).run P W = .ok r W) : YieldsIf P ops S o (.bool r) a :=
  held_pure hw fun W => by
    unfold execOp
    simp only [ho, hx, hy, Sem.run_bind, run_eql_struct, run_eqGuard_agg (hm := hm), he, Result.andThen_ok]
    rfl
end

theorem chC_all (c : Child) : (chC c).toArray.all (·.oneCell') = true := by
  rw [Array.all_eq_true_iff_forall_mem]
  intro v hv
  have hv' : v ∈ chC c := by simpa using hv
  unfold chC at hv'
  simp only [List.mem_cons] at hv'
  rcases hv' with rfl | rfl | h
  · rfl
  · rfl
  · exact bvs_oneCell _ v h

set_option maxRecDepth 100000 in
set_option maxHeartbeats 800000 in
theorem child_stands (c : Child) (w : World) : Calls Try.prog 60 #[.agg (chC c).toArray] w fun e w' => e = .returned (.bool (chStands c)) ∧ Below w.heap.size w w' := by
  have h0 := chC_0 c
  have h1 := chC_1 c
  have hz : Try.prog.built 77 [] = some (chC noChild).toArray := by kernel_rfl
  have hi : Box ((Try.prog.info? 77).map (·.size) = some (chC c).toArray.size) := ⟨by
    have h : (Try.prog.info? 77).map (·.size) = some 34 := by kernel_rfl
    rw [h, List.size_toArray, length_chC]⟩
  have hgd : Try.prog.eqGuardType Try.prog.depth 77 = false := by kernel_rfl
  by_cases hp : c.page = 0
  · have hs : chStands c = eqCh c noChild := by unfold chStands; rw [if_pos hp]
    rw [hs]
    have he : ∀ W, (Op.equalIn 10000 77 (.agg (chC c).toArray) (.agg (chC noChild).toArray)).run Try.prog W = .ok (eqCh c noChild) W := fun W => eq_child c noChild W
    generalize eqCh c noChild = r at he ⊢
    rw [hp] at h0
    clear hs hp
    generalize (chC noChild).toArray = zs at hz he
    generalize (chC c).toArray = cs at *
    go_enter Try.func60, Try.ntmps60
    go_wp2_with (first
      | ((with_reducible refine wpList_load_row rfl 77 (.tmp 1) ?_ w.heap.size ?_ 77 cs (0, 0) _ ?_ Try.underlying77 rfl hi.out ?_); rfl; rfl; exact heap_new rfl)
      | ((with_reducible refine wpList_builtg ?_ 77 [] ?_ [] ?_ zs hz ?_); rfl; rfl; rfl)
      | ((with_reducible refine wpList_yields ?_ (held_eqlA ?_ 77 77 (.tmp 6) (.tmp 7) ?_ cs zs r ?_ ?_ hgd he) ?_); rfl; rfl; rfl; rfl; rfl))
    go_ret
    exact ⟨rfl, Below.refl_alloc w _⟩
  · have hpf : (c.page == 0) = false := by rw [beq_eq_false_iff_ne]; exact hp
    have hs : chStands c = (decide (2 ≤ c.page) && decide (c.page < 4096) && decide (0 < c.count) && decide (c.count ≤ 4096)) := by unfold chStands; rw [if_neg hp]
    rw [hs]
    clear hs hi hz
    generalize c.page = p at *
    generalize c.count = q at *
    generalize (chC c).toArray = cs at *
    by_cases k1 : 2 ≤ p
    · by_cases k2 : p < 4096
      · by_cases k3 : 0 < q
        · by_cases k4 : q ≤ 4096
          all_goals
            go_enter Try.func60, Try.ntmps60
            go_wp2
            go_ret
            exact ⟨by simp <;> omega, Below.refl_alloc w _⟩
        · go_enter Try.func60, Try.ntmps60
          go_wp2
          go_ret
          exact ⟨by simp <;> omega, Below.refl_alloc w _⟩
      · go_enter Try.func60, Try.ntmps60
        go_wp2
        go_ret
        exact ⟨by simp <;> omega, Below.refl_alloc w _⟩
    · go_enter Try.func60, Try.ntmps60
      go_wp2
      go_ret
      exact ⟨by simp <;> omega, Below.refl_alloc w _⟩

/-- The cells of a branch. -/
def brC (l r : Child) : List Value := chC l ++ chC r
theorem length_brC (l r : Child) : (brC l r).length = 68 := by simp [brC, length_chC]
/-- May a branch be so? -/
def brStands (l r : Child) : Bool := chStands l && chStands r && (l.page != r.page) && decide (2 ≤ l.count + r.count) && decide (l.count + r.count ≤ 4096)
theorem chStands_count {c : Child} (h : chStands c = true) : 0 ≤ c.count ∧ c.count ≤ 4096 := by
  unfold chStands at h
  split at h
  · unfold eqCh noChild at h
    simp only [Bool.and_eq_true, beq_iff_eq] at h
    omega
  · simp only [Bool.and_eq_true, decide_eq_true_eq] at h
    omega
theorem brC_0 (l r : Child) : (brC l r).toArray[0]? = some (.int .i64 l.page) := rfl
theorem brC_1 (l r : Child) : (brC l r).toArray[1]? = some (.int .i64 l.count) := rfl
theorem brC_at (l r : Child) (i : Nat) : (brC l r).toArray[34 + i]? = (chC r).toArray[i]? := by
  rw [← Array.getElem?_toList, ← Array.getElem?_toList]
  show (chC l ++ chC r)[34 + i]? = (chC r)[i]?
  rw [List.getElem?_append_right (by rw [length_chC]; omega), length_chC, Nat.add_sub_cancel_left]
theorem rangeAt_cells {w : World} {b o : Nat} {C : Array Value} {e : TypeId} {fr : Nat × Nat} {cs : List Value} (hg : w.heap[b]? = some (.cells C e fr)) (h : ∀ j, j < cs.length → C[o + j]? = cs[j]?) : w.rangeAt b o cs := fun j v hj => by
  rw [cell_of_row w b (o + j) C e fr hg, h j (List.getElem?_eq_some_iff.1 hj).1, hj]
section
variable {P : Program} {Q : Exit → Act → World → Prop}
theorem wpList_load_midg {ops : Array Oper} {rest : List Oper} {o : Oper} {a : Act} {w : World} (hw : Region.wanted o (yielded ops a.tmps) = true) (ty : TypeId) (x : Operand) (ho : o.op = .load ty x)
    (b off : Nat) (hx : a.eval x = .pointer (some ⟨b, off, none⟩)) (cs : List Value) (d : TypeDesc) (hS : w.rangeAt b off cs) (hu : P.underlying ty = some d) (hd : d.isRow = true) (hi : (P.info? ty).map (·.size) = some cs.length)
    (h : wpList P ops Q rest (a.put o.dst (.agg cs.toArray)) w) : wpList P ops Q (o :: rest) a w :=
  wpList_yields hw (yieldsIf_load_mid hw ty x ho b off hx cs d (fun W hW => by rw [hW]; exact hS) hu hd hi) h
end

set_option maxRecDepth 100000 in
set_option maxHeartbeats 800000 in
theorem branch_stands (l r : Child) (w : World) : Calls Try.prog 62 #[.agg (brC l r).toArray] w fun e w' => e = .returned (.bool (brStands l r)) ∧ Below w.heap.size w w' := by
  have h0 := brC_0 l r
  have h1 := brC_1 l r
  have h34 : (brC l r).toArray[34]? = some (.int .i64 r.page) := (brC_at l r 0).trans (chC_0 r)
  have h35 : (brC l r).toArray[35]? = some (.int .i64 r.count) := (brC_at l r 1).trans (chC_1 r)
  have i79 : ∀ c : Child, Box ((Try.prog.info? 77).map (·.size) = some (chC c).length) := fun c => ⟨by
    have h : (Try.prog.info? 77).map (·.size) = some 34 := by kernel_rfl
    rw [h, length_chC]⟩
  have r0 : ∀ W : World, W.heap[w.heap.size]? = some (.cells (brC l r).toArray 79 (0, 0)) → W.rangeAt w.heap.size 0 (chC l) := fun W hW => rangeAt_cells hW fun j hj => by
    rw [Nat.zero_add, ← Array.getElem?_toList]
    show (chC l ++ chC r)[j]? = _
    rw [List.getElem?_append_left hj]
  have r34 : ∀ W : World, W.heap[w.heap.size]? = some (.cells (brC l r).toArray 79 (0, 0)) → W.rangeAt w.heap.size 34 (chC r) := fun W hW => rangeAt_cells hW fun j hj => by
    rw [brC_at, ← Array.getElem?_toList]
  have sl : ∀ W, _ := fun W => child_stands l W
  have sr : ∀ W, _ := fun W => child_stands r W
  have hI1 := (i79 l).out
  have hI2 := (i79 r).out
  have HR0 := Box.mk r0
  have HR34 := Box.mk r34
  clear r0 r34 i79
  have key : (chStands l = false ∧ brStands l r = false) ∨ (chStands l = true ∧ chStands r = false ∧ brStands l r = false) ∨
      (chStands l = true ∧ chStands r = true ∧ wrap64 (l.count + r.count) = l.count + r.count ∧ brStands l r = ((l.page != r.page) && decide (2 ≤ l.count + r.count) && decide (l.count + r.count ≤ 4096))) := by
    unfold brStands
    cases hl : chStands l
    · exact .inl ⟨rfl, by simp⟩
    · cases hr : chStands r
      · exact .inr (.inl ⟨rfl, rfl, by simp⟩)
      · have b1 := chStands_count hl
        have b2 := chStands_count hr
        exact .inr (.inr ⟨rfl, rfl, by unfold wrap64; omega, by simp⟩)
  generalize (chC l) = cl at *
  generalize (chC r) = cr at *
  generalize (brC l r).toArray = cs at *
  -- BST
  rcases key with ⟨k1, k2⟩ | ⟨k1, k2, k3⟩ | ⟨k1, k2, k3, k4⟩
  · rw [k2]
    simp only [k1] at sl
    clear k1 k2
    go_enter Try.func62, Try.ntmps62
    go_wp2_with (first
      | ((with_reducible refine wpList_load_midg ?_ 77 (.tmp 12) ?_ w.heap.size 0 ?_ cl _ ?_ Try.underlying77 rfl hI1 ?_); rfl; rfl; rfl; exact HR0.out _ (heap_new rfl))
      | ((with_reducible refine wpList_load_midg ?_ 77 (.tmp 11) ?_ w.heap.size 0 ?_ cl _ ?_ Try.underlying77 rfl hI1 ?_); rfl; rfl; rfl; exact HR0.out _ (heap_new rfl))
      | (go_at_call 60; refine (sl _).mono ?_))
    rintro e w1 ⟨rfl, hB⟩
    have b1 : Below w.heap.size w w1 := (Below.refl_alloc w _).trans (hB.mono (by simp))
    go_wp2
    go_ret
    exact ⟨rfl, b1⟩
  · rw [k3]
    simp only [k1] at sl
    simp only [k2] at sr
    clear k1 k2 k3
    go_enter Try.func62, Try.ntmps62
    go_wp2_with (first
      | ((with_reducible refine wpList_load_midg ?_ 77 (.tmp 12) ?_ w.heap.size 0 ?_ cl _ ?_ Try.underlying77 rfl hI1 ?_); rfl; rfl; rfl; exact HR0.out _ (heap_new rfl))
      | ((with_reducible refine wpList_load_midg ?_ 77 (.tmp 11) ?_ w.heap.size 0 ?_ cl _ ?_ Try.underlying77 rfl hI1 ?_); rfl; rfl; rfl; exact HR0.out _ (heap_new rfl))
      | (go_at_call 60; refine (sl _).mono ?_))
    rintro e w1 ⟨rfl, hB⟩
    have b1 : Below w.heap.size w w1 := (Below.refl_alloc w _).trans (hB.mono (by simp))
    have g1 : Box (w1.heap[w.heap.size]? = some (.cells cs 79 (0, 0))) := ⟨(hB.block _ (by simp)).trans (heap_new rfl)⟩
    clear hB sl
    go_wp2_with (first
      | ((with_reducible refine wpList_load_midg ?_ 77 (.tmp 15) ?_ w.heap.size 34 ?_ cr _ ?_ Try.underlying77 rfl hI2 ?_); rfl; rfl; rfl; exact HR34.out _ g1.out)
      | (go_at_call 60; refine (sr _).mono ?_))
    rintro e w2 ⟨rfl, hB2⟩
    have b2 : Below w.heap.size w w2 := b1.trans (hB2.mono b1.size)
    go_wp2
    go_ret
    exact ⟨rfl, b2⟩
  · rw [k4]
    simp only [k1] at sl
    simp only [k2] at sr
    clear k1 k2 k4
    generalize l.page = lp at *
    generalize r.page = rp at *
    generalize l.count = lc at *
    generalize r.count = rc at *
    have HK3 := Box.mk k3
    rcases Int.lt_trichotomy lp rp with m1 | m1 | m1
    · have m0 : (lp != rp) = true := by rw [bne_iff_ne]; omega
      rw [m0, Bool.true_and]
      rcases Int.lt_or_le (lc + rc) 2 with m2 | m2
      · rw [decide_eq_false (by omega), Bool.false_and]
        go_enter Try.func62, Try.ntmps62
        go_wp2_with (first
          | ((with_reducible refine wpList_load_midg ?_ 77 (.tmp 12) ?_ w.heap.size 0 ?_ cl _ ?_ Try.underlying77 rfl hI1 ?_); rfl; rfl; rfl; exact HR0.out _ (heap_new rfl))
          | ((with_reducible refine wpList_load_midg ?_ 77 (.tmp 11) ?_ w.heap.size 0 ?_ cl _ ?_ Try.underlying77 rfl hI1 ?_); rfl; rfl; rfl; exact HR0.out _ (heap_new rfl))
          | (go_at_call 60; refine (sl _).mono ?_))
        rintro e w1 ⟨rfl, hB⟩
        have b1 : Below w.heap.size w w1 := (Below.refl_alloc w _).trans (hB.mono (by simp))
        have g1 : Box (w1.heap[w.heap.size]? = some (.cells cs 79 (0, 0))) := ⟨(hB.block _ (by simp)).trans (heap_new rfl)⟩
        clear hB sl
        go_wp2_with (first
          | ((with_reducible refine wpList_load_midg ?_ 77 (.tmp 15) ?_ w.heap.size 34 ?_ cr _ ?_ Try.underlying77 rfl hI2 ?_); rfl; rfl; rfl; exact HR34.out _ g1.out)
          | (go_at_call 60; refine (sr _).mono ?_))
        rintro e w2 ⟨rfl, hB2⟩
        have b2 : Below w.heap.size w w2 := b1.trans (hB2.mono b1.size)
        have g2 : Box (w2.heap[w.heap.size]? = some (.cells cs 79 (0, 0))) := ⟨(hB2.block _ (heap_lt g1.out)).trans g1.out⟩
        have c0 : w2.cell? ⟨w.heap.size, 0, none⟩ = some (.int .i64 lp) := by rw [cell_of_row w2 _ 0 _ _ _ g2.out]; exact h0
        have c34 : w2.cell? ⟨w.heap.size, 34, none⟩ = some (.int .i64 rp) := by rw [cell_of_row w2 _ 34 _ _ _ g2.out]; exact h34
        clear hB2 sr g1
        go_wp2
        go_ret
        exact ⟨rfl, b2⟩
      · rw [decide_eq_true m2, Bool.true_and]
        rcases Int.lt_or_le 4096 (lc + rc) with m3 | m3
        · rw [decide_eq_false (by omega)]
          go_enter Try.func62, Try.ntmps62
          go_wp2_with (first
            | ((with_reducible refine wpList_load_midg ?_ 77 (.tmp 12) ?_ w.heap.size 0 ?_ cl _ ?_ Try.underlying77 rfl hI1 ?_); rfl; rfl; rfl; exact HR0.out _ (heap_new rfl))
            | ((with_reducible refine wpList_load_midg ?_ 77 (.tmp 11) ?_ w.heap.size 0 ?_ cl _ ?_ Try.underlying77 rfl hI1 ?_); rfl; rfl; rfl; exact HR0.out _ (heap_new rfl))
            | (go_at_call 60; refine (sl _).mono ?_))
          rintro e w1 ⟨rfl, hB⟩
          have b1 : Below w.heap.size w w1 := (Below.refl_alloc w _).trans (hB.mono (by simp))
          have g1 : Box (w1.heap[w.heap.size]? = some (.cells cs 79 (0, 0))) := ⟨(hB.block _ (by simp)).trans (heap_new rfl)⟩
          clear hB sl
          go_wp2_with (first
            | ((with_reducible refine wpList_load_midg ?_ 77 (.tmp 15) ?_ w.heap.size 34 ?_ cr _ ?_ Try.underlying77 rfl hI2 ?_); rfl; rfl; rfl; exact HR34.out _ g1.out)
            | (go_at_call 60; refine (sr _).mono ?_))
          rintro e w2 ⟨rfl, hB2⟩
          have b2 : Below w.heap.size w w2 := b1.trans (hB2.mono b1.size)
          have g2 : Box (w2.heap[w.heap.size]? = some (.cells cs 79 (0, 0))) := ⟨(hB2.block _ (heap_lt g1.out)).trans g1.out⟩
          have c0 : w2.cell? ⟨w.heap.size, 0, none⟩ = some (.int .i64 lp) := by rw [cell_of_row w2 _ 0 _ _ _ g2.out]; exact h0
          have c34 : w2.cell? ⟨w.heap.size, 34, none⟩ = some (.int .i64 rp) := by rw [cell_of_row w2 _ 34 _ _ _ g2.out]; exact h34
          clear hB2 sr g1
          go_wp2
          go_ret
          exact ⟨by show Ending.returned (Value.bool (decide (lc + rc ≤ 4096))) = _; rw [decide_eq_false (by omega)], b2⟩
        · rw [decide_eq_true m3]
          go_enter Try.func62, Try.ntmps62
          go_wp2_with (first
            | ((with_reducible refine wpList_load_midg ?_ 77 (.tmp 12) ?_ w.heap.size 0 ?_ cl _ ?_ Try.underlying77 rfl hI1 ?_); rfl; rfl; rfl; exact HR0.out _ (heap_new rfl))
            | ((with_reducible refine wpList_load_midg ?_ 77 (.tmp 11) ?_ w.heap.size 0 ?_ cl _ ?_ Try.underlying77 rfl hI1 ?_); rfl; rfl; rfl; exact HR0.out _ (heap_new rfl))
            | (go_at_call 60; refine (sl _).mono ?_))
          rintro e w1 ⟨rfl, hB⟩
          have b1 : Below w.heap.size w w1 := (Below.refl_alloc w _).trans (hB.mono (by simp))
          have g1 : Box (w1.heap[w.heap.size]? = some (.cells cs 79 (0, 0))) := ⟨(hB.block _ (by simp)).trans (heap_new rfl)⟩
          clear hB sl
          go_wp2_with (first
            | ((with_reducible refine wpList_load_midg ?_ 77 (.tmp 15) ?_ w.heap.size 34 ?_ cr _ ?_ Try.underlying77 rfl hI2 ?_); rfl; rfl; rfl; exact HR34.out _ g1.out)
            | (go_at_call 60; refine (sr _).mono ?_))
          rintro e w2 ⟨rfl, hB2⟩
          have b2 : Below w.heap.size w w2 := b1.trans (hB2.mono b1.size)
          have g2 : Box (w2.heap[w.heap.size]? = some (.cells cs 79 (0, 0))) := ⟨(hB2.block _ (heap_lt g1.out)).trans g1.out⟩
          have c0 : w2.cell? ⟨w.heap.size, 0, none⟩ = some (.int .i64 lp) := by rw [cell_of_row w2 _ 0 _ _ _ g2.out]; exact h0
          have c34 : w2.cell? ⟨w.heap.size, 34, none⟩ = some (.int .i64 rp) := by rw [cell_of_row w2 _ 34 _ _ _ g2.out]; exact h34
          clear hB2 sr g1
          go_wp2
          go_ret
          exact ⟨rfl, b2⟩
    · have m0 : (lp != rp) = false := by rw [bne_eq_false_iff_eq]; exact m1
      rw [m0, Bool.false_and, Bool.false_and]
      subst m1
      go_enter Try.func62, Try.ntmps62
      go_wp2_with (first
        | ((with_reducible refine wpList_load_midg ?_ 77 (.tmp 12) ?_ w.heap.size 0 ?_ cl _ ?_ Try.underlying77 rfl hI1 ?_); rfl; rfl; rfl; exact HR0.out _ (heap_new rfl))
        | ((with_reducible refine wpList_load_midg ?_ 77 (.tmp 11) ?_ w.heap.size 0 ?_ cl _ ?_ Try.underlying77 rfl hI1 ?_); rfl; rfl; rfl; exact HR0.out _ (heap_new rfl))
        | (go_at_call 60; refine (sl _).mono ?_))
      rintro e w1 ⟨rfl, hB⟩
      have b1 : Below w.heap.size w w1 := (Below.refl_alloc w _).trans (hB.mono (by simp))
      have g1 : Box (w1.heap[w.heap.size]? = some (.cells cs 79 (0, 0))) := ⟨(hB.block _ (by simp)).trans (heap_new rfl)⟩
      clear hB sl
      go_wp2_with (first
        | ((with_reducible refine wpList_load_midg ?_ 77 (.tmp 15) ?_ w.heap.size 34 ?_ cr _ ?_ Try.underlying77 rfl hI2 ?_); rfl; rfl; rfl; exact HR34.out _ g1.out)
        | (go_at_call 60; refine (sr _).mono ?_))
      rintro e w2 ⟨rfl, hB2⟩
      have b2 : Below w.heap.size w w2 := b1.trans (hB2.mono b1.size)
      have g2 : Box (w2.heap[w.heap.size]? = some (.cells cs 79 (0, 0))) := ⟨(hB2.block _ (heap_lt g1.out)).trans g1.out⟩
      have c0 : w2.cell? ⟨w.heap.size, 0, none⟩ = some (.int .i64 lp) := by rw [cell_of_row w2 _ 0 _ _ _ g2.out]; exact h0
      have c34 : w2.cell? ⟨w.heap.size, 34, none⟩ = some (.int .i64 lp) := by rw [cell_of_row w2 _ 34 _ _ _ g2.out]; exact h34
      clear hB2 sr g1
      go_wp2
      go_ret
      exact ⟨rfl, b2⟩
    · have m0 : (lp != rp) = true := by rw [bne_iff_ne]; omega
      rw [m0, Bool.true_and]
      rcases Int.lt_or_le (lc + rc) 2 with m2 | m2
      · rw [decide_eq_false (by omega), Bool.false_and]
        go_enter Try.func62, Try.ntmps62
        go_wp2_with (first
          | ((with_reducible refine wpList_load_midg ?_ 77 (.tmp 12) ?_ w.heap.size 0 ?_ cl _ ?_ Try.underlying77 rfl hI1 ?_); rfl; rfl; rfl; exact HR0.out _ (heap_new rfl))
          | ((with_reducible refine wpList_load_midg ?_ 77 (.tmp 11) ?_ w.heap.size 0 ?_ cl _ ?_ Try.underlying77 rfl hI1 ?_); rfl; rfl; rfl; exact HR0.out _ (heap_new rfl))
          | (go_at_call 60; refine (sl _).mono ?_))
        rintro e w1 ⟨rfl, hB⟩
        have b1 : Below w.heap.size w w1 := (Below.refl_alloc w _).trans (hB.mono (by simp))
        have g1 : Box (w1.heap[w.heap.size]? = some (.cells cs 79 (0, 0))) := ⟨(hB.block _ (by simp)).trans (heap_new rfl)⟩
        clear hB sl
        go_wp2_with (first
          | ((with_reducible refine wpList_load_midg ?_ 77 (.tmp 15) ?_ w.heap.size 34 ?_ cr _ ?_ Try.underlying77 rfl hI2 ?_); rfl; rfl; rfl; exact HR34.out _ g1.out)
          | (go_at_call 60; refine (sr _).mono ?_))
        rintro e w2 ⟨rfl, hB2⟩
        have b2 : Below w.heap.size w w2 := b1.trans (hB2.mono b1.size)
        have g2 : Box (w2.heap[w.heap.size]? = some (.cells cs 79 (0, 0))) := ⟨(hB2.block _ (heap_lt g1.out)).trans g1.out⟩
        have c0 : w2.cell? ⟨w.heap.size, 0, none⟩ = some (.int .i64 lp) := by rw [cell_of_row w2 _ 0 _ _ _ g2.out]; exact h0
        have c34 : w2.cell? ⟨w.heap.size, 34, none⟩ = some (.int .i64 rp) := by rw [cell_of_row w2 _ 34 _ _ _ g2.out]; exact h34
        clear hB2 sr g1
        go_wp2
        go_ret
        exact ⟨rfl, b2⟩
      · rw [decide_eq_true m2, Bool.true_and]
        rcases Int.lt_or_le 4096 (lc + rc) with m3 | m3
        · rw [decide_eq_false (by omega)]
          go_enter Try.func62, Try.ntmps62
          go_wp2_with (first
            | ((with_reducible refine wpList_load_midg ?_ 77 (.tmp 12) ?_ w.heap.size 0 ?_ cl _ ?_ Try.underlying77 rfl hI1 ?_); rfl; rfl; rfl; exact HR0.out _ (heap_new rfl))
            | ((with_reducible refine wpList_load_midg ?_ 77 (.tmp 11) ?_ w.heap.size 0 ?_ cl _ ?_ Try.underlying77 rfl hI1 ?_); rfl; rfl; rfl; exact HR0.out _ (heap_new rfl))
            | (go_at_call 60; refine (sl _).mono ?_))
          rintro e w1 ⟨rfl, hB⟩
          have b1 : Below w.heap.size w w1 := (Below.refl_alloc w _).trans (hB.mono (by simp))
          have g1 : Box (w1.heap[w.heap.size]? = some (.cells cs 79 (0, 0))) := ⟨(hB.block _ (by simp)).trans (heap_new rfl)⟩
          clear hB sl
          go_wp2_with (first
            | ((with_reducible refine wpList_load_midg ?_ 77 (.tmp 15) ?_ w.heap.size 34 ?_ cr _ ?_ Try.underlying77 rfl hI2 ?_); rfl; rfl; rfl; exact HR34.out _ g1.out)
            | (go_at_call 60; refine (sr _).mono ?_))
          rintro e w2 ⟨rfl, hB2⟩
          have b2 : Below w.heap.size w w2 := b1.trans (hB2.mono b1.size)
          have g2 : Box (w2.heap[w.heap.size]? = some (.cells cs 79 (0, 0))) := ⟨(hB2.block _ (heap_lt g1.out)).trans g1.out⟩
          have c0 : w2.cell? ⟨w.heap.size, 0, none⟩ = some (.int .i64 lp) := by rw [cell_of_row w2 _ 0 _ _ _ g2.out]; exact h0
          have c34 : w2.cell? ⟨w.heap.size, 34, none⟩ = some (.int .i64 rp) := by rw [cell_of_row w2 _ 34 _ _ _ g2.out]; exact h34
          clear hB2 sr g1
          go_wp2
          go_ret
          exact ⟨by show Ending.returned (Value.bool (decide (lc + rc ≤ 4096))) = _; rw [decide_eq_false (by omega)], b2⟩
        · rw [decide_eq_true m3]
          go_enter Try.func62, Try.ntmps62
          go_wp2_with (first
            | ((with_reducible refine wpList_load_midg ?_ 77 (.tmp 12) ?_ w.heap.size 0 ?_ cl _ ?_ Try.underlying77 rfl hI1 ?_); rfl; rfl; rfl; exact HR0.out _ (heap_new rfl))
            | ((with_reducible refine wpList_load_midg ?_ 77 (.tmp 11) ?_ w.heap.size 0 ?_ cl _ ?_ Try.underlying77 rfl hI1 ?_); rfl; rfl; rfl; exact HR0.out _ (heap_new rfl))
            | (go_at_call 60; refine (sl _).mono ?_))
          rintro e w1 ⟨rfl, hB⟩
          have b1 : Below w.heap.size w w1 := (Below.refl_alloc w _).trans (hB.mono (by simp))
          have g1 : Box (w1.heap[w.heap.size]? = some (.cells cs 79 (0, 0))) := ⟨(hB.block _ (by simp)).trans (heap_new rfl)⟩
          clear hB sl
          go_wp2_with (first
            | ((with_reducible refine wpList_load_midg ?_ 77 (.tmp 15) ?_ w.heap.size 34 ?_ cr _ ?_ Try.underlying77 rfl hI2 ?_); rfl; rfl; rfl; exact HR34.out _ g1.out)
            | (go_at_call 60; refine (sr _).mono ?_))
          rintro e w2 ⟨rfl, hB2⟩
          have b2 : Below w.heap.size w w2 := b1.trans (hB2.mono b1.size)
          have g2 : Box (w2.heap[w.heap.size]? = some (.cells cs 79 (0, 0))) := ⟨(hB2.block _ (heap_lt g1.out)).trans g1.out⟩
          have c0 : w2.cell? ⟨w.heap.size, 0, none⟩ = some (.int .i64 lp) := by rw [cell_of_row w2 _ 0 _ _ _ g2.out]; exact h0
          have c34 : w2.cell? ⟨w.heap.size, 34, none⟩ = some (.int .i64 rp) := by rw [cell_of_row w2 _ 34 _ _ _ g2.out]; exact h34
          clear hB2 sr g1
          go_wp2
          go_ret
          exact ⟨rfl, b2⟩
  -- BSTEND
end Go.Proofs.Ytocfiabbhcgegaa
