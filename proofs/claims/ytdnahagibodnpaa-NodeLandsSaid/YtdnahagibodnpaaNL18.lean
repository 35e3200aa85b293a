/- Texts joined: FormOf. -/
import Derived.Test.YtdnahagibodnpaaNL17
/- What a node is: the walk of node.formOf. -/
namespace Go.Proofs.Ytdnahagibodnpaa
set_option linter.unusedSectionVars false
set_option linter.unusedSimpArgs false
open Go Go.RowKit
set_option linter.unusedVariables false
def inI64 (a : Int) : Prop := -9223372036854775808 ≤ a ∧ a ≤ 9223372036854775807
set_option maxRecDepth 100000 in
set_option maxHeartbeats 4000000 in
theorem formOf_any (x : NodeV) (q1 : inI64 x.left) (q2 : inI64 x.right) (q3 : inI64 x.lc) (q4 : inI64 x.rc) (w : World) :
    Calls Try.prog 22 #[.agg (nodeC x).toArray] w fun e w' => e = .returned (formV x) ∧ Below w.heap.size w w' := by
  have UD : Try.prog.underlying 36 = some (.array 32 5) := Try.underlying36
  have UK : Try.prog.underlying 37 = some (.array 32 5) := Try.underlying37
  have hiD : Hid ((Try.prog.info? 36).map (·.size) = some 32) := by unfold Hid; kernel_rfl
  have hiK : Hid ((Try.prog.info? 37).map (·.size) = some 32) := by unfold Hid; kernel_rfl
  have bzD : Try.prog.built 36 [] = some (dc zero32) := by kernel_rfl
  have bzK : Try.prog.built 37 [] = some (dc zero32) := by kernel_rfl
  have hgD : Try.prog.eqGuardType Try.prog.depth 36 = false := by kernel_rfl
  have hgK : Try.prog.eqGuardType Try.prog.depth 37 = false := by kernel_rfl
  have eD : ∀ (x y : D32) (W : World), (Op.equalIn 10000 36 (.agg (dc x)) (.agg (dc y))).run Try.prog W = .ok (eqD x y) W := by
    obtain ⟨i5, hi5'⟩ := Option.isSome_iff_exists.1 (show (Try.prog.info? 5).isSome = true by kernel_rfl)
    exact fun x y W => equalIn_d32 (d := 9998) Try.underlying36 hi5' Try.underlying5 (by kernel_rfl) x y W
  have eK : ∀ (x y : D32) (W : World), (Op.equalIn 10000 37 (.agg (dc x)) (.agg (dc y))).run Try.prog W = .ok (eqD x y) W := by
    obtain ⟨i5, hi5'⟩ := Option.isSome_iff_exists.1 (show (Try.prog.info? 5).isSome = true by kernel_rfl)
    exact fun x y W => equalIn_d32 (d := 9998) Try.underlying37 hi5' Try.underlying5 (by kernel_rfl) x y W
  have hbl := built_leaf x.key x.ao x.n x.c
  have hc1 := built_child x.left x.lc x.ls
  have hc2 := built_child x.right x.rc x.rs
  have hbb := built_branch ⟨x.left, x.lc, x.ls⟩ ⟨x.right, x.rc, x.rs⟩
  have g0 : (nodeC x).toArray[0]? = some (.int .i64 x.kind) := rfl
  have g1 : (nodeC x).toArray[1]? = some (.int .i64 x.left) := rfl
  have g2 : (nodeC x).toArray[2]? = some (.int .i64 x.right) := rfl
  have g3 : (nodeC x).toArray[3]? = some (.int .i64 x.lc) := rfl
  have g4 : (nodeC x).toArray[4]? = some (.int .i64 x.rc) := rfl
  have g101 : (nodeC x).toArray[101]? = some (.slice x.ao x.n x.c) := nodeC_val x
  have r5 : ∀ W : World, W.heap[w.heap.size]? = some (.cells (nodeC x).toArray 39 (0, 0)) → W.rangeAt w.heap.size 5 (bvs x.ls.1) := fun W hW => rangeAt_cells hW fun j hj => nodeC_ls x j (by rwa [length_bvs, x.ls.2] at hj)
  have r37 : ∀ W : World, W.heap[w.heap.size]? = some (.cells (nodeC x).toArray 39 (0, 0)) → W.rangeAt w.heap.size 37 (bvs x.rs.1) := fun W hW => rangeAt_cells hW fun j hj => nodeC_rs x j (by rwa [length_bvs, x.rs.2] at hj)
  have r69 : ∀ W : World, W.heap[w.heap.size]? = some (.cells (nodeC x).toArray 39 (0, 0)) → W.rangeAt w.heap.size 69 (bvs x.key.1) := fun W hW => rangeAt_cells hW fun j hj => nodeC_key x j (by rwa [length_bvs, x.key.2] at hj)
  have ee1 := fun W => eD x.ls zero32 W
  have ee2 := fun W => eD x.rs zero32 W
  have ee3 := fun W => eK x.key zero32 W
  have o1 := or64 x.left x.right q1 q2
  have o2 := or64 (bits .or .i64 x.left x.right) x.lc o1.2 q3
  have o3 := or64 (bits .or .i64 (bits .or .i64 x.left x.right) x.lc) x.rc o2.2 q4
  have key : (x.kind = 1 ∧ (bits .or .i64 (bits .or .i64 (bits .or .i64 x.left x.right) x.lc) x.rc == 0) = true ∧ eqD x.ls zero32 = true ∧ eqD x.rs zero32 = true ∧ formV x = .iface 89 (.agg (leafC x.key x.val).toArray)) ∨
      (x.kind = 1 ∧ (bits .or .i64 (bits .or .i64 (bits .or .i64 x.left x.right) x.lc) x.rc == 0) = true ∧ eqD x.ls zero32 = true ∧ eqD x.rs zero32 = false ∧ formV x = .nilIface) ∨
      (x.kind = 1 ∧ (bits .or .i64 (bits .or .i64 (bits .or .i64 x.left x.right) x.lc) x.rc == 0) = true ∧ eqD x.ls zero32 = false ∧ formV x = .nilIface) ∨
      (x.kind = 1 ∧ (bits .or .i64 (bits .or .i64 (bits .or .i64 x.left x.right) x.lc) x.rc == 0) = false ∧ formV x = .nilIface) ∨
      (x.kind = 2 ∧ eqD x.key zero32 = true ∧ ((x.n : Int) == 0) = true ∧ formV x = .iface 93 (.agg (brC ⟨x.left, x.lc, x.ls⟩ ⟨x.right, x.rc, x.rs⟩).toArray)) ∨
      (x.kind = 2 ∧ eqD x.key zero32 = true ∧ ((x.n : Int) == 0) = false ∧ formV x = .nilIface) ∨
      (x.kind = 2 ∧ eqD x.key zero32 = false ∧ formV x = .nilIface) ∨
      ((x.kind == 1) = false ∧ (x.kind == 2) = false ∧ formV x = .nilIface) := by
    have hor : (bits .or .i64 (bits .or .i64 (bits .or .i64 x.left x.right) x.lc) x.rc == 0) = decide (x.left = 0 ∧ x.right = 0 ∧ x.lc = 0 ∧ x.rc = 0) := by
      rw [Bool.eq_iff_iff, beq_iff_eq, decide_eq_true_eq, o3.1, o2.1, o1.1]
      simp only [and_assoc]
    rw [hor]
    unfold formV isLeafB isBrB
    by_cases k1 : x.kind = 1
    · have k2 : ¬ x.kind = 2 := by omega
      rw [decide_eq_true k1, decide_eq_false k2]
      cases decide (x.left = 0 ∧ x.right = 0 ∧ x.lc = 0 ∧ x.rc = 0) <;> cases eqD x.ls zero32 <;> cases eqD x.rs zero32 <;> simp [k1]
    · by_cases k2 : x.kind = 2
      · rw [decide_eq_false k1, decide_eq_true k2]
        by_cases hn : x.n = 0
        · rw [decide_eq_true hn, hn]
          cases eqD x.key zero32 <;> simp [k2]
        · rw [decide_eq_false hn]
          have : ((x.n : Int) == 0) = false := by rw [beq_eq_false_iff_ne]; omega
          rw [this]
          cases eqD x.key zero32 <;> simp [k2]
      · rw [decide_eq_false k1, decide_eq_false k2]
        have h1 : (x.kind == 1) = false := by rw [beq_eq_false_iff_ne]; exact k1
        have h2 : (x.kind == 2) = false := by rw [beq_eq_false_iff_ne]; exact k2
        rw [h1, h2]
        simp [k1, k2]
  have HBL := Box.mk hbl
  have HC1 := Box.mk hc1
  have HC2 := Box.mk hc2
  have HBB := Box.mk hbb
  have R5 := Box.mk r5
  have R37 := Box.mk r37
  have R69 := Box.mk r69
  clear hbl hc1 hc2 hbb r5 r37 r69 o1 o2 o3 q1 q2 q3 q4 eD eK
  have hval : x.val = .slice x.ao x.n x.c := rfl
  rw [hval] at key
  clear hval
  generalize (leafC x.key (.slice x.ao x.n x.c)).toArray = lf at *
  generalize (chC ⟨x.left, x.lc, x.ls⟩).toArray = ch1 at *
  generalize (chC ⟨x.right, x.rc, x.rs⟩).toArray = ch2 at *
  generalize (brC ⟨x.left, x.lc, x.ls⟩ ⟨x.right, x.rc, x.rs⟩).toArray = brc at *
  generalize (nodeC x).toArray = cs at *
  generalize formV x = fv at *
  rcases key with ⟨k, ko, a1, a2, kf⟩ | key
  · subst kf
    rw [k] at g0
    have e1 : ∀ W, (Op.equalIn 10000 36 (.agg (dc x.ls)) (.agg (dc zero32))).run Try.prog W = .ok true W := fun W => by rw [ee1 W, a1]
    have e2 : ∀ W, (Op.equalIn 10000 36 (.agg (dc x.rs)) (.agg (dc zero32))).run Try.prog W = .ok true W := fun W => by rw [ee2 W, a2]
    have e3 := ee3
    clear ee1 ee2 ee3
    go_enter Try.func22, Try.ntmps22
    go_wp2_with (first
      | ((with_reducible refine wpList_load32g ?_ 36 (.tmp 20) ?_ w.heap.size 5 ?_ x.ls 5 ?_ UD hiD ?_); rfl; rfl; rfl; exact R5.out _ (heap_new rfl))
      | ((with_reducible refine wpList_load32g ?_ 36 (.tmp 26) ?_ w.heap.size 37 ?_ x.rs 5 ?_ UD hiD ?_); rfl; rfl; rfl; exact R37.out _ (heap_new rfl))
      | ((with_reducible refine wpList_load32g ?_ 36 (.tmp 53) ?_ w.heap.size 5 ?_ x.ls 5 ?_ UD hiD ?_); rfl; rfl; rfl; exact R5.out _ (heap_new rfl))
      | ((with_reducible refine wpList_load32g ?_ 36 (.tmp 60) ?_ w.heap.size 37 ?_ x.rs 5 ?_ UD hiD ?_); rfl; rfl; rfl; exact R37.out _ (heap_new rfl))
      | ((with_reducible refine wpList_load32g ?_ 37 (.tmp 31) ?_ w.heap.size 69 ?_ x.key 5 ?_ UK hiK ?_); rfl; rfl; rfl; exact R69.out _ (heap_new rfl))
      | ((with_reducible refine wpList_load32g ?_ 37 (.tmp 39) ?_ w.heap.size 69 ?_ x.key 5 ?_ UK hiK ?_); rfl; rfl; rfl; exact R69.out _ (heap_new rfl))
      | ((with_reducible refine wpList_builtg ?_ 36 [] ?_ [] ?_ (dc zero32) bzD ?_); rfl; rfl; rfl)
      | ((with_reducible refine wpList_builtg ?_ 37 [] ?_ [] ?_ (dc zero32) bzK ?_); rfl; rfl; rfl)
      | ((with_reducible refine wpList_builtg ?_ 89 [(0, .tmp 32), (1, .tmp 34)] ?_ [(0, .agg (dc x.key)), (1, .slice x.ao x.n x.c)] ?_ lf HBL.out ?_); rfl; rfl; rfl)
      | ((with_reducible refine wpList_builtg ?_ 91 [(0, .tmp 50), (1, .tmp 52), (2, .tmp 54)] ?_ [(0, .int .i64 x.left), (1, .int .i64 x.lc), (2, .agg (dc x.ls))] ?_ ch1 HC1.out ?_); rfl; rfl; rfl)
      | ((with_reducible refine wpList_builtg ?_ 91 [(0, .tmp 57), (1, .tmp 59), (2, .tmp 61)] ?_ [(0, .int .i64 x.right), (1, .int .i64 x.rc), (2, .agg (dc x.rs))] ?_ ch2 HC2.out ?_); rfl; rfl; rfl)
      | ((with_reducible refine wpList_builtg ?_ 93 [(0, .tmp 55), (1, .tmp 62)] ?_ [(0, .agg ch1), (1, .agg ch2)] ?_ brc HBB.out ?_); rfl; rfl; rfl)
      | ((with_reducible refine wpList_yields ?_ (held_eql ?_ 36 36 (.tmp 21) (.tmp 22) ?_ x.ls zero32 true ?_ ?_ hgD e1) ?_); rfl; rfl; rfl; rfl; rfl)
      | ((with_reducible refine wpList_yields ?_ (held_eql ?_ 36 36 (.tmp 27) (.tmp 28) ?_ x.rs zero32 true ?_ ?_ hgD e2) ?_); rfl; rfl; rfl; rfl; rfl)
      | ((with_reducible refine wpList_yields ?_ (held_eql ?_ 37 37 (.tmp 40) (.tmp 41) ?_ x.key zero32 (eqD x.key zero32) ?_ ?_ hgK e3) ?_); rfl; rfl; rfl; rfl; rfl))
    go_ret
    exact ⟨rfl, Below.refl_alloc w _⟩
  rcases key with ⟨k, ko, a1, a2, kf⟩ | key
  · subst kf
    rw [k] at g0
    have e1 : ∀ W, (Op.equalIn 10000 36 (.agg (dc x.ls)) (.agg (dc zero32))).run Try.prog W = .ok true W := fun W => by rw [ee1 W, a1]
    have e2 : ∀ W, (Op.equalIn 10000 36 (.agg (dc x.rs)) (.agg (dc zero32))).run Try.prog W = .ok false W := fun W => by rw [ee2 W, a2]
    have e3 := ee3
    clear ee1 ee2 ee3
    go_enter Try.func22, Try.ntmps22
    go_wp2_with (first
      | ((with_reducible refine wpList_load32g ?_ 36 (.tmp 20) ?_ w.heap.size 5 ?_ x.ls 5 ?_ UD hiD ?_); rfl; rfl; rfl; exact R5.out _ (heap_new rfl))
      | ((with_reducible refine wpList_load32g ?_ 36 (.tmp 26) ?_ w.heap.size 37 ?_ x.rs 5 ?_ UD hiD ?_); rfl; rfl; rfl; exact R37.out _ (heap_new rfl))
      | ((with_reducible refine wpList_load32g ?_ 36 (.tmp 53) ?_ w.heap.size 5 ?_ x.ls 5 ?_ UD hiD ?_); rfl; rfl; rfl; exact R5.out _ (heap_new rfl))
      | ((with_reducible refine wpList_load32g ?_ 36 (.tmp 60) ?_ w.heap.size 37 ?_ x.rs 5 ?_ UD hiD ?_); rfl; rfl; rfl; exact R37.out _ (heap_new rfl))
      | ((with_reducible refine wpList_load32g ?_ 37 (.tmp 31) ?_ w.heap.size 69 ?_ x.key 5 ?_ UK hiK ?_); rfl; rfl; rfl; exact R69.out _ (heap_new rfl))
      | ((with_reducible refine wpList_load32g ?_ 37 (.tmp 39) ?_ w.heap.size 69 ?_ x.key 5 ?_ UK hiK ?_); rfl; rfl; rfl; exact R69.out _ (heap_new rfl))
      | ((with_reducible refine wpList_builtg ?_ 36 [] ?_ [] ?_ (dc zero32) bzD ?_); rfl; rfl; rfl)
      | ((with_reducible refine wpList_builtg ?_ 37 [] ?_ [] ?_ (dc zero32) bzK ?_); rfl; rfl; rfl)
      | ((with_reducible refine wpList_builtg ?_ 89 [(0, .tmp 32), (1, .tmp 34)] ?_ [(0, .agg (dc x.key)), (1, .slice x.ao x.n x.c)] ?_ lf HBL.out ?_); rfl; rfl; rfl)
      | ((with_reducible refine wpList_builtg ?_ 91 [(0, .tmp 50), (1, .tmp 52), (2, .tmp 54)] ?_ [(0, .int .i64 x.left), (1, .int .i64 x.lc), (2, .agg (dc x.ls))] ?_ ch1 HC1.out ?_); rfl; rfl; rfl)
      | ((with_reducible refine wpList_builtg ?_ 91 [(0, .tmp 57), (1, .tmp 59), (2, .tmp 61)] ?_ [(0, .int .i64 x.right), (1, .int .i64 x.rc), (2, .agg (dc x.rs))] ?_ ch2 HC2.out ?_); rfl; rfl; rfl)
      | ((with_reducible refine wpList_builtg ?_ 93 [(0, .tmp 55), (1, .tmp 62)] ?_ [(0, .agg ch1), (1, .agg ch2)] ?_ brc HBB.out ?_); rfl; rfl; rfl)
      | ((with_reducible refine wpList_yields ?_ (held_eql ?_ 36 36 (.tmp 21) (.tmp 22) ?_ x.ls zero32 true ?_ ?_ hgD e1) ?_); rfl; rfl; rfl; rfl; rfl)
      | ((with_reducible refine wpList_yields ?_ (held_eql ?_ 36 36 (.tmp 27) (.tmp 28) ?_ x.rs zero32 false ?_ ?_ hgD e2) ?_); rfl; rfl; rfl; rfl; rfl)
      | ((with_reducible refine wpList_yields ?_ (held_eql ?_ 37 37 (.tmp 40) (.tmp 41) ?_ x.key zero32 (eqD x.key zero32) ?_ ?_ hgK e3) ?_); rfl; rfl; rfl; rfl; rfl))
    go_ret
    exact ⟨rfl, Below.refl_alloc w _⟩
  rcases key with ⟨k, ko, a1, kf⟩ | key
  · subst kf
    rw [k] at g0
    have e1 : ∀ W, (Op.equalIn 10000 36 (.agg (dc x.ls)) (.agg (dc zero32))).run Try.prog W = .ok false W := fun W => by rw [ee1 W, a1]
    have e2 := ee2
    have e3 := ee3
    clear ee1 ee2 ee3
    go_enter Try.func22, Try.ntmps22
    go_wp2_with (first
      | ((with_reducible refine wpList_load32g ?_ 36 (.tmp 20) ?_ w.heap.size 5 ?_ x.ls 5 ?_ UD hiD ?_); rfl; rfl; rfl; exact R5.out _ (heap_new rfl))
      | ((with_reducible refine wpList_load32g ?_ 36 (.tmp 26) ?_ w.heap.size 37 ?_ x.rs 5 ?_ UD hiD ?_); rfl; rfl; rfl; exact R37.out _ (heap_new rfl))
      | ((with_reducible refine wpList_load32g ?_ 36 (.tmp 53) ?_ w.heap.size 5 ?_ x.ls 5 ?_ UD hiD ?_); rfl; rfl; rfl; exact R5.out _ (heap_new rfl))
      | ((with_reducible refine wpList_load32g ?_ 36 (.tmp 60) ?_ w.heap.size 37 ?_ x.rs 5 ?_ UD hiD ?_); rfl; rfl; rfl; exact R37.out _ (heap_new rfl))
      | ((with_reducible refine wpList_load32g ?_ 37 (.tmp 31) ?_ w.heap.size 69 ?_ x.key 5 ?_ UK hiK ?_); rfl; rfl; rfl; exact R69.out _ (heap_new rfl))
      | ((with_reducible refine wpList_load32g ?_ 37 (.tmp 39) ?_ w.heap.size 69 ?_ x.key 5 ?_ UK hiK ?_); rfl; rfl; rfl; exact R69.out _ (heap_new rfl))
      | ((with_reducible refine wpList_builtg ?_ 36 [] ?_ [] ?_ (dc zero32) bzD ?_); rfl; rfl; rfl)
      | ((with_reducible refine wpList_builtg ?_ 37 [] ?_ [] ?_ (dc zero32) bzK ?_); rfl; rfl; rfl)
      | ((with_reducible refine wpList_builtg ?_ 89 [(0, .tmp 32), (1, .tmp 34)] ?_ [(0, .agg (dc x.key)), (1, .slice x.ao x.n x.c)] ?_ lf HBL.out ?_); rfl; rfl; rfl)
      | ((with_reducible refine wpList_builtg ?_ 91 [(0, .tmp 50), (1, .tmp 52), (2, .tmp 54)] ?_ [(0, .int .i64 x.left), (1, .int .i64 x.lc), (2, .agg (dc x.ls))] ?_ ch1 HC1.out ?_); rfl; rfl; rfl)
      | ((with_reducible refine wpList_builtg ?_ 91 [(0, .tmp 57), (1, .tmp 59), (2, .tmp 61)] ?_ [(0, .int .i64 x.right), (1, .int .i64 x.rc), (2, .agg (dc x.rs))] ?_ ch2 HC2.out ?_); rfl; rfl; rfl)
      | ((with_reducible refine wpList_builtg ?_ 93 [(0, .tmp 55), (1, .tmp 62)] ?_ [(0, .agg ch1), (1, .agg ch2)] ?_ brc HBB.out ?_); rfl; rfl; rfl)
      | ((with_reducible refine wpList_yields ?_ (held_eql ?_ 36 36 (.tmp 21) (.tmp 22) ?_ x.ls zero32 false ?_ ?_ hgD e1) ?_); rfl; rfl; rfl; rfl; rfl)
      | ((with_reducible refine wpList_yields ?_ (held_eql ?_ 36 36 (.tmp 27) (.tmp 28) ?_ x.rs zero32 (eqD x.rs zero32) ?_ ?_ hgD e2) ?_); rfl; rfl; rfl; rfl; rfl)
      | ((with_reducible refine wpList_yields ?_ (held_eql ?_ 37 37 (.tmp 40) (.tmp 41) ?_ x.key zero32 (eqD x.key zero32) ?_ ?_ hgK e3) ?_); rfl; rfl; rfl; rfl; rfl))
    go_ret
    exact ⟨rfl, Below.refl_alloc w _⟩
  rcases key with ⟨k, ko, kf⟩ | key
  · subst kf
    rw [k] at g0
    have e1 := ee1
    have e2 := ee2
    have e3 := ee3
    clear ee1 ee2 ee3
    go_enter Try.func22, Try.ntmps22
    go_wp2_with (first
      | ((with_reducible refine wpList_load32g ?_ 36 (.tmp 20) ?_ w.heap.size 5 ?_ x.ls 5 ?_ UD hiD ?_); rfl; rfl; rfl; exact R5.out _ (heap_new rfl))
      | ((with_reducible refine wpList_load32g ?_ 36 (.tmp 26) ?_ w.heap.size 37 ?_ x.rs 5 ?_ UD hiD ?_); rfl; rfl; rfl; exact R37.out _ (heap_new rfl))
      | ((with_reducible refine wpList_load32g ?_ 36 (.tmp 53) ?_ w.heap.size 5 ?_ x.ls 5 ?_ UD hiD ?_); rfl; rfl; rfl; exact R5.out _ (heap_new rfl))
      | ((with_reducible refine wpList_load32g ?_ 36 (.tmp 60) ?_ w.heap.size 37 ?_ x.rs 5 ?_ UD hiD ?_); rfl; rfl; rfl; exact R37.out _ (heap_new rfl))
      | ((with_reducible refine wpList_load32g ?_ 37 (.tmp 31) ?_ w.heap.size 69 ?_ x.key 5 ?_ UK hiK ?_); rfl; rfl; rfl; exact R69.out _ (heap_new rfl))
      | ((with_reducible refine wpList_load32g ?_ 37 (.tmp 39) ?_ w.heap.size 69 ?_ x.key 5 ?_ UK hiK ?_); rfl; rfl; rfl; exact R69.out _ (heap_new rfl))
      | ((with_reducible refine wpList_builtg ?_ 36 [] ?_ [] ?_ (dc zero32) bzD ?_); rfl; rfl; rfl)
      | ((with_reducible refine wpList_builtg ?_ 37 [] ?_ [] ?_ (dc zero32) bzK ?_); rfl; rfl; rfl)
      | ((with_reducible refine wpList_builtg ?_ 89 [(0, .tmp 32), (1, .tmp 34)] ?_ [(0, .agg (dc x.key)), (1, .slice x.ao x.n x.c)] ?_ lf HBL.out ?_); rfl; rfl; rfl)
      | ((with_reducible refine wpList_builtg ?_ 91 [(0, .tmp 50), (1, .tmp 52), (2, .tmp 54)] ?_ [(0, .int .i64 x.left), (1, .int .i64 x.lc), (2, .agg (dc x.ls))] ?_ ch1 HC1.out ?_); rfl; rfl; rfl)
      | ((with_reducible refine wpList_builtg ?_ 91 [(0, .tmp 57), (1, .tmp 59), (2, .tmp 61)] ?_ [(0, .int .i64 x.right), (1, .int .i64 x.rc), (2, .agg (dc x.rs))] ?_ ch2 HC2.out ?_); rfl; rfl; rfl)
      | ((with_reducible refine wpList_builtg ?_ 93 [(0, .tmp 55), (1, .tmp 62)] ?_ [(0, .agg ch1), (1, .agg ch2)] ?_ brc HBB.out ?_); rfl; rfl; rfl)
      | ((with_reducible refine wpList_yields ?_ (held_eql ?_ 36 36 (.tmp 21) (.tmp 22) ?_ x.ls zero32 (eqD x.ls zero32) ?_ ?_ hgD e1) ?_); rfl; rfl; rfl; rfl; rfl)
      | ((with_reducible refine wpList_yields ?_ (held_eql ?_ 36 36 (.tmp 27) (.tmp 28) ?_ x.rs zero32 (eqD x.rs zero32) ?_ ?_ hgD e2) ?_); rfl; rfl; rfl; rfl; rfl)
      | ((with_reducible refine wpList_yields ?_ (held_eql ?_ 37 37 (.tmp 40) (.tmp 41) ?_ x.key zero32 (eqD x.key zero32) ?_ ?_ hgK e3) ?_); rfl; rfl; rfl; rfl; rfl))
    go_ret
    exact ⟨rfl, Below.refl_alloc w _⟩
  rcases key with ⟨k, a1, kn, kf⟩ | key
  · subst kf
    rw [k] at g0
    have e1 := ee1
    have e2 := ee2
    have e3 : ∀ W, (Op.equalIn 10000 37 (.agg (dc x.key)) (.agg (dc zero32))).run Try.prog W = .ok true W := fun W => by rw [ee3 W, a1]
    clear ee1 ee2 ee3
    go_enter Try.func22, Try.ntmps22
    go_wp2_with (first
      | ((with_reducible refine wpList_load32g ?_ 36 (.tmp 20) ?_ w.heap.size 5 ?_ x.ls 5 ?_ UD hiD ?_); rfl; rfl; rfl; exact R5.out _ (heap_new rfl))
      | ((with_reducible refine wpList_load32g ?_ 36 (.tmp 26) ?_ w.heap.size 37 ?_ x.rs 5 ?_ UD hiD ?_); rfl; rfl; rfl; exact R37.out _ (heap_new rfl))
      | ((with_reducible refine wpList_load32g ?_ 36 (.tmp 53) ?_ w.heap.size 5 ?_ x.ls 5 ?_ UD hiD ?_); rfl; rfl; rfl; exact R5.out _ (heap_new rfl))
      | ((with_reducible refine wpList_load32g ?_ 36 (.tmp 60) ?_ w.heap.size 37 ?_ x.rs 5 ?_ UD hiD ?_); rfl; rfl; rfl; exact R37.out _ (heap_new rfl))
      | ((with_reducible refine wpList_load32g ?_ 37 (.tmp 31) ?_ w.heap.size 69 ?_ x.key 5 ?_ UK hiK ?_); rfl; rfl; rfl; exact R69.out _ (heap_new rfl))
      | ((with_reducible refine wpList_load32g ?_ 37 (.tmp 39) ?_ w.heap.size 69 ?_ x.key 5 ?_ UK hiK ?_); rfl; rfl; rfl; exact R69.out _ (heap_new rfl))
      | ((with_reducible refine wpList_builtg ?_ 36 [] ?_ [] ?_ (dc zero32) bzD ?_); rfl; rfl; rfl)
      | ((with_reducible refine wpList_builtg ?_ 37 [] ?_ [] ?_ (dc zero32) bzK ?_); rfl; rfl; rfl)
      | ((with_reducible refine wpList_builtg ?_ 89 [(0, .tmp 32), (1, .tmp 34)] ?_ [(0, .agg (dc x.key)), (1, .slice x.ao x.n x.c)] ?_ lf HBL.out ?_); rfl; rfl; rfl)
      | ((with_reducible refine wpList_builtg ?_ 91 [(0, .tmp 50), (1, .tmp 52), (2, .tmp 54)] ?_ [(0, .int .i64 x.left), (1, .int .i64 x.lc), (2, .agg (dc x.ls))] ?_ ch1 HC1.out ?_); rfl; rfl; rfl)
      | ((with_reducible refine wpList_builtg ?_ 91 [(0, .tmp 57), (1, .tmp 59), (2, .tmp 61)] ?_ [(0, .int .i64 x.right), (1, .int .i64 x.rc), (2, .agg (dc x.rs))] ?_ ch2 HC2.out ?_); rfl; rfl; rfl)
      | ((with_reducible refine wpList_builtg ?_ 93 [(0, .tmp 55), (1, .tmp 62)] ?_ [(0, .agg ch1), (1, .agg ch2)] ?_ brc HBB.out ?_); rfl; rfl; rfl)
      | ((with_reducible refine wpList_yields ?_ (held_eql ?_ 36 36 (.tmp 21) (.tmp 22) ?_ x.ls zero32 (eqD x.ls zero32) ?_ ?_ hgD e1) ?_); rfl; rfl; rfl; rfl; rfl)
      | ((with_reducible refine wpList_yields ?_ (held_eql ?_ 36 36 (.tmp 27) (.tmp 28) ?_ x.rs zero32 (eqD x.rs zero32) ?_ ?_ hgD e2) ?_); rfl; rfl; rfl; rfl; rfl)
      | ((with_reducible refine wpList_yields ?_ (held_eql ?_ 37 37 (.tmp 40) (.tmp 41) ?_ x.key zero32 true ?_ ?_ hgK e3) ?_); rfl; rfl; rfl; rfl; rfl))
    go_ret
    exact ⟨rfl, Below.refl_alloc w _⟩
  rcases key with ⟨k, a1, kn, kf⟩ | key
  · subst kf
    rw [k] at g0
    have e1 := ee1
    have e2 := ee2
    have e3 : ∀ W, (Op.equalIn 10000 37 (.agg (dc x.key)) (.agg (dc zero32))).run Try.prog W = .ok true W := fun W => by rw [ee3 W, a1]
    clear ee1 ee2 ee3
    go_enter Try.func22, Try.ntmps22
    go_wp2_with (first
      | ((with_reducible refine wpList_load32g ?_ 36 (.tmp 20) ?_ w.heap.size 5 ?_ x.ls 5 ?_ UD hiD ?_); rfl; rfl; rfl; exact R5.out _ (heap_new rfl))
      | ((with_reducible refine wpList_load32g ?_ 36 (.tmp 26) ?_ w.heap.size 37 ?_ x.rs 5 ?_ UD hiD ?_); rfl; rfl; rfl; exact R37.out _ (heap_new rfl))
      | ((with_reducible refine wpList_load32g ?_ 36 (.tmp 53) ?_ w.heap.size 5 ?_ x.ls 5 ?_ UD hiD ?_); rfl; rfl; rfl; exact R5.out _ (heap_new rfl))
      | ((with_reducible refine wpList_load32g ?_ 36 (.tmp 60) ?_ w.heap.size 37 ?_ x.rs 5 ?_ UD hiD ?_); rfl; rfl; rfl; exact R37.out _ (heap_new rfl))
      | ((with_reducible refine wpList_load32g ?_ 37 (.tmp 31) ?_ w.heap.size 69 ?_ x.key 5 ?_ UK hiK ?_); rfl; rfl; rfl; exact R69.out _ (heap_new rfl))
      | ((with_reducible refine wpList_load32g ?_ 37 (.tmp 39) ?_ w.heap.size 69 ?_ x.key 5 ?_ UK hiK ?_); rfl; rfl; rfl; exact R69.out _ (heap_new rfl))
      | ((with_reducible refine wpList_builtg ?_ 36 [] ?_ [] ?_ (dc zero32) bzD ?_); rfl; rfl; rfl)
      | ((with_reducible refine wpList_builtg ?_ 37 [] ?_ [] ?_ (dc zero32) bzK ?_); rfl; rfl; rfl)
      | ((with_reducible refine wpList_builtg ?_ 89 [(0, .tmp 32), (1, .tmp 34)] ?_ [(0, .agg (dc x.key)), (1, .slice x.ao x.n x.c)] ?_ lf HBL.out ?_); rfl; rfl; rfl)
      | ((with_reducible refine wpList_builtg ?_ 91 [(0, .tmp 50), (1, .tmp 52), (2, .tmp 54)] ?_ [(0, .int .i64 x.left), (1, .int .i64 x.lc), (2, .agg (dc x.ls))] ?_ ch1 HC1.out ?_); rfl; rfl; rfl)
      | ((with_reducible refine wpList_builtg ?_ 91 [(0, .tmp 57), (1, .tmp 59), (2, .tmp 61)] ?_ [(0, .int .i64 x.right), (1, .int .i64 x.rc), (2, .agg (dc x.rs))] ?_ ch2 HC2.out ?_); rfl; rfl; rfl)
      | ((with_reducible refine wpList_builtg ?_ 93 [(0, .tmp 55), (1, .tmp 62)] ?_ [(0, .agg ch1), (1, .agg ch2)] ?_ brc HBB.out ?_); rfl; rfl; rfl)
      | ((with_reducible refine wpList_yields ?_ (held_eql ?_ 36 36 (.tmp 21) (.tmp 22) ?_ x.ls zero32 (eqD x.ls zero32) ?_ ?_ hgD e1) ?_); rfl; rfl; rfl; rfl; rfl)
      | ((with_reducible refine wpList_yields ?_ (held_eql ?_ 36 36 (.tmp 27) (.tmp 28) ?_ x.rs zero32 (eqD x.rs zero32) ?_ ?_ hgD e2) ?_); rfl; rfl; rfl; rfl; rfl)
      | ((with_reducible refine wpList_yields ?_ (held_eql ?_ 37 37 (.tmp 40) (.tmp 41) ?_ x.key zero32 true ?_ ?_ hgK e3) ?_); rfl; rfl; rfl; rfl; rfl))
    go_ret
    exact ⟨rfl, Below.refl_alloc w _⟩
  rcases key with ⟨k, a1, kf⟩ | key
  · subst kf
    rw [k] at g0
    have e1 := ee1
    have e2 := ee2
    have e3 : ∀ W, (Op.equalIn 10000 37 (.agg (dc x.key)) (.agg (dc zero32))).run Try.prog W = .ok false W := fun W => by rw [ee3 W, a1]
    clear ee1 ee2 ee3
    go_enter Try.func22, Try.ntmps22
    go_wp2_with (first
      | ((with_reducible refine wpList_load32g ?_ 36 (.tmp 20) ?_ w.heap.size 5 ?_ x.ls 5 ?_ UD hiD ?_); rfl; rfl; rfl; exact R5.out _ (heap_new rfl))
      | ((with_reducible refine wpList_load32g ?_ 36 (.tmp 26) ?_ w.heap.size 37 ?_ x.rs 5 ?_ UD hiD ?_); rfl; rfl; rfl; exact R37.out _ (heap_new rfl))
      | ((with_reducible refine wpList_load32g ?_ 36 (.tmp 53) ?_ w.heap.size 5 ?_ x.ls 5 ?_ UD hiD ?_); rfl; rfl; rfl; exact R5.out _ (heap_new rfl))
      | ((with_reducible refine wpList_load32g ?_ 36 (.tmp 60) ?_ w.heap.size 37 ?_ x.rs 5 ?_ UD hiD ?_); rfl; rfl; rfl; exact R37.out _ (heap_new rfl))
      | ((with_reducible refine wpList_load32g ?_ 37 (.tmp 31) ?_ w.heap.size 69 ?_ x.key 5 ?_ UK hiK ?_); rfl; rfl; rfl; exact R69.out _ (heap_new rfl))
      | ((with_reducible refine wpList_load32g ?_ 37 (.tmp 39) ?_ w.heap.size 69 ?_ x.key 5 ?_ UK hiK ?_); rfl; rfl; rfl; exact R69.out _ (heap_new rfl))
      | ((with_reducible refine wpList_builtg ?_ 36 [] ?_ [] ?_ (dc zero32) bzD ?_); rfl; rfl; rfl)
      | ((with_reducible refine wpList_builtg ?_ 37 [] ?_ [] ?_ (dc zero32) bzK ?_); rfl; rfl; rfl)
      | ((with_reducible refine wpList_builtg ?_ 89 [(0, .tmp 32), (1, .tmp 34)] ?_ [(0, .agg (dc x.key)), (1, .slice x.ao x.n x.c)] ?_ lf HBL.out ?_); rfl; rfl; rfl)
      | ((with_reducible refine wpList_builtg ?_ 91 [(0, .tmp 50), (1, .tmp 52), (2, .tmp 54)] ?_ [(0, .int .i64 x.left), (1, .int .i64 x.lc), (2, .agg (dc x.ls))] ?_ ch1 HC1.out ?_); rfl; rfl; rfl)
      | ((with_reducible refine wpList_builtg ?_ 91 [(0, .tmp 57), (1, .tmp 59), (2, .tmp 61)] ?_ [(0, .int .i64 x.right), (1, .int .i64 x.rc), (2, .agg (dc x.rs))] ?_ ch2 HC2.out ?_); rfl; rfl; rfl)
      | ((with_reducible refine wpList_builtg ?_ 93 [(0, .tmp 55), (1, .tmp 62)] ?_ [(0, .agg ch1), (1, .agg ch2)] ?_ brc HBB.out ?_); rfl; rfl; rfl)
      | ((with_reducible refine wpList_yields ?_ (held_eql ?_ 36 36 (.tmp 21) (.tmp 22) ?_ x.ls zero32 (eqD x.ls zero32) ?_ ?_ hgD e1) ?_); rfl; rfl; rfl; rfl; rfl)
      | ((with_reducible refine wpList_yields ?_ (held_eql ?_ 36 36 (.tmp 27) (.tmp 28) ?_ x.rs zero32 (eqD x.rs zero32) ?_ ?_ hgD e2) ?_); rfl; rfl; rfl; rfl; rfl)
      | ((with_reducible refine wpList_yields ?_ (held_eql ?_ 37 37 (.tmp 40) (.tmp 41) ?_ x.key zero32 false ?_ ?_ hgK e3) ?_); rfl; rfl; rfl; rfl; rfl))
    go_ret
    exact ⟨rfl, Below.refl_alloc w _⟩
  obtain ⟨k, k', kf⟩ := key
  subst kf
  have e1 := ee1
  have e2 := ee2
  have e3 := ee3
  clear ee1 ee2 ee3
  go_enter Try.func22, Try.ntmps22
  go_wp2_with (first
    | ((with_reducible refine wpList_load32g ?_ 36 (.tmp 20) ?_ w.heap.size 5 ?_ x.ls 5 ?_ UD hiD ?_); rfl; rfl; rfl; exact R5.out _ (heap_new rfl))
    | ((with_reducible refine wpList_load32g ?_ 36 (.tmp 26) ?_ w.heap.size 37 ?_ x.rs 5 ?_ UD hiD ?_); rfl; rfl; rfl; exact R37.out _ (heap_new rfl))
    | ((with_reducible refine wpList_load32g ?_ 36 (.tmp 53) ?_ w.heap.size 5 ?_ x.ls 5 ?_ UD hiD ?_); rfl; rfl; rfl; exact R5.out _ (heap_new rfl))
    | ((with_reducible refine wpList_load32g ?_ 36 (.tmp 60) ?_ w.heap.size 37 ?_ x.rs 5 ?_ UD hiD ?_); rfl; rfl; rfl; exact R37.out _ (heap_new rfl))
    | ((with_reducible refine wpList_load32g ?_ 37 (.tmp 31) ?_ w.heap.size 69 ?_ x.key 5 ?_ UK hiK ?_); rfl; rfl; rfl; exact R69.out _ (heap_new rfl))
    | ((with_reducible refine wpList_load32g ?_ 37 (.tmp 39) ?_ w.heap.size 69 ?_ x.key 5 ?_ UK hiK ?_); rfl; rfl; rfl; exact R69.out _ (heap_new rfl))
    | ((with_reducible refine wpList_builtg ?_ 36 [] ?_ [] ?_ (dc zero32) bzD ?_); rfl; rfl; rfl)
    | ((with_reducible refine wpList_builtg ?_ 37 [] ?_ [] ?_ (dc zero32) bzK ?_); rfl; rfl; rfl)
    | ((with_reducible refine wpList_builtg ?_ 89 [(0, .tmp 32), (1, .tmp 34)] ?_ [(0, .agg (dc x.key)), (1, .slice x.ao x.n x.c)] ?_ lf HBL.out ?_); rfl; rfl; rfl)
    | ((with_reducible refine wpList_builtg ?_ 91 [(0, .tmp 50), (1, .tmp 52), (2, .tmp 54)] ?_ [(0, .int .i64 x.left), (1, .int .i64 x.lc), (2, .agg (dc x.ls))] ?_ ch1 HC1.out ?_); rfl; rfl; rfl)
    | ((with_reducible refine wpList_builtg ?_ 91 [(0, .tmp 57), (1, .tmp 59), (2, .tmp 61)] ?_ [(0, .int .i64 x.right), (1, .int .i64 x.rc), (2, .agg (dc x.rs))] ?_ ch2 HC2.out ?_); rfl; rfl; rfl)
    | ((with_reducible refine wpList_builtg ?_ 93 [(0, .tmp 55), (1, .tmp 62)] ?_ [(0, .agg ch1), (1, .agg ch2)] ?_ brc HBB.out ?_); rfl; rfl; rfl)
    | ((with_reducible refine wpList_yields ?_ (held_eql ?_ 36 36 (.tmp 21) (.tmp 22) ?_ x.ls zero32 (eqD x.ls zero32) ?_ ?_ hgD e1) ?_); rfl; rfl; rfl; rfl; rfl)
    | ((with_reducible refine wpList_yields ?_ (held_eql ?_ 36 36 (.tmp 27) (.tmp 28) ?_ x.rs zero32 (eqD x.rs zero32) ?_ ?_ hgD e2) ?_); rfl; rfl; rfl; rfl; rfl)
    | ((with_reducible refine wpList_yields ?_ (held_eql ?_ 37 37 (.tmp 40) (.tmp 41) ?_ x.key zero32 (eqD x.key zero32) ?_ ?_ hgK e3) ?_); rfl; rfl; rfl; rfl; rfl))
  go_ret
  exact ⟨rfl, Below.refl_alloc w _⟩
end Go.Proofs.Ytdnahagibodnpaa
