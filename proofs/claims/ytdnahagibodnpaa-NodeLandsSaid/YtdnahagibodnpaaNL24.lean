/- Texts joined: SameN, BackP. -/
import Derived.Test.YtdnahagibodnpaaNL22
import Derived.Test.YtdnahagibodnpaaNL06
import Derived.Test.YtdnahagibodnpaaNL02
import Derived.Test.YtdnahagibodnpaaNL23
/- Are two nodes the same: the walk of the law's own sameNode. -/
namespace Go.Proofs.Ytdnahagibodnpaa
set_option linter.unusedSectionVars false
set_option linter.unusedSimpArgs false
open Go Go.RowKit
set_option linter.unusedVariables false
def eqInts (x y : NodeV) : Bool := (x.kind == y.kind) && (x.left == y.left) && (x.right == y.right) && (x.lc == y.lc) && (x.rc == y.rc)
def eqNode (x y : NodeV) (lx ly : List UInt8) : Bool := eqInts x y && eqD x.ls y.ls && eqD x.rs y.rs && eqD x.key y.key && eqB lx ly
set_option maxRecDepth 100000 in
set_option maxHeartbeats 4000000 in
theorem sameNode_any (x y : NodeV) (lx ly : List UInt8) (w : World) (hx : Row w x.ao x.n lx) (hy : Row w y.ao y.n ly) (mx : x.n ≤ maxLen) (my : y.n ≤ maxLen) :
    Calls Try.prog 14 #[.agg (nodeC x).toArray, .agg (nodeC y).toArray] w fun e w' => e = .returned (.bool (eqNode x y lx ly)) ∧ Below w.heap.size w w' := by
  have UD : Try.prog.underlying 36 = some (.array 32 5) := Try.underlying36
  have UK : Try.prog.underlying 37 = some (.array 32 5) := Try.underlying37
  have hiD : Hid ((Try.prog.info? 36).map (·.size) = some 32) := by unfold Hid; kernel_rfl
  have hiK : Hid ((Try.prog.info? 37).map (·.size) = some 32) := by unfold Hid; kernel_rfl
  have hgD : Try.prog.eqGuardType Try.prog.depth 36 = false := by kernel_rfl
  have hgK : Try.prog.eqGuardType Try.prog.depth 37 = false := by kernel_rfl
  have eD : ∀ (x y : D32) (W : World), (Op.equalIn 10000 36 (.agg (dc x)) (.agg (dc y))).run Try.prog W = .ok (eqD x y) W := by
    obtain ⟨i5, hi5'⟩ := Option.isSome_iff_exists.1 (show (Try.prog.info? 5).isSome = true by kernel_rfl)
    exact fun x y W => equalIn_d32 (d := 9998) Try.underlying36 hi5' Try.underlying5 (by kernel_rfl) x y W
  have eK : ∀ (x y : D32) (W : World), (Op.equalIn 10000 37 (.agg (dc x)) (.agg (dc y))).run Try.prog W = .ok (eqD x y) W := by
    obtain ⟨i5, hi5'⟩ := Option.isSome_iff_exists.1 (show (Try.prog.info? 5).isSome = true by kernel_rfl)
    exact fun x y W => equalIn_d32 (d := 9998) Try.underlying37 hi5' Try.underlying5 (by kernel_rfl) x y W
  have e1 := fun W => eD x.ls y.ls W
  have e2 := fun W => eD x.rs y.rs W
  have e3 := fun W => eK x.key y.key W
  clear eD eK
  have r5x : ∀ W : World, W.heap[w.heap.size]? = some (.cells (nodeC x).toArray 39 (0, 0)) → W.rangeAt w.heap.size 5 (bvs x.ls.1) := fun W hW => rangeAt_cells hW fun j hj => nodeC_ls x j (by rwa [length_bvs, x.ls.2] at hj)
  have r37x : ∀ W : World, W.heap[w.heap.size]? = some (.cells (nodeC x).toArray 39 (0, 0)) → W.rangeAt w.heap.size 37 (bvs x.rs.1) := fun W hW => rangeAt_cells hW fun j hj => nodeC_rs x j (by rwa [length_bvs, x.rs.2] at hj)
  have r69x : ∀ W : World, W.heap[w.heap.size]? = some (.cells (nodeC x).toArray 39 (0, 0)) → W.rangeAt w.heap.size 69 (bvs x.key.1) := fun W hW => rangeAt_cells hW fun j hj => nodeC_key x j (by rwa [length_bvs, x.key.2] at hj)
  have g0x : (nodeC x).toArray[0]? = some (.int .i64 x.kind) := rfl
  have g1x : (nodeC x).toArray[1]? = some (.int .i64 x.left) := rfl
  have g2x : (nodeC x).toArray[2]? = some (.int .i64 x.right) := rfl
  have g3x : (nodeC x).toArray[3]? = some (.int .i64 x.lc) := rfl
  have g4x : (nodeC x).toArray[4]? = some (.int .i64 x.rc) := rfl
  have g101x : (nodeC x).toArray[101]? = some (.slice x.ao x.n x.c) := nodeC_val x
  have R5x := Box.mk r5x
  have R37x := Box.mk r37x
  have R69x := Box.mk r69x
  clear r5x r37x r69x
  have r5y : ∀ W : World, W.heap[(w.heap.size + 1)]? = some (.cells (nodeC y).toArray 39 (0, 0)) → W.rangeAt (w.heap.size + 1) 5 (bvs y.ls.1) := fun W hW => rangeAt_cells hW fun j hj => nodeC_ls y j (by rwa [length_bvs, y.ls.2] at hj)
  have r37y : ∀ W : World, W.heap[(w.heap.size + 1)]? = some (.cells (nodeC y).toArray 39 (0, 0)) → W.rangeAt (w.heap.size + 1) 37 (bvs y.rs.1) := fun W hW => rangeAt_cells hW fun j hj => nodeC_rs y j (by rwa [length_bvs, y.rs.2] at hj)
  have r69y : ∀ W : World, W.heap[(w.heap.size + 1)]? = some (.cells (nodeC y).toArray 39 (0, 0)) → W.rangeAt (w.heap.size + 1) 69 (bvs y.key.1) := fun W hW => rangeAt_cells hW fun j hj => nodeC_key y j (by rwa [length_bvs, y.key.2] at hj)
  have g0y : (nodeC y).toArray[0]? = some (.int .i64 y.kind) := rfl
  have g1y : (nodeC y).toArray[1]? = some (.int .i64 y.left) := rfl
  have g2y : (nodeC y).toArray[2]? = some (.int .i64 y.right) := rfl
  have g3y : (nodeC y).toArray[3]? = some (.int .i64 y.lc) := rfl
  have g4y : (nodeC y).toArray[4]? = some (.int .i64 y.rc) := rfl
  have g101y : (nodeC y).toArray[101]? = some (.slice y.ao y.n y.c) := nodeC_val y
  have R5y := Box.mk r5y
  have R37y := Box.mk r37y
  have R69y := Box.mk r69y
  clear r5y r37y r69y
  obtain ⟨r, hr⟩ : ∃ r, eqNode x y lx ly = r := ⟨_, rfl⟩
  rw [hr]
  have HR := Box.mk hr
  clear hr
  obtain ⟨p, hp⟩ : ∃ p, eqInts x y = p := ⟨_, rfl⟩
  have HP := Box.mk hp
  clear hp
  generalize hd1 : eqD x.ls y.ls = b1 at *
  generalize hd2 : eqD x.rs y.rs = b2 at *
  generalize hd3 : eqD x.key y.key = b3 at *
  have HD1 := Box.mk hd1
  have HD2 := Box.mk hd2
  have HD3 := Box.mk hd3
  clear hd1 hd2 hd3
  generalize (nodeC x).toArray = cx at *
  generalize (nodeC y).toArray = cy at *
  have f1 : ((w.alloc (.cells cx 39)).alloc (.cells cy 39)).heap[w.heap.size]? = some (.cells cx 39 (0, 0)) := heap_old (heap_new rfl)
  have f2 : ((w.alloc (.cells cx 39)).alloc (.cells cy 39)).heap[w.heap.size + 1]? = some (.cells cy 39 (0, 0)) := heap_new (by simp)
  have F1 := Box.mk f1
  have F2 := Box.mk f2
  have bel := (Below.refl_alloc w (.cells cx 39)).alloc (B := w.heap.size) (by simp) (.cells cy 39)
  have B1 := Box.mk bel
  have HX := Box.mk (hx.old bel)
  have HY := Box.mk (hy.old bel)
  clear bel hx hy
  have c0x : ((w.alloc (.cells cx 39)).alloc (.cells cy 39)).cell? ⟨w.heap.size, 0, none⟩ = some (.int .i64 x.kind) := by rw [cell_of_row _ _ 0 _ _ _ f1]; exact g0x
  have c1x : ((w.alloc (.cells cx 39)).alloc (.cells cy 39)).cell? ⟨w.heap.size, 1, none⟩ = some (.int .i64 x.left) := by rw [cell_of_row _ _ 1 _ _ _ f1]; exact g1x
  have c2x : ((w.alloc (.cells cx 39)).alloc (.cells cy 39)).cell? ⟨w.heap.size, 2, none⟩ = some (.int .i64 x.right) := by rw [cell_of_row _ _ 2 _ _ _ f1]; exact g2x
  have c3x : ((w.alloc (.cells cx 39)).alloc (.cells cy 39)).cell? ⟨w.heap.size, 3, none⟩ = some (.int .i64 x.lc) := by rw [cell_of_row _ _ 3 _ _ _ f1]; exact g3x
  have c4x : ((w.alloc (.cells cx 39)).alloc (.cells cy 39)).cell? ⟨w.heap.size, 4, none⟩ = some (.int .i64 x.rc) := by rw [cell_of_row _ _ 4 _ _ _ f1]; exact g4x
  have c101x : ((w.alloc (.cells cx 39)).alloc (.cells cy 39)).cell? ⟨w.heap.size, 101, none⟩ = some (.slice x.ao x.n x.c) := by rw [cell_of_row _ _ 101 _ _ _ f1]; exact g101x
  have c0y : ((w.alloc (.cells cx 39)).alloc (.cells cy 39)).cell? ⟨w.heap.size + 1, 0, none⟩ = some (.int .i64 y.kind) := by rw [cell_of_row _ _ 0 _ _ _ f2]; exact g0y
  have c1y : ((w.alloc (.cells cx 39)).alloc (.cells cy 39)).cell? ⟨w.heap.size + 1, 1, none⟩ = some (.int .i64 y.left) := by rw [cell_of_row _ _ 1 _ _ _ f2]; exact g1y
  have c2y : ((w.alloc (.cells cx 39)).alloc (.cells cy 39)).cell? ⟨w.heap.size + 1, 2, none⟩ = some (.int .i64 y.right) := by rw [cell_of_row _ _ 2 _ _ _ f2]; exact g2y
  have c3y : ((w.alloc (.cells cx 39)).alloc (.cells cy 39)).cell? ⟨w.heap.size + 1, 3, none⟩ = some (.int .i64 y.lc) := by rw [cell_of_row _ _ 3 _ _ _ f2]; exact g3y
  have c4y : ((w.alloc (.cells cx 39)).alloc (.cells cy 39)).cell? ⟨w.heap.size + 1, 4, none⟩ = some (.int .i64 y.rc) := by rw [cell_of_row _ _ 4 _ _ _ f2]; exact g4y
  have c101y : ((w.alloc (.cells cx 39)).alloc (.cells cy 39)).cell? ⟨w.heap.size + 1, 101, none⟩ = some (.slice y.ao y.n y.c) := by rw [cell_of_row _ _ 101 _ _ _ f2]; exact g101y
  clear f1 f2 g0x g1x g2x g3x g4x g101x g0y g1y g2y g3y g4y g101y
  go_enter Try.func14, Try.ntmps14
  go_upto_region 1 with fail
  have hsz : (w.alloc (.cells cx 39)).heap.size = w.heap.size + 1 := by simp
  try rw [hsz]
  clear hsz
  generalize (w.alloc (.cells cx 39)).alloc (.cells cy 39) = w1 at *
  go_cut [5] (fun s W => s = .bool p ∧ W = w1)
  case first =>
    cases k0 : (x.kind == y.kind)
    · obtain rfl : p = false := by rw [← HP.out]; unfold eqInts; simp [k0]
      clear HP HR HX HY R5x R37x R69x R5y R37y R69y
      go_wp2
      go_meet
      exact ⟨rfl, rfl⟩
    · skip
      cases k1 : (x.left == y.left)
      · obtain rfl : p = false := by rw [← HP.out]; unfold eqInts; simp [k0, k1]
        clear HP HR HX HY R5x R37x R69x R5y R37y R69y
        go_wp2
        go_meet
        exact ⟨rfl, rfl⟩
      · skip
        cases k2 : (x.right == y.right)
        · obtain rfl : p = false := by rw [← HP.out]; unfold eqInts; simp [k0, k1, k2]
          clear HP HR HX HY R5x R37x R69x R5y R37y R69y
          go_wp2
          go_meet
          exact ⟨rfl, rfl⟩
        · skip
          cases k3 : (x.lc == y.lc)
          · obtain rfl : p = false := by rw [← HP.out]; unfold eqInts; simp [k0, k1, k2, k3]
            clear HP HR HX HY R5x R37x R69x R5y R37y R69y
            go_wp2
            go_meet
            exact ⟨rfl, rfl⟩
          · skip
            cases k4 : (x.rc == y.rc)
            · obtain rfl : p = false := by rw [← HP.out]; unfold eqInts; simp [k0, k1, k2, k3, k4]
              clear HP HR HX HY R5x R37x R69x R5y R37y R69y
              go_wp2
              go_meet
              exact ⟨rfl, rfl⟩
            · skip
              obtain rfl : p = true := by rw [← HP.out]; unfold eqInts; simp [k0, k1, k2, k3, k4]
              clear HP HR HX HY R5x R37x R69x R5y R37y R69y
              go_wp2
              go_meet
              exact ⟨rfl, rfl⟩
  obtain ⟨rfl, rfl⟩ := hcut
  clear c0x c1x c2x c3x c4x c0y c1y c2y c3y c4y
  cases p
  · skip
    obtain rfl : r = false := by
      rw [← HR.out]
      unfold eqNode
      rw [HP.out, HD1.out, HD2.out, HD3.out]
      simp []
    clear HR HP HD1 HD2 HD3
    go_wp2
    go_ret
    exact ⟨rfl, B1.out⟩
  · cases b1
    · skip
      obtain rfl : r = false := by
        rw [← HR.out]
        unfold eqNode
        rw [HP.out, HD1.out, HD2.out, HD3.out]
        simp []
      clear HR HP HD1 HD2 HD3
      go_wp2_with (first
        | ((with_reducible refine arm_load32 36 (.tmp 41) ?_ ?_ w.heap.size 5 ?_ x.ls 5 ?_ UD hiD ?_); rfl; rfl; rfl; exact R5x.out _ F1.out)
        | ((with_reducible refine arm_load32 36 (.tmp 43) ?_ ?_ (w.heap.size + 1) 5 ?_ y.ls 5 ?_ UD hiD ?_); rfl; rfl; rfl; exact R5y.out _ F2.out)
        | ((with_reducible refine arm_load32 36 (.tmp 48) ?_ ?_ w.heap.size 37 ?_ x.rs 5 ?_ UD hiD ?_); rfl; rfl; rfl; exact R37x.out _ F1.out)
        | ((with_reducible refine arm_load32 36 (.tmp 50) ?_ ?_ (w.heap.size + 1) 37 ?_ y.rs 5 ?_ UD hiD ?_); rfl; rfl; rfl; exact R37y.out _ F2.out)
        | ((with_reducible refine arm_load32 37 (.tmp 55) ?_ ?_ w.heap.size 69 ?_ x.key 5 ?_ UK hiK ?_); rfl; rfl; rfl; exact R69x.out _ F1.out)
        | ((with_reducible refine arm_load32 37 (.tmp 57) ?_ ?_ (w.heap.size + 1) 69 ?_ y.key 5 ?_ UK hiK ?_); rfl; rfl; rfl; exact R69y.out _ F2.out)
        | ((with_reducible refine arm_eql 36 36 (.tmp 42) (.tmp 44) ?_ ?_ (dc x.ls) (dc y.ls) false ?_ ?_ hgD e1 ?_); rfl; rfl; rfl; rfl)
        | ((with_reducible refine arm_eql 36 36 (.tmp 49) (.tmp 51) ?_ ?_ (dc x.rs) (dc y.rs) b2 ?_ ?_ hgD e2 ?_); rfl; rfl; rfl; rfl)
        | ((with_reducible refine arm_eql 37 37 (.tmp 56) (.tmp 58) ?_ ?_ (dc x.key) (dc y.key) b3 ?_ ?_ hgK e3 ?_); rfl; rfl; rfl; rfl)
        | (go_at_call 32; refine (sameBytes_any x.ao y.ao x.n x.c y.n y.c lx ly _ HX.out HY.out mx my).mono ?_))
      go_ret
      exact ⟨rfl, B1.out⟩
    · cases b2
      · skip
        obtain rfl : r = false := by
          rw [← HR.out]
          unfold eqNode
          rw [HP.out, HD1.out, HD2.out, HD3.out]
          simp []
        clear HR HP HD1 HD2 HD3
        go_wp2_with (first
          | ((with_reducible refine arm_load32 36 (.tmp 41) ?_ ?_ w.heap.size 5 ?_ x.ls 5 ?_ UD hiD ?_); rfl; rfl; rfl; exact R5x.out _ F1.out)
          | ((with_reducible refine arm_load32 36 (.tmp 43) ?_ ?_ (w.heap.size + 1) 5 ?_ y.ls 5 ?_ UD hiD ?_); rfl; rfl; rfl; exact R5y.out _ F2.out)
          | ((with_reducible refine arm_load32 36 (.tmp 48) ?_ ?_ w.heap.size 37 ?_ x.rs 5 ?_ UD hiD ?_); rfl; rfl; rfl; exact R37x.out _ F1.out)
          | ((with_reducible refine arm_load32 36 (.tmp 50) ?_ ?_ (w.heap.size + 1) 37 ?_ y.rs 5 ?_ UD hiD ?_); rfl; rfl; rfl; exact R37y.out _ F2.out)
          | ((with_reducible refine arm_load32 37 (.tmp 55) ?_ ?_ w.heap.size 69 ?_ x.key 5 ?_ UK hiK ?_); rfl; rfl; rfl; exact R69x.out _ F1.out)
          | ((with_reducible refine arm_load32 37 (.tmp 57) ?_ ?_ (w.heap.size + 1) 69 ?_ y.key 5 ?_ UK hiK ?_); rfl; rfl; rfl; exact R69y.out _ F2.out)
          | ((with_reducible refine arm_eql 36 36 (.tmp 42) (.tmp 44) ?_ ?_ (dc x.ls) (dc y.ls) true ?_ ?_ hgD e1 ?_); rfl; rfl; rfl; rfl)
          | ((with_reducible refine arm_eql 36 36 (.tmp 49) (.tmp 51) ?_ ?_ (dc x.rs) (dc y.rs) false ?_ ?_ hgD e2 ?_); rfl; rfl; rfl; rfl)
          | ((with_reducible refine arm_eql 37 37 (.tmp 56) (.tmp 58) ?_ ?_ (dc x.key) (dc y.key) b3 ?_ ?_ hgK e3 ?_); rfl; rfl; rfl; rfl)
          | (go_at_call 32; refine (sameBytes_any x.ao y.ao x.n x.c y.n y.c lx ly _ HX.out HY.out mx my).mono ?_))
        go_ret
        exact ⟨rfl, B1.out⟩
      · cases b3
        · skip
          obtain rfl : r = false := by
            rw [← HR.out]
            unfold eqNode
            rw [HP.out, HD1.out, HD2.out, HD3.out]
            simp []
          clear HR HP HD1 HD2 HD3
          go_wp2_with (first
            | ((with_reducible refine arm_load32 36 (.tmp 41) ?_ ?_ w.heap.size 5 ?_ x.ls 5 ?_ UD hiD ?_); rfl; rfl; rfl; exact R5x.out _ F1.out)
            | ((with_reducible refine arm_load32 36 (.tmp 43) ?_ ?_ (w.heap.size + 1) 5 ?_ y.ls 5 ?_ UD hiD ?_); rfl; rfl; rfl; exact R5y.out _ F2.out)
            | ((with_reducible refine arm_load32 36 (.tmp 48) ?_ ?_ w.heap.size 37 ?_ x.rs 5 ?_ UD hiD ?_); rfl; rfl; rfl; exact R37x.out _ F1.out)
            | ((with_reducible refine arm_load32 36 (.tmp 50) ?_ ?_ (w.heap.size + 1) 37 ?_ y.rs 5 ?_ UD hiD ?_); rfl; rfl; rfl; exact R37y.out _ F2.out)
            | ((with_reducible refine arm_load32 37 (.tmp 55) ?_ ?_ w.heap.size 69 ?_ x.key 5 ?_ UK hiK ?_); rfl; rfl; rfl; exact R69x.out _ F1.out)
            | ((with_reducible refine arm_load32 37 (.tmp 57) ?_ ?_ (w.heap.size + 1) 69 ?_ y.key 5 ?_ UK hiK ?_); rfl; rfl; rfl; exact R69y.out _ F2.out)
            | ((with_reducible refine arm_eql 36 36 (.tmp 42) (.tmp 44) ?_ ?_ (dc x.ls) (dc y.ls) true ?_ ?_ hgD e1 ?_); rfl; rfl; rfl; rfl)
            | ((with_reducible refine arm_eql 36 36 (.tmp 49) (.tmp 51) ?_ ?_ (dc x.rs) (dc y.rs) true ?_ ?_ hgD e2 ?_); rfl; rfl; rfl; rfl)
            | ((with_reducible refine arm_eql 37 37 (.tmp 56) (.tmp 58) ?_ ?_ (dc x.key) (dc y.key) false ?_ ?_ hgK e3 ?_); rfl; rfl; rfl; rfl)
            | (go_at_call 32; refine (sameBytes_any x.ao y.ao x.n x.c y.n y.c lx ly _ HX.out HY.out mx my).mono ?_))
          go_ret
          exact ⟨rfl, B1.out⟩
        · skip
          obtain rfl : r = eqB lx ly := by
            rw [← HR.out]
            unfold eqNode
            rw [HP.out, HD1.out, HD2.out, HD3.out]
            simp
          clear HR HP HD1 HD2 HD3
          go_wp2_with (first
            | ((with_reducible refine arm_load32 36 (.tmp 41) ?_ ?_ w.heap.size 5 ?_ x.ls 5 ?_ UD hiD ?_); rfl; rfl; rfl; exact R5x.out _ F1.out)
            | ((with_reducible refine arm_load32 36 (.tmp 43) ?_ ?_ (w.heap.size + 1) 5 ?_ y.ls 5 ?_ UD hiD ?_); rfl; rfl; rfl; exact R5y.out _ F2.out)
            | ((with_reducible refine arm_load32 36 (.tmp 48) ?_ ?_ w.heap.size 37 ?_ x.rs 5 ?_ UD hiD ?_); rfl; rfl; rfl; exact R37x.out _ F1.out)
            | ((with_reducible refine arm_load32 36 (.tmp 50) ?_ ?_ (w.heap.size + 1) 37 ?_ y.rs 5 ?_ UD hiD ?_); rfl; rfl; rfl; exact R37y.out _ F2.out)
            | ((with_reducible refine arm_load32 37 (.tmp 55) ?_ ?_ w.heap.size 69 ?_ x.key 5 ?_ UK hiK ?_); rfl; rfl; rfl; exact R69x.out _ F1.out)
            | ((with_reducible refine arm_load32 37 (.tmp 57) ?_ ?_ (w.heap.size + 1) 69 ?_ y.key 5 ?_ UK hiK ?_); rfl; rfl; rfl; exact R69y.out _ F2.out)
            | ((with_reducible refine arm_eql 36 36 (.tmp 42) (.tmp 44) ?_ ?_ (dc x.ls) (dc y.ls) true ?_ ?_ hgD e1 ?_); rfl; rfl; rfl; rfl)
            | ((with_reducible refine arm_eql 36 36 (.tmp 49) (.tmp 51) ?_ ?_ (dc x.rs) (dc y.rs) true ?_ ?_ hgD e2 ?_); rfl; rfl; rfl; rfl)
            | ((with_reducible refine arm_eql 37 37 (.tmp 56) (.tmp 58) ?_ ?_ (dc x.key) (dc y.key) true ?_ ?_ hgK e3 ?_); rfl; rfl; rfl; rfl)
            | (go_at_call 32; refine (sameBytes_any x.ao y.ao x.n x.c y.n y.c lx ly _ HX.out HY.out mx my).mono ?_))
          rintro e w2 ⟨rfl, q, rfl⟩
          go_wp2
          go_ret
          exact ⟨rfl, below_drewN' B1.out q⟩
end Go.Proofs.Ytdnahagibodnpaa

/- Nodes and their bytes, there and back: plain laws, and the contracts of Encode and Decode in one piece. -/
namespace Go.Proofs.Ytdnahagibodnpaa
set_option linter.unusedSectionVars false
set_option linter.unusedSimpArgs false
open Go Go.RowKit
set_option linter.unusedVariables false
def encT (x : NodeV) (l : List UInt8) : List UInt8 := if x.kind = 1 then x.key.1 ++ l else brEnc x
def decOk (kind : Int) (l : List UInt8) : Bool := (decide (kind = 1) && decide (32 ≤ l.length) && decide (l.length ≤ 160)) || (decide (kind = 2) && decide (l.length = 80) && brStands (chL l) (chR l))
def decY (kind : Int) (l : List UInt8) (ao : Option Addr) (c : Nat) : NodeV :=
  if decOk kind l = true then (if kind = 1 then ⟨1, 0, 0, 0, 0, zero32, zero32, keyOf l, ao, l.length - 32, c⟩ else brNode l) else noNode
def decL (kind : Int) (l : List UInt8) : List UInt8 := if (decOk kind l && decide (kind = 1)) = true then l.drop 32 else []
theorem isLeafB_kind {x : NodeV} (h : isLeafB x = true) : x.kind = 1 := by
  unfold isLeafB at h; simp only [Bool.and_eq_true, decide_eq_true_eq] at h; exact h.1.1.1
theorem isBrB_kind {x : NodeV} (h : isBrB x = true) : x.kind = 2 := by
  unfold isBrB at h; simp only [Bool.and_eq_true, decide_eq_true_eq] at h; exact h.1.1
theorem length_le4 (n : Nat) : (le4 n).length = 4 := rfl
theorem length_brEnc (x : NodeV) : (brEnc x).length = 80 := by
  unfold brEnc brT
  simp [length_le4, x.ls.2, x.rs.2]
theorem dec4_le4 (n : Nat) (h : n < 4294967296) (r : List UInt8) : dec4 (le4 n ++ r) = n := by
  unfold dec4 le4
  simp only [List.cons_append, List.getD_cons_zero, List.getD_cons_succ, List.nil_append, UInt8.toNat_ofNat']
  omega
theorem keyOf_append (k : D32) (l : List UInt8) : keyOf (k.1 ++ l) = k := by
  have h : (keyOf (k.1 ++ l)).1 = k.1 := by
    rw [keyOf_eq (by rw [List.length_append, k.2]; omega), List.take_append_of_le_length (by rw [k.2]; omega), List.take_of_length_le (by rw [k.2]; omega)]
  exact Subtype.ext h
theorem brT_drop (a b c d : Nat) (s t : List UInt8) : let l := le4 a ++ (le4 b ++ (le4 c ++ (le4 d ++ (s ++ t))))
    l.drop 4 = le4 b ++ (le4 c ++ (le4 d ++ (s ++ t))) ∧ l.drop 8 = le4 c ++ (le4 d ++ (s ++ t)) ∧ l.drop 12 = le4 d ++ (s ++ t) ∧ l.drop 16 = s ++ t := by
  refine ⟨rfl, rfl, rfl, rfl⟩
theorem brEnc_back (x : NodeV) (h1 : chStands ⟨x.left, x.lc, x.ls⟩ = true) (h2 : chStands ⟨x.right, x.rc, x.rs⟩ = true) :
    chL (brEnc x) = ⟨x.left, x.lc, x.ls⟩ ∧ chR (brEnc x) = ⟨x.right, x.rc, x.rs⟩ := by
  have p1 := chStands_page h1
  have p2 := chStands_page h2
  have p3 := chStands_count h1
  have p4 := chStands_count h2
  simp only at p1 p2 p3 p4
  have D := brT_drop x.left.toNat x.right.toNat x.lc.toNat x.rc.toNat x.ls.1 x.rs.1
  simp only at D
  obtain ⟨d4, d8, d12, d16⟩ := D
  have d48 : (brEnc x).drop 48 = x.rs.1 := by
    have : (brEnc x).drop 48 = ((brEnc x).drop 16).drop 32 := by rw [List.drop_drop]
    rw [this]
    show ((brT _ _ _ _ _ _).drop 16).drop 32 = _
    unfold brT
    rw [d16, List.drop_append_of_le_length (by rw [x.ls.2]; omega), List.drop_of_length_le (by rw [x.ls.2]; omega), List.nil_append]
  constructor
  · unfold chL
    rw [show (brEnc x) = le4 x.left.toNat ++ (le4 x.right.toNat ++ (le4 x.lc.toNat ++ (le4 x.rc.toNat ++ (x.ls.1 ++ x.rs.1)))) from rfl, d8, d16,
      dec4_le4 _ (by omega), dec4_le4 _ (by omega), keyOf_append, Int.toNat_of_nonneg p1.1, Int.toNat_of_nonneg p3.1]
  · unfold chR
    rw [d48, show (brEnc x) = le4 x.left.toNat ++ (le4 x.right.toNat ++ (le4 x.lc.toNat ++ (le4 x.rc.toNat ++ (x.ls.1 ++ x.rs.1)))) from rfl, d4, d12,
      dec4_le4 _ (by omega), dec4_le4 _ (by omega), Int.toNat_of_nonneg p2.1, Int.toNat_of_nonneg p4.1]
    have := keyOf_append x.rs []
    rw [List.append_nil] at this
    rw [this]
theorem eqD_eq {a b : D32} (h : eqD a b = true) : a = b := of_decide_eq_true h
theorem eqD_refl (a : D32) : eqD a a = true := decide_eq_true rfl
theorem back_right (x : NodeV) (l : List UInt8) (hl : l.length = x.n) (h : rightB x = true) :
    decOk x.kind (encT x l) = true ∧ (encT x l).length ≤ 246 ∧ ∀ ao c, eqNode (decY x.kind (encT x l) ao c) x (decL x.kind (encT x l)) l = true := by
  unfold rightB at h
  rw [Bool.or_eq_true, Bool.and_eq_true, Bool.and_eq_true] at h
  rcases h with ⟨h, hn⟩ | ⟨h, hs⟩
  · have hk := isLeafB_kind h
    have hn' := of_decide_eq_true hn
    have ht : encT x l = x.key.1 ++ l := if_pos hk
    have hlen : (encT x l).length = 32 + x.n := by rw [ht, List.length_append, x.key.2, hl]
    have hok : decOk x.kind (encT x l) = true := by
      unfold decOk
      rw [hlen, decide_eq_true hk, decide_eq_true (show 32 ≤ 32 + x.n by omega), decide_eq_true (show 32 + x.n ≤ 160 by omega)]
      rfl
    refine ⟨hok, by omega, fun ao c => ?_⟩
    have hd : decL x.kind (encT x l) = l := by
      unfold decL
      rw [hok, decide_eq_true hk, Bool.true_and, if_pos rfl, ht, List.drop_append_of_le_length (by rw [x.key.2]; omega), List.drop_of_length_le (by rw [x.key.2]; omega), List.nil_append]
    have hy : decY x.kind (encT x l) ao c = ⟨1, 0, 0, 0, 0, zero32, zero32, x.key, ao, (encT x l).length - 32, c⟩ := by
      unfold decY
      rw [if_pos hok, if_pos hk, ht, keyOf_append]
    rw [hd, hy]
    unfold isLeafB at h
    simp only [Bool.and_eq_true, decide_eq_true_eq] at h
    obtain ⟨⟨⟨_, z1, z2, z3, z4⟩, z5⟩, z6⟩ := h
    unfold eqNode eqInts
    simp only [hk, z1, z2, z3, z4, eqD_eq z5, eqD_eq z6, eqD_refl, eqB_true rfl]
    rfl
  · have hk := isBrB_kind h
    have hk1 : ¬ x.kind = 1 := by omega
    have ht : encT x l = brEnc x := if_neg hk1
    have hlen : (encT x l).length = 80 := by rw [ht, length_brEnc]
    have hs' := hs
    unfold brStands at hs'
    simp only [Bool.and_eq_true] at hs'
    obtain ⟨b1, b2⟩ := brEnc_back x hs'.1.1.1.1 hs'.1.1.1.2
    have hok : decOk x.kind (encT x l) = true := by
      unfold decOk
      rw [ht, b1, b2, hs, decide_eq_true hk, decide_eq_true (length_brEnc x)]
      simp
    refine ⟨hok, by omega, fun ao c => ?_⟩
    have hd : decL x.kind (encT x l) = [] := by
      unfold decL
      rw [hok, decide_eq_false hk1]; rfl
    have hy : decY x.kind (encT x l) ao c = brNode (brEnc x) := by
      unfold decY
      rw [if_pos hok, if_neg hk1, ht]
    rw [hd, hy]
    unfold isBrB at h
    simp only [Bool.and_eq_true, decide_eq_true_eq] at h
    obtain ⟨⟨_, z1⟩, z2⟩ := h
    have hnil : l = [] := List.length_eq_zero_iff.1 (by omega)
    unfold eqNode eqInts brNode
    simp only [b1, b2, hk, ← eqD_eq z1, eqD_refl, hnil, eqB_true rfl, beq_self_eq_true]
    rfl
theorem decY_kind {kind : Int} {l : List UInt8} (h : decOk kind l = true) : kind = 1 ∨ (¬ kind = 1 ∧ kind = 2) := by
  unfold decOk at h
  simp only [Bool.or_eq_true, Bool.and_eq_true, decide_eq_true_eq] at h
  omega
theorem back_no (kind : Int) (l : List UInt8) (ao : Option Addr) (c : Nat) (h : decOk kind l = false) : decY kind l ao c = noNode ∧ decL kind l = [] := by
  refine ⟨?_, ?_⟩
  · unfold decY; rw [h]; rfl
  · unfold decL; rw [h]; rfl
theorem own_nil (w : World) (base : Nat) (e : TypeId) : Own w base e (.slice none 0 0) [] := ⟨rfl, .inl ⟨rfl, rfl⟩⟩
theorem own_read {w : World} {base : Nat} {e : TypeId} {ao : Option Addr} {n c : Nat} {l : List UInt8} (h : Own w base e (.slice ao n c) l) : Row w ao n l ∧ n = l.length ∧ n ≤ c ∧ c ≤ maxLen := by
  obtain ⟨ao2, cap2, hv, hr2, hm2, hc2, _⟩ := h.open
  rw [Value.slice.injEq] at hv
  obtain ⟨e1, e2, e3⟩ := hv
  rw [e1, e2, e3]
  exact ⟨hr2, rfl, hc2, hm2⟩
theorem encode_any (x : NodeV) (q1 : inI64 x.left) (q2 : inI64 x.right) (q3 : inI64 x.lc) (q4 : inI64 x.rc) (l : List UInt8) (w : World) (h : Row w x.ao x.n l) (hn : x.ao = none → x.n = 0 ∧ x.c = 0) (hb : x.n ≤ 140737488351232) :
    Calls Try.prog 7 #[.agg (nodeC x).toArray] w fun e w' =>
      ((rightB x = true ∧ ∃ g cap, e = .returned (.tuple #[.slice (some ⟨g, 0, none⟩) (encT x l).length cap, .int .i64 0]) ∧ Own w' w.heap.size 5 (.slice (some ⟨g, 0, none⟩) (encT x l).length cap) (encT x l)) ∨
        (rightB x = false ∧ e = .returned (.tuple #[.slice none 0 0, .int .i64 90]))) ∧ Below w.heap.size w w' := by
  cases h1 : isLeafB x
  · cases h2 : isBrB x
    · refine (encode_none x q1 q2 q3 q4 h1 h2 w).mono ?_
      rintro e w' ⟨rfl, hB⟩
      exact ⟨.inr ⟨by unfold rightB; rw [h1, h2]; rfl, rfl⟩, hB⟩
    · have hk := isBrB_kind h2
      have ht : encT x l = brEnc x := if_neg (by omega)
      refine (encode_branch x q1 q2 q3 q4 h1 h2 w).mono ?_
      rintro e w' ⟨he, hB⟩
      refine ⟨?_, hB⟩
      rw [ht, length_brEnc]
      cases hs : brStands ⟨x.left, x.lc, x.ls⟩ ⟨x.right, x.rc, x.rs⟩
      · rw [hs] at he
        exact .inr ⟨by unfold rightB; rw [h1, h2, hs]; rfl, by simpa using he⟩
      · rw [hs, if_pos rfl] at he
        exact .inl ⟨by unfold rightB; rw [h1, h2, hs]; rfl, he⟩
  · have hk := isLeafB_kind h1
    have ht : encT x l = x.key.1 ++ l := if_pos hk
    have hlen : (encT x l).length = 32 + x.n := by rw [ht, List.length_append, x.key.2, h.1]
    refine (encode_leaf x q1 q2 q3 q4 h1 l w h hn hb).mono ?_
    rintro e w' ⟨he, hB⟩
    refine ⟨?_, hB⟩
    have h2 : isBrB x = false := by
      cases h2 : isBrB x
      · rfl
      · have := isBrB_kind h2; omega
    rcases Nat.lt_or_ge 128 x.n with h128 | h128
    · rw [if_neg (by omega)] at he
      exact .inr ⟨by unfold rightB; rw [h1, h2, decide_eq_false (by omega)]; rfl, he⟩
    · rw [if_pos h128] at he
      rw [hlen, ht]
      exact .inl ⟨by unfold rightB; rw [h1, h2, decide_eq_true h128]; rfl, he⟩
theorem decode_any (kind : Int) (ao : Option Addr) (n c : Nat) (l : List UInt8) (w : World) (h : Row w ao n l) (hn : ao = none → n = 0 ∧ c = 0) (hle : n ≤ c) (hmx : n ≤ 140737488351232) (hmax : c ≤ 9223372036854775807) :
    Calls Try.prog 13 #[.int .i64 kind, .slice ao n c] w fun e w' =>
      (∃ ao' c', e = .returned (.tuple #[.agg (nodeC (decY kind l ao' c')).toArray, .int .i64 (if decOk kind l = true then 0 else 90)]) ∧
        Own w' w.heap.size 5 (.slice (decY kind l ao' c').ao (decY kind l ao' c').n (decY kind l ao' c').c) (decL kind l)) ∧ Below w.heap.size w w' := by
  have hl := h.1
  have none_ : ((kind = 1 ∧ n < 32) ∨ (kind = 2 ∧ n < 80) ∨ (kind = 2 ∧ 80 < n) ∨ ((kind == 1) = false ∧ (kind == 2) = false)) → decOk kind l = false → _ := fun hh hok =>
    (decode_none kind ao n c w hh).mono (R' := fun e w' => (∃ ao' c', e = .returned (.tuple #[.agg (nodeC (decY kind l ao' c')).toArray, .int .i64 (if decOk kind l = true then 0 else 90)]) ∧
        Own w' w.heap.size 5 (.slice (decY kind l ao' c').ao (decY kind l ao' c').n (decY kind l ao' c').c) (decL kind l)) ∧ Below w.heap.size w w') (by
      rintro e w' ⟨rfl, hB⟩
      refine ⟨⟨none, 0, ?_, ?_⟩, hB⟩
      · rw [(back_no kind l none 0 hok).1, hok]; rfl
      · rw [(back_no kind l none 0 hok).1, (back_no kind l none 0 hok).2]; exact own_nil _ _ _)
  by_cases k1 : kind = 1
  · rcases Nat.lt_or_ge n 32 with h32 | h32
    · exact none_ (.inl ⟨k1, h32⟩) (by unfold decOk; rw [decide_eq_false (show ¬ 32 ≤ l.length by omega), decide_eq_false (show ¬ kind = 2 by omega)]; simp)
    · obtain ⟨b, o, rfl⟩ := h.at0 (by omega)
      obtain ⟨m, rfl⟩ : ∃ m, n = m + 32 := ⟨n - 32, by omega⟩
      obtain ⟨c', rfl⟩ : ∃ c', c = c' + 32 := ⟨c - 32, by omega⟩
      subst k1
      refine (decode_leaf b o m c' l w h (by omega) (by omega) hmax).mono ?_
      rintro e w' ⟨he, hB⟩
      refine ⟨?_, hB⟩
      rcases Nat.lt_or_ge 128 m with h128 | h128
      · rw [if_neg (by omega)] at he
        have hok : decOk 1 l = false := by unfold decOk; rw [decide_eq_false (show ¬ l.length ≤ 160 by omega)]; simp
        refine ⟨none, 0, ?_, ?_⟩
        · rw [(back_no 1 l none 0 hok).1, hok]; exact he
        · rw [(back_no 1 l none 0 hok).1, (back_no 1 l none 0 hok).2]; exact own_nil _ _ _
      · rw [if_pos h128] at he
        obtain ⟨ao', c'', he, own⟩ := he
        have hok : decOk 1 l = true := by unfold decOk; rw [decide_eq_true (show 32 ≤ l.length by omega), decide_eq_true (show l.length ≤ 160 by omega)]; simp
        have hy : decY 1 l ao' c'' = ⟨1, 0, 0, 0, 0, zero32, zero32, keyOf l, ao', m, c''⟩ := by unfold decY; rw [if_pos hok, if_pos rfl, hl, Nat.add_sub_cancel]
        have hd : decL 1 l = l.drop 32 := by unfold decL; rw [hok]; rfl
        refine ⟨ao', c'', ?_, ?_⟩
        · rw [hy, hok]; exact he
        · rw [hy, hd]; exact own
  · by_cases k2 : kind = 2
    · rcases Nat.lt_trichotomy n 80 with h80 | h80 | h80
      · exact none_ (.inr (.inl ⟨k2, h80⟩)) (by unfold decOk; rw [decide_eq_false k1, decide_eq_false (show ¬ l.length = 80 by omega)]; simp)
      · obtain ⟨b, o, rfl⟩ := h.at0 (by omega)
        subst h80
        obtain ⟨c', rfl⟩ : ∃ c', c = c' + 80 := ⟨c - 80, by omega⟩
        subst k2
        refine (decode_branch b o c' l w h hmax).mono ?_
        rintro e w' ⟨he, hB⟩
        refine ⟨?_, hB⟩
        cases hs : brStands (chL l) (chR l)
        · rw [hs] at he
          have hok : decOk 2 l = false := by unfold decOk; rw [hs]; simp
          refine ⟨none, 0, ?_, ?_⟩
          · rw [(back_no 2 l none 0 hok).1, hok]; simpa using he
          · rw [(back_no 2 l none 0 hok).1, (back_no 2 l none 0 hok).2]; exact own_nil _ _ _
        · rw [hs, if_pos rfl] at he
          have hok : decOk 2 l = true := by unfold decOk; rw [hs, decide_eq_true hl]; simp
          have hy : decY 2 l none 0 = brNode l := by unfold decY; rw [if_pos hok]; rfl
          have hd : decL 2 l = [] := by unfold decL; rw [hok]; rfl
          refine ⟨none, 0, ?_, ?_⟩
          · rw [hy, hok]; exact he
          · rw [hy, hd]; exact own_nil _ _ _
      · exact none_ (.inr (.inr (.inl ⟨k2, h80⟩))) (by unfold decOk; rw [decide_eq_false k1, decide_eq_false (show ¬ l.length = 80 by omega)]; simp)
    · exact none_ (.inr (.inr (.inr ⟨by rw [beq_eq_false_iff_ne]; exact k1, by rw [beq_eq_false_iff_ne]; exact k2⟩))) (by unfold decOk; rw [decide_eq_false k1, decide_eq_false k2]; simp)
end Go.Proofs.Ytdnahagibodnpaa
