/- Are two nodes the same: the walk of the law's own sameNode. -/
import Derived.Test.YtocfiabbhcgegaaDecode
import Derived.Test.YtocfiabbhcgegaaSame
import Derived.Test.YtocfiabbhcgegaaArm
namespace Go.Proofs.Ytocfiabbhcgegaa
open Go Go.RowKit
set_option linter.unusedVariables false

/-- The five numbers are the same. -/
def eqInts (x y : NodeV) : Bool := (x.kind == y.kind) && (x.left == y.left) && (x.right == y.right) && (x.lc == y.lc) && (x.rc == y.rc)
/-- Are two nodes the same? -/
def eqNode (x y : NodeV) (lx ly : List UInt8) : Bool := eqInts x y && eqD x.ls y.ls && eqD x.rs y.rs && eqD x.key y.key && eqB lx ly
set_option maxRecDepth 100000 in
set_option maxHeartbeats 4000000 in
theorem sameNode_any (x y : NodeV) (lx ly : List UInt8) (w : World) (hx : Row w x.ao x.n lx) (hy : Row w y.ao y.n ly) (mx : x.n ≤ maxLen) (my : y.n ≤ maxLen) :
    Calls Try.prog 17 #[.agg (nodeC x).toArray, .agg (nodeC y).toArray] w fun e w' => e = .returned (.bool (eqNode x y lx ly)) ∧ Below w.heap.size w w' := by
  have UD : Try.prog.underlying 23 = some (.array 32 5) := Try.underlying23
  have UK : Try.prog.underlying 44 = some (.array 32 5) := Try.underlying44
  have hiD : Hid ((Try.prog.info? 23).map (·.size) = some 32) := by unfold Hid; kernel_rfl
  have hiK : Hid ((Try.prog.info? 44).map (·.size) = some 32) := by unfold Hid; kernel_rfl
  have hgD : Try.prog.eqGuardType Try.prog.depth 23 = false := by kernel_rfl
  have hgK : Try.prog.eqGuardType Try.prog.depth 44 = false := by kernel_rfl
  have eD : ∀ (x y : D32) (W : World), (Op.equalIn 10000 23 (.agg (dc x)) (.agg (dc y))).run Try.prog W = .ok (eqD x y) W := by
    obtain ⟨i5, hi5'⟩ := Option.isSome_iff_exists.1 (show (Try.prog.info? 5).isSome = true by kernel_rfl)
    exact fun x y W => equalIn_d32 (d := 9998) Try.underlying23 hi5' Try.underlying5 (by kernel_rfl) x y W
  have eK : ∀ (x y : D32) (W : World), (Op.equalIn 10000 44 (.agg (dc x)) (.agg (dc y))).run Try.prog W = .ok (eqD x y) W := by
    obtain ⟨i5, hi5'⟩ := Option.isSome_iff_exists.1 (show (Try.prog.info? 5).isSome = true by kernel_rfl)
    exact fun x y W => equalIn_d32 (d := 9998) Try.underlying44 hi5' Try.underlying5 (by kernel_rfl) x y W
  have e1 := fun W => eD x.ls y.ls W
  have e2 := fun W => eD x.rs y.rs W
  have e3 := fun W => eK x.key y.key W
  clear eD eK
  have r5x : ∀ W : World, W.heap[w.heap.size]? = some (.cells (nodeC x).toArray 46 (0, 0)) → W.rangeAt w.heap.size 5 (bvs x.ls.1) := fun W hW => rangeAt_cells hW fun j hj => nodeC_ls x j (by rwa [length_bvs, x.ls.2] at hj)
  have r37x : ∀ W : World, W.heap[w.heap.size]? = some (.cells (nodeC x).toArray 46 (0, 0)) → W.rangeAt w.heap.size 37 (bvs x.rs.1) := fun W hW => rangeAt_cells hW fun j hj => nodeC_rs x j (by rwa [length_bvs, x.rs.2] at hj)
  have r69x : ∀ W : World, W.heap[w.heap.size]? = some (.cells (nodeC x).toArray 46 (0, 0)) → W.rangeAt w.heap.size 69 (bvs x.key.1) := fun W hW => rangeAt_cells hW fun j hj => nodeC_key x j (by rwa [length_bvs, x.key.2] at hj)
  have g0x : (nodeC x).toArray[0]? = some (.int .i64 x.kind) := rfl
  have g1x : (nodeC x).toArray[1]? = some (.int .i64 x.left) := rfl
  have g2x : (nodeC x).toArray[2]? = some (.int .i64 x.right) := rfl
  have g3x : (nodeC x).toArray[3]? = some (.int .i64 x.lc) := rfl
  have g4x : (nodeC x).toArray[4]? = some (.int .i64 x.rc) := rfl
  have g101x : (nodeC x).toArray[101]? = some (.slice x.ao x.n x.c) := nodeC_val x
  have R5x := Box.mk r5x
  have R37x := Box.mk r37x
  have R69x := Box.mk r69x
  clear r5x r37x r69x
  have r5y : ∀ W : World, W.heap[(w.heap.size + 1)]? = some (.cells (nodeC y).toArray 46 (0, 0)) → W.rangeAt (w.heap.size + 1) 5 (bvs y.ls.1) := fun W hW => rangeAt_cells hW fun j hj => nodeC_ls y j (by rwa [length_bvs, y.ls.2] at hj)
  have r37y : ∀ W : World, W.heap[(w.heap.size + 1)]? = some (.cells (nodeC y).toArray 46 (0, 0)) → W.rangeAt (w.heap.size + 1) 37 (bvs y.rs.1) := fun W hW => rangeAt_cells hW fun j hj => nodeC_rs y j (by rwa [length_bvs, y.rs.2] at hj)
  have r69y : ∀ W : World, W.heap[(w.heap.size + 1)]? = some (.cells (nodeC y).toArray 46 (0, 0)) → W.rangeAt (w.heap.size + 1) 69 (bvs y.key.1) := fun W hW => rangeAt_cells hW fun j hj => nodeC_key y j (by rwa [length_bvs, y.key.2] at hj)
  have g0y : (nodeC y).toArray[0]? = some (.int .i64 y.kind) := rfl
  have g1y : (nodeC y).toArray[1]? = some (.int .i64 y.left) := rfl
  have g2y : (nodeC y).toArray[2]? = some (.int .i64 y.right) := rfl
  have g3y : (nodeC y).toArray[3]? = some (.int .i64 y.lc) := rfl
  have g4y : (nodeC y).toArray[4]? = some (.int .i64 y.rc) := rfl
  have g101y : (nodeC y).toArray[101]? = some (.slice y.ao y.n y.c) := nodeC_val y
  have R5y := Box.mk r5y
  have R37y := Box.mk r37y
  have R69y := Box.mk r69y
  clear r5y r37y r69y
  obtain ⟨r, hr⟩ : ∃ r, eqNode x y lx ly = r := ⟨_, rfl⟩
  rw [hr]
  have HR := Box.mk hr
  clear hr
  obtain ⟨p, hp⟩ : ∃ p, eqInts x y = p := ⟨_, rfl⟩
  have HP := Box.mk hp
  clear hp
  generalize hd1 : eqD x.ls y.ls = b1 at *
  generalize hd2 : eqD x.rs y.rs = b2 at *
  generalize hd3 : eqD x.key y.key = b3 at *
  have HD1 := Box.mk hd1
  have HD2 := Box.mk hd2
  have HD3 := Box.mk hd3
  clear hd1 hd2 hd3
  generalize (nodeC x).toArray = cx at *
  generalize (nodeC y).toArray = cy at *
  have f1 : ((w.alloc (.cells cx 46)).alloc (.cells cy 46)).heap[w.heap.size]? = some (.cells cx 46 (0, 0)) := heap_old (heap_new rfl)
  have f2 : ((w.alloc (.cells cx 46)).alloc (.cells cy 46)).heap[w.heap.size + 1]? = some (.cells cy 46 (0, 0)) := heap_new (by simp)
  have F1 := Box.mk f1
  have F2 := Box.mk f2
  have bel := (Below.refl_alloc w (.cells cx 46)).alloc (B := w.heap.size) (by simp) (.cells cy 46)
  have B1 := Box.mk bel
  have HX := Box.mk (hx.old bel)
  have HY := Box.mk (hy.old bel)
  clear bel hx hy
  have c0x : ((w.alloc (.cells cx 46)).alloc (.cells cy 46)).cell? ⟨w.heap.size, 0, none⟩ = some (.int .i64 x.kind) := by rw [cell_of_row _ _ 0 _ _ _ f1]; exact g0x
  have c1x : ((w.alloc (.cells cx 46)).alloc (.cells cy 46)).cell? ⟨w.heap.size, 1, none⟩ = some (.int .i64 x.left) := by rw [cell_of_row _ _ 1 _ _ _ f1]; exact g1x
  have c2x : ((w.alloc (.cells cx 46)).alloc (.cells cy 46)).cell? ⟨w.heap.size, 2, none⟩ = some (.int .i64 x.right) := by rw [cell_of_row _ _ 2 _ _ _ f1]; exact g2x
  have c3x : ((w.alloc (.cells cx 46)).alloc (.cells cy 46)).cell? ⟨w.heap.size, 3, none⟩ = some (.int .i64 x.lc) := by rw [cell_of_row _ _ 3 _ _ _ f1]; exact g3x
  have c4x : ((w.alloc (.cells cx 46)).alloc (.cells cy 46)).cell? ⟨w.heap.size, 4, none⟩ = some (.int .i64 x.rc) := by rw [cell_of_row _ _ 4 _ _ _ f1]; exact g4x
  have c101x : ((w.alloc (.cells cx 46)).alloc (.cells cy 46)).cell? ⟨w.heap.size, 101, none⟩ = some (.slice x.ao x.n x.c) := by rw [cell_of_row _ _ 101 _ _ _ f1]; exact g101x
  have c0y : ((w.alloc (.cells cx 46)).alloc (.cells cy 46)).cell? ⟨w.heap.size + 1, 0, none⟩ = some (.int .i64 y.kind) := by rw [cell_of_row _ _ 0 _ _ _ f2]; exact g0y
  have c1y : ((w.alloc (.cells cx 46)).alloc (.cells cy 46)).cell? ⟨w.heap.size + 1, 1, none⟩ = some (.int .i64 y.left) := by rw [cell_of_row _ _ 1 _ _ _ f2]; exact g1y
  have c2y : ((w.alloc (.cells cx 46)).alloc (.cells cy 46)).cell? ⟨w.heap.size + 1, 2, none⟩ = some (.int .i64 y.right) := by rw [cell_of_row _ _ 2 _ _ _ f2]; exact g2y
  have c3y : ((w.alloc (.cells cx 46)).alloc (.cells cy 46)).cell? ⟨w.heap.size + 1, 3, none⟩ = some (.int .i64 y.lc) := by rw [cell_of_row _ _ 3 _ _ _ f2]; exact g3y
  have c4y : ((w.alloc (.cells cx 46)).alloc (.cells cy 46)).cell? ⟨w.heap.size + 1, 4, none⟩ = some (.int .i64 y.rc) := by rw [cell_of_row _ _ 4 _ _ _ f2]; exact g4y
  have c101y : ((w.alloc (.cells cx 46)).alloc (.cells cy 46)).cell? ⟨w.heap.size + 1, 101, none⟩ = some (.slice y.ao y.n y.c) := by rw [cell_of_row _ _ 101 _ _ _ f2]; exact g101y
  clear f1 f2 g0x g1x g2x g3x g4x g101x g0y g1y g2y g3y g4y g101y
  go_enter Try.func17, Try.ntmps17
  go_upto_region 1 with fail
  have hsz : (w.alloc (.cells cx 46)).heap.size = w.heap.size + 1 := by simp
  try rw [hsz]
  clear hsz
  generalize (w.alloc (.cells cx 46)).alloc (.cells cy 46) = w1 at *
  go_cut [5] (fun s W => s = .bool p ∧ W = w1)
  case first =>
    cases k0 : (x.kind == y.kind)
    · obtain rfl : p = false := by rw [← HP.out]; unfold eqInts; simp [k0]
      clear HP HR HX HY R5x R37x R69x R5y R37y R69y
      go_wp2
      go_meet
      exact ⟨rfl, rfl⟩
    · skip
      cases k1 : (x.left == y.left)
      · obtain rfl : p = false := by rw [← HP.out]; unfold eqInts; simp [k0, k1]
        clear HP HR HX HY R5x R37x R69x R5y R37y R69y
        go_wp2
        go_meet
        exact ⟨rfl, rfl⟩
      · skip
        cases k2 : (x.right == y.right)
        · obtain rfl : p = false := by rw [← HP.out]; unfold eqInts; simp [k0, k1, k2]
          clear HP HR HX HY R5x R37x R69x R5y R37y R69y
          go_wp2
          go_meet
          exact ⟨rfl, rfl⟩
        · skip
          cases k3 : (x.lc == y.lc)
          · obtain rfl : p = false := by rw [← HP.out]; unfold eqInts; simp [k0, k1, k2, k3]
            clear HP HR HX HY R5x R37x R69x R5y R37y R69y
            go_wp2
            go_meet
            exact ⟨rfl, rfl⟩
          · skip
            cases k4 : (x.rc == y.rc)
            · obtain rfl : p = false := by rw [← HP.out]; unfold eqInts; simp [k0, k1, k2, k3, k4]
              clear HP HR HX HY R5x R37x R69x R5y R37y R69y
              go_wp2
              go_meet
              exact ⟨rfl, rfl⟩
            · skip
              obtain rfl : p = true := by rw [← HP.out]; unfold eqInts; simp [k0, k1, k2, k3, k4]
              clear HP HR HX HY R5x R37x R69x R5y R37y R69y
              go_wp2
              go_meet
              exact ⟨rfl, rfl⟩
  obtain ⟨rfl, rfl⟩ := hcut
  clear c0x c1x c2x c3x c4x c0y c1y c2y c3y c4y
  cases p
  · skip
    obtain rfl : r = false := by
      rw [← HR.out]
      unfold eqNode
      rw [HP.out, HD1.out, HD2.out, HD3.out]
      simp []
    clear HR HP HD1 HD2 HD3
    go_wp2
    go_ret
    exact ⟨rfl, B1.out⟩
  · cases b1
    · skip
      obtain rfl : r = false := by
        rw [← HR.out]
        unfold eqNode
        rw [HP.out, HD1.out, HD2.out, HD3.out]
        simp []
      clear HR HP HD1 HD2 HD3
      go_wp2_with (first
        | ((with_reducible refine arm_load32 23 (.tmp 41) ?_ ?_ w.heap.size 5 ?_ x.ls 5 ?_ UD hiD ?_); rfl; rfl; rfl; exact R5x.out _ F1.out)
        | ((with_reducible refine arm_load32 23 (.tmp 43) ?_ ?_ (w.heap.size + 1) 5 ?_ y.ls 5 ?_ UD hiD ?_); rfl; rfl; rfl; exact R5y.out _ F2.out)
        | ((with_reducible refine arm_load32 23 (.tmp 48) ?_ ?_ w.heap.size 37 ?_ x.rs 5 ?_ UD hiD ?_); rfl; rfl; rfl; exact R37x.out _ F1.out)
        | ((with_reducible refine arm_load32 23 (.tmp 50) ?_ ?_ (w.heap.size + 1) 37 ?_ y.rs 5 ?_ UD hiD ?_); rfl; rfl; rfl; exact R37y.out _ F2.out)
        | ((with_reducible refine arm_load32 44 (.tmp 55) ?_ ?_ w.heap.size 69 ?_ x.key 5 ?_ UK hiK ?_); rfl; rfl; rfl; exact R69x.out _ F1.out)
        | ((with_reducible refine arm_load32 44 (.tmp 57) ?_ ?_ (w.heap.size + 1) 69 ?_ y.key 5 ?_ UK hiK ?_); rfl; rfl; rfl; exact R69y.out _ F2.out)
        | ((with_reducible refine arm_eql 23 23 (.tmp 42) (.tmp 44) ?_ ?_ (dc x.ls) (dc y.ls) false ?_ ?_ hgD e1 ?_); rfl; rfl; rfl; rfl)
        | ((with_reducible refine arm_eql 23 23 (.tmp 49) (.tmp 51) ?_ ?_ (dc x.rs) (dc y.rs) b2 ?_ ?_ hgD e2 ?_); rfl; rfl; rfl; rfl)
        | ((with_reducible refine arm_eql 44 44 (.tmp 56) (.tmp 58) ?_ ?_ (dc x.key) (dc y.key) b3 ?_ ?_ hgK e3 ?_); rfl; rfl; rfl; rfl)
        | (go_at_call 19; refine (sameBytes_any x.ao y.ao x.n x.c y.n y.c lx ly _ HX.out HY.out mx my).mono ?_))
      go_ret
      exact ⟨rfl, B1.out⟩
    · cases b2
      · skip
        obtain rfl : r = false := by
          rw [← HR.out]
          unfold eqNode
          rw [HP.out, HD1.out, HD2.out, HD3.out]
          simp []
        clear HR HP HD1 HD2 HD3
        go_wp2_with (first
          | ((with_reducible refine arm_load32 23 (.tmp 41) ?_ ?_ w.heap.size 5 ?_ x.ls 5 ?_ UD hiD ?_); rfl; rfl; rfl; exact R5x.out _ F1.out)
          | ((with_reducible refine arm_load32 23 (.tmp 43) ?_ ?_ (w.heap.size + 1) 5 ?_ y.ls 5 ?_ UD hiD ?_); rfl; rfl; rfl; exact R5y.out _ F2.out)
          | ((with_reducible refine arm_load32 23 (.tmp 48) ?_ ?_ w.heap.size 37 ?_ x.rs 5 ?_ UD hiD ?_); rfl; rfl; rfl; exact R37x.out _ F1.out)
          | ((with_reducible refine arm_load32 23 (.tmp 50) ?_ ?_ (w.heap.size + 1) 37 ?_ y.rs 5 ?_ UD hiD ?_); rfl; rfl; rfl; exact R37y.out _ F2.out)
          | ((with_reducible refine arm_load32 44 (.tmp 55) ?_ ?_ w.heap.size 69 ?_ x.key 5 ?_ UK hiK ?_); rfl; rfl; rfl; exact R69x.out _ F1.out)
          | ((with_reducible refine arm_load32 44 (.tmp 57) ?_ ?_ (w.heap.size + 1) 69 ?_ y.key 5 ?_ UK hiK ?_); rfl; rfl; rfl; exact R69y.out _ F2.out)
          | ((with_reducible refine arm_eql 23 23 (.tmp 42) (.tmp 44) ?_ ?_ (dc x.ls) (dc y.ls) true ?_ ?_ hgD e1 ?_); rfl; rfl; rfl; rfl)
          | ((with_reducible refine arm_eql 23 23 (.tmp 49) (.tmp 51) ?_ ?_ (dc x.rs) (dc y.rs) false ?_ ?_ hgD e2 ?_); rfl; rfl; rfl; rfl)
          | ((with_reducible refine arm_eql 44 44 (.tmp 56) (.tmp 58) ?_ ?_ (dc x.key) (dc y.key) b3 ?_ ?_ hgK e3 ?_); rfl; rfl; rfl; rfl)
          | (go_at_call 19; refine (sameBytes_any x.ao y.ao x.n x.c y.n y.c lx ly _ HX.out HY.out mx my).mono ?_))
        go_ret
        exact ⟨rfl, B1.out⟩
      · cases b3
        · skip
          obtain rfl : r = false := by
            rw [← HR.out]
            unfold eqNode
            rw [HP.out, HD1.out, HD2.out, HD3.out]
            simp []
          clear HR HP HD1 HD2 HD3
          go_wp2_with (first
            | ((with_reducible refine arm_load32 23 (.tmp 41) ?_ ?_ w.heap.size 5 ?_ x.ls 5 ?_ UD hiD ?_); rfl; rfl; rfl; exact R5x.out _ F1.out)
            | ((with_reducible refine arm_load32 23 (.tmp 43) ?_ ?_ (w.heap.size + 1) 5 ?_ y.ls 5 ?_ UD hiD ?_); rfl; rfl; rfl; exact R5y.out _ F2.out)
            | ((with_reducible refine arm_load32 23 (.tmp 48) ?_ ?_ w.heap.size 37 ?_ x.rs 5 ?_ UD hiD ?_); rfl; rfl; rfl; exact R37x.out _ F1.out)
            | ((with_reducible refine arm_load32 23 (.tmp 50) ?_ ?_ (w.heap.size + 1) 37 ?_ y.rs 5 ?_ UD hiD ?_); rfl; rfl; rfl; exact R37y.out _ F2.out)
            | ((with_reducible refine arm_load32 44 (.tmp 55) ?_ ?_ w.heap.size 69 ?_ x.key 5 ?_ UK hiK ?_); rfl; rfl; rfl; exact R69x.out _ F1.out)
            | ((with_reducible refine arm_load32 44 (.tmp 57) ?_ ?_ (w.heap.size + 1) 69 ?_ y.key 5 ?_ UK hiK ?_); rfl; rfl; rfl; exact R69y.out _ F2.out)
            | ((with_reducible refine arm_eql 23 23 (.tmp 42) (.tmp 44) ?_ ?_ (dc x.ls) (dc y.ls) true ?_ ?_ hgD e1 ?_); rfl; rfl; rfl; rfl)
            | ((with_reducible refine arm_eql 23 23 (.tmp 49) (.tmp 51) ?_ ?_ (dc x.rs) (dc y.rs) true ?_ ?_ hgD e2 ?_); rfl; rfl; rfl; rfl)
            | ((with_reducible refine arm_eql 44 44 (.tmp 56) (.tmp 58) ?_ ?_ (dc x.key) (dc y.key) false ?_ ?_ hgK e3 ?_); rfl; rfl; rfl; rfl)
            | (go_at_call 19; refine (sameBytes_any x.ao y.ao x.n x.c y.n y.c lx ly _ HX.out HY.out mx my).mono ?_))
          go_ret
          exact ⟨rfl, B1.out⟩
        · skip
          obtain rfl : r = eqB lx ly := by
            rw [← HR.out]
            unfold eqNode
            rw [HP.out, HD1.out, HD2.out, HD3.out]
            simp
          clear HR HP HD1 HD2 HD3
          go_wp2_with (first
            | ((with_reducible refine arm_load32 23 (.tmp 41) ?_ ?_ w.heap.size 5 ?_ x.ls 5 ?_ UD hiD ?_); rfl; rfl; rfl; exact R5x.out _ F1.out)
            | ((with_reducible refine arm_load32 23 (.tmp 43) ?_ ?_ (w.heap.size + 1) 5 ?_ y.ls 5 ?_ UD hiD ?_); rfl; rfl; rfl; exact R5y.out _ F2.out)
            | ((with_reducible refine arm_load32 23 (.tmp 48) ?_ ?_ w.heap.size 37 ?_ x.rs 5 ?_ UD hiD ?_); rfl; rfl; rfl; exact R37x.out _ F1.out)
            | ((with_reducible refine arm_load32 23 (.tmp 50) ?_ ?_ (w.heap.size + 1) 37 ?_ y.rs 5 ?_ UD hiD ?_); rfl; rfl; rfl; exact R37y.out _ F2.out)
            | ((with_reducible refine arm_load32 44 (.tmp 55) ?_ ?_ w.heap.size 69 ?_ x.key 5 ?_ UK hiK ?_); rfl; rfl; rfl; exact R69x.out _ F1.out)
            | ((with_reducible refine arm_load32 44 (.tmp 57) ?_ ?_ (w.heap.size + 1) 69 ?_ y.key 5 ?_ UK hiK ?_); rfl; rfl; rfl; exact R69y.out _ F2.out)
            | ((with_reducible refine arm_eql 23 23 (.tmp 42) (.tmp 44) ?_ ?_ (dc x.ls) (dc y.ls) true ?_ ?_ hgD e1 ?_); rfl; rfl; rfl; rfl)
            | ((with_reducible refine arm_eql 23 23 (.tmp 49) (.tmp 51) ?_ ?_ (dc x.rs) (dc y.rs) true ?_ ?_ hgD e2 ?_); rfl; rfl; rfl; rfl)
            | ((with_reducible refine arm_eql 44 44 (.tmp 56) (.tmp 58) ?_ ?_ (dc x.key) (dc y.key) true ?_ ?_ hgK e3 ?_); rfl; rfl; rfl; rfl)
            | (go_at_call 19; refine (sameBytes_any x.ao y.ao x.n x.c y.n y.c lx ly _ HX.out HY.out mx my).mono ?_))
          rintro e w2 ⟨rfl, q, rfl⟩
          go_wp2
          go_ret
          exact ⟨rfl, below_drewN' B1.out q⟩
end Go.Proofs.Ytocfiabbhcgegaa
