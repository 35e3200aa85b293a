/- Which nodes are right: the walks of the reference's child and Right. -/
import Derived.Test.YteiepenanffhcaaDoorFormOf
import Derived.Test.YteiepenanffhcaaDoorArm
namespace Go.Proofs.YteiepenanffhcaaDoor
open Go Go.RowKit
set_option linter.unusedVariables false

/-- Is a node right? -/
def rightB (x : NodeV) : Bool := (isLeafB x && decide (x.n ≤ 128)) || (isBrB x && brStands ⟨x.left, x.lc, x.ls⟩ ⟨x.right, x.rc, x.rs⟩)
set_option maxRecDepth 100000 in
set_option maxHeartbeats 2000000 in
theorem rchild_any (p q : Int) (d : D32) (w : World) :
    Calls Tryd.prog 50 #[.int .i64 p, .int .i64 q, .agg (dc d)] w fun e w' => e = .returned (.bool (chStands ⟨p, q, d⟩)) ∧ Below w.heap.size w w' := by
  have UD : Tryd.prog.underlying 27 = some (.array 32 5) := Tryd.underlying27
  have hiD : Hid ((Tryd.prog.info? 27).map (·.size) = some 32) := by unfold Hid; kernel_rfl
  have bzD : Tryd.prog.built 27 [] = some (dc zero32) := by kernel_rfl
  have hgD : Tryd.prog.eqGuardType Tryd.prog.depth 27 = false := by kernel_rfl
  have he : ∀ W, (Op.equalIn 10000 27 (.agg (dc d)) (.agg (dc zero32))).run Tryd.prog W = .ok (eqD d zero32) W := by
    obtain ⟨i5, hi5'⟩ := Option.isSome_iff_exists.1 (show (Tryd.prog.info? 5).isSome = true by kernel_rfl)
    exact fun W => equalIn_d32 (d := 9998) Tryd.underlying27 hi5' Tryd.underlying5 (by kernel_rfl) d zero32 W
  obtain ⟨r, hr⟩ : ∃ r, chStands ⟨p, q, d⟩ = r := ⟨_, rfl⟩
  rw [hr]
  have HR := Box.mk hr
  clear hr
  generalize hrd : eqD d zero32 = rd at he
  have HRD := Box.mk hrd
  clear hrd
  by_cases hp : p = 0
  · subst hp
    by_cases hq : q = 0
    · subst hq
      have hrr : r = rd := by
        rw [← HR.out, ← HRD.out]
        unfold chStands eqCh noChild
        simp
      subst hrr
      go_enter Tryd.func50, Tryd.ntmps50
      go_wp2_with (first
        | ((with_reducible refine wpList_load32g ?_ 27 (.tmp 5) ?_ w.heap.size 0 ?_ d 5 ?_ UD hiD ?_); rfl; rfl; rfl; exact rangeAt_block (heap_new rfl))
        | ((with_reducible refine wpList_builtg ?_ 27 [] ?_ [] ?_ (dc zero32) bzD ?_); rfl; rfl; rfl)
        | ((with_reducible refine wpList_yields ?_ (held_eql ?_ 27 27 (.tmp 12) (.tmp 13) ?_ d zero32 r ?_ ?_ hgD he) ?_); rfl; rfl; rfl; rfl; rfl))
      go_ret
      exact ⟨rfl, Below.refl_alloc w _⟩
    · have qf : (q == 0) = false := by rw [beq_eq_false_iff_ne]; exact hq
      have hrr : r = false := by
        rw [← HR.out]
        unfold chStands
        simp [eqCh, noChild, hq]
      subst hrr
      clear he HR HRD
      go_enter Tryd.func50, Tryd.ntmps50
      go_wp2
      go_ret
      exact ⟨rfl, Below.refl_alloc w _⟩
  · have pf : (p == 0) = false := by rw [beq_eq_false_iff_ne]; exact hp
    rcases Int.lt_or_le p 2 with k1 | k1
    · skip
      have hrr : r = false := by
        rw [← HR.out]
        unfold chStands
        simp [hp, Int.not_le.2 k1]
      subst hrr
      clear he HR HRD
      go_enter Tryd.func50, Tryd.ntmps50
      go_wp2
      go_ret
      exact ⟨rfl, Below.refl_alloc w _⟩
    · rcases (Int.lt_or_le p 4096).symm with k2 | k2
      · have k2' : ¬ p < 4096 := by omega
        have hrr : r = false := by
          rw [← HR.out]
          unfold chStands
          simp [hp, k2']
        subst hrr
        clear he HR HRD
        go_enter Tryd.func50, Tryd.ntmps50
        go_wp2
        go_ret
        exact ⟨rfl, Below.refl_alloc w _⟩
      · have k2' : p < 4096 := by omega
        rcases (Int.lt_or_le 0 q).symm with k3 | k3
        · have k3' : ¬ 0 < q := by omega
          have hrr : r = false := by
            rw [← HR.out]
            unfold chStands
            simp [hp, k3']
          subst hrr
          clear he HR HRD
          go_enter Tryd.func50, Tryd.ntmps50
          go_wp2
          go_ret
          exact ⟨rfl, Below.refl_alloc w _⟩
        · have k3' : 0 < q := by omega
          rcases Int.lt_or_le 4096 q with k4 | k4
          · skip
            have hrr : r = false := by
              rw [← HR.out]
              unfold chStands
              simp [hp, Int.not_le.2 k4]
            subst hrr
            clear he HR HRD
            go_enter Tryd.func50, Tryd.ntmps50
            go_wp2
            go_ret
            exact ⟨by show Ending.returned (Value.bool (decide (q ≤ 4096))) = _; rw [decide_eq_false (by omega)], Below.refl_alloc w _⟩
          · skip
            have hrr : r = true := by
              rw [← HR.out]
              unfold chStands
              simp [hp, k1, k2', k3', k4]
            subst hrr
            clear he HR HRD
            go_enter Tryd.func50, Tryd.ntmps50
            go_wp2
            go_ret
            exact ⟨rfl, Below.refl_alloc w _⟩
set_option maxRecDepth 100000 in
set_option maxHeartbeats 4000000 in
theorem rright_any (x : NodeV) (w : World) : Calls Tryd.prog 37 #[.agg (nodeC x).toArray] w fun e w' => e = .returned (.bool (rightB x)) ∧ Below w.heap.size w w' := by
  have UD : Tryd.prog.underlying 27 = some (.array 32 5) := Tryd.underlying27
  have UK : Tryd.prog.underlying 26 = some (.array 32 5) := Tryd.underlying26
  have hiD : Hid ((Tryd.prog.info? 27).map (·.size) = some 32) := by unfold Hid; kernel_rfl
  have hiK : Hid ((Tryd.prog.info? 26).map (·.size) = some 32) := by unfold Hid; kernel_rfl
  have bzD : Tryd.prog.built 27 [] = some (dc zero32) := by kernel_rfl
  have bzK : Tryd.prog.built 26 [] = some (dc zero32) := by kernel_rfl
  have hgD : Tryd.prog.eqGuardType Tryd.prog.depth 27 = false := by kernel_rfl
  have hgK : Tryd.prog.eqGuardType Tryd.prog.depth 26 = false := by kernel_rfl
  have eD : ∀ (x y : D32) (W : World), (Op.equalIn 10000 27 (.agg (dc x)) (.agg (dc y))).run Tryd.prog W = .ok (eqD x y) W := by
    obtain ⟨i5, hi5'⟩ := Option.isSome_iff_exists.1 (show (Tryd.prog.info? 5).isSome = true by kernel_rfl)
    exact fun x y W => equalIn_d32 (d := 9998) Tryd.underlying27 hi5' Tryd.underlying5 (by kernel_rfl) x y W
  have eK : ∀ (x y : D32) (W : World), (Op.equalIn 10000 26 (.agg (dc x)) (.agg (dc y))).run Tryd.prog W = .ok (eqD x y) W := by
    obtain ⟨i5, hi5'⟩ := Option.isSome_iff_exists.1 (show (Tryd.prog.info? 5).isSome = true by kernel_rfl)
    exact fun x y W => equalIn_d32 (d := 9998) Tryd.underlying26 hi5' Tryd.underlying5 (by kernel_rfl) x y W
  have g0 : (nodeC x).toArray[0]? = some (.int .i64 x.kind) := rfl
  have g1 : (nodeC x).toArray[1]? = some (.int .i64 x.left) := rfl
  have g2 : (nodeC x).toArray[2]? = some (.int .i64 x.right) := rfl
  have g3 : (nodeC x).toArray[3]? = some (.int .i64 x.lc) := rfl
  have g4 : (nodeC x).toArray[4]? = some (.int .i64 x.rc) := rfl
  have g101 : (nodeC x).toArray[101]? = some (.slice x.ao x.n x.c) := nodeC_val x
  have r5 : ∀ W : World, W.heap[w.heap.size]? = some (.cells (nodeC x).toArray 30 (0, 0)) → W.rangeAt w.heap.size 5 (bvs x.ls.1) := fun W hW => rangeAt_cells hW fun j hj => nodeC_ls x j (by rwa [length_bvs, x.ls.2] at hj)
  have r37 : ∀ W : World, W.heap[w.heap.size]? = some (.cells (nodeC x).toArray 30 (0, 0)) → W.rangeAt w.heap.size 37 (bvs x.rs.1) := fun W hW => rangeAt_cells hW fun j hj => nodeC_rs x j (by rwa [length_bvs, x.rs.2] at hj)
  have r69 : ∀ W : World, W.heap[w.heap.size]? = some (.cells (nodeC x).toArray 30 (0, 0)) → W.rangeAt w.heap.size 69 (bvs x.key.1) := fun W hW => rangeAt_cells hW fun j hj => nodeC_key x j (by rwa [length_bvs, x.key.2] at hj)
  have e1 := fun W => eD x.ls zero32 W
  have e2 := fun W => eD x.rs zero32 W
  have e3 := fun W => eK x.key zero32 W
  have R5 := Box.mk r5
  have R37 := Box.mk r37
  have R69 := Box.mk r69
  obtain ⟨r, hr⟩ : ∃ r, rightB x = r := ⟨_, rfl⟩
  rw [hr]
  have HR := Box.mk hr
  clear hr r5 r37 r69 eD eK
  generalize hd1 : eqD x.ls zero32 = b1 at *
  generalize hd2 : eqD x.rs zero32 = b2 at *
  generalize hd3 : eqD x.key zero32 = b3 at *
  have HD1 := Box.mk hd1
  have HD2 := Box.mk hd2
  have HD3 := Box.mk hd3
  clear hd1 hd2 hd3
  have hnz : (nodeC x).toArray.size = 102 := by rw [List.size_toArray, length_nodeC]
  generalize (nodeC x).toArray = cs at *
  have f1 : (w.alloc (.cells cs 30)).heap[w.heap.size]? = some (.cells cs 30 (0, 0)) := heap_new rfl
  have F1 := Box.mk f1
  have B1 := Box.mk (Below.refl_alloc w (.cells cs 30))
  have c0 : (w.alloc (.cells cs 30)).cell? ⟨w.heap.size, 0, none⟩ = some (.int .i64 x.kind) := by rw [cell_of_row _ _ 0 _ _ _ f1]; exact g0
  have c1 : (w.alloc (.cells cs 30)).cell? ⟨w.heap.size, 1, none⟩ = some (.int .i64 x.left) := by rw [cell_of_row _ _ 1 _ _ _ f1]; exact g1
  have c2 : (w.alloc (.cells cs 30)).cell? ⟨w.heap.size, 2, none⟩ = some (.int .i64 x.right) := by rw [cell_of_row _ _ 2 _ _ _ f1]; exact g2
  have c3 : (w.alloc (.cells cs 30)).cell? ⟨w.heap.size, 3, none⟩ = some (.int .i64 x.lc) := by rw [cell_of_row _ _ 3 _ _ _ f1]; exact g3
  have c4 : (w.alloc (.cells cs 30)).cell? ⟨w.heap.size, 4, none⟩ = some (.int .i64 x.rc) := by rw [cell_of_row _ _ 4 _ _ _ f1]; exact g4
  have c101 : (w.alloc (.cells cs 30)).cell? ⟨w.heap.size, 101, none⟩ = some (.slice x.ao x.n x.c) := by rw [cell_of_row _ _ 101 _ _ _ f1]; exact g101
  clear f1 g0 g1 g2 g3 g4 g101 hnz
  go_enter Tryd.func37, Tryd.ntmps37
  go_upto_region 1 with fail
  generalize w.alloc (.cells cs 30) = w1 at *
  have HL := Box.mk (fun W => rchild_any x.left x.lc x.ls W)
  have HRR := Box.mk (fun W => rchild_any x.right x.rc x.rs W)
  obtain ⟨p, hp⟩ : ∃ p, ((x.left == 0) && (x.right == 0) && (x.lc == 0) && (x.rc == 0)) = p := ⟨_, rfl⟩
  have HP := Box.mk hp
  clear hp
  have hpd : Box (decide (x.left = 0 ∧ x.right = 0 ∧ x.lc = 0 ∧ x.rc = 0) = p) := ⟨by rw [← HP.out]; by_cases a : x.left = 0 <;> by_cases b : x.right = 0 <;> by_cases c : x.lc = 0 <;> by_cases d : x.rc = 0 <;> simp [a, b, c, d]⟩
  by_cases hk : x.kind = 1
  · have hk2 : ¬ x.kind = 2 := by omega
    rw [hk] at c0
    go_upto_region 2 with fail
    go_cut [3] (fun s W => s = .bool p ∧ W = w1)
    case first =>
      cases k0 : (x.left == 0)
      · obtain rfl : p = false := by rw [← HP.out]; simp [k0]
        clear HP hpd HR hk hk2
        go_wp2
        go_meet
        exact ⟨rfl, rfl⟩
      · skip
        cases k1 : (x.right == 0)
        · obtain rfl : p = false := by rw [← HP.out]; simp [k0, k1]
          clear HP hpd HR hk hk2
          go_wp2
          go_meet
          exact ⟨rfl, rfl⟩
        · skip
          cases k2 : (x.lc == 0)
          · obtain rfl : p = false := by rw [← HP.out]; simp [k0, k1, k2]
            clear HP hpd HR hk hk2
            go_wp2
            go_meet
            exact ⟨rfl, rfl⟩
          · skip
            cases k3 : (x.rc == 0)
            · obtain rfl : p = false := by rw [← HP.out]; simp [k0, k1, k2, k3]
              clear HP hpd HR hk hk2
              go_wp2
              go_meet
              exact ⟨rfl, rfl⟩
            · skip
              obtain rfl : p = true := by rw [← HP.out]; simp [k0, k1, k2, k3]
              clear HP hpd HR hk hk2
              go_wp2
              go_meet
              exact ⟨rfl, rfl⟩
    obtain ⟨rfl, rfl⟩ := hcut
    go_upto_region 3 with fail
    go_cut [4] (fun s W => s = .bool (b1 && b2) ∧ W = wc)
    case first =>
      cases b1
      · skip
        go_wp2_with (first
          | ((with_reducible refine arm_load32 27 (.tmp 29) ?_ ?_ w.heap.size 5 ?_ x.ls 5 ?_ UD hiD ?_); rfl; rfl; rfl; exact R5.out _ F1.out)
          | ((with_reducible refine arm_load32 27 (.tmp 34) ?_ ?_ w.heap.size 37 ?_ x.rs 5 ?_ UD hiD ?_); rfl; rfl; rfl; exact R37.out _ F1.out)
          | ((with_reducible refine arm_built 27 [] ?_ ?_ [] ?_ (dc zero32) bzD ?_); rfl; rfl; rfl)
          | ((with_reducible refine arm_eql 27 27 (.tmp 30) (.tmp 31) ?_ ?_ (dc x.ls) (dc zero32) false ?_ ?_ hgD e1 ?_); rfl; rfl; rfl; rfl)
          | ((with_reducible refine arm_eql 27 27 (.tmp 35) (.tmp 36) ?_ ?_ (dc x.rs) (dc zero32) b2 ?_ ?_ hgD e2 ?_); rfl; rfl; rfl; rfl))
        go_meet
        exact ⟨rfl, rfl⟩
      · skip
        go_wp2_with (first
          | ((with_reducible refine arm_load32 27 (.tmp 29) ?_ ?_ w.heap.size 5 ?_ x.ls 5 ?_ UD hiD ?_); rfl; rfl; rfl; exact R5.out _ F1.out)
          | ((with_reducible refine arm_load32 27 (.tmp 34) ?_ ?_ w.heap.size 37 ?_ x.rs 5 ?_ UD hiD ?_); rfl; rfl; rfl; exact R37.out _ F1.out)
          | ((with_reducible refine arm_built 27 [] ?_ ?_ [] ?_ (dc zero32) bzD ?_); rfl; rfl; rfl)
          | ((with_reducible refine arm_eql 27 27 (.tmp 30) (.tmp 31) ?_ ?_ (dc x.ls) (dc zero32) true ?_ ?_ hgD e1 ?_); rfl; rfl; rfl; rfl)
          | ((with_reducible refine arm_eql 27 27 (.tmp 35) (.tmp 36) ?_ ?_ (dc x.rs) (dc zero32) b2 ?_ ?_ hgD e2 ?_); rfl; rfl; rfl; rfl))
        go_meet
        exact ⟨rfl, rfl⟩
    obtain ⟨rfl, rfl⟩ := hcut
    cases p
    · skip
      obtain rfl : r = false := by
        rw [← HR.out]
        unfold rightB isLeafB isBrB
        rw [HD1.out, HD2.out, HD3.out, hpd.out]
        simp [hk]
      clear HR HP hpd HL HRR
      go_wp2
      go_ret
      exact ⟨rfl, B1.out⟩
    · cases hz : (b1 && b2)
      · skip
        obtain rfl : r = false := by
          rw [← HR.out]
          unfold rightB isLeafB isBrB
          rw [HD1.out, HD2.out, HD3.out, hpd.out]
          cases b1 <;> cases b2 <;> simp_all
        clear HR HP hpd HL HRR
        go_wp2
        go_ret
        exact ⟨rfl, B1.out⟩
      · obtain ⟨rfl, rfl⟩ : b1 = true ∧ b2 = true := by cases b1 <;> cases b2 <;> simp_all
        clear hz
        rcases Nat.lt_or_ge 128 x.n with hn | hn
        · skip
          obtain rfl : r = false := by
            rw [← HR.out]
            unfold rightB isLeafB isBrB
            rw [HD1.out, HD2.out, HD3.out, hpd.out]
            simp [hk, Nat.not_le.2 hn]
          clear HR HP hpd HL HRR
          go_wp2
          go_ret
          exact ⟨(by first | rfl | (show Ending.returned (Value.bool (decide ((x.n : Int) ≤ 128))) = _; rw [decide_eq_false (by omega)])), B1.out⟩
        · skip
          obtain rfl : r = true := by
            rw [← HR.out]
            unfold rightB isLeafB isBrB
            rw [HD1.out, HD2.out, HD3.out, hpd.out]
            simp [hk, hn]
          clear HR HP hpd HL HRR
          go_wp2
          go_ret
          exact ⟨(by first | rfl | (show Ending.returned (Value.bool (decide ((x.n : Int) ≤ 128))) = _; rw [decide_eq_true (by omega)])), B1.out⟩
  · have k1f : (x.kind == 1) = false := by rw [beq_eq_false_iff_ne]; exact hk
    cases q1 : (x.kind != 2)
    · have hk2 : x.kind = 2 := by rw [bne_eq_false_iff_eq] at q1; exact q1
      cases b3
      · skip
        obtain rfl : r = false := by
          rw [← HR.out]
          unfold rightB isLeafB isBrB
          rw [HD1.out, HD2.out, HD3.out, hpd.out]
          simp [hk]
        clear HR HP hpd HL HRR hk hk2
        go_wp2_with (first
          | ((with_reducible refine arm_load32 26 (.tmp 53) ?_ ?_ w.heap.size 69 ?_ x.key 5 ?_ UK hiK ?_); rfl; rfl; rfl; exact R69.out _ F1.out)
          | ((with_reducible refine arm_built 26 [] ?_ ?_ [] ?_ (dc zero32) bzK ?_); rfl; rfl; rfl)
          | ((with_reducible refine arm_neq 26 26 (.tmp 54) (.tmp 55) ?_ ?_ (dc x.key) (dc zero32) true ?_ ?_ hgK e3 ?_); rfl; rfl; rfl; rfl))
        go_ret
        exact ⟨rfl, B1.out⟩
      · rcases Nat.eq_zero_or_pos x.n with hn0 | hn0
        · have hng : ¬ (0 : Int) < (x.n : Int) := by omega
          cases q2 : (x.left == x.right)
          · skip
            have hlr : ¬ x.left = x.right := by rw [beq_eq_false_iff_ne] at q2; exact q2
            clear hpd HP
            obtain ⟨l, hl⟩ : ∃ l, chStands ⟨x.left, x.lc, x.ls⟩ = l := ⟨_, rfl⟩
            obtain ⟨rr, hrr⟩ : ∃ l, chStands ⟨x.right, x.rc, x.rs⟩ = l := ⟨_, rfl⟩
            have Hl := Box.mk hl
            have Hr := Box.mk hrr
            simp only [hl] at HL
            simp only [hrr] at HRR
            clear hl hrr
            have HB := Box.mk (show r = (l && rr && decide (2 ≤ x.lc + x.rc) && decide (x.lc + x.rc ≤ 4096)) by
              rw [← HR.out]
              unfold rightB isLeafB isBrB brStands
              rw [HD1.out, HD2.out, HD3.out, Hl.out, Hr.out]
              have hne : (x.left != x.right) = true := by rw [bne_iff_ne]; exact hlr
              simp [hk2, hn0, hne])
            have Hcnt : Box (l = true → rr = true → wrap64 (x.lc + x.rc) = x.lc + x.rc) := ⟨fun h1 h2 => by
              have y1 := chStands_count (Hl.out.trans h1)
              have y2 := chStands_count (Hr.out.trans h2)
              simp only at y1 y2
              unfold wrap64; omega⟩
            clear hk hk2 hlr HR Hl Hr
            go_wp2_with (first
              | ((with_reducible refine arm_load32 26 (.tmp 53) ?_ ?_ w.heap.size 69 ?_ x.key 5 ?_ UK hiK ?_); rfl; rfl; rfl; exact R69.out _ F1.out)
              | ((with_reducible refine arm_built 26 [] ?_ ?_ [] ?_ (dc zero32) bzK ?_); rfl; rfl; rfl)
              | ((with_reducible refine arm_neq 26 26 (.tmp 54) (.tmp 55) ?_ ?_ (dc x.key) (dc zero32) false ?_ ?_ hgK e3 ?_); rfl; rfl; rfl; rfl)
              | ((with_reducible refine arm_load32 27 (.tmp 75) ?_ ?_ w.heap.size 5 ?_ x.ls 5 ?_ UD hiD ?_); rfl; rfl; rfl; exact R5.out _ F1.out)
              | (go_at_call 50; refine (calls_box (HL.out _)).mono ?_))
            rintro e w2 ⟨⟨rfl, hB⟩⟩
            have B2 := Box.mk (B1.out.trans (hB.mono B1.out.size))
            have hlt := heap_lt F1.out
            have F2 := Box.mk ((hB.block _ hlt).trans F1.out)
            have d2 := (hB.cell (p := ⟨w.heap.size, 2, none⟩) hlt).trans c2
            have d3 := (hB.cell (p := ⟨w.heap.size, 3, none⟩) hlt).trans c3
            have d4 := (hB.cell (p := ⟨w.heap.size, 4, none⟩) hlt).trans c4
            clear hB hlt c0 c1 c2 c3 c4 c101 hng
            go_wp2_with (first
              | ((with_reducible refine arm_load32 27 (.tmp 82) ?_ ?_ w.heap.size 37 ?_ x.rs 5 ?_ UD hiD ?_); rfl; rfl; rfl; exact R37.out _ F2.out)
              | (go_at_call 50; refine (calls_box (HRR.out _)).mono ?_))
            rintro e w3 ⟨⟨rfl, hB⟩⟩
            have B3 := Box.mk (B2.out.trans (hB.mono B2.out.size))
            have hlt := heap_lt F2.out
            have f3 := (hB.cell (p := ⟨w.heap.size, 3, none⟩) hlt).trans d3
            have f4 := (hB.cell (p := ⟨w.heap.size, 4, none⟩) hlt).trans d4
            clear hB hlt d2 d3 d4
            cases l
            · obtain rfl : r = false := HB.out
              clear HB Hcnt
              go_wp2
              go_ret
              exact ⟨rfl, B3.out⟩
            · cases rr
              · obtain rfl : r = false := HB.out
                clear HB Hcnt
                go_wp2
                go_ret
                exact ⟨rfl, B3.out⟩
              · have hw := Hcnt.out rfl rfl
                have HB2 := Box.mk (show r = (decide (2 ≤ x.lc + x.rc) && decide (x.lc + x.rc ≤ 4096)) from HB.out)
                clear HB Hcnt
                rcases Int.lt_or_le (x.lc + x.rc) 2 with m | m
                · obtain rfl : r = false := by rw [HB2.out, decide_eq_false (by omega)]; rfl
                  clear HB2
                  go_wp2
                  go_ret
                  exact ⟨rfl, B3.out⟩
                · rcases Int.lt_or_le 4096 (x.lc + x.rc) with m2 | m2
                  · obtain rfl : r = false := by rw [HB2.out, decide_eq_false (by omega : ¬ x.lc + x.rc ≤ 4096), Bool.and_false]
                    clear HB2
                    go_wp2
                    go_ret
                    exact ⟨(by first | rfl | (show Ending.returned (Value.bool (decide (x.lc + x.rc ≤ 4096))) = _; rw [decide_eq_false (by omega)])), B3.out⟩
                  · obtain rfl : r = true := by rw [HB2.out, decide_eq_true m, decide_eq_true m2]; rfl
                    clear HB2
                    go_wp2
                    go_ret
                    exact ⟨(by first | rfl | (show Ending.returned (Value.bool (decide (x.lc + x.rc ≤ 4096))) = _; rw [decide_eq_true (by omega)])), B3.out⟩
          · skip
            obtain rfl : r = false := by
              rw [← HR.out]
              unfold rightB isLeafB isBrB
              rw [HD1.out, HD2.out, HD3.out, hpd.out]
              have : x.left = x.right := by simpa using q2
              unfold brStands
              simp [hk, this]
            clear HR HP hpd HL HRR hk hk2
            go_wp2_with (first
              | ((with_reducible refine arm_load32 26 (.tmp 53) ?_ ?_ w.heap.size 69 ?_ x.key 5 ?_ UK hiK ?_); rfl; rfl; rfl; exact R69.out _ F1.out)
              | ((with_reducible refine arm_built 26 [] ?_ ?_ [] ?_ (dc zero32) bzK ?_); rfl; rfl; rfl)
              | ((with_reducible refine arm_neq 26 26 (.tmp 54) (.tmp 55) ?_ ?_ (dc x.key) (dc zero32) false ?_ ?_ hgK e3 ?_); rfl; rfl; rfl; rfl))
            go_ret
            exact ⟨rfl, B1.out⟩
        · have hng : (0 : Int) < (x.n : Int) := by omega
          skip
          obtain rfl : r = false := by
            rw [← HR.out]
            unfold rightB isLeafB isBrB
            rw [HD1.out, HD2.out, HD3.out, hpd.out]
            simp [hk, show ¬ x.n = 0 by omega]
          clear HR HP hpd HL HRR hk hk2
          go_wp2_with (first
            | ((with_reducible refine arm_load32 26 (.tmp 53) ?_ ?_ w.heap.size 69 ?_ x.key 5 ?_ UK hiK ?_); rfl; rfl; rfl; exact R69.out _ F1.out)
            | ((with_reducible refine arm_built 26 [] ?_ ?_ [] ?_ (dc zero32) bzK ?_); rfl; rfl; rfl)
            | ((with_reducible refine arm_neq 26 26 (.tmp 54) (.tmp 55) ?_ ?_ (dc x.key) (dc zero32) false ?_ ?_ hgK e3 ?_); rfl; rfl; rfl; rfl))
          go_ret
          exact ⟨rfl, B1.out⟩
    · have hk2 : ¬ x.kind = 2 := by rw [bne_iff_ne] at q1; exact q1
      skip
      obtain rfl : r = false := by
        rw [← HR.out]
        unfold rightB isLeafB isBrB
        rw [HD1.out, HD2.out, HD3.out, hpd.out]
        simp [hk, hk2]
      clear HR HP hpd HL HRR hk hk2
      go_wp2
      go_ret
      exact ⟨rfl, B1.out⟩
end Go.Proofs.YteiepenanffhcaaDoor
