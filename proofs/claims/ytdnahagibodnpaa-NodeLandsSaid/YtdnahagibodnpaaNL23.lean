/- Texts joined: RightB. -/
import Derived.Test.YtdnahagibodnpaaNL22
/- Which nodes are right: the walk of the law's own right. -/
namespace Go.Proofs.Ytdnahagibodnpaa
set_option linter.unusedSectionVars false
set_option linter.unusedSimpArgs false
open Go Go.RowKit
set_option linter.unusedVariables false
def rightB (x : NodeV) : Bool := (isLeafB x && decide (x.n ≤ 128)) || (isBrB x && brStands ⟨x.left, x.lc, x.ls⟩ ⟨x.right, x.rc, x.rs⟩)
set_option maxRecDepth 100000 in
set_option maxHeartbeats 4000000 in
theorem right_any (x : NodeV) (w : World) : Calls Try.prog 8 #[.agg (nodeC x).toArray] w fun e w' => e = .returned (.bool (rightB x)) ∧ Below w.heap.size w w' := by
  have UD : Try.prog.underlying 36 = some (.array 32 5) := Try.underlying36
  have UK : Try.prog.underlying 37 = some (.array 32 5) := Try.underlying37
  have hiD : Hid ((Try.prog.info? 36).map (·.size) = some 32) := by unfold Hid; kernel_rfl
  have hiK : Hid ((Try.prog.info? 37).map (·.size) = some 32) := by unfold Hid; kernel_rfl
  have bzD : Try.prog.built 36 [] = some (dc zero32) := by kernel_rfl
  have bzK : Try.prog.built 37 [] = some (dc zero32) := by kernel_rfl
  have hgD : Try.prog.eqGuardType Try.prog.depth 36 = false := by kernel_rfl
  have hgK : Try.prog.eqGuardType Try.prog.depth 37 = false := by kernel_rfl
  have eD : ∀ (x y : D32) (W : World), (Op.equalIn 10000 36 (.agg (dc x)) (.agg (dc y))).run Try.prog W = .ok (eqD x y) W := by
    obtain ⟨i5, hi5'⟩ := Option.isSome_iff_exists.1 (show (Try.prog.info? 5).isSome = true by kernel_rfl)
    exact fun x y W => equalIn_d32 (d := 9998) Try.underlying36 hi5' Try.underlying5 (by kernel_rfl) x y W
  have eK : ∀ (x y : D32) (W : World), (Op.equalIn 10000 37 (.agg (dc x)) (.agg (dc y))).run Try.prog W = .ok (eqD x y) W := by
    obtain ⟨i5, hi5'⟩ := Option.isSome_iff_exists.1 (show (Try.prog.info? 5).isSome = true by kernel_rfl)
    exact fun x y W => equalIn_d32 (d := 9998) Try.underlying37 hi5' Try.underlying5 (by kernel_rfl) x y W
  have g0 : (nodeC x).toArray[0]? = some (.int .i64 x.kind) := rfl
  have g1 : (nodeC x).toArray[1]? = some (.int .i64 x.left) := rfl
  have g2 : (nodeC x).toArray[2]? = some (.int .i64 x.right) := rfl
  have g3 : (nodeC x).toArray[3]? = some (.int .i64 x.lc) := rfl
  have g4 : (nodeC x).toArray[4]? = some (.int .i64 x.rc) := rfl
  have g101 : (nodeC x).toArray[101]? = some (.slice x.ao x.n x.c) := nodeC_val x
  have r5 : ∀ W : World, W.heap[w.heap.size]? = some (.cells (nodeC x).toArray 39 (0, 0)) → W.rangeAt w.heap.size 5 (bvs x.ls.1) := fun W hW => rangeAt_cells hW fun j hj => nodeC_ls x j (by rwa [length_bvs, x.ls.2] at hj)
  have r37 : ∀ W : World, W.heap[w.heap.size]? = some (.cells (nodeC x).toArray 39 (0, 0)) → W.rangeAt w.heap.size 37 (bvs x.rs.1) := fun W hW => rangeAt_cells hW fun j hj => nodeC_rs x j (by rwa [length_bvs, x.rs.2] at hj)
  have r69 : ∀ W : World, W.heap[w.heap.size]? = some (.cells (nodeC x).toArray 39 (0, 0)) → W.rangeAt w.heap.size 69 (bvs x.key.1) := fun W hW => rangeAt_cells hW fun j hj => nodeC_key x j (by rwa [length_bvs, x.key.2] at hj)
  have e1 := fun W => eD x.ls zero32 W
  have e2 := fun W => eD x.rs zero32 W
  have e3 := fun W => eK x.key zero32 W
  have R5 := Box.mk r5
  have R37 := Box.mk r37
  have R69 := Box.mk r69
  obtain ⟨r, hr⟩ : ∃ r, rightB x = r := ⟨_, rfl⟩
  rw [hr]
  have HR := Box.mk hr
  clear hr r5 r37 r69 eD eK
  generalize hd1 : eqD x.ls zero32 = b1 at *
  generalize hd2 : eqD x.rs zero32 = b2 at *
  generalize hd3 : eqD x.key zero32 = b3 at *
  have HD1 := Box.mk hd1
  have HD2 := Box.mk hd2
  have HD3 := Box.mk hd3
  clear hd1 hd2 hd3
  have hnz : (nodeC x).toArray.size = 102 := by rw [List.size_toArray, length_nodeC]
  generalize (nodeC x).toArray = cs at *
  have f1 : (w.alloc (.cells cs 39)).heap[w.heap.size]? = some (.cells cs 39 (0, 0)) := heap_new rfl
  have F1 := Box.mk f1
  have B1 := Box.mk (Below.refl_alloc w (.cells cs 39))
  have c0 : (w.alloc (.cells cs 39)).cell? ⟨w.heap.size, 0, none⟩ = some (.int .i64 x.kind) := by rw [cell_of_row _ _ 0 _ _ _ f1]; exact g0
  have c1 : (w.alloc (.cells cs 39)).cell? ⟨w.heap.size, 1, none⟩ = some (.int .i64 x.left) := by rw [cell_of_row _ _ 1 _ _ _ f1]; exact g1
  have c2 : (w.alloc (.cells cs 39)).cell? ⟨w.heap.size, 2, none⟩ = some (.int .i64 x.right) := by rw [cell_of_row _ _ 2 _ _ _ f1]; exact g2
  have c3 : (w.alloc (.cells cs 39)).cell? ⟨w.heap.size, 3, none⟩ = some (.int .i64 x.lc) := by rw [cell_of_row _ _ 3 _ _ _ f1]; exact g3
  have c4 : (w.alloc (.cells cs 39)).cell? ⟨w.heap.size, 4, none⟩ = some (.int .i64 x.rc) := by rw [cell_of_row _ _ 4 _ _ _ f1]; exact g4
  have c101 : (w.alloc (.cells cs 39)).cell? ⟨w.heap.size, 101, none⟩ = some (.slice x.ao x.n x.c) := by rw [cell_of_row _ _ 101 _ _ _ f1]; exact g101
  clear f1 g0 g1 g2 g3 g4 g101 hnz
  go_enter Try.func8, Try.ntmps8
  go_upto_region 1 with fail
  generalize w.alloc (.cells cs 39) = w1 at *
  go_cut [3] (fun s W => s = .bool (b1 && b2) ∧ W = w1)
  case first =>
    cases b1
    · skip
      go_wp2_with (first
        | ((with_reducible refine wpList_load32g ?_ 36 (.tmp 5) ?_ w.heap.size 5 ?_ x.ls 5 ?_ UD hiD ?_); rfl; rfl; rfl; exact R5.out _ F1.out)
        | ((with_reducible refine wpList_load32g ?_ 36 (.tmp 10) ?_ w.heap.size 37 ?_ x.rs 5 ?_ UD hiD ?_); rfl; rfl; rfl; exact R37.out _ F1.out)
        | ((with_reducible refine wpList_builtg ?_ 36 [] ?_ [] ?_ (dc zero32) bzD ?_); rfl; rfl; rfl)
        | ((with_reducible refine wpList_yields ?_ (held_eql ?_ 36 36 (.tmp 6) (.tmp 7) ?_ x.ls zero32 false ?_ ?_ hgD e1) ?_); rfl; rfl; rfl; rfl; rfl)
        | ((with_reducible refine wpList_yields ?_ (held_eql ?_ 36 36 (.tmp 11) (.tmp 12) ?_ x.rs zero32 b2 ?_ ?_ hgD e2) ?_); rfl; rfl; rfl; rfl; rfl))
      go_meet
      exact ⟨rfl, rfl⟩
    · skip
      go_wp2_with (first
        | ((with_reducible refine wpList_load32g ?_ 36 (.tmp 5) ?_ w.heap.size 5 ?_ x.ls 5 ?_ UD hiD ?_); rfl; rfl; rfl; exact R5.out _ F1.out)
        | ((with_reducible refine wpList_load32g ?_ 36 (.tmp 10) ?_ w.heap.size 37 ?_ x.rs 5 ?_ UD hiD ?_); rfl; rfl; rfl; exact R37.out _ F1.out)
        | ((with_reducible refine wpList_builtg ?_ 36 [] ?_ [] ?_ (dc zero32) bzD ?_); rfl; rfl; rfl)
        | ((with_reducible refine wpList_yields ?_ (held_eql ?_ 36 36 (.tmp 6) (.tmp 7) ?_ x.ls zero32 true ?_ ?_ hgD e1) ?_); rfl; rfl; rfl; rfl; rfl)
        | ((with_reducible refine wpList_yields ?_ (held_eql ?_ 36 36 (.tmp 11) (.tmp 12) ?_ x.rs zero32 b2 ?_ ?_ hgD e2) ?_); rfl; rfl; rfl; rfl; rfl))
      go_meet
      exact ⟨rfl, rfl⟩
  obtain ⟨rfl, rfl⟩ := hcut
  by_cases hk : x.kind = 1
  · rw [hk] at c0
    obtain ⟨z, hz⟩ : ∃ z, (b1 && b2) = z := ⟨_, rfl⟩
    rw [hz]
    cases z
    · skip
      have hrr : r = false := by
        rw [← HR.out]
        unfold rightB isLeafB isBrB
        rw [HD1.out, HD2.out, HD3.out]
        cases b1 <;> cases b2 <;> simp_all
      subst hrr
      go_wp2
      go_ret
      exact ⟨rfl, B1.out⟩
    · have hb1 : b1 = true := by cases b1 <;> simp_all
      have hb2 : b2 = true := by cases b2 <;> simp_all
      subst hb1 hb2
      clear hz
      by_cases hleft : x.left = 0
      · rw [hleft] at c1
        by_cases hright : x.right = 0
        · rw [hright] at c2
          by_cases hlc : x.lc = 0
          · rw [hlc] at c3
            by_cases hrc : x.rc = 0
            · rw [hrc] at c4
              rcases Nat.lt_or_ge 128 x.n with hn | hn
              · skip
                have hrr : r = false := by
                  rw [← HR.out]
                  unfold rightB isLeafB isBrB
                  rw [HD1.out, HD2.out, HD3.out]
                  simp [hk, hleft, hright, hlc, hrc, Nat.not_le.2 hn]
                subst hrr
                go_wp2
                go_ret
                exact ⟨(by first | rfl | (show Ending.returned (Value.bool (decide ((x.n : Int) ≤ 128))) = _; rw [decide_eq_false (by omega)])), B1.out⟩
              · skip
                have hrr : r = true := by
                  rw [← HR.out]
                  unfold rightB isLeafB isBrB
                  rw [HD1.out, HD2.out, HD3.out]
                  simp [hk, hleft, hright, hlc, hrc, hn]
                subst hrr
                go_wp2
                go_ret
                exact ⟨(by first | rfl | (show Ending.returned (Value.bool (decide ((x.n : Int) ≤ 128))) = _; rw [decide_eq_true (by omega)])), B1.out⟩
            · have erc : (x.rc == 0) = false := by rw [beq_eq_false_iff_ne]; exact hrc
              have hrr : r = false := by
                rw [← HR.out]
                unfold rightB isLeafB isBrB
                rw [HD1.out, HD2.out, HD3.out]
                simp [hk, hrc]
              subst hrr
              clear hrc
              go_wp2
              go_ret
              exact ⟨rfl, B1.out⟩
          · have elc : (x.lc == 0) = false := by rw [beq_eq_false_iff_ne]; exact hlc
            have hrr : r = false := by
              rw [← HR.out]
              unfold rightB isLeafB isBrB
              rw [HD1.out, HD2.out, HD3.out]
              simp [hk, hlc]
            subst hrr
            clear hlc
            go_wp2
            go_ret
            exact ⟨rfl, B1.out⟩
        · have eright : (x.right == 0) = false := by rw [beq_eq_false_iff_ne]; exact hright
          have hrr : r = false := by
            rw [← HR.out]
            unfold rightB isLeafB isBrB
            rw [HD1.out, HD2.out, HD3.out]
            simp [hk, hright]
          subst hrr
          clear hright
          go_wp2
          go_ret
          exact ⟨rfl, B1.out⟩
      · have eleft : (x.left == 0) = false := by rw [beq_eq_false_iff_ne]; exact hleft
        have hrr : r = false := by
          rw [← HR.out]
          unfold rightB isLeafB isBrB
          rw [HD1.out, HD2.out, HD3.out]
          simp [hk, hleft]
        subst hrr
        clear hleft
        go_wp2
        go_ret
        exact ⟨rfl, B1.out⟩
  · by_cases hk2 : x.kind = 2
    · have hk := hk2
      rw [hk2] at c0
      clear hk2
      have sl := fun W => side_any x.left x.lc x.ls W
      have sr := fun W => side_any x.right x.rc x.rs W
      cases k1 : chStands ⟨x.left, x.lc, x.ls⟩
      · simp only [k1] at sl
        have hrr : r = false := by
          rw [← HR.out]
          unfold rightB isLeafB isBrB brStands
          rw [HD1.out, HD2.out, HD3.out]
          simp [hk, k1]
        subst hrr
        clear HR HD1 HD2 HD3 k1
        go_wp2_with (first
          | ((with_reducible refine wpList_load32g ?_ 36 (.tmp 52) ?_ w.heap.size 5 ?_ x.ls 5 ?_ UD hiD ?_); rfl; rfl; rfl; exact R5.out _ F1.out)
          | (go_at_call 23; refine (sl _).mono ?_))
        intro e w2
        try rw [← and_imp]
        rintro ⟨rfl, hB⟩
        have B2 := Box.mk (B1.out.trans (hB.mono B1.out.size))
        go_wp2
        go_ret
        exact ⟨rfl, B2.out⟩
      · simp only [k1] at sl
        cases k2 : chStands ⟨x.right, x.rc, x.rs⟩
        · simp only [k2] at sr
          have hrr : r = false := by
            rw [← HR.out]
            unfold rightB isLeafB isBrB brStands
            rw [HD1.out, HD2.out, HD3.out]
            simp [hk, k1, k2]
          subst hrr
          clear HR HD1 HD2 HD3 k1 k2
          go_wp2_with (first
            | ((with_reducible refine wpList_load32g ?_ 36 (.tmp 52) ?_ w.heap.size 5 ?_ x.ls 5 ?_ UD hiD ?_); rfl; rfl; rfl; exact R5.out _ F1.out)
            | (go_at_call 23; refine (sl _).mono ?_))
          intro e w2
          try rw [← and_imp]
          rintro ⟨rfl, hB⟩
          have B2 := Box.mk (B1.out.trans (hB.mono B1.out.size))
          have hlt2 := heap_lt F1.out
          have F2 := Box.mk ((hB.block _ hlt2).trans F1.out)
          have c1' := (hB.cell (p := ⟨w.heap.size, 1, none⟩) hlt2).trans c1
          have c2' := (hB.cell (p := ⟨w.heap.size, 2, none⟩) hlt2).trans c2
          have c3' := (hB.cell (p := ⟨w.heap.size, 3, none⟩) hlt2).trans c3
          have c4' := (hB.cell (p := ⟨w.heap.size, 4, none⟩) hlt2).trans c4
          have c101' := (hB.cell (p := ⟨w.heap.size, 101, none⟩) hlt2).trans c101
          clear hB hlt2 c0 c1 c2 c3 c4 c101 sl
          go_wp2_with (first
            | ((with_reducible refine wpList_load32g ?_ 36 (.tmp 60) ?_ w.heap.size 37 ?_ x.rs 5 ?_ UD hiD ?_); rfl; rfl; rfl; exact R37.out _ F2.out)
            | (go_at_call 23; refine (sr _).mono ?_))
          intro e w3
          try rw [← and_imp]
          rintro ⟨rfl, hB⟩
          have B3 := Box.mk (B2.out.trans (hB.mono B2.out.size))
          go_wp2
          go_ret
          exact ⟨rfl, B3.out⟩
        · simp only [k2] at sr
          have y1 := chStands_count k1
          have y2 := chStands_count k2
          simp only at y1 y2
          have hwr : wrap64 (x.lc + x.rc) = x.lc + x.rc := by unfold wrap64; omega
          rcases Int.lt_trichotomy x.left x.right with m | m | m
          · have m0 : (x.left == x.right) = false := by rw [beq_eq_false_iff_ne]; omega
            have m1 : (x.left != x.right) = true := by rw [bne_iff_ne]; omega
            clear m
            cases b3
            · skip
              have hrr : r = false := by
                rw [← HR.out]
                unfold rightB isLeafB isBrB brStands
                rw [HD1.out, HD2.out, HD3.out]
                simp [hk, k1, k2, m1]
              subst hrr
              clear HR HD1 HD2 HD3 k1 k2
              go_wp2_with (first
                | ((with_reducible refine wpList_load32g ?_ 36 (.tmp 52) ?_ w.heap.size 5 ?_ x.ls 5 ?_ UD hiD ?_); rfl; rfl; rfl; exact R5.out _ F1.out)
                | (go_at_call 23; refine (sl _).mono ?_))
              intro e w2
              try rw [← and_imp]
              rintro ⟨rfl, hB⟩
              have B2 := Box.mk (B1.out.trans (hB.mono B1.out.size))
              have hlt2 := heap_lt F1.out
              have F2 := Box.mk ((hB.block _ hlt2).trans F1.out)
              have c1' := (hB.cell (p := ⟨w.heap.size, 1, none⟩) hlt2).trans c1
              have c2' := (hB.cell (p := ⟨w.heap.size, 2, none⟩) hlt2).trans c2
              have c3' := (hB.cell (p := ⟨w.heap.size, 3, none⟩) hlt2).trans c3
              have c4' := (hB.cell (p := ⟨w.heap.size, 4, none⟩) hlt2).trans c4
              have c101' := (hB.cell (p := ⟨w.heap.size, 101, none⟩) hlt2).trans c101
              clear hB hlt2 c0 c1 c2 c3 c4 c101 sl
              go_wp2_with (first
                | ((with_reducible refine wpList_load32g ?_ 36 (.tmp 60) ?_ w.heap.size 37 ?_ x.rs 5 ?_ UD hiD ?_); rfl; rfl; rfl; exact R37.out _ F2.out)
                | (go_at_call 23; refine (sr _).mono ?_))
              intro e w3
              try rw [← and_imp]
              rintro ⟨rfl, hB⟩
              have B3 := Box.mk (B2.out.trans (hB.mono B2.out.size))
              have hlt2 := heap_lt F2.out
              have F3 := Box.mk ((hB.block _ hlt2).trans F2.out)
              have d1 := (hB.cell (p := ⟨w.heap.size, 1, none⟩) hlt2).trans c1'
              have d2 := (hB.cell (p := ⟨w.heap.size, 2, none⟩) hlt2).trans c2'
              have d3 := (hB.cell (p := ⟨w.heap.size, 3, none⟩) hlt2).trans c3'
              have d4 := (hB.cell (p := ⟨w.heap.size, 4, none⟩) hlt2).trans c4'
              have d101 := (hB.cell (p := ⟨w.heap.size, 101, none⟩) hlt2).trans c101'
              clear hB hlt2 c1' c2' c3' c4' c101' sr
              go_wp2_with (first
                | ((with_reducible refine wpList_load32g ?_ 37 (.tmp 74) ?_ w.heap.size 69 ?_ x.key 5 ?_ UK hiK ?_); rfl; rfl; rfl; exact R69.out _ F3.out)
                | ((with_reducible refine wpList_builtg ?_ 37 [] ?_ [] ?_ (dc zero32) bzK ?_); rfl; rfl; rfl)
                | ((with_reducible refine wpList_yields ?_ (held_neq ?_ 37 37 (.tmp 75) (.tmp 76) ?_ x.key zero32 true ?_ ?_ hgK e3) ?_); rfl; rfl; rfl; rfl; rfl))
              go_ret
              exact ⟨rfl, B3.out⟩
            · rcases Nat.eq_zero_or_pos x.n with hn | hn
              · rw [hn] at c101
                rcases Int.lt_or_le (x.lc + x.rc) 2 with u | u
                · have u' : ¬ 2 ≤ x.lc + x.rc := Int.not_le.2 u
                  have u'' := Box.mk u'
                  clear u'
                  have hrr : r = false := by
                    rw [← HR.out]
                    unfold rightB isLeafB isBrB brStands
                    rw [HD1.out, HD2.out, HD3.out]
                    have u' := u''.out; simp [hk, k1, k2, m1, u']
                  subst hrr
                  clear HR HD1 HD2 HD3 k1 k2
                  go_wp2_with (first
                    | ((with_reducible refine wpList_load32g ?_ 36 (.tmp 52) ?_ w.heap.size 5 ?_ x.ls 5 ?_ UD hiD ?_); rfl; rfl; rfl; exact R5.out _ F1.out)
                    | (go_at_call 23; refine (sl _).mono ?_))
                  intro e w2
                  try rw [← and_imp]
                  rintro ⟨rfl, hB⟩
                  have B2 := Box.mk (B1.out.trans (hB.mono B1.out.size))
                  have hlt2 := heap_lt F1.out
                  have F2 := Box.mk ((hB.block _ hlt2).trans F1.out)
                  have c1' := (hB.cell (p := ⟨w.heap.size, 1, none⟩) hlt2).trans c1
                  have c2' := (hB.cell (p := ⟨w.heap.size, 2, none⟩) hlt2).trans c2
                  have c3' := (hB.cell (p := ⟨w.heap.size, 3, none⟩) hlt2).trans c3
                  have c4' := (hB.cell (p := ⟨w.heap.size, 4, none⟩) hlt2).trans c4
                  have c101' := (hB.cell (p := ⟨w.heap.size, 101, none⟩) hlt2).trans c101
                  clear hB hlt2 c0 c1 c2 c3 c4 c101 sl
                  go_wp2_with (first
                    | ((with_reducible refine wpList_load32g ?_ 36 (.tmp 60) ?_ w.heap.size 37 ?_ x.rs 5 ?_ UD hiD ?_); rfl; rfl; rfl; exact R37.out _ F2.out)
                    | (go_at_call 23; refine (sr _).mono ?_))
                  intro e w3
                  try rw [← and_imp]
                  rintro ⟨rfl, hB⟩
                  have B3 := Box.mk (B2.out.trans (hB.mono B2.out.size))
                  have hlt2 := heap_lt F2.out
                  have F3 := Box.mk ((hB.block _ hlt2).trans F2.out)
                  have d1 := (hB.cell (p := ⟨w.heap.size, 1, none⟩) hlt2).trans c1'
                  have d2 := (hB.cell (p := ⟨w.heap.size, 2, none⟩) hlt2).trans c2'
                  have d3 := (hB.cell (p := ⟨w.heap.size, 3, none⟩) hlt2).trans c3'
                  have d4 := (hB.cell (p := ⟨w.heap.size, 4, none⟩) hlt2).trans c4'
                  have d101 := (hB.cell (p := ⟨w.heap.size, 101, none⟩) hlt2).trans c101'
                  clear hB hlt2 c1' c2' c3' c4' c101' sr
                  go_wp2_with (first
                    | ((with_reducible refine wpList_load32g ?_ 37 (.tmp 74) ?_ w.heap.size 69 ?_ x.key 5 ?_ UK hiK ?_); rfl; rfl; rfl; exact R69.out _ F3.out)
                    | ((with_reducible refine wpList_builtg ?_ 37 [] ?_ [] ?_ (dc zero32) bzK ?_); rfl; rfl; rfl)
                    | ((with_reducible refine wpList_yields ?_ (held_neq ?_ 37 37 (.tmp 75) (.tmp 76) ?_ x.key zero32 false ?_ ?_ hgK e3) ?_); rfl; rfl; rfl; rfl; rfl))
                  go_ret
                  exact ⟨rfl, B3.out⟩
                · rcases Int.lt_or_le 4096 (x.lc + x.rc) with v | v
                  · have v' := Box.mk (Int.not_le.2 v)
                    have hrr : r = false := by
                      rw [← HR.out]
                      unfold rightB isLeafB isBrB brStands
                      rw [HD1.out, HD2.out, HD3.out]
                      have v' := v'.out; simp [hk, k1, k2, m1, v']
                    subst hrr
                    clear HR HD1 HD2 HD3 k1 k2
                    go_wp2_with (first
                      | ((with_reducible refine wpList_load32g ?_ 36 (.tmp 52) ?_ w.heap.size 5 ?_ x.ls 5 ?_ UD hiD ?_); rfl; rfl; rfl; exact R5.out _ F1.out)
                      | (go_at_call 23; refine (sl _).mono ?_))
                    intro e w2
                    try rw [← and_imp]
                    rintro ⟨rfl, hB⟩
                    have B2 := Box.mk (B1.out.trans (hB.mono B1.out.size))
                    have hlt2 := heap_lt F1.out
                    have F2 := Box.mk ((hB.block _ hlt2).trans F1.out)
                    have c1' := (hB.cell (p := ⟨w.heap.size, 1, none⟩) hlt2).trans c1
                    have c2' := (hB.cell (p := ⟨w.heap.size, 2, none⟩) hlt2).trans c2
                    have c3' := (hB.cell (p := ⟨w.heap.size, 3, none⟩) hlt2).trans c3
                    have c4' := (hB.cell (p := ⟨w.heap.size, 4, none⟩) hlt2).trans c4
                    have c101' := (hB.cell (p := ⟨w.heap.size, 101, none⟩) hlt2).trans c101
                    clear hB hlt2 c0 c1 c2 c3 c4 c101 sl
                    go_wp2_with (first
                      | ((with_reducible refine wpList_load32g ?_ 36 (.tmp 60) ?_ w.heap.size 37 ?_ x.rs 5 ?_ UD hiD ?_); rfl; rfl; rfl; exact R37.out _ F2.out)
                      | (go_at_call 23; refine (sr _).mono ?_))
                    intro e w3
                    try rw [← and_imp]
                    rintro ⟨rfl, hB⟩
                    have B3 := Box.mk (B2.out.trans (hB.mono B2.out.size))
                    have hlt2 := heap_lt F2.out
                    have F3 := Box.mk ((hB.block _ hlt2).trans F2.out)
                    have d1 := (hB.cell (p := ⟨w.heap.size, 1, none⟩) hlt2).trans c1'
                    have d2 := (hB.cell (p := ⟨w.heap.size, 2, none⟩) hlt2).trans c2'
                    have d3 := (hB.cell (p := ⟨w.heap.size, 3, none⟩) hlt2).trans c3'
                    have d4 := (hB.cell (p := ⟨w.heap.size, 4, none⟩) hlt2).trans c4'
                    have d101 := (hB.cell (p := ⟨w.heap.size, 101, none⟩) hlt2).trans c101'
                    clear hB hlt2 c1' c2' c3' c4' c101' sr
                    go_wp2_with (first
                      | ((with_reducible refine wpList_load32g ?_ 37 (.tmp 74) ?_ w.heap.size 69 ?_ x.key 5 ?_ UK hiK ?_); rfl; rfl; rfl; exact R69.out _ F3.out)
                      | ((with_reducible refine wpList_builtg ?_ 37 [] ?_ [] ?_ (dc zero32) bzK ?_); rfl; rfl; rfl)
                      | ((with_reducible refine wpList_yields ?_ (held_neq ?_ 37 37 (.tmp 75) (.tmp 76) ?_ x.key zero32 false ?_ ?_ hgK e3) ?_); rfl; rfl; rfl; rfl; rfl))
                    go_ret
                    exact ⟨(by first | rfl | (show Ending.returned (Value.bool (decide (x.lc + x.rc ≤ 4096))) = _; rw [decide_eq_false (by omega)])), B3.out⟩
                  · skip
                    have hrr : r = true := by
                      rw [← HR.out]
                      unfold rightB isLeafB isBrB brStands
                      rw [HD1.out, HD2.out, HD3.out]
                      simp [hk, k1, k2, m1, hn, u, v]
                    subst hrr
                    clear HR HD1 HD2 HD3 k1 k2
                    go_wp2_with (first
                      | ((with_reducible refine wpList_load32g ?_ 36 (.tmp 52) ?_ w.heap.size 5 ?_ x.ls 5 ?_ UD hiD ?_); rfl; rfl; rfl; exact R5.out _ F1.out)
                      | (go_at_call 23; refine (sl _).mono ?_))
                    intro e w2
                    try rw [← and_imp]
                    rintro ⟨rfl, hB⟩
                    have B2 := Box.mk (B1.out.trans (hB.mono B1.out.size))
                    have hlt2 := heap_lt F1.out
                    have F2 := Box.mk ((hB.block _ hlt2).trans F1.out)
                    have c1' := (hB.cell (p := ⟨w.heap.size, 1, none⟩) hlt2).trans c1
                    have c2' := (hB.cell (p := ⟨w.heap.size, 2, none⟩) hlt2).trans c2
                    have c3' := (hB.cell (p := ⟨w.heap.size, 3, none⟩) hlt2).trans c3
                    have c4' := (hB.cell (p := ⟨w.heap.size, 4, none⟩) hlt2).trans c4
                    have c101' := (hB.cell (p := ⟨w.heap.size, 101, none⟩) hlt2).trans c101
                    clear hB hlt2 c0 c1 c2 c3 c4 c101 sl
                    go_wp2_with (first
                      | ((with_reducible refine wpList_load32g ?_ 36 (.tmp 60) ?_ w.heap.size 37 ?_ x.rs 5 ?_ UD hiD ?_); rfl; rfl; rfl; exact R37.out _ F2.out)
                      | (go_at_call 23; refine (sr _).mono ?_))
                    intro e w3
                    try rw [← and_imp]
                    rintro ⟨rfl, hB⟩
                    have B3 := Box.mk (B2.out.trans (hB.mono B2.out.size))
                    have hlt2 := heap_lt F2.out
                    have F3 := Box.mk ((hB.block _ hlt2).trans F2.out)
                    have d1 := (hB.cell (p := ⟨w.heap.size, 1, none⟩) hlt2).trans c1'
                    have d2 := (hB.cell (p := ⟨w.heap.size, 2, none⟩) hlt2).trans c2'
                    have d3 := (hB.cell (p := ⟨w.heap.size, 3, none⟩) hlt2).trans c3'
                    have d4 := (hB.cell (p := ⟨w.heap.size, 4, none⟩) hlt2).trans c4'
                    have d101 := (hB.cell (p := ⟨w.heap.size, 101, none⟩) hlt2).trans c101'
                    clear hB hlt2 c1' c2' c3' c4' c101' sr
                    go_wp2_with (first
                      | ((with_reducible refine wpList_load32g ?_ 37 (.tmp 74) ?_ w.heap.size 69 ?_ x.key 5 ?_ UK hiK ?_); rfl; rfl; rfl; exact R69.out _ F3.out)
                      | ((with_reducible refine wpList_builtg ?_ 37 [] ?_ [] ?_ (dc zero32) bzK ?_); rfl; rfl; rfl)
                      | ((with_reducible refine wpList_yields ?_ (held_neq ?_ 37 37 (.tmp 75) (.tmp 76) ?_ x.key zero32 false ?_ ?_ hgK e3) ?_); rfl; rfl; rfl; rfl; rfl))
                    go_ret
                    exact ⟨(by first | rfl | (show Ending.returned (Value.bool (decide (x.lc + x.rc ≤ 4096))) = _; rw [decide_eq_true v])), B3.out⟩
              · have hn' : ¬ x.n = 0 := by omega
                have hn'' := Box.mk hn'
                clear hn'
                have hrr : r = false := by
                  rw [← HR.out]
                  unfold rightB isLeafB isBrB brStands
                  rw [HD1.out, HD2.out, HD3.out]
                  have hn' := hn''.out; simp [hk, k1, k2, m1, hn']
                subst hrr
                clear HR HD1 HD2 HD3 k1 k2
                go_wp2_with (first
                  | ((with_reducible refine wpList_load32g ?_ 36 (.tmp 52) ?_ w.heap.size 5 ?_ x.ls 5 ?_ UD hiD ?_); rfl; rfl; rfl; exact R5.out _ F1.out)
                  | (go_at_call 23; refine (sl _).mono ?_))
                intro e w2
                try rw [← and_imp]
                rintro ⟨rfl, hB⟩
                have B2 := Box.mk (B1.out.trans (hB.mono B1.out.size))
                have hlt2 := heap_lt F1.out
                have F2 := Box.mk ((hB.block _ hlt2).trans F1.out)
                have c1' := (hB.cell (p := ⟨w.heap.size, 1, none⟩) hlt2).trans c1
                have c2' := (hB.cell (p := ⟨w.heap.size, 2, none⟩) hlt2).trans c2
                have c3' := (hB.cell (p := ⟨w.heap.size, 3, none⟩) hlt2).trans c3
                have c4' := (hB.cell (p := ⟨w.heap.size, 4, none⟩) hlt2).trans c4
                have c101' := (hB.cell (p := ⟨w.heap.size, 101, none⟩) hlt2).trans c101
                clear hB hlt2 c0 c1 c2 c3 c4 c101 sl
                go_wp2_with (first
                  | ((with_reducible refine wpList_load32g ?_ 36 (.tmp 60) ?_ w.heap.size 37 ?_ x.rs 5 ?_ UD hiD ?_); rfl; rfl; rfl; exact R37.out _ F2.out)
                  | (go_at_call 23; refine (sr _).mono ?_))
                intro e w3
                try rw [← and_imp]
                rintro ⟨rfl, hB⟩
                have B3 := Box.mk (B2.out.trans (hB.mono B2.out.size))
                have hlt2 := heap_lt F2.out
                have F3 := Box.mk ((hB.block _ hlt2).trans F2.out)
                have d1 := (hB.cell (p := ⟨w.heap.size, 1, none⟩) hlt2).trans c1'
                have d2 := (hB.cell (p := ⟨w.heap.size, 2, none⟩) hlt2).trans c2'
                have d3 := (hB.cell (p := ⟨w.heap.size, 3, none⟩) hlt2).trans c3'
                have d4 := (hB.cell (p := ⟨w.heap.size, 4, none⟩) hlt2).trans c4'
                have d101 := (hB.cell (p := ⟨w.heap.size, 101, none⟩) hlt2).trans c101'
                clear hB hlt2 c1' c2' c3' c4' c101' sr
                go_wp2_with (first
                  | ((with_reducible refine wpList_load32g ?_ 37 (.tmp 74) ?_ w.heap.size 69 ?_ x.key 5 ?_ UK hiK ?_); rfl; rfl; rfl; exact R69.out _ F3.out)
                  | ((with_reducible refine wpList_builtg ?_ 37 [] ?_ [] ?_ (dc zero32) bzK ?_); rfl; rfl; rfl)
                  | ((with_reducible refine wpList_yields ?_ (held_neq ?_ 37 37 (.tmp 75) (.tmp 76) ?_ x.key zero32 false ?_ ?_ hgK e3) ?_); rfl; rfl; rfl; rfl; rfl))
                go_ret
                exact ⟨rfl, B3.out⟩
          · have m0 : (x.left == x.right) = true := by rw [beq_iff_eq]; exact m
            have m1 : (x.left != x.right) = false := by rw [bne_eq_false_iff_eq]; exact m
            clear m
            have hrr : r = false := by
              rw [← HR.out]
              unfold rightB isLeafB isBrB brStands
              rw [HD1.out, HD2.out, HD3.out]
              simp [hk, k1, k2, m1]
            subst hrr
            clear HR HD1 HD2 HD3 k1 k2
            go_wp2_with (first
              | ((with_reducible refine wpList_load32g ?_ 36 (.tmp 52) ?_ w.heap.size 5 ?_ x.ls 5 ?_ UD hiD ?_); rfl; rfl; rfl; exact R5.out _ F1.out)
              | (go_at_call 23; refine (sl _).mono ?_))
            intro e w2
            try rw [← and_imp]
            rintro ⟨rfl, hB⟩
            have B2 := Box.mk (B1.out.trans (hB.mono B1.out.size))
            have hlt2 := heap_lt F1.out
            have F2 := Box.mk ((hB.block _ hlt2).trans F1.out)
            have c1' := (hB.cell (p := ⟨w.heap.size, 1, none⟩) hlt2).trans c1
            have c2' := (hB.cell (p := ⟨w.heap.size, 2, none⟩) hlt2).trans c2
            have c3' := (hB.cell (p := ⟨w.heap.size, 3, none⟩) hlt2).trans c3
            have c4' := (hB.cell (p := ⟨w.heap.size, 4, none⟩) hlt2).trans c4
            have c101' := (hB.cell (p := ⟨w.heap.size, 101, none⟩) hlt2).trans c101
            clear hB hlt2 c0 c1 c2 c3 c4 c101 sl
            go_wp2_with (first
              | ((with_reducible refine wpList_load32g ?_ 36 (.tmp 60) ?_ w.heap.size 37 ?_ x.rs 5 ?_ UD hiD ?_); rfl; rfl; rfl; exact R37.out _ F2.out)
              | (go_at_call 23; refine (sr _).mono ?_))
            intro e w3
            try rw [← and_imp]
            rintro ⟨rfl, hB⟩
            have B3 := Box.mk (B2.out.trans (hB.mono B2.out.size))
            have hlt2 := heap_lt F2.out
            have F3 := Box.mk ((hB.block _ hlt2).trans F2.out)
            have d1 := (hB.cell (p := ⟨w.heap.size, 1, none⟩) hlt2).trans c1'
            have d2 := (hB.cell (p := ⟨w.heap.size, 2, none⟩) hlt2).trans c2'
            have d3 := (hB.cell (p := ⟨w.heap.size, 3, none⟩) hlt2).trans c3'
            have d4 := (hB.cell (p := ⟨w.heap.size, 4, none⟩) hlt2).trans c4'
            have d101 := (hB.cell (p := ⟨w.heap.size, 101, none⟩) hlt2).trans c101'
            clear hB hlt2 c1' c2' c3' c4' c101' sr
            go_wp2_with (first
              | ((with_reducible refine wpList_load32g ?_ 37 (.tmp 74) ?_ w.heap.size 69 ?_ x.key 5 ?_ UK hiK ?_); rfl; rfl; rfl; exact R69.out _ F3.out)
              | ((with_reducible refine wpList_builtg ?_ 37 [] ?_ [] ?_ (dc zero32) bzK ?_); rfl; rfl; rfl)
              | ((with_reducible refine wpList_yields ?_ (held_neq ?_ 37 37 (.tmp 75) (.tmp 76) ?_ x.key zero32 (!b3) ?_ ?_ hgK e3) ?_); rfl; rfl; rfl; rfl; rfl))
            go_ret
            exact ⟨rfl, B3.out⟩
          · have m0 : (x.left == x.right) = false := by rw [beq_eq_false_iff_ne]; omega
            have m1 : (x.left != x.right) = true := by rw [bne_iff_ne]; omega
            clear m
            cases b3
            · skip
              have hrr : r = false := by
                rw [← HR.out]
                unfold rightB isLeafB isBrB brStands
                rw [HD1.out, HD2.out, HD3.out]
                simp [hk, k1, k2, m1]
              subst hrr
              clear HR HD1 HD2 HD3 k1 k2
              go_wp2_with (first
                | ((with_reducible refine wpList_load32g ?_ 36 (.tmp 52) ?_ w.heap.size 5 ?_ x.ls 5 ?_ UD hiD ?_); rfl; rfl; rfl; exact R5.out _ F1.out)
                | (go_at_call 23; refine (sl _).mono ?_))
              intro e w2
              try rw [← and_imp]
              rintro ⟨rfl, hB⟩
              have B2 := Box.mk (B1.out.trans (hB.mono B1.out.size))
              have hlt2 := heap_lt F1.out
              have F2 := Box.mk ((hB.block _ hlt2).trans F1.out)
              have c1' := (hB.cell (p := ⟨w.heap.size, 1, none⟩) hlt2).trans c1
              have c2' := (hB.cell (p := ⟨w.heap.size, 2, none⟩) hlt2).trans c2
              have c3' := (hB.cell (p := ⟨w.heap.size, 3, none⟩) hlt2).trans c3
              have c4' := (hB.cell (p := ⟨w.heap.size, 4, none⟩) hlt2).trans c4
              have c101' := (hB.cell (p := ⟨w.heap.size, 101, none⟩) hlt2).trans c101
              clear hB hlt2 c0 c1 c2 c3 c4 c101 sl
              go_wp2_with (first
                | ((with_reducible refine wpList_load32g ?_ 36 (.tmp 60) ?_ w.heap.size 37 ?_ x.rs 5 ?_ UD hiD ?_); rfl; rfl; rfl; exact R37.out _ F2.out)
                | (go_at_call 23; refine (sr _).mono ?_))
              intro e w3
              try rw [← and_imp]
              rintro ⟨rfl, hB⟩
              have B3 := Box.mk (B2.out.trans (hB.mono B2.out.size))
              have hlt2 := heap_lt F2.out
              have F3 := Box.mk ((hB.block _ hlt2).trans F2.out)
              have d1 := (hB.cell (p := ⟨w.heap.size, 1, none⟩) hlt2).trans c1'
              have d2 := (hB.cell (p := ⟨w.heap.size, 2, none⟩) hlt2).trans c2'
              have d3 := (hB.cell (p := ⟨w.heap.size, 3, none⟩) hlt2).trans c3'
              have d4 := (hB.cell (p := ⟨w.heap.size, 4, none⟩) hlt2).trans c4'
              have d101 := (hB.cell (p := ⟨w.heap.size, 101, none⟩) hlt2).trans c101'
              clear hB hlt2 c1' c2' c3' c4' c101' sr
              go_wp2_with (first
                | ((with_reducible refine wpList_load32g ?_ 37 (.tmp 74) ?_ w.heap.size 69 ?_ x.key 5 ?_ UK hiK ?_); rfl; rfl; rfl; exact R69.out _ F3.out)
                | ((with_reducible refine wpList_builtg ?_ 37 [] ?_ [] ?_ (dc zero32) bzK ?_); rfl; rfl; rfl)
                | ((with_reducible refine wpList_yields ?_ (held_neq ?_ 37 37 (.tmp 75) (.tmp 76) ?_ x.key zero32 true ?_ ?_ hgK e3) ?_); rfl; rfl; rfl; rfl; rfl))
              go_ret
              exact ⟨rfl, B3.out⟩
            · rcases Nat.eq_zero_or_pos x.n with hn | hn
              · rw [hn] at c101
                rcases Int.lt_or_le (x.lc + x.rc) 2 with u | u
                · have u' : ¬ 2 ≤ x.lc + x.rc := Int.not_le.2 u
                  have u'' := Box.mk u'
                  clear u'
                  have hrr : r = false := by
                    rw [← HR.out]
                    unfold rightB isLeafB isBrB brStands
                    rw [HD1.out, HD2.out, HD3.out]
                    have u' := u''.out; simp [hk, k1, k2, m1, u']
                  subst hrr
                  clear HR HD1 HD2 HD3 k1 k2
                  go_wp2_with (first
                    | ((with_reducible refine wpList_load32g ?_ 36 (.tmp 52) ?_ w.heap.size 5 ?_ x.ls 5 ?_ UD hiD ?_); rfl; rfl; rfl; exact R5.out _ F1.out)
                    | (go_at_call 23; refine (sl _).mono ?_))
                  intro e w2
                  try rw [← and_imp]
                  rintro ⟨rfl, hB⟩
                  have B2 := Box.mk (B1.out.trans (hB.mono B1.out.size))
                  have hlt2 := heap_lt F1.out
                  have F2 := Box.mk ((hB.block _ hlt2).trans F1.out)
                  have c1' := (hB.cell (p := ⟨w.heap.size, 1, none⟩) hlt2).trans c1
                  have c2' := (hB.cell (p := ⟨w.heap.size, 2, none⟩) hlt2).trans c2
                  have c3' := (hB.cell (p := ⟨w.heap.size, 3, none⟩) hlt2).trans c3
                  have c4' := (hB.cell (p := ⟨w.heap.size, 4, none⟩) hlt2).trans c4
                  have c101' := (hB.cell (p := ⟨w.heap.size, 101, none⟩) hlt2).trans c101
                  clear hB hlt2 c0 c1 c2 c3 c4 c101 sl
                  go_wp2_with (first
                    | ((with_reducible refine wpList_load32g ?_ 36 (.tmp 60) ?_ w.heap.size 37 ?_ x.rs 5 ?_ UD hiD ?_); rfl; rfl; rfl; exact R37.out _ F2.out)
                    | (go_at_call 23; refine (sr _).mono ?_))
                  intro e w3
                  try rw [← and_imp]
                  rintro ⟨rfl, hB⟩
                  have B3 := Box.mk (B2.out.trans (hB.mono B2.out.size))
                  have hlt2 := heap_lt F2.out
                  have F3 := Box.mk ((hB.block _ hlt2).trans F2.out)
                  have d1 := (hB.cell (p := ⟨w.heap.size, 1, none⟩) hlt2).trans c1'
                  have d2 := (hB.cell (p := ⟨w.heap.size, 2, none⟩) hlt2).trans c2'
                  have d3 := (hB.cell (p := ⟨w.heap.size, 3, none⟩) hlt2).trans c3'
                  have d4 := (hB.cell (p := ⟨w.heap.size, 4, none⟩) hlt2).trans c4'
                  have d101 := (hB.cell (p := ⟨w.heap.size, 101, none⟩) hlt2).trans c101'
                  clear hB hlt2 c1' c2' c3' c4' c101' sr
                  go_wp2_with (first
                    | ((with_reducible refine wpList_load32g ?_ 37 (.tmp 74) ?_ w.heap.size 69 ?_ x.key 5 ?_ UK hiK ?_); rfl; rfl; rfl; exact R69.out _ F3.out)
                    | ((with_reducible refine wpList_builtg ?_ 37 [] ?_ [] ?_ (dc zero32) bzK ?_); rfl; rfl; rfl)
                    | ((with_reducible refine wpList_yields ?_ (held_neq ?_ 37 37 (.tmp 75) (.tmp 76) ?_ x.key zero32 false ?_ ?_ hgK e3) ?_); rfl; rfl; rfl; rfl; rfl))
                  go_ret
                  exact ⟨rfl, B3.out⟩
                · rcases Int.lt_or_le 4096 (x.lc + x.rc) with v | v
                  · have v' := Box.mk (Int.not_le.2 v)
                    have hrr : r = false := by
                      rw [← HR.out]
                      unfold rightB isLeafB isBrB brStands
                      rw [HD1.out, HD2.out, HD3.out]
                      have v' := v'.out; simp [hk, k1, k2, m1, v']
                    subst hrr
                    clear HR HD1 HD2 HD3 k1 k2
                    go_wp2_with (first
                      | ((with_reducible refine wpList_load32g ?_ 36 (.tmp 52) ?_ w.heap.size 5 ?_ x.ls 5 ?_ UD hiD ?_); rfl; rfl; rfl; exact R5.out _ F1.out)
                      | (go_at_call 23; refine (sl _).mono ?_))
                    intro e w2
                    try rw [← and_imp]
                    rintro ⟨rfl, hB⟩
                    have B2 := Box.mk (B1.out.trans (hB.mono B1.out.size))
                    have hlt2 := heap_lt F1.out
                    have F2 := Box.mk ((hB.block _ hlt2).trans F1.out)
                    have c1' := (hB.cell (p := ⟨w.heap.size, 1, none⟩) hlt2).trans c1
                    have c2' := (hB.cell (p := ⟨w.heap.size, 2, none⟩) hlt2).trans c2
                    have c3' := (hB.cell (p := ⟨w.heap.size, 3, none⟩) hlt2).trans c3
                    have c4' := (hB.cell (p := ⟨w.heap.size, 4, none⟩) hlt2).trans c4
                    have c101' := (hB.cell (p := ⟨w.heap.size, 101, none⟩) hlt2).trans c101
                    clear hB hlt2 c0 c1 c2 c3 c4 c101 sl
                    go_wp2_with (first
                      | ((with_reducible refine wpList_load32g ?_ 36 (.tmp 60) ?_ w.heap.size 37 ?_ x.rs 5 ?_ UD hiD ?_); rfl; rfl; rfl; exact R37.out _ F2.out)
                      | (go_at_call 23; refine (sr _).mono ?_))
                    intro e w3
                    try rw [← and_imp]
                    rintro ⟨rfl, hB⟩
                    have B3 := Box.mk (B2.out.trans (hB.mono B2.out.size))
                    have hlt2 := heap_lt F2.out
                    have F3 := Box.mk ((hB.block _ hlt2).trans F2.out)
                    have d1 := (hB.cell (p := ⟨w.heap.size, 1, none⟩) hlt2).trans c1'
                    have d2 := (hB.cell (p := ⟨w.heap.size, 2, none⟩) hlt2).trans c2'
                    have d3 := (hB.cell (p := ⟨w.heap.size, 3, none⟩) hlt2).trans c3'
                    have d4 := (hB.cell (p := ⟨w.heap.size, 4, none⟩) hlt2).trans c4'
                    have d101 := (hB.cell (p := ⟨w.heap.size, 101, none⟩) hlt2).trans c101'
                    clear hB hlt2 c1' c2' c3' c4' c101' sr
                    go_wp2_with (first
                      | ((with_reducible refine wpList_load32g ?_ 37 (.tmp 74) ?_ w.heap.size 69 ?_ x.key 5 ?_ UK hiK ?_); rfl; rfl; rfl; exact R69.out _ F3.out)
                      | ((with_reducible refine wpList_builtg ?_ 37 [] ?_ [] ?_ (dc zero32) bzK ?_); rfl; rfl; rfl)
                      | ((with_reducible refine wpList_yields ?_ (held_neq ?_ 37 37 (.tmp 75) (.tmp 76) ?_ x.key zero32 false ?_ ?_ hgK e3) ?_); rfl; rfl; rfl; rfl; rfl))
                    go_ret
                    exact ⟨(by first | rfl | (show Ending.returned (Value.bool (decide (x.lc + x.rc ≤ 4096))) = _; rw [decide_eq_false (by omega)])), B3.out⟩
                  · skip
                    have hrr : r = true := by
                      rw [← HR.out]
                      unfold rightB isLeafB isBrB brStands
                      rw [HD1.out, HD2.out, HD3.out]
                      simp [hk, k1, k2, m1, hn, u, v]
                    subst hrr
                    clear HR HD1 HD2 HD3 k1 k2
                    go_wp2_with (first
                      | ((with_reducible refine wpList_load32g ?_ 36 (.tmp 52) ?_ w.heap.size 5 ?_ x.ls 5 ?_ UD hiD ?_); rfl; rfl; rfl; exact R5.out _ F1.out)
                      | (go_at_call 23; refine (sl _).mono ?_))
                    intro e w2
                    try rw [← and_imp]
                    rintro ⟨rfl, hB⟩
                    have B2 := Box.mk (B1.out.trans (hB.mono B1.out.size))
                    have hlt2 := heap_lt F1.out
                    have F2 := Box.mk ((hB.block _ hlt2).trans F1.out)
                    have c1' := (hB.cell (p := ⟨w.heap.size, 1, none⟩) hlt2).trans c1
                    have c2' := (hB.cell (p := ⟨w.heap.size, 2, none⟩) hlt2).trans c2
                    have c3' := (hB.cell (p := ⟨w.heap.size, 3, none⟩) hlt2).trans c3
                    have c4' := (hB.cell (p := ⟨w.heap.size, 4, none⟩) hlt2).trans c4
                    have c101' := (hB.cell (p := ⟨w.heap.size, 101, none⟩) hlt2).trans c101
                    clear hB hlt2 c0 c1 c2 c3 c4 c101 sl
                    go_wp2_with (first
                      | ((with_reducible refine wpList_load32g ?_ 36 (.tmp 60) ?_ w.heap.size 37 ?_ x.rs 5 ?_ UD hiD ?_); rfl; rfl; rfl; exact R37.out _ F2.out)
                      | (go_at_call 23; refine (sr _).mono ?_))
                    intro e w3
                    try rw [← and_imp]
                    rintro ⟨rfl, hB⟩
                    have B3 := Box.mk (B2.out.trans (hB.mono B2.out.size))
                    have hlt2 := heap_lt F2.out
                    have F3 := Box.mk ((hB.block _ hlt2).trans F2.out)
                    have d1 := (hB.cell (p := ⟨w.heap.size, 1, none⟩) hlt2).trans c1'
                    have d2 := (hB.cell (p := ⟨w.heap.size, 2, none⟩) hlt2).trans c2'
                    have d3 := (hB.cell (p := ⟨w.heap.size, 3, none⟩) hlt2).trans c3'
                    have d4 := (hB.cell (p := ⟨w.heap.size, 4, none⟩) hlt2).trans c4'
                    have d101 := (hB.cell (p := ⟨w.heap.size, 101, none⟩) hlt2).trans c101'
                    clear hB hlt2 c1' c2' c3' c4' c101' sr
                    go_wp2_with (first
                      | ((with_reducible refine wpList_load32g ?_ 37 (.tmp 74) ?_ w.heap.size 69 ?_ x.key 5 ?_ UK hiK ?_); rfl; rfl; rfl; exact R69.out _ F3.out)
                      | ((with_reducible refine wpList_builtg ?_ 37 [] ?_ [] ?_ (dc zero32) bzK ?_); rfl; rfl; rfl)
                      | ((with_reducible refine wpList_yields ?_ (held_neq ?_ 37 37 (.tmp 75) (.tmp 76) ?_ x.key zero32 false ?_ ?_ hgK e3) ?_); rfl; rfl; rfl; rfl; rfl))
                    go_ret
                    exact ⟨(by first | rfl | (show Ending.returned (Value.bool (decide (x.lc + x.rc ≤ 4096))) = _; rw [decide_eq_true v])), B3.out⟩
              · have hn' : ¬ x.n = 0 := by omega
                have hn'' := Box.mk hn'
                clear hn'
                have hrr : r = false := by
                  rw [← HR.out]
                  unfold rightB isLeafB isBrB brStands
                  rw [HD1.out, HD2.out, HD3.out]
                  have hn' := hn''.out; simp [hk, k1, k2, m1, hn']
                subst hrr
                clear HR HD1 HD2 HD3 k1 k2
                go_wp2_with (first
                  | ((with_reducible refine wpList_load32g ?_ 36 (.tmp 52) ?_ w.heap.size 5 ?_ x.ls 5 ?_ UD hiD ?_); rfl; rfl; rfl; exact R5.out _ F1.out)
                  | (go_at_call 23; refine (sl _).mono ?_))
                intro e w2
                try rw [← and_imp]
                rintro ⟨rfl, hB⟩
                have B2 := Box.mk (B1.out.trans (hB.mono B1.out.size))
                have hlt2 := heap_lt F1.out
                have F2 := Box.mk ((hB.block _ hlt2).trans F1.out)
                have c1' := (hB.cell (p := ⟨w.heap.size, 1, none⟩) hlt2).trans c1
                have c2' := (hB.cell (p := ⟨w.heap.size, 2, none⟩) hlt2).trans c2
                have c3' := (hB.cell (p := ⟨w.heap.size, 3, none⟩) hlt2).trans c3
                have c4' := (hB.cell (p := ⟨w.heap.size, 4, none⟩) hlt2).trans c4
                have c101' := (hB.cell (p := ⟨w.heap.size, 101, none⟩) hlt2).trans c101
                clear hB hlt2 c0 c1 c2 c3 c4 c101 sl
                go_wp2_with (first
                  | ((with_reducible refine wpList_load32g ?_ 36 (.tmp 60) ?_ w.heap.size 37 ?_ x.rs 5 ?_ UD hiD ?_); rfl; rfl; rfl; exact R37.out _ F2.out)
                  | (go_at_call 23; refine (sr _).mono ?_))
                intro e w3
                try rw [← and_imp]
                rintro ⟨rfl, hB⟩
                have B3 := Box.mk (B2.out.trans (hB.mono B2.out.size))
                have hlt2 := heap_lt F2.out
                have F3 := Box.mk ((hB.block _ hlt2).trans F2.out)
                have d1 := (hB.cell (p := ⟨w.heap.size, 1, none⟩) hlt2).trans c1'
                have d2 := (hB.cell (p := ⟨w.heap.size, 2, none⟩) hlt2).trans c2'
                have d3 := (hB.cell (p := ⟨w.heap.size, 3, none⟩) hlt2).trans c3'
                have d4 := (hB.cell (p := ⟨w.heap.size, 4, none⟩) hlt2).trans c4'
                have d101 := (hB.cell (p := ⟨w.heap.size, 101, none⟩) hlt2).trans c101'
                clear hB hlt2 c1' c2' c3' c4' c101' sr
                go_wp2_with (first
                  | ((with_reducible refine wpList_load32g ?_ 37 (.tmp 74) ?_ w.heap.size 69 ?_ x.key 5 ?_ UK hiK ?_); rfl; rfl; rfl; exact R69.out _ F3.out)
                  | ((with_reducible refine wpList_builtg ?_ 37 [] ?_ [] ?_ (dc zero32) bzK ?_); rfl; rfl; rfl)
                  | ((with_reducible refine wpList_yields ?_ (held_neq ?_ 37 37 (.tmp 75) (.tmp 76) ?_ x.key zero32 false ?_ ?_ hgK e3) ?_); rfl; rfl; rfl; rfl; rfl))
                go_ret
                exact ⟨rfl, B3.out⟩
    · have q1 : (x.kind == 1) = false := by rw [beq_eq_false_iff_ne]; exact hk
      have q2 : (x.kind == 2) = false := by rw [beq_eq_false_iff_ne]; exact hk2
      have hrr : r = false := by
        rw [← HR.out]
        unfold rightB isLeafB isBrB
        rw [HD1.out, HD2.out, HD3.out]
        simp [hk, hk2]
      subst hrr
      clear hk hk2
      go_wp2
      go_ret
      exact ⟨rfl, B1.out⟩
end Go.Proofs.Ytdnahagibodnpaa
