/- Which records are right: index.right and the law's own right say the same. -/
import Derived.Test.YtocfiabbhcgegaaIRec
namespace Go.Proofs.Ytocfiabbhcgegaa
open Go Go.RowKit
set_option linter.unusedVariables false

theorem rec_cells {W : World} {g : Nat} {x : RecV} {e : TypeId} (h : W.heap[g]? = some (.cells (recC x).toArray e (0, 0))) :
    W.cell? ⟨g, 0, none⟩ = some (.int .i64 x.f0) ∧ W.cell? ⟨g, 1, none⟩ = some (.int .i64 x.f1) ∧ W.cell? ⟨g, 2, none⟩ = some (.int .i64 x.f2) ∧
    W.cell? ⟨g, 3, none⟩ = some (.int .i64 x.f3) ∧ W.cell? ⟨g, 4, none⟩ = some (.int .i64 x.f4) ∧ W.cell? ⟨g, 5, none⟩ = some (.int .i64 x.f5) := by
  refine ⟨?_, ?_, ?_, ?_, ?_, ?_⟩ <;> (rw [cell_of_row _ _ _ _ _ _ h]; rfl)

set_option maxRecDepth 100000 in
set_option maxHeartbeats 4000000 in
theorem number_any (x : RecV) (hu : 0 ≤ x.f0 ∧ x.f0 ≤ 1073741824) (hb : 0 ≤ x.f1 ∧ x.f1 ≤ 1073741824) (w : World) : Calls Try.prog 40 #[.agg (recC x).toArray] w fun e w' => e = .returned (.int .i64 (numB x.f0 x.f1)) ∧ Below w.heap.size w w' := by
  have F0 := Box.mk (show (w.alloc (.cells (recC x).toArray 25)).heap[w.heap.size]? = some (.cells (recC x).toArray 25 (0, 0)) from heap_new rfl)
  have B0 := Box.mk (Below.refl_alloc w (.cells (recC x).toArray 25))
  obtain ⟨c0, c1, -, -, -, -⟩ := rec_cells F0.out
  generalize (recC x).toArray = cx at *
  obtain ⟨u, b, x2, x3, x4, x5, xs⟩ := x
  dsimp only at *
  by_cases h : b = 0
  · subst h
    have hr : numB u 0 = u := rfl
    rw [hr]
    clear hr
    go_enter Try.func40, Try.ntmps40
    go_wp2
    go_ret
    exact ⟨rfl, B0.out⟩
  · have hr : numB u b = u - b + 1 := if_neg h
    have bf : (b == 0) = false := by rw [beq_eq_false_iff_ne]; exact h
    have h1 : wrap64 (u - b) = u - b := by unfold wrap64; omega
    have h2 : wrap64 (u - b + 1) = u - b + 1 := by unfold wrap64; omega
    rw [hr]
    clear hr h
    go_enter Try.func40, Try.ntmps40
    go_wp2
    go_ret
    exact ⟨rfl, B0.out⟩

-- GEN IRIGHT
def farR (n : Int) : Int := bits BinOp.and IntKind.i64 n (n - 1)
/-- Which records are right. -/
def rightI (u b x2 x3 x4 x5 : Int) : Bool :=
  if b < 0 ∨ 1073741824 < b ∨ u < 1 ∨ 1073741824 < u ∨ u < b then false
  else if heldB x4 x5 = false then false
  else if x4 ≠ 0 ∧ pageB x4 = false then false
  else if numB u b = 1 then (x2 == 0) && (x3 == 0)
  else if pageB x2 = false then false
  else if farR (numB u b) = 0 then x3 == 0
  else if farR (numB u b) = numB u b - 1 then x3 == x2
  else pageB x3 && decide (x3 < x2)
def rightR (x : RecV) : Bool := rightI x.f0 x.f1 x.f2 x.f3 x.f4 x.f5

set_option maxRecDepth 100000 in
set_option maxHeartbeats 8000000 in
theorem lright_any (x : RecV) (w : World) : Calls Try.prog 6 #[.agg (recC x).toArray] w fun e w' => e = .returned (.bool (rightR x)) ∧ Below w.heap.size w w' := by
  have F0 := Box.mk (show (w.alloc (.cells (recC x).toArray 25)).heap[w.heap.size]? = some (.cells (recC x).toArray 25 (0, 0)) from heap_new rfl)
  have B0 := Box.mk (Below.refl_alloc w (.cells (recC x).toArray 25))
  have C := Box.mk (fun (W : World) (hW : Below (w.alloc (.cells (recC x).toArray 25)).heap.size (w.alloc (.cells (recC x).toArray 25)) W) => rec_cells ((hW.block _ (heap_lt F0.out)).trans F0.out))
  have hB1 := Box.mk (fun (W : World) (hW : Below (w.alloc (.cells (recC x).toArray 25)).heap.size (w.alloc (.cells (recC x).toArray 25)) W) => B0.out.trans (hW.mono B0.out.size))
  obtain ⟨c0, c1, c2, c3, c4, c5⟩ := rec_cells F0.out
  have hNx := Box.mk (number_any x)
  unfold rightR
  generalize (recC x).toArray = cx at *
  obtain ⟨u, b, x2, x3, x4, x5, xs⟩ := x
  dsimp only at *
  rcases Int.lt_or_le (b) (0) with a1 | a1
  · have hr : rightI u b x2 x3 x4 x5 = false := by unfold rightI; rw [if_pos (by omega)]
    rw [hr]
    clear hr hNx C hB1
    go_enter Try.func6, Try.ntmps6
    go_wp2
    go_ret
    exact ⟨rfl, B0.out⟩
  · skip
    rcases Int.lt_or_le (1073741824) (b) with a2 | a2
    · have hr : rightI u b x2 x3 x4 x5 = false := by unfold rightI; rw [if_pos (by omega)]
      rw [hr]
      clear hr hNx C hB1
      go_enter Try.func6, Try.ntmps6
      go_wp2
      go_ret
      exact ⟨rfl, B0.out⟩
    · skip
      rcases Int.lt_or_le (u) (1) with a3 | a3
      · have hr : rightI u b x2 x3 x4 x5 = false := by unfold rightI; rw [if_pos (by omega)]
        rw [hr]
        clear hr hNx C hB1
        go_enter Try.func6, Try.ntmps6
        go_wp2
        go_ret
        exact ⟨rfl, B0.out⟩
      · skip
        rcases Int.lt_or_le (1073741824) (u) with a4 | a4
        · have hr : rightI u b x2 x3 x4 x5 = false := by unfold rightI; rw [if_pos (by omega)]
          rw [hr]
          clear hr hNx C hB1
          go_enter Try.func6, Try.ntmps6
          go_wp2
          go_ret
          exact ⟨rfl, B0.out⟩
        · skip
          rcases Int.lt_or_le (u) (b) with a5 | a5
          · have hr : rightI u b x2 x3 x4 x5 = false := by unfold rightI; rw [if_pos (by omega)]
            rw [hr]
            clear hr hNx C hB1
            go_enter Try.func6, Try.ntmps6
            go_wp2
            go_ret
            exact ⟨rfl, B0.out⟩
          · skip
            have hA : ¬ (b < 0 ∨ 1073741824 < b ∨ u < 1 ∨ 1073741824 < u ∨ u < b) := by omega
            have hN := Box.mk (fun W => numberOf_any u b (by omega) (by omega) W)
            have hNi := Box.mk (fun W => hNx.out (by omega) (by omega) W)
            obtain ⟨N, hNN⟩ : ∃ z, numB u b = z := ⟨_, rfl⟩
            have hNb : 1 ≤ N ∧ N ≤ 1073741824 := by rw [← hNN]; unfold numB; split <;> omega
            have hNw : wrap64 (N - 1) = N - 1 := by unfold wrap64; omega
            rw [hNN] at hN hNi
            have HNN := Box.mk hNN
            obtain ⟨far, hfar⟩ : ∃ z, bits BinOp.and IntKind.i64 N (N - 1) = z := ⟨_, rfl⟩
            have HFAR := Box.mk (show farR N = far from hfar)
            have hPl := Box.mk (fun v W => lpage_any v W)
            have hPi := Box.mk (fun v W => ipage_any v W)
            have hH := Box.mk (fun W => held_any x4 x5 W)
            clear hNx hNN F0
            rcases Int.lt_or_le x5 0 with d1 | d1
            · have hh : heldB x4 x5 = false := by unfold heldB; rw [decide_eq_false (p := x5 = 0) (by omega), decide_eq_false (p := 0 < x5) (by omega)]; simp
              have hr : rightI u b x2 x3 x4 x5 = false := by unfold rightI; rw [if_neg hA, if_pos hh]
              rw [hr]
              clear hr
              clear hA
              go_enter Try.func6, Try.ntmps6
              go_wp2_with (first
                | (go_at_call 26; refine (calls_box (hPl.out _ _)).mono ?_; rintro e w' ⟨⟨rfl, rfl⟩⟩)
                | (go_at_call 27; refine (calls_box (hN.out _)).mono ?_; rintro e w' ⟨⟨rfl, rfl⟩⟩))
              go_ret
              first
                | exact ⟨rfl, hB9.out⟩
                | exact ⟨rfl, B0.out⟩
            · rcases Int.lt_or_le 4096 x5 with d2 | d2
              · have hh : heldB x4 x5 = false := by unfold heldB; rw [decide_eq_false (p := x5 = 0) (by omega), decide_eq_false (p := x5 ≤ 4096) (by omega)]; simp
                have hr : rightI u b x2 x3 x4 x5 = false := by unfold rightI; rw [if_neg hA, if_pos hh]
                rw [hr]
                clear hr
                clear hA
                go_enter Try.func6, Try.ntmps6
                go_wp2_with (first
                  | (go_at_call 26; refine (calls_box (hPl.out _ _)).mono ?_; rintro e w' ⟨⟨rfl, rfl⟩⟩)
                  | (go_at_call 27; refine (calls_box (hN.out _)).mono ?_; rintro e w' ⟨⟨rfl, rfl⟩⟩))
                go_ret
                first
                  | exact ⟨rfl, hB9.out⟩
                  | exact ⟨rfl, B0.out⟩
              · by_cases y5 : x5 = 0
                · subst y5
                  by_cases y4 : x4 = 0
                  · subst y4
                    have hh : heldB 0 0 = true := rfl
                    by_cases n1 : N = 1
                    · subst n1
                      by_cases y2 : x2 = 0
                      · subst y2
                        have hr : rightI u b 0 x3 0 0 = (x3 == 0) := by unfold rightI; rw [if_neg hA, if_neg (by rw [hh]; exact Bool.noConfusion), if_neg (fun h => h.1 rfl), HNN.out, if_pos rfl]; rfl
                        rw [hr]
                        clear hr
                        clear hA
                        go_enter Try.func6, Try.ntmps6
                        go_wp2_with (first
                          | (go_at_call 26; refine (calls_box (hPl.out _ _)).mono ?_; rintro e w' ⟨⟨rfl, rfl⟩⟩)
                          | (go_at_call 27; refine (calls_box (hN.out _)).mono ?_; rintro e w' ⟨⟨rfl, rfl⟩⟩))
                        go_ret
                        first
                          | exact ⟨rfl, hB9.out⟩
                          | exact ⟨rfl, B0.out⟩
                      · have y2f : (x2 == 0) = false := by rw [beq_eq_false_iff_ne]; exact y2
                        have hr : rightI u b x2 x3 0 0 = false := by unfold rightI; rw [if_neg hA, if_neg (by rw [hh]; exact Bool.noConfusion), if_neg (fun h => h.1 rfl), HNN.out, if_pos rfl, y2f]; rfl
                        rw [hr]
                        clear hr
                        clear y2
                        clear hA
                        go_enter Try.func6, Try.ntmps6
                        go_wp2_with (first
                          | (go_at_call 26; refine (calls_box (hPl.out _ _)).mono ?_; rintro e w' ⟨⟨rfl, rfl⟩⟩)
                          | (go_at_call 27; refine (calls_box (hN.out _)).mono ?_; rintro e w' ⟨⟨rfl, rfl⟩⟩))
                        go_ret
                        first
                          | exact ⟨rfl, hB9.out⟩
                          | exact ⟨rfl, B0.out⟩
                    · have n1f : (N == 1) = false := by rw [beq_eq_false_iff_ne]; exact n1
                      cases p2 : pageB x2
                      · have hr : rightI u b x2 x3 0 0 = false := by unfold rightI; rw [if_neg hA, if_neg (by rw [hh]; exact Bool.noConfusion), if_neg (fun h => h.1 rfl), HNN.out, if_neg n1, if_pos p2]
                        rw [hr]
                        clear hr
                        clear n1
                        clear hA
                        go_enter Try.func6, Try.ntmps6
                        go_wp2_with (first
                          | (go_at_call 26; refine (calls_box (hPl.out _ _)).mono ?_; rintro e w' ⟨⟨rfl, rfl⟩⟩)
                          | (go_at_call 27; refine (calls_box (hN.out _)).mono ?_; rintro e w' ⟨⟨rfl, rfl⟩⟩))
                        go_ret
                        first
                          | exact ⟨rfl, hB9.out⟩
                          | exact ⟨rfl, B0.out⟩
                      · have p2' : ¬ pageB x2 = false := by rw [p2]; exact Bool.noConfusion
                        have x2b : 2 ≤ x2 := by unfold pageB at p2; simp at p2; omega
                        by_cases f0 : far = 0
                        · subst f0
                          have n0 : ((0 : Int) == N - 1) = false := by rw [beq_eq_false_iff_ne]; omega
                          by_cases y3 : x3 = 0
                          · subst y3
                            have hr : rightI u b x2 0 0 0 = true := by unfold rightI; rw [if_neg hA, if_neg (by rw [hh]; exact Bool.noConfusion), if_neg (fun h => h.1 rfl), HNN.out, if_neg n1, if_neg p2', HFAR.out, if_pos rfl]; rfl
                            rw [hr]
                            clear hr
                            clear n1 p2'
                            clear hA
                            go_enter Try.func6, Try.ntmps6
                            go_wp2_with (first
                              | (go_at_call 26; refine (calls_box (hPl.out _ _)).mono ?_; rintro e w' ⟨⟨rfl, rfl⟩⟩)
                              | (go_at_call 27; refine (calls_box (hN.out _)).mono ?_; rintro e w' ⟨⟨rfl, rfl⟩⟩))
                            go_ret
                            first
                              | exact ⟨rfl, hB9.out⟩
                              | exact ⟨rfl, B0.out⟩
                          · have y3f : (x3 == 0) = false := by rw [beq_eq_false_iff_ne]; exact y3
                            have hr : rightI u b x2 x3 0 0 = false := by unfold rightI; rw [if_neg hA, if_neg (by rw [hh]; exact Bool.noConfusion), if_neg (fun h => h.1 rfl), HNN.out, if_neg n1, if_neg p2', HFAR.out, if_pos rfl, y3f]
                            rw [hr]
                            clear hr
                            clear n1 p2' y3
                            clear hA
                            go_enter Try.func6, Try.ntmps6
                            go_wp2_with (first
                              | (go_at_call 26; refine (calls_box (hPl.out _ _)).mono ?_; rintro e w' ⟨⟨rfl, rfl⟩⟩)
                              | (go_at_call 27; refine (calls_box (hN.out _)).mono ?_; rintro e w' ⟨⟨rfl, rfl⟩⟩))
                            go_ret
                            first
                              | exact ⟨rfl, hB9.out⟩
                              | exact ⟨rfl, B0.out⟩
                        · have f0f : (far == 0) = false := by rw [beq_eq_false_iff_ne]; exact f0
                          by_cases y3 : x3 = 0
                          · subst y3
                            have z2 : ((0 : Int) == x2) = false := by rw [beq_eq_false_iff_ne]; omega
                            have p0 : pageB 0 = false := rfl
                            by_cases fn : far = N - 1
                            · have fnt : (far == N - 1) = true := by rw [beq_iff_eq]; exact fn
                              have hr : rightI u b x2 0 0 0 = false := by unfold rightI; rw [if_neg hA, if_neg (by rw [hh]; exact Bool.noConfusion), if_neg (fun h => h.1 rfl), HNN.out, if_neg n1, if_neg p2', HFAR.out, if_neg f0, if_pos fn, z2]
                              rw [hr]
                              clear hr
                              clear n1 p2' f0 fn
                              clear hA
                              go_enter Try.func6, Try.ntmps6
                              go_wp2_with (first
                                | (go_at_call 26; refine (calls_box (hPl.out _ _)).mono ?_; rintro e w' ⟨⟨rfl, rfl⟩⟩)
                                | (go_at_call 27; refine (calls_box (hN.out _)).mono ?_; rintro e w' ⟨⟨rfl, rfl⟩⟩))
                              go_ret
                              first
                                | exact ⟨rfl, hB9.out⟩
                                | exact ⟨rfl, B0.out⟩
                            · have fnf : (far == N - 1) = false := by rw [beq_eq_false_iff_ne]; exact fn
                              have hr : rightI u b x2 0 0 0 = false := by unfold rightI; rw [if_neg hA, if_neg (by rw [hh]; exact Bool.noConfusion), if_neg (fun h => h.1 rfl), HNN.out, if_neg n1, if_neg p2', HFAR.out, if_neg f0, if_neg fn, p0]; rfl
                              rw [hr]
                              clear hr
                              clear n1 p2' f0 fn
                              clear hA
                              go_enter Try.func6, Try.ntmps6
                              go_wp2_with (first
                                | (go_at_call 26; refine (calls_box (hPl.out _ _)).mono ?_; rintro e w' ⟨⟨rfl, rfl⟩⟩)
                                | (go_at_call 27; refine (calls_box (hN.out _)).mono ?_; rintro e w' ⟨⟨rfl, rfl⟩⟩))
                              go_ret
                              first
                                | exact ⟨rfl, hB9.out⟩
                                | exact ⟨rfl, B0.out⟩
                          · have y3f : (x3 == 0) = false := by rw [beq_eq_false_iff_ne]; exact y3
                            by_cases fn : far = N - 1
                            · have fnt : (far == N - 1) = true := by rw [beq_iff_eq]; exact fn
                              have hr : rightI u b x2 x3 0 0 = (x3 == x2) := by unfold rightI; rw [if_neg hA, if_neg (by rw [hh]; exact Bool.noConfusion), if_neg (fun h => h.1 rfl), HNN.out, if_neg n1, if_neg p2', HFAR.out, if_neg f0, if_pos fn]
                              rw [hr]
                              clear hr
                              clear n1 p2' f0 fn y3
                              clear hA
                              go_enter Try.func6, Try.ntmps6
                              go_wp2_with (first
                                | (go_at_call 26; refine (calls_box (hPl.out _ _)).mono ?_; rintro e w' ⟨⟨rfl, rfl⟩⟩)
                                | (go_at_call 27; refine (calls_box (hN.out _)).mono ?_; rintro e w' ⟨⟨rfl, rfl⟩⟩))
                              go_ret
                              first
                                | exact ⟨rfl, hB9.out⟩
                                | exact ⟨rfl, B0.out⟩
                            · have fnf : (far == N - 1) = false := by rw [beq_eq_false_iff_ne]; exact fn
                              cases p3 : pageB x3
                              · have hr : rightI u b x2 x3 0 0 = false := by unfold rightI; rw [if_neg hA, if_neg (by rw [hh]; exact Bool.noConfusion), if_neg (fun h => h.1 rfl), HNN.out, if_neg n1, if_neg p2', HFAR.out, if_neg f0, if_neg fn, p3]; rfl
                                rw [hr]
                                clear hr
                                clear n1 p2' f0 fn y3
                                clear hA
                                go_enter Try.func6, Try.ntmps6
                                go_wp2_with (first
                                  | (go_at_call 26; refine (calls_box (hPl.out _ _)).mono ?_; rintro e w' ⟨⟨rfl, rfl⟩⟩)
                                  | (go_at_call 27; refine (calls_box (hN.out _)).mono ?_; rintro e w' ⟨⟨rfl, rfl⟩⟩))
                                go_ret
                                first
                                  | exact ⟨rfl, hB9.out⟩
                                  | exact ⟨rfl, B0.out⟩
                              · have hr : rightI u b x2 x3 0 0 = decide (x3 < x2) := by unfold rightI; rw [if_neg hA, if_neg (by rw [hh]; exact Bool.noConfusion), if_neg (fun h => h.1 rfl), HNN.out, if_neg n1, if_neg p2', HFAR.out, if_neg f0, if_neg fn, p3]; rfl
                                rw [hr]
                                clear hr
                                clear n1 p2' f0 fn y3
                                clear hA
                                go_enter Try.func6, Try.ntmps6
                                go_wp2_with (first
                                  | (go_at_call 26; refine (calls_box (hPl.out _ _)).mono ?_; rintro e w' ⟨⟨rfl, rfl⟩⟩)
                                  | (go_at_call 27; refine (calls_box (hN.out _)).mono ?_; rintro e w' ⟨⟨rfl, rfl⟩⟩))
                                go_ret
                                first
                                  | exact ⟨rfl, hB9.out⟩
                                  | exact ⟨rfl, B0.out⟩
                  · have y4f : (x4 == 0) = false := by rw [beq_eq_false_iff_ne]; exact y4
                    have hh : heldB x4 0 = false := by unfold heldB; rw [decide_eq_false y4]; simp
                    have hr : rightI u b x2 x3 x4 0 = false := by unfold rightI; rw [if_neg hA, if_pos hh]
                    rw [hr]
                    clear hr
                    clear y4
                    clear hA
                    go_enter Try.func6, Try.ntmps6
                    go_wp2_with (first
                      | (go_at_call 26; refine (calls_box (hPl.out _ _)).mono ?_; rintro e w' ⟨⟨rfl, rfl⟩⟩)
                      | (go_at_call 27; refine (calls_box (hN.out _)).mono ?_; rintro e w' ⟨⟨rfl, rfl⟩⟩))
                    go_ret
                    first
                      | exact ⟨rfl, hB9.out⟩
                      | exact ⟨rfl, B0.out⟩
                · have y5f : (x5 == 0) = false := by rw [beq_eq_false_iff_ne]; exact y5
                  by_cases y4 : x4 = 0
                  · subst y4
                    have hh : heldB 0 x5 = false := by unfold heldB; rw [decide_eq_false y5]; simp
                    have hr : rightI u b x2 x3 0 x5 = false := by unfold rightI; rw [if_neg hA, if_pos hh]
                    rw [hr]
                    clear hr
                    clear y5
                    clear hA
                    go_enter Try.func6, Try.ntmps6
                    go_wp2_with (first
                      | (go_at_call 26; refine (calls_box (hPl.out _ _)).mono ?_; rintro e w' ⟨⟨rfl, rfl⟩⟩)
                      | (go_at_call 27; refine (calls_box (hN.out _)).mono ?_; rintro e w' ⟨⟨rfl, rfl⟩⟩))
                    go_ret
                    first
                      | exact ⟨rfl, hB9.out⟩
                      | exact ⟨rfl, B0.out⟩
                  · have y4f : (x4 == 0) = false := by rw [beq_eq_false_iff_ne]; exact y4
                    have y4n : (x4 != 0) = true := by rw [bne_iff_ne]; exact y4
                    have hh : heldB x4 x5 = true := by unfold heldB; rw [decide_eq_true y4, decide_eq_true (p := 0 < x5) (by omega), decide_eq_true d2]; simp
                    cases p4 : pageB x4
                    · have hr : rightI u b x2 x3 x4 x5 = false := by unfold rightI; rw [if_neg hA, if_neg (by rw [hh]; exact Bool.noConfusion), if_pos ⟨y4, p4⟩]
                      rw [hr]
                      clear hr
                      clear y4 y5
                      clear hA
                      go_enter Try.func6, Try.ntmps6
                      go_wp2_with (first
                        | (go_at_call 26; refine (calls_box (hPl.out _ _)).mono ?_; rintro e w' ⟨⟨rfl, rfl⟩⟩)
                        | (go_at_call 27; refine (calls_box (hN.out _)).mono ?_; rintro e w' ⟨⟨rfl, rfl⟩⟩))
                      go_ret
                      first
                        | exact ⟨rfl, hB9.out⟩
                        | exact ⟨rfl, B0.out⟩
                    · skip
                      by_cases n1 : N = 1
                      · subst n1
                        by_cases y2 : x2 = 0
                        · subst y2
                          have hr : rightI u b 0 x3 x4 x5 = (x3 == 0) := by unfold rightI; rw [if_neg hA, if_neg (by rw [hh]; exact Bool.noConfusion), if_neg (fun h => by rw [p4] at h; exact Bool.noConfusion h.2), HNN.out, if_pos rfl]; rfl
                          rw [hr]
                          clear hr
                          clear hA y4 y5
                          go_enter Try.func6, Try.ntmps6
                          go_wp2_with (first
                            | (go_at_call 26; refine (calls_box (hPl.out _ _)).mono ?_; rintro e w' ⟨⟨rfl, rfl⟩⟩)
                            | (go_at_call 27; refine (calls_box (hN.out _)).mono ?_; rintro e w' ⟨⟨rfl, rfl⟩⟩))
                          go_ret
                          first
                            | exact ⟨rfl, hB9.out⟩
                            | exact ⟨rfl, B0.out⟩
                        · have y2f : (x2 == 0) = false := by rw [beq_eq_false_iff_ne]; exact y2
                          have hr : rightI u b x2 x3 x4 x5 = false := by unfold rightI; rw [if_neg hA, if_neg (by rw [hh]; exact Bool.noConfusion), if_neg (fun h => by rw [p4] at h; exact Bool.noConfusion h.2), HNN.out, if_pos rfl, y2f]; rfl
                          rw [hr]
                          clear hr
                          clear y2
                          clear hA y4 y5
                          go_enter Try.func6, Try.ntmps6
                          go_wp2_with (first
                            | (go_at_call 26; refine (calls_box (hPl.out _ _)).mono ?_; rintro e w' ⟨⟨rfl, rfl⟩⟩)
                            | (go_at_call 27; refine (calls_box (hN.out _)).mono ?_; rintro e w' ⟨⟨rfl, rfl⟩⟩))
                          go_ret
                          first
                            | exact ⟨rfl, hB9.out⟩
                            | exact ⟨rfl, B0.out⟩
                      · have n1f : (N == 1) = false := by rw [beq_eq_false_iff_ne]; exact n1
                        cases p2 : pageB x2
                        · have hr : rightI u b x2 x3 x4 x5 = false := by unfold rightI; rw [if_neg hA, if_neg (by rw [hh]; exact Bool.noConfusion), if_neg (fun h => by rw [p4] at h; exact Bool.noConfusion h.2), HNN.out, if_neg n1, if_pos p2]
                          rw [hr]
                          clear hr
                          clear n1
                          clear hA y4 y5
                          go_enter Try.func6, Try.ntmps6
                          go_wp2_with (first
                            | (go_at_call 26; refine (calls_box (hPl.out _ _)).mono ?_; rintro e w' ⟨⟨rfl, rfl⟩⟩)
                            | (go_at_call 27; refine (calls_box (hN.out _)).mono ?_; rintro e w' ⟨⟨rfl, rfl⟩⟩))
                          go_ret
                          first
                            | exact ⟨rfl, hB9.out⟩
                            | exact ⟨rfl, B0.out⟩
                        · have p2' : ¬ pageB x2 = false := by rw [p2]; exact Bool.noConfusion
                          have x2b : 2 ≤ x2 := by unfold pageB at p2; simp at p2; omega
                          by_cases f0 : far = 0
                          · subst f0
                            have n0 : ((0 : Int) == N - 1) = false := by rw [beq_eq_false_iff_ne]; omega
                            by_cases y3 : x3 = 0
                            · subst y3
                              have hr : rightI u b x2 0 x4 x5 = true := by unfold rightI; rw [if_neg hA, if_neg (by rw [hh]; exact Bool.noConfusion), if_neg (fun h => by rw [p4] at h; exact Bool.noConfusion h.2), HNN.out, if_neg n1, if_neg p2', HFAR.out, if_pos rfl]; rfl
                              rw [hr]
                              clear hr
                              clear n1 p2'
                              clear hA y4 y5
                              go_enter Try.func6, Try.ntmps6
                              go_wp2_with (first
                                | (go_at_call 26; refine (calls_box (hPl.out _ _)).mono ?_; rintro e w' ⟨⟨rfl, rfl⟩⟩)
                                | (go_at_call 27; refine (calls_box (hN.out _)).mono ?_; rintro e w' ⟨⟨rfl, rfl⟩⟩))
                              go_ret
                              first
                                | exact ⟨rfl, hB9.out⟩
                                | exact ⟨rfl, B0.out⟩
                            · have y3f : (x3 == 0) = false := by rw [beq_eq_false_iff_ne]; exact y3
                              have hr : rightI u b x2 x3 x4 x5 = false := by unfold rightI; rw [if_neg hA, if_neg (by rw [hh]; exact Bool.noConfusion), if_neg (fun h => by rw [p4] at h; exact Bool.noConfusion h.2), HNN.out, if_neg n1, if_neg p2', HFAR.out, if_pos rfl, y3f]
                              rw [hr]
                              clear hr
                              clear n1 p2' y3
                              clear hA y4 y5
                              go_enter Try.func6, Try.ntmps6
                              go_wp2_with (first
                                | (go_at_call 26; refine (calls_box (hPl.out _ _)).mono ?_; rintro e w' ⟨⟨rfl, rfl⟩⟩)
                                | (go_at_call 27; refine (calls_box (hN.out _)).mono ?_; rintro e w' ⟨⟨rfl, rfl⟩⟩))
                              go_ret
                              first
                                | exact ⟨rfl, hB9.out⟩
                                | exact ⟨rfl, B0.out⟩
                          · have f0f : (far == 0) = false := by rw [beq_eq_false_iff_ne]; exact f0
                            by_cases y3 : x3 = 0
                            · subst y3
                              have z2 : ((0 : Int) == x2) = false := by rw [beq_eq_false_iff_ne]; omega
                              have p0 : pageB 0 = false := rfl
                              by_cases fn : far = N - 1
                              · have fnt : (far == N - 1) = true := by rw [beq_iff_eq]; exact fn
                                have hr : rightI u b x2 0 x4 x5 = false := by unfold rightI; rw [if_neg hA, if_neg (by rw [hh]; exact Bool.noConfusion), if_neg (fun h => by rw [p4] at h; exact Bool.noConfusion h.2), HNN.out, if_neg n1, if_neg p2', HFAR.out, if_neg f0, if_pos fn, z2]
                                rw [hr]
                                clear hr
                                clear n1 p2' f0 fn
                                clear hA y4 y5
                                go_enter Try.func6, Try.ntmps6
                                go_wp2_with (first
                                  | (go_at_call 26; refine (calls_box (hPl.out _ _)).mono ?_; rintro e w' ⟨⟨rfl, rfl⟩⟩)
                                  | (go_at_call 27; refine (calls_box (hN.out _)).mono ?_; rintro e w' ⟨⟨rfl, rfl⟩⟩))
                                go_ret
                                first
                                  | exact ⟨rfl, hB9.out⟩
                                  | exact ⟨rfl, B0.out⟩
                              · have fnf : (far == N - 1) = false := by rw [beq_eq_false_iff_ne]; exact fn
                                have hr : rightI u b x2 0 x4 x5 = false := by unfold rightI; rw [if_neg hA, if_neg (by rw [hh]; exact Bool.noConfusion), if_neg (fun h => by rw [p4] at h; exact Bool.noConfusion h.2), HNN.out, if_neg n1, if_neg p2', HFAR.out, if_neg f0, if_neg fn, p0]; rfl
                                rw [hr]
                                clear hr
                                clear n1 p2' f0 fn
                                clear hA y4 y5
                                go_enter Try.func6, Try.ntmps6
                                go_wp2_with (first
                                  | (go_at_call 26; refine (calls_box (hPl.out _ _)).mono ?_; rintro e w' ⟨⟨rfl, rfl⟩⟩)
                                  | (go_at_call 27; refine (calls_box (hN.out _)).mono ?_; rintro e w' ⟨⟨rfl, rfl⟩⟩))
                                go_ret
                                first
                                  | exact ⟨rfl, hB9.out⟩
                                  | exact ⟨rfl, B0.out⟩
                            · have y3f : (x3 == 0) = false := by rw [beq_eq_false_iff_ne]; exact y3
                              by_cases fn : far = N - 1
                              · have fnt : (far == N - 1) = true := by rw [beq_iff_eq]; exact fn
                                have hr : rightI u b x2 x3 x4 x5 = (x3 == x2) := by unfold rightI; rw [if_neg hA, if_neg (by rw [hh]; exact Bool.noConfusion), if_neg (fun h => by rw [p4] at h; exact Bool.noConfusion h.2), HNN.out, if_neg n1, if_neg p2', HFAR.out, if_neg f0, if_pos fn]
                                rw [hr]
                                clear hr
                                clear n1 p2' f0 fn y3
                                clear hA y4 y5
                                go_enter Try.func6, Try.ntmps6
                                go_wp2_with (first
                                  | (go_at_call 26; refine (calls_box (hPl.out _ _)).mono ?_; rintro e w' ⟨⟨rfl, rfl⟩⟩)
                                  | (go_at_call 27; refine (calls_box (hN.out _)).mono ?_; rintro e w' ⟨⟨rfl, rfl⟩⟩))
                                go_ret
                                first
                                  | exact ⟨rfl, hB9.out⟩
                                  | exact ⟨rfl, B0.out⟩
                              · have fnf : (far == N - 1) = false := by rw [beq_eq_false_iff_ne]; exact fn
                                cases p3 : pageB x3
                                · have hr : rightI u b x2 x3 x4 x5 = false := by unfold rightI; rw [if_neg hA, if_neg (by rw [hh]; exact Bool.noConfusion), if_neg (fun h => by rw [p4] at h; exact Bool.noConfusion h.2), HNN.out, if_neg n1, if_neg p2', HFAR.out, if_neg f0, if_neg fn, p3]; rfl
                                  rw [hr]
                                  clear hr
                                  clear n1 p2' f0 fn y3
                                  clear hA y4 y5
                                  go_enter Try.func6, Try.ntmps6
                                  go_wp2_with (first
                                    | (go_at_call 26; refine (calls_box (hPl.out _ _)).mono ?_; rintro e w' ⟨⟨rfl, rfl⟩⟩)
                                    | (go_at_call 27; refine (calls_box (hN.out _)).mono ?_; rintro e w' ⟨⟨rfl, rfl⟩⟩))
                                  go_ret
                                  first
                                    | exact ⟨rfl, hB9.out⟩
                                    | exact ⟨rfl, B0.out⟩
                                · have hr : rightI u b x2 x3 x4 x5 = decide (x3 < x2) := by unfold rightI; rw [if_neg hA, if_neg (by rw [hh]; exact Bool.noConfusion), if_neg (fun h => by rw [p4] at h; exact Bool.noConfusion h.2), HNN.out, if_neg n1, if_neg p2', HFAR.out, if_neg f0, if_neg fn, p3]; rfl
                                  rw [hr]
                                  clear hr
                                  clear n1 p2' f0 fn y3
                                  clear hA y4 y5
                                  go_enter Try.func6, Try.ntmps6
                                  go_wp2_with (first
                                    | (go_at_call 26; refine (calls_box (hPl.out _ _)).mono ?_; rintro e w' ⟨⟨rfl, rfl⟩⟩)
                                    | (go_at_call 27; refine (calls_box (hN.out _)).mono ?_; rintro e w' ⟨⟨rfl, rfl⟩⟩))
                                  go_ret
                                  first
                                    | exact ⟨rfl, hB9.out⟩
                                    | exact ⟨rfl, B0.out⟩

end Go.Proofs.Ytocfiabbhcgegaa
