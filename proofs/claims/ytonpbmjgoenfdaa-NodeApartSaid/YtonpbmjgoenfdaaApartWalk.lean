import Derived.Test.YtonpbmjgoenfdaaCut
import Derived.Test.YtonpbmjgoenfdaaSame
import Derived.Test.YtonpbmjgoenfdaaOpen
namespace Go.Proofs.Ytonpbmjgoenfdaa
open Go Go.RowKit
set_option linter.unusedVariables false

set_option maxRecDepth 100000 in
set_option maxHeartbeats 800000 in
theorem apart_few (width : Int) (k l : D32) (a3 a4 a5 : Option Addr) (n3 c3 n4 c4 n5 c5 : Nat) (w : World) (h5 : n5 < 4) :
    Calls Try.prog 7 #[.int .i64 width, .agg (dc k), .agg (dc l), .slice a3 n3 c3, .slice a4 n4 c4, .slice a5 n5 c5] w fun e w' => e = .returned (.bool true) ∧ Below w.heap.size w w' := by
  go_enter Try.func7, Try.ntmps7
  go_wp2
  go_ret
  exact ⟨rfl, (Below.refl_alloc w _).alloc (by simp) _⟩

theorem branch_same (width : Int) (d0 d1 d2 d3 : D32) :
    eqB (1 :: (d0.1.take (wid width) ++ d1.1.take (wid width))) (1 :: (d2.1.take (wid width) ++ d3.1.take (wid width))) = (eqD (cutD d0 width) (cutD d2 width) && eqD (cutD d1 width) (cutD d3 width)) := by
  have hw := wid_le width
  have one : ∀ a b : D32, cutD a width = cutD b width ↔ a.1.take (wid width) = b.1.take (wid width) := fun a b => by
    constructor
    · intro h
      have := congrArg Subtype.val h
      exact (List.append_inj this (by rw [List.length_take, List.length_take, a.2, b.2])).1
    · intro h
      exact Subtype.ext (by show _ ++ _ = _ ++ _; rw [h])
  unfold eqB eqD
  rw [Bool.eq_iff_iff]
  simp only [Bool.and_eq_true, decide_eq_true_eq, one, List.cons.injEq, true_and]
  constructor
  · intro h
    exact List.append_inj h (by rw [List.length_take, List.length_take, d0.2, d2.2])
  · rintro ⟨h, h'⟩; rw [h, h']

theorem leaf_same (k l : D32) (u v : List UInt8) :
    (k = l ∧ u = v ∧ eqD k l = true ∧ eqB (0 :: (k.1 ++ u)) (0 :: (l.1 ++ v)) = true ∧ eqB u v = true) ∨ (k = l ∧ eqD k l = true ∧ eqB (0 :: (k.1 ++ u)) (0 :: (l.1 ++ v)) = false ∧ eqB u v = false) ∨
      (k ≠ l ∧ eqD k l = false ∧ eqB (0 :: (k.1 ++ u)) (0 :: (l.1 ++ v)) = false) := by
  by_cases hk : k = l
  · subst hk
    by_cases hu : u = v
    · subst hu
      exact .inl ⟨rfl, rfl, eqD_true rfl, eqB_true rfl, eqB_true rfl⟩
    · exact .inr (.inl ⟨rfl, eqD_true rfl, eqB_false (by simp [hu]), eqB_false hu⟩)
  · refine .inr (.inr ⟨hk, eqD_false hk, eqB_false fun h => hk (Subtype.ext ?_)⟩)
    rw [List.cons.injEq] at h
    exact (List.append_inj h.2 (by rw [k.2, l.2])).1

set_option maxRecDepth 100000 in
set_option maxHeartbeats 800000 in
theorem apart_many (width : Int) (k l : D32) (a3 a4 : Option Addr) (n3 c3 n4 c4 n5 c5 : Nat) (u v : List UInt8) (b5 o5 : Nat) (d0 d1 d2 d3 : D32) (w : World) (h5 : 4 ≤ n5)
    (r3 : Row w a3 n3 u) (r4 : Row w a4 n4 v) (z3 : a3 = none → n3 = 0 ∧ c3 = 0) (z4 : a4 = none → n4 = 0 ∧ c4 = 0) (m3 : n3 ≤ 140737488351232) (m4 : n4 ≤ 140737488351232) (hb5 : b5 < w.heap.size)
    (q0 : w.rangeAt b5 o5 (bvs d0.1)) (q1 : w.rangeAt b5 (o5 + 32) (bvs d1.1)) (q2 : w.rangeAt b5 (o5 + 64) (bvs d2.1)) (q3 : w.rangeAt b5 (o5 + 96) (bvs d3.1)) :
    Calls Try.prog 7 #[.int .i64 width, .agg (dc k), .agg (dc l), .slice a3 n3 c3, .slice a4 n4 c4, .slice (some ⟨b5, o5, none⟩) n5 c5] w fun e w' => e = .returned (.bool true) ∧ Below w.heap.size w w' := by
  have hi24 : Hid ((Try.prog.info? 24).map (·.size) = some 32) := by unfold Hid; kernel_rfl
  have hi30 : Hid ((Try.prog.info? 30).map (·.size) = some 32) := by unfold Hid; kernel_rfl
  have f7 : ((w.alloc (.cells (dc k) 24)).alloc (.cells (dc l) 24)).rangeAt w.heap.size 0 (bvs k.1) := rangeAt_block (heap_old (heap_new rfl))
  have f8 : ((w.alloc (.cells (dc k) 24)).alloc (.cells (dc l) 24)).rangeAt (w.heap.size + 1) 0 (bvs l.1) := rangeAt_block (heap_new (by simp))
  have hB0 : Below w.heap.size w ((w.alloc (.cells (dc k) 24)).alloc (.cells (dc l) 24)) := (Below.refl_alloc w _).alloc (by simp) _
  have hs00 : ((w.alloc (.cells (dc k) 24)).alloc (.cells (dc l) 24)).heap.size = w.heap.size + 2 := by simp
  have HS := Lib.hid hs00
  clear hs00
  go_enter Try.func7, Try.ntmps7
  go_wp2_with (first
    | (refine wpList_load32 rfl 24 (.tmp 7) rfl w.heap.size 0 rfl k f7 Try.underlying24 hi24 ?_)
    | (go_at_call 11; refine (leafText_any _ _ _ _ u _ (r3.old hB0) z3 m3).mono ?_))
  rintro e w1 ⟨g1, cap1, rfl, ho1, hb1⟩
  have hs0 : w.heap.size + 2 ≤ w1.heap.size := by have := hb1.size; rw [HS.out] at this; exact this
  have f7' : w1.rangeAt w.heap.size 0 (bvs k.1) := rangeAt_below f7 hb1 (by rw [HS.out]; omega)
  have f8' : w1.rangeAt (w.heap.size + 1) 0 (bvs l.1) := rangeAt_below f8 hb1 (by rw [HS.out]; omega)
  have hB1 : Below w.heap.size w w1 := hB0.trans (hb1.mono hB0.size)
  clear f7 f8 hB0
  go_wp2_with (first
    | (refine wpList_load32 rfl 24 (.tmp 8) rfl (w.heap.size + 1) 0 rfl l f8' Try.underlying24 hi24 ?_)
    | (go_at_call 11; refine (leafText_any _ _ _ _ v _ (r4.old hB1) z4 m4).mono ?_))
  rintro e w2 ⟨g2, cap2, rfl, ho2, hb2⟩
  have hB2 : Below w.heap.size w w2 := hB1.trans (hb2.mono hB1.size)
  have r3' := r3.old hB2
  have r4' := r4.old hB2
  have hx := (ho1.row.1).old hb2
  have hy := ho2.row.1
  have hg1 : g1 < w2.heap.size := by have := ho1.row.2.2.1; have := hb2.size; omega
  have hg2 : g2 < w2.heap.size := ho2.row.2.2.1
  have x0 := hx.cell 0 (by simp)
  have y0 := hy.cell 0 (by simp)
  have f7 : w2.rangeAt w.heap.size 0 (bvs k.1) := rangeAt_below f7' hb2 (by omega)
  have f8 : w2.rangeAt (w.heap.size + 1) 0 (bvs l.1) := rangeAt_below f8' hb2 (by omega)
  have q0' := rangeAt_below q0 hB2 hb5
  have q1' := rangeAt_below q1 hB2 hb5
  have q2' := rangeAt_below q2 hB2 hb5
  have q3' := rangeAt_below q3 hB2 hb5
  simp at x0 y0
  have heq : ∀ (x y : D32) (W : World), (Op.equalIn 10000 24 (.agg (dc x)) (.agg (dc y))).run Try.prog W = .ok (eqD x y) W := by
    obtain ⟨i5, hi5'⟩ := Option.isSome_iff_exists.1 (show (Try.prog.info? 5).isSome = true by kernel_rfl)
    exact fun x y W => equalIn_d32 (d := 9998) Try.underlying24 hi5' Try.underlying5 (by kernel_rfl) x y W
  have hgd : Try.prog.eqGuardType Try.prog.depth 24 = false := by kernel_rfl
  have j0 : 0 < n5 := by omega
  have j1 : 1 < n5 := by omega
  have j2 : 2 < n5 := by omega
  have j3 : 3 < n5 := by omega
  have i0 : (0 : Int) < (n5 : Int) := by omega
  have i1 : (1 : Int) < (n5 : Int) := by omega
  have i2 : (2 : Int) < (n5 : Int) := by omega
  have i3 : (3 : Int) < (n5 : Int) := by omega
  have hm1 : 33 + n3 ≤ maxLen := by unfold maxLen; omega
  have hm2 : 33 + n4 ≤ maxLen := by unfold maxLen; omega
  have hm3 : n3 ≤ maxLen := by unfold maxLen; omega
  have hm4 : n4 ≤ maxLen := by unfold maxLen; omega
  have hbs : b5 < w2.heap.size := by have := hB2.size; omega
  clear ho1 ho2 f7' f8' r3 r4 hb1 hb2 hB1 q0 q1 q2 q3 hs0 HS
  go_upto_region 7 with fail
  go_cut [65] (fun s W => s = .bool false ∧ ∃ q, W = w2.drewN q)
  case first =>
    have key : (k = l ∧ u = v ∧ eqD k l = true ∧ eqB (0 :: (k.1 ++ u)) (0 :: (l.1 ++ v)) = true ∧ eqB u v = true) ∨ (k = l ∧ eqD k l = true ∧ eqB (0 :: (k.1 ++ u)) (0 :: (l.1 ++ v)) = false ∧ eqB u v = false) ∨
        (k ≠ l ∧ eqD k l = false ∧ eqB (0 :: (k.1 ++ u)) (0 :: (l.1 ++ v)) = false) := leaf_same k l u v
    rcases key with ⟨rfl, rfl, e0, e1, e2⟩ | ⟨rfl, e0, e1, e2⟩ | ⟨hkl, e0, e1⟩
    all_goals
      refine wp_region_class (fun q => w2.drewN q) (by kernel_rfl) (by kernel_rfl) ⟨1, rfl⟩ ?_
      repeat (first
        | go_big_quiet_skip
        | (refine wpQuiet_load32 rfl 24 (.tmp 7) rfl w.heap.size 0 rfl k (by rintro _ ⟨_, rfl⟩; exact f7) Try.underlying24 hi24 ?_; simp only [Act.put, List.setIfInBounds_toArray, List.set_cons_succ, List.set_cons_zero])
        | (refine wpQuiet_load32 rfl 24 (.tmp 8) rfl (w.heap.size + 1) 0 rfl k (by rintro _ ⟨_, rfl⟩; exact f8) Try.underlying24 hi24 ?_; simp only [Act.put, List.setIfInBounds_toArray, List.set_cons_succ, List.set_cons_zero])
        | (refine wpQuiet_load32 rfl 24 (.tmp 8) rfl (w.heap.size + 1) 0 rfl l (by rintro _ ⟨_, rfl⟩; exact f8) Try.underlying24 hi24 ?_; simp only [Act.put, List.setIfInBounds_toArray, List.set_cons_succ, List.set_cons_zero])
        | (go_big_quiet_want; go_big_quiet_op; first | go_big_quiet_on | go_big_quiet_call (first | (go_at_call 12; refine Calls.quiet_of (sameBytes_any _ _ _ _ _ _ _ _ _ (hx.drewN _) (hy.drewN _) hm1 hm2)) | (go_at_call 12; refine Calls.quiet_of (sameBytes_any _ _ _ _ _ _ _ _ _ (r3'.drewN _) (r4'.drewN _) hm3 hm4)))))
      refine wpQuiet_nil ?_
      rintro _ ⟨p1, rfl⟩

      go_wp2_with fail
      go_meet
      exact ⟨rfl, _, rfl⟩
  obtain ⟨rfl, p1, rfl⟩ := hcut
  go_wp2_with (fail)
  refine wp_region_tail 7 (by kernel_rfl) (by kernel_rfl) ?_
  simp only [List.take_succ_cons, List.take_zero, List.drop_succ_cons, List.drop_zero]
  repeat (first
    | (refine wpStill_load32 rfl 30 (.tmp 68) rfl b5 _ rfl d0 q0' Try.underlying30 hi30 ?_; simp only [Act.put, List.setIfInBounds_toArray, List.set_cons_succ, List.set_cons_zero])
    | (refine wpStill_load32 rfl 30 (.tmp 71) rfl b5 _ rfl d1 q1' Try.underlying30 hi30 ?_; simp only [Act.put, List.setIfInBounds_toArray, List.set_cons_succ, List.set_cons_zero])
    | still_step)
  refine wpStill_nil ?_
  go_wp2_with (go_at_call 13; refine (branchText_any width d0 d1 _).mono ?_)
  rintro e w3 ⟨g3, cap3, rfl, ho3, hb3⟩
  have hB3 : Below w2.heap.size w2 w3 := (below_drewN (Below.refl _ w2) _).trans hb3
  have q2 := rangeAt_below q2' hB3 hbs
  have q3 := rangeAt_below q3' hB3 hbs
  go_wp2_with (fail)
  refine wp_region_tail 7 (by kernel_rfl) (by kernel_rfl) ?_
  simp only [List.take_succ_cons, List.take_zero, List.drop_succ_cons, List.drop_zero]
  repeat (first
    | (refine wpStill_load32 rfl 30 (.tmp 76) rfl b5 _ rfl d2 q2 Try.underlying30 hi30 ?_; simp only [Act.put, List.setIfInBounds_toArray, List.set_cons_succ, List.set_cons_zero])
    | (refine wpStill_load32 rfl 30 (.tmp 79) rfl b5 _ rfl d3 q3 Try.underlying30 hi30 ?_; simp only [Act.put, List.setIfInBounds_toArray, List.set_cons_succ, List.set_cons_zero])
    | still_step)
  refine wpStill_nil ?_
  go_wp2_with (go_at_call 13; refine (branchText_any width d2 d3 _).mono ?_)
  rintro e w4 ⟨g4, cap4, rfl, ho4, hb4⟩
  have hB34 : Below w3.heap.size w3 w4 := (below_drewN (Below.refl _ w3) _).trans hb4
  have hB4 : Below w2.heap.size w2 w4 := hB3.trans (hB34.mono hB3.size)
  have hp := (ho3.row.1).old hB34
  have hq := ho4.row.1
  have hg3 : g3 < w4.heap.size := by have := ho3.row.2.2.1; have := hB34.size; omega
  have hg4 : g4 < w4.heap.size := ho4.row.2.2.1
  have p0 := hp.cell 0 (by simp)
  have s0 := hq.cell 0 (by simp)
  have hwd := wid_le width
  simp at p0 s0
  go_wp2_with (go_at_call 14; refine (lwithin_any _ _ _ _ (by decide)).mono ?_; rintro e w' ⟨rfl, rfl⟩; rw [wid_eq])
  have e30 : ∀ (x y : D32) (W : World), (Op.equalIn 10000 30 (.agg (dc x)) (.agg (dc y))).run Try.prog W = .ok (eqD x y) W := by
    obtain ⟨i5, hi5'⟩ := Option.isSome_iff_exists.1 (show (Try.prog.info? 5).isSome = true by kernel_rfl)
    exact fun x y W => equalIn_d32 (d := 9998) Try.underlying30 hi5' Try.underlying5 (by kernel_rfl) x y W
  have hgd30 : Try.prog.eqGuardType Try.prog.depth 30 = false := by kernel_rfl
  have q0 := rangeAt_below q0' hB4 hbs
  have q1 := rangeAt_below q1' hB4 hbs
  have q2 := rangeAt_below q2' hB4 hbs
  have q3 := rangeAt_below q3' hB4 hbs
  have hbs4 : b5 < w4.heap.size := by have := hB4.size; omega
  go_cut [18] (fun s W => s = .bool (eqD (cutD d0 width) (cutD d2 width) && eqD (cutD d1 width) (cutD d3 width)) ∧ Below w4.heap.size w4 W)
  case first =>
    have key : (eqD (cutD d0 width) (cutD d2 width) = true ∧ eqD (cutD d1 width) (cutD d3 width) = true) ∨ (eqD (cutD d0 width) (cutD d2 width) = true ∧ eqD (cutD d1 width) (cutD d3 width) = false) ∨ (eqD (cutD d0 width) (cutD d2 width) = false) := by
      cases eqD (cutD d0 width) (cutD d2 width) <;> cases eqD (cutD d1 width) (cutD d3 width) <;> simp
    rcases key with ⟨e0, e1⟩ | ⟨e0, e1⟩ | e0
    all_goals
      refine wp_region_class (S := WB w4) (fun x => x.W) (by kernel_rfl) (by kernel_rfl) ⟨WB.start w4, rfl⟩ ?_
      repeat (first
        | go_big_quiet_skip
        | (refine wpQuiet_load32 rfl 30 (.tmp 111) rfl b5 _ rfl d0 (by rintro _ ⟨x, rfl⟩; exact rangeAt_below q0 x.h hbs4) Try.underlying30 hi30 ?_; simp only [Act.put, List.setIfInBounds_toArray, List.set_cons_succ, List.set_cons_zero])
        | (refine wpQuiet_load32 rfl 30 (.tmp 116) rfl b5 _ rfl d2 (by rintro _ ⟨x, rfl⟩; exact rangeAt_below q2 x.h hbs4) Try.underlying30 hi30 ?_; simp only [Act.put, List.setIfInBounds_toArray, List.set_cons_succ, List.set_cons_zero])
        | (refine wpQuiet_load32 rfl 30 (.tmp 123) rfl b5 _ rfl d1 (by rintro _ ⟨x, rfl⟩; exact rangeAt_below q1 x.h hbs4) Try.underlying30 hi30 ?_; simp only [Act.put, List.setIfInBounds_toArray, List.set_cons_succ, List.set_cons_zero])
        | (refine wpQuiet_load32 rfl 30 (.tmp 128) rfl b5 _ rfl d3 (by rintro _ ⟨x, rfl⟩; exact rangeAt_below q3 x.h hbs4) Try.underlying30 hi30 ?_; simp only [Act.put, List.setIfInBounds_toArray, List.set_cons_succ, List.set_cons_zero])
        | (go_big_quiet_want; go_big_quiet_op; first | go_big_quiet_on | go_big_quiet_call ((go_at_call 15; refine (cut_any _ _ _).mono ?_; rintro e w' ⟨rfl, hb⟩; exact ⟨rfl, WB.next _ hb, rfl⟩))))
      refine wpQuiet_nil ?_
      rintro _ ⟨x, rfl⟩
      go_wp2_with fail
      go_meet
      exact ⟨by first | (rw [e0, e1]; rfl) | (rw [e0]; rfl), x.h⟩
  obtain ⟨rfl, hB5⟩ := hcut
  have hx5 := ((hx.old hB4).old hB5)
  have hp5 := hp.old hB5
  have hq5 := hq.old hB5
  have hm5 : 1 + 2 * wid width ≤ maxLen := by unfold maxLen; omega
  have hm6 : 1 ≤ maxLen := by unfold maxLen; omega
  have e0 : (eqB (1 :: (d0.1.take (wid width) ++ d1.1.take (wid width))) (1 :: (d2.1.take (wid width) ++ d3.1.take (wid width))) == (eqD (cutD d0 width) (cutD d2 width) && eqD (cutD d1 width) (cutD d3 width))) = true := by
    rw [branch_same]; simp
  have e1 : eqB (0 :: (k.1 ++ u)) (1 :: (d0.1.take (wid width) ++ d1.1.take (wid width))) = false := eqB_false (by simp)
  have e2 : eqB (0 :: (k.1 ++ u)) [2] = false := eqB_false (by simp)
  have e3 : eqB (1 :: (d0.1.take (wid width) ++ d1.1.take (wid width))) [2] = false := eqB_false (by simp)
  go_wp2_with (first
    | (go_at_call 12; with_reducible refine (sameBytes_any (some ⟨g3, 0, none⟩) (some ⟨g4, 0, none⟩) _ _ _ _ _ _ _ hp5 hq5 hm5 hm5).mono ?_; rintro e w' ⟨rfl, q6, rfl⟩)
    | (go_at_call 12; with_reducible refine (sameBytes_any (some ⟨g1, 0, none⟩) (some ⟨g3, 0, none⟩) _ _ _ _ _ _ _ (hx5.drewN _) (hp5.drewN _) hm1 hm5).mono ?_; rintro e w' ⟨rfl, q7, rfl⟩))
  have hB6 : Below wc.heap.size wc ((wc.drewN (q6 + q7)).alloc (.cells #[.int .u8 2] 5)) := (below_drewN (Below.refl _ wc) _).alloc (Nat.le_refl _) _
  have r6 : Row ((wc.drewN (q6 + q7)).alloc (.cells #[.int .u8 2] 5)) (some ⟨wc.heap.size, 0, none⟩) 1 [2] := Row.lit (wc.drewN (q6 + q7)) #[.int .u8 2] 5 [2] rfl
  refine (sameBytes_any _ _ _ _ _ _ _ _ _ (hx5.old hB6) r6 hm1 hm6).mono ?_
  rintro e w' ⟨rfl, q8, rfl⟩
  go_wp2_with fail
  have hB7 : Below wc.heap.size wc ((((wc.drewN (q6 + q7)).alloc (.cells #[.int .u8 2] 5)).drewN q8).alloc (.cells #[.int .u8 2] 5)) := (below_drewN hB6 q8).alloc hB6.size _
  have r7 : Row ((((wc.drewN (q6 + q7)).alloc (.cells #[.int .u8 2] 5)).drewN q8).alloc (.cells #[.int .u8 2] 5)) (some ⟨wc.heap.size + 1, 0, none⟩) 1 [2] := by
    have := Row.lit (((wc.drewN (q6 + q7)).alloc (.cells #[.int .u8 2] 5)).drewN q8) #[.int .u8 2] 5 [2] rfl
    simpa using this
  refine (sameBytes_any _ _ _ _ _ _ _ _ _ (hp5.old hB7) r7 hm5 hm6).mono ?_
  rintro e w' ⟨rfl, q9, rfl⟩
  go_wp2_with fail
  go_ret
  exact ⟨rfl, hB2.trans ((hB4.trans ((hB5.trans ((below_drewN hB7 q9).mono hB5.size)).mono hB4.size)).mono hB2.size)⟩

/-- The law's own walk. -/
theorem apart_walk (width : Int) (k l : D32) (a3 a4 a5 : Option Addr) (n3 c3 n4 c4 n5 c5 : Nat) (u v : List UInt8) (ds : List D32) (w : World)
    (r3 : Row w a3 n3 u) (r4 : Row w a4 n4 v) (z3 : a3 = none → n3 = 0 ∧ c3 = 0) (z4 : a4 = none → n4 = 0 ∧ c4 = 0) (m3 : n3 ≤ 140737488351232) (m4 : n4 ≤ 140737488351232) (hd : Digs w a5 n5 ds) :
    Calls Try.prog 7 #[.int .i64 width, .agg (dc k), .agg (dc l), .slice a3 n3 c3, .slice a4 n4 c4, .slice a5 n5 c5] w fun e w' => e = .returned (.bool true) ∧ Below w.heap.size w w' := by
  by_cases h5 : n5 < 4
  · exact apart_few width k l a3 a4 a5 n3 c3 n4 c4 n5 c5 w h5
  · obtain ⟨b5, o5, rfl⟩ := hd.at0 (by omega)
    have hl := hd.1
    have q0 := hd.range 0 (by omega)
    have q1 := hd.range 1 (by omega)
    have q2 := hd.range 2 (by omega)
    have q3 := hd.range 3 (by omega)
    exact apart_many width k l a3 a4 n3 c3 n4 c4 n5 c5 u v b5 o5 _ _ _ _ w (by omega) r3 r4 z3 z4 m3 m4 (hd.lt (by omega)) q0 q1 q2 q3
end Go.Proofs.Ytonpbmjgoenfdaa
