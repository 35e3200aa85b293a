/- The walk of the law NodeHash. -/
import Derived.Test.YtonpbmjgoenfdaaDoorTree
import Derived.Test.YtonpbmjgoenfdaaDoorHeld
namespace Go.Proofs.YtonpbmjgoenfdaaDoor
open Go Go.RowKit
set_option linter.unusedVariables false

theorem sum_own {S : S8} {K : List UInt32} (base g n cap : Nat) (t : List UInt8) (hb : n ≤ 140737488355328) (W : World) (hL : Laid S K W) (ho : Own W base 5 (.slice (some ⟨g, 0, none⟩) n cap) t) :
    Calls Tryd.prog 10 #[.slice (some ⟨g, 0, none⟩) n cap] W fun e w' => e = .returned (.agg (dc (sha S K t))) ∧ Below W.heap.size W w' :=
  sum_any (some ⟨g, 0, none⟩) n cap t W hL ho.row.1 ho.row.2.2.2.1 hb (fun h => by cases h) (fun b' o' h => by cases h; exact ho.row.2.2.1)
theorem cut_cut (d : D32) (width : Int) : cutD (cutD d width) width = cutD d width := by
  have h1 := wid_le width
  have h2 := d.2
  have h3 : (d.1.take (wid width)).length = wid width := by rw [List.length_take]; omega
  refine Subtype.ext ?_
  show ((d.1.take (wid width) ++ List.replicate (32 - wid width) 0).take (wid width)) ++ _ = _
  rw [List.take_append_of_le_length (by omega), List.take_of_length_le (by omega)]
  rfl
theorem branchT_cut (width : Int) (x y : D32) : branchT width (cutD x width) (cutD y width) = branchT width x y := by
  have h1 := wid_le width
  have key : ∀ d : D32, (cutD d width).1.take (wid width) = d.1.take (wid width) := fun d => by
    have h2 := d.2
    have h3 : (d.1.take (wid width)).length = wid width := by rw [List.length_take]; omega
    show (d.1.take (wid width) ++ List.replicate (32 - wid width) 0).take (wid width) = _
    rw [List.take_append_of_le_length (by omega), List.take_of_length_le (by omega)]
  unfold branchT
  rw [key x, key y]
theorem cut_wide (d : D32) (width : Int) (h : 32 ≤ width) : cutD d width = d := by
  have h1 : wid width = 32 := by unfold wid clamp; omega
  refine Subtype.ext ?_
  show d.1.take (wid width) ++ List.replicate (32 - wid width) 0 = _
  rw [h1, List.take_of_length_le (by rw [d.2]; omega)]
  simp
theorem clamp_zero : clamp 0 0 256 = 0 := by decide

set_option maxRecDepth 100000 in
set_option maxHeartbeats 4000000 in
theorem hash_walk {S : S8} {K : List UInt32} (hne : sha S K [2] ≠ zero32) (width : Int) (kk x y : D32) (ao : Option Addr) (n c : Nat) (l : List UInt8) (w : World) (hL : Laid S K w)
    (h : Row w ao n l) (hn : ao = none → n = 0 ∧ c = 0) (hb : n ≤ 140737488351232) :
    Calls Tryd.prog 4 #[.int .i64 width, .agg (dc kk), .slice ao n c, .agg (dc x), .agg (dc y)] w fun e w' => e = .returned (.bool true) ∧ Below w.heap.size w w' := by
  have hi33 : Hid ((Tryd.prog.info? 33).map (·.size) = some 32) := by unfold Hid; kernel_rfl
  have hi24 : Hid ((Tryd.prog.info? 24).map (·.size) = some 32) := by unfold Hid; kernel_rfl
  have hzd : ∀ W : World, (zeroValue 24).run Tryd.prog W = .ok (.agg (dc zero32)) W := fun W => by kernel_rfl
  have hd32 : ∀ d : D32, Box ((Tryd.prog.info? 24).map (·.size) = some (dc d).size) := fun d => ⟨by rw [size_dc]; exact hi24.out⟩
  have hss : ∀ d e : D32, Box ((dc d).size = (dc e).size) := fun d e => ⟨by rw [size_dc, size_dc]⟩
  -- the answers, by names
  have hleaf : ∀ W, Below w.heap.size w W → _ := fun W hW => leaf_any width kk ao n c l W (hL.old hW) (h.old hW) hn hb
  have hbrn : ∀ W, Laid S K W → _ := fun W hW => branch_any width x y W hW
  have hemp : ∀ W, Laid S K W → _ := fun W hW => empty_any width 0 W hW
  have hlt : ∀ W, Below w.heap.size w W → _ := fun W hW => leafText_any kk ao n c l W (h.old hW) hn hb
  have hbt : ∀ W, _ := fun W => branchText_any width x y W
  have hwl := wid_le width
  have hlen1 : 33 + n = (leafT kk l).length := by rw [length_leafT, h.1]
  have hlen2 : 1 + 2 * wid width = (branchT width x y).length := by rw [length_branchT]
  have hs1 : ∀ base g n cap W, n ≤ 140737488355328 → Laid S K W → Own W base 5 (.slice (some ⟨g, 0, none⟩) n cap) (leafT kk l) → _ := fun base g n cap W hn hW ho => sum_own base g n cap (leafT kk l) hn W hW ho
  have hs2 : ∀ base g n cap W, n ≤ 140737488355328 → Laid S K W → Own W base 5 (.slice (some ⟨g, 0, none⟩) n cap) (branchT width x y) → _ := fun base g n cap W hn hW ho => sum_own base g n cap (branchT width x y) hn W hW ho
  have hs3 : ∀ g W, Laid S K W → Row W (some ⟨g, 0, none⟩) 1 [2] → g < W.heap.size → _ := fun g W hLW hr hg => sum_any (some ⟨g, 0, none⟩) 1 1 [2] W hLW hr (by omega) (by omega) (fun h => by cases h) (fun b' o' h => by cases h; exact hg)
  have hc1 : ∀ W, _ := fun W => cut_any (sha S K (leafT kk l)) width W
  have hc2 : ∀ W, _ := fun W => cut_any (sha S K (branchT width x y)) width W
  have hc3 : ∀ W, _ := fun W => cut_any (sha S K [2]) width W
  have hlast : ∀ W, Laid S K W → _ := fun W hW => branch_any width (cutD x width) (cutD y width) W hW
  have hcx : ∀ W, _ := fun W => cut_any x width W
  have hcy : ∀ W, _ := fun W => cut_any y width W
  have hcc1 : ∀ W, _ := fun W => cut_any (leafD S K width kk l) width W
  have hcc2 : ∀ W, _ := fun W => cut_any (brD S K width x y) width W
  have hz : 32 ≤ width → cutD (sha S K [2]) width ≠ zero32 := fun h => by rw [cut_wide _ _ h]; exact hne
  rw [show (0 :: (kk.1 ++ l)) = leafT kk l from rfl] at hlt
  rw [show (1 :: (x.1.take (wid width) ++ y.1.take (wid width))) = branchT width x y from rfl] at hbt
  rw [show brD S K width (cutD x width) (cutD y width) = brD S K width x y by unfold brD; rw [branchT_cut]] at hlast
  rw [show emptyD S K width 0 = cutD (sha S K [2]) width by unfold emptyD; rw [clamp_zero]; rfl] at hemp
  rw [show cutD (leafD S K width kk l) width = leafD S K width kk l from cut_cut _ _] at hcc1
  rw [show cutD (brD S K width x y) width = brD S K width x y from cut_cut _ _] at hcc2
  rw [show leafD S K width kk l = cutD (sha S K (leafT kk l)) width from rfl] at hleaf hcc1
  rw [show brD S K width x y = cutD (sha S K (branchT width x y)) width from rfl] at hbrn hcc2 hlast
  generalize cutD x width = x' at hlast hcx
  generalize cutD y width = y' at hlast hcy
  generalize cutD (sha S K (leafT kk l)) width = xd at hleaf hc1 hcc1
  generalize cutD (sha S K (branchT width x y)) width = yd at hbrn hc2 hcc2 hlast
  generalize cutD (sha S K [2]) width = zd at hemp hc3 hz
  generalize sha S K (leafT kk l) = s1 at hs1 hc1
  generalize sha S K (branchT width x y) = s2 at hs2 hc2
  generalize sha S K [2] = s3 at hs3 hc3
  generalize leafT kk l = t1 at hlt hs1 hlen1
  generalize branchT width x y = t2 at hbt hs2 hlen2
  have hm1 : 33 + n ≤ 140737488355328 := by omega
  have hm2 : 1 + 2 * wid width ≤ 140737488355328 := by omega
  generalize wid width = wd at hbt hm2 hlen2 hwl
  clear hne hlen1 hlen2
  have HL := Lib.hid hL
  go_enter Tryd.func4, Tryd.ntmps4
  have hB0 : Below w.heap.size w (((w.alloc (.cells (dc kk) 33)).alloc (.cells (dc x) 24)).alloc (.cells (dc y) 24)) := ((Below.refl_alloc w _).alloc (by simp) _).alloc (by simp; omega) _
  have f6 : (((w.alloc (.cells (dc kk) 33)).alloc (.cells (dc x) 24)).alloc (.cells (dc y) 24)).rangeAt w.heap.size 0 (bvs kk.1) := rangeAt_block (heap_old (heap_old (heap_new rfl)))
  have f8 : (((w.alloc (.cells (dc kk) 33)).alloc (.cells (dc x) 24)).alloc (.cells (dc y) 24)).rangeAt (w.heap.size + 1) 0 (bvs x.1) := rangeAt_block (heap_old (heap_new (by simp)))
  have f9 : (((w.alloc (.cells (dc kk) 33)).alloc (.cells (dc x) 24)).alloc (.cells (dc y) 24)).rangeAt (w.heap.size + 1 + 1) 0 (bvs y.1) := rangeAt_block (heap_new (by simp))
  go_wp2_with (first
    | (refine wpList_load32 rfl 33 (.tmp 6) ?_ w.heap.size 0 ?_ kk ?_ Tryd.underlying33 hi33 ?_; rfl; rfl; exact f6)
    | (go_at_call 11; refine (hleaf _ hB0).mono ?_))
  rintro e w1 ⟨rfl, hB1⟩
  have b1 : Below w.heap.size w w1 := hB0.trans (hB1.mono hB0.size)
  have z1 : w.heap.size + 3 ≤ w1.heap.size := by have := hB1.size; simpa using this
  have g6 := rangeAt_below f6 hB1 (by simp; omega)
  have g8 := rangeAt_below f8 hB1 (by simp)
  have g9 := rangeAt_below f9 hB1 (by simp)
  clear f6 f8 f9 hB1 hleaf hB0
  go_wp2_with (refine wpList_store_row rfl 24 (.tmp 11) (.tmp 17) ?_ w1.heap.size (dc zero32) (dc xd) 24 ?_ ?_ ?_ (hss _ _).out (hd32 _).out (dc_all _) ?_; rfl; rfl; rfl; exact heap_new rfl)
  intro w2 e11 E11
  have B12 : Below w1.heap.size w1 w2 := (Below.refl_alloc w1 _).grown E11 (by simp) (fun k hk => by cases hk; omega)
  have z2 : w1.heap.size + 1 ≤ w2.heap.size := by have := E11.size; simpa using this
  have b2 : Below w.heap.size w w2 := b1.trans (B12.mono b1.size)
  have f6 := rangeAt_below g6 B12 (by omega)
  have f8 := rangeAt_below g8 B12 (by omega)
  have f9 := rangeAt_below g9 B12 (by omega)
  have f11 : w2.rangeAt w1.heap.size 0 (bvs xd.1) := rangeAt_block e11.out
  clear g6 g8 g9 B12 e11 E11 b1
  go_wp2_with (first
    | (refine wpList_load32 rfl 24 (.tmp 8) ?_ (w.heap.size + 1) 0 ?_ x ?_ Tryd.underlying24 hi24 ?_; rfl; rfl; exact f8)
    | (refine wpList_load32 rfl 24 (.tmp 9) ?_ (w.heap.size + 1 + 1) 0 ?_ y ?_ Tryd.underlying24 hi24 ?_; rfl; rfl; exact f9)
    | (go_at_call 8; refine (hbrn _ (HL.out.old b2)).mono ?_))
  rintro e w3 ⟨rfl, hB1⟩
  have b3 : Below w.heap.size w w3 := b2.trans (hB1.mono b2.size)
  have z3 : w2.heap.size ≤ w3.heap.size := hB1.size
  have g6 := rangeAt_below f6 hB1 (by omega)
  have g8 := rangeAt_below f8 hB1 (by omega)
  have g9 := rangeAt_below f9 hB1 (by omega)
  have g11 := rangeAt_below f11 hB1 (by omega)
  clear f6 f8 f9 f11 hB1 hbrn b2
  go_wp2_with (refine wpList_store_row rfl 24 (.tmp 12) (.tmp 21) ?_ w3.heap.size (dc zero32) (dc yd) 24 ?_ ?_ ?_ (hss _ _).out (hd32 _).out (dc_all _) ?_; rfl; rfl; rfl; exact heap_new rfl)
  intro w4 e12 E12
  have B12 : Below w3.heap.size w3 w4 := (Below.refl_alloc w3 _).grown E12 (by simp) (fun k hk => by cases hk; omega)
  have z4 : w3.heap.size + 1 ≤ w4.heap.size := by have := E12.size; simpa using this
  have b4 : Below w.heap.size w w4 := b3.trans (B12.mono b3.size)
  have f6 := rangeAt_below g6 B12 (by omega)
  have f8 := rangeAt_below g8 B12 (by omega)
  have f9 := rangeAt_below g9 B12 (by omega)
  have f11 := rangeAt_below g11 B12 (by omega)
  have f12 : w4.rangeAt w3.heap.size 0 (bvs yd.1) := rangeAt_block e12.out
  clear g6 g8 g9 g11 B12 e12 E12 b3
  go_wp2_with (go_at_call 6; refine (hemp _ (HL.out.old b4)).mono ?_)
  rintro e w5 ⟨rfl, hB1⟩
  have b5 : Below w.heap.size w w5 := b4.trans (hB1.mono b4.size)
  have z5 : w4.heap.size ≤ w5.heap.size := hB1.size
  have g6 := rangeAt_below f6 hB1 (by omega)
  have g8 := rangeAt_below f8 hB1 (by omega)
  have g9 := rangeAt_below f9 hB1 (by omega)
  have g11 := rangeAt_below f11 hB1 (by omega)
  have g12 := rangeAt_below f12 hB1 (by omega)
  clear f6 f8 f9 f11 f12 hB1 hemp b4
  go_wp2_with (refine wpList_store_row rfl 24 (.tmp 13) (.tmp 23) ?_ w5.heap.size (dc zero32) (dc zd) 24 ?_ ?_ ?_ (hss _ _).out (hd32 _).out (dc_all _) ?_; rfl; rfl; rfl; exact heap_new rfl)
  intro w6 e13 E13
  have B12 : Below w5.heap.size w5 w6 := (Below.refl_alloc w5 _).grown E13 (by simp) (fun k hk => by cases hk; omega)
  have z6 : w5.heap.size + 1 ≤ w6.heap.size := by have := E13.size; simpa using this
  have b6 : Below w.heap.size w w6 := b5.trans (B12.mono b5.size)
  have f6 := rangeAt_below g6 B12 (by omega)
  have f8 := rangeAt_below g8 B12 (by omega)
  have f9 := rangeAt_below g9 B12 (by omega)
  have f11 := rangeAt_below g11 B12 (by omega)
  have f12 := rangeAt_below g12 B12 (by omega)
  have f13 : w6.rangeAt w5.heap.size 0 (bvs zd.1) := rangeAt_block e13.out
  clear g6 g8 g9 g11 g12 B12 e13 E13 b5
  have hkeep : ∀ W W', (fun W => W.rangeAt w.heap.size 0 (bvs kk.1) ∧ W.rangeAt (w.heap.size + 1) 0 (bvs x.1) ∧ W.rangeAt (w.heap.size + 1 + 1) 0 (bvs y.1) ∧ W.rangeAt w1.heap.size 0 (bvs xd.1) ∧ W.rangeAt w3.heap.size 0 (bvs yd.1) ∧ W.rangeAt w5.heap.size 0 (bvs zd.1) ∧ Below w6.heap.size w6 W) W → Below W.heap.size W W' → (fun W => W.rangeAt w.heap.size 0 (bvs kk.1) ∧ W.rangeAt (w.heap.size + 1) 0 (bvs x.1) ∧ W.rangeAt (w.heap.size + 1 + 1) 0 (bvs y.1) ∧ W.rangeAt w1.heap.size 0 (bvs xd.1) ∧ W.rangeAt w3.heap.size 0 (bvs yd.1) ∧ W.rangeAt w5.heap.size 0 (bvs zd.1) ∧ Below w6.heap.size w6 W) W' := fun W W' hS hB => by
    obtain ⟨q1, q2, q3, q4, q5, q6, q7⟩ := hS
    have := q7.size
    exact ⟨rangeAt_below q1 hB (by omega), rangeAt_below q2 hB (by omega), rangeAt_below q3 hB (by omega), rangeAt_below q4 hB (by omega), rangeAt_below q5 hB (by omega), rangeAt_below q6 hB (by omega), q7.trans (hB.mono q7.size)⟩
  have hbase : ∀ W, (fun W => W.rangeAt w.heap.size 0 (bvs kk.1) ∧ W.rangeAt (w.heap.size + 1) 0 (bvs x.1) ∧ W.rangeAt (w.heap.size + 1 + 1) 0 (bvs y.1) ∧ W.rangeAt w1.heap.size 0 (bvs xd.1) ∧ W.rangeAt w3.heap.size 0 (bvs yd.1) ∧ W.rangeAt w5.heap.size 0 (bvs zd.1) ∧ Below w6.heap.size w6 W) W → Below w.heap.size w W := fun W hS => b6.trans (hS.2.2.2.2.2.2.mono b6.size)
  have hlaid : ∀ W, (fun W => W.rangeAt w.heap.size 0 (bvs kk.1) ∧ W.rangeAt (w.heap.size + 1) 0 (bvs x.1) ∧ W.rangeAt (w.heap.size + 1 + 1) 0 (bvs y.1) ∧ W.rangeAt w1.heap.size 0 (bvs xd.1) ∧ W.rangeAt w3.heap.size 0 (bvs yd.1) ∧ W.rangeAt w5.heap.size 0 (bvs zd.1) ∧ Below w6.heap.size w6 W) W → Laid S K W := fun W hS => HL.out.old (hbase W hS)
  have e30 : ∀ (x y : D32) (W : World), (Op.equalIn 10000 24 (.agg (dc x)) (.agg (dc y))).run Tryd.prog W = .ok (eqD x y) W := by
    obtain ⟨i5, hi5'⟩ := Option.isSome_iff_exists.1 (show (Tryd.prog.info? 5).isSome = true by kernel_rfl)
    exact fun x y W => equalIn_d32 (d := 9998) Tryd.underlying24 hi5' Tryd.underlying5 (by kernel_rfl) x y W
  have e31 : ∀ (x y : D32) (W : World), (Op.equalIn 10000 24 (.agg (bvs x.1).toArray) (.agg (dc y))).run Tryd.prog W = .ok (eqD x y) W := e30
  have hgd30 : Tryd.prog.eqGuardType Tryd.prog.depth 24 = false := by kernel_rfl
  have ee : ∀ d : D32, eqD d d = true := fun d => eqD_true rfl
  have U24 : Tryd.prog.underlying 24 = some (.array 32 5) := Tryd.underlying24
  have U33 : Tryd.prog.underlying 33 = some (.array 32 5) := Tryd.underlying33
  have lk : ∀ d : D32, (bvs d.1).length = 32 := fun d => by rw [length_bvs, d.2]
  have i24 : ∀ d : D32, (Tryd.prog.info? 24).map (·.size) = some (bvs d.1).length := fun d => by rw [lk d]; exact hi24.out
  have i33 : ∀ d : D32, (Tryd.prog.info? 33).map (·.size) = some (bvs d.1).length := fun d => by rw [lk d]; exact hi33.out
  have j1 := i24 x
  have j2 := i24 y
  have j3 := i24 xd
  have j4 := i24 yd
  have j5 := i24 zd
  have j6 := i33 kk
  clear i24 i33 lk
  -- REGION 4
  go_wp2_with fail
  refine held_begin (fun W => W.rangeAt w.heap.size 0 (bvs kk.1) ∧ W.rangeAt (w.heap.size + 1) 0 (bvs x.1) ∧ W.rangeAt (w.heap.size + 1 + 1) 0 (bvs y.1) ∧ W.rangeAt w1.heap.size 0 (bvs xd.1) ∧ W.rangeAt w3.heap.size 0 (bvs yd.1) ∧ W.rangeAt w5.heap.size 0 (bvs zd.1) ∧ Below w6.heap.size w6 W) (by kernel_rfl) ⟨f6, f8, f9, f11, f12, f13, (Below.refl _ w6).drew⟩ (fun hH0 => ?_)
  refine held_take 0 (.agg (dc xd)) rfl (by kernel_rfl) (by kernel_rfl) (by kernel_rfl) (held_load (by rfl) 24 (.tmp 11) rfl (w1.heap.size) 0 rfl xd 5 (fun W hS => hS.2.2.2.1) U24 hi24) (by assumption) ?_
  try simp only [Act.put, List.setIfInBounds_toArray, List.set_cons_zero, List.set_cons_succ]
  refine held_take 1 (.agg (dc kk)) rfl (by kernel_rfl) (by kernel_rfl) (by kernel_rfl) (held_load (by rfl) 33 (.tmp 6) rfl (w.heap.size) 0 rfl kk 5 (fun W hS => hS.1) U33 hi33) (by assumption) ?_
  try simp only [Act.put, List.setIfInBounds_toArray, List.set_cons_zero, List.set_cons_succ]
  refine held_take 2 (.slice ao n c) rfl (by kernel_rfl) (by kernel_rfl) (by kernel_rfl) (held_move (by rfl) (.tmp 2) rfl rfl) (by assumption) ?_
  try simp only [Act.put, List.setIfInBounds_toArray, List.set_cons_zero, List.set_cons_succ]
  refine held_take 5 (.int .i64 width) rfl (by kernel_rfl) (by kernel_rfl) (by kernel_rfl) (held_move (by rfl) (.tmp 0) rfl rfl) (by assumption) ?_
  try simp only [Act.put, List.setIfInBounds_toArray, List.set_cons_zero, List.set_cons_succ]
  refine held_step 3 (by kernel_rfl) rfl (by rfl) (fun K hK => ?_)
  go_simp
  refine (hlt _ (hbase _ hH0)).mono ?_
  rintro e W3 ⟨g, cap, rfl, ho, hB⟩
  dsimp only
  refine hK.out _ _ (hkeep _ _ hH0 hB) (fun hH3 => ?_)
  clear hK K
  try simp only [Act.put, List.setIfInBounds_toArray, List.set_cons_zero, List.set_cons_succ]
  refine held_step 4 (by kernel_rfl) rfl (by rfl) (fun K hK => ?_)
  go_simp
  refine (hs1 _ _ _ _ _ hm1 (hlaid _ hH3) ho).mono ?_
  rintro e W4 ⟨rfl, hB4⟩
  dsimp only
  refine hK.out _ _ (hkeep _ _ hH3 hB4) (fun hH4 => ?_)
  clear hK K
  try simp only [Act.put, List.setIfInBounds_toArray, List.set_cons_zero, List.set_cons_succ]
  refine held_step 6 (by kernel_rfl) rfl (by rfl) (fun K hK => ?_)
  go_simp
  refine (hc1 _).mono ?_
  rintro e W6 ⟨rfl, hB6⟩
  dsimp only
  refine hK.out _ _ (hkeep _ _ hH4 hB6) (fun hH6 => ?_)
  clear hK K
  try simp only [Act.put, List.setIfInBounds_toArray, List.set_cons_zero, List.set_cons_succ]
  refine held_take 7 (.bool false) rfl (by kernel_rfl) (by kernel_rfl) (by kernel_rfl) (held_pure (by rfl) (fun W => by go_simp)) (by assumption) ?_
  try simp only [Act.put, List.setIfInBounds_toArray, List.set_cons_zero, List.set_cons_succ]
  refine held_take 8 (.bool false) rfl (by kernel_rfl) (by kernel_rfl) (by kernel_rfl) (held_move (by rfl) (.tmp 31) rfl rfl) (by assumption) ?_
  try simp only [Act.put, List.setIfInBounds_toArray, List.set_cons_zero, List.set_cons_succ]
  refine held_take 9 (.agg (dc yd)) rfl (by kernel_rfl) (by kernel_rfl) (by kernel_rfl) (held_load (by rfl) 24 (.tmp 12) rfl (w3.heap.size) 0 rfl yd 5 (fun W hS => hS.2.2.2.2.1) U24 hi24) (by assumption) ?_
  try simp only [Act.put, List.setIfInBounds_toArray, List.set_cons_zero, List.set_cons_succ]
  refine held_take 10 (.int .i64 width) rfl (by kernel_rfl) (by kernel_rfl) (by kernel_rfl) (held_move (by rfl) (.tmp 0) rfl rfl) (by assumption) ?_
  try simp only [Act.put, List.setIfInBounds_toArray, List.set_cons_zero, List.set_cons_succ]
  refine held_take 11 (.agg (dc x)) rfl (by kernel_rfl) (by kernel_rfl) (by kernel_rfl) (held_load (by rfl) 24 (.tmp 8) rfl (w.heap.size + 1) 0 rfl x 5 (fun W hS => hS.2.1) U24 hi24) (by assumption) ?_
  try simp only [Act.put, List.setIfInBounds_toArray, List.set_cons_zero, List.set_cons_succ]
  refine held_take 12 (.agg (dc y)) rfl (by kernel_rfl) (by kernel_rfl) (by kernel_rfl) (held_load (by rfl) 24 (.tmp 9) rfl (w.heap.size + 1 + 1) 0 rfl y 5 (fun W hS => hS.2.2.1) U24 hi24) (by assumption) ?_
  try simp only [Act.put, List.setIfInBounds_toArray, List.set_cons_zero, List.set_cons_succ]
  refine held_take 15 (.int .i64 width) rfl (by kernel_rfl) (by kernel_rfl) (by kernel_rfl) (held_move (by rfl) (.tmp 0) rfl rfl) (by assumption) ?_
  try simp only [Act.put, List.setIfInBounds_toArray, List.set_cons_zero, List.set_cons_succ]
  refine held_step 13 (by kernel_rfl) rfl (by rfl) (fun K hK => ?_)
  go_simp
  refine (hbt _).mono ?_
  rintro e W13 ⟨g', cap', rfl, ho', hB⟩
  dsimp only
  refine hK.out _ _ (hkeep _ _ hH6 hB) (fun hH13 => ?_)
  clear hK K
  try simp only [Act.put, List.setIfInBounds_toArray, List.set_cons_zero, List.set_cons_succ]
  refine held_step 14 (by kernel_rfl) rfl (by rfl) (fun K hK => ?_)
  go_simp
  refine (hs2 _ _ _ _ _ hm2 (hlaid _ hH13) ho').mono ?_
  rintro e W14 ⟨rfl, hB14⟩
  dsimp only
  refine hK.out _ _ (hkeep _ _ hH13 hB14) (fun hH14 => ?_)
  clear hK K
  try simp only [Act.put, List.setIfInBounds_toArray, List.set_cons_zero, List.set_cons_succ]
  refine held_step 16 (by kernel_rfl) rfl (by rfl) (fun K hK => ?_)
  go_simp
  refine (hc2 _).mono ?_
  rintro e W16 ⟨rfl, hB16⟩
  dsimp only
  refine hK.out _ _ (hkeep _ _ hH14 hB16) (fun hH16 => ?_)
  clear hK K
  try simp only [Act.put, List.setIfInBounds_toArray, List.set_cons_zero, List.set_cons_succ]
  refine held_take 17 (.bool false) rfl (by kernel_rfl) (by kernel_rfl) (by kernel_rfl) (held_pure (by rfl) (fun W => by go_simp)) (by assumption) ?_
  try simp only [Act.put, List.setIfInBounds_toArray, List.set_cons_zero, List.set_cons_succ]
  refine held_take 18 (.bool false) rfl (by kernel_rfl) (by kernel_rfl) (by kernel_rfl) (held_pure (by rfl) (fun W => by go_simp)) (by assumption) ?_
  try simp only [Act.put, List.setIfInBounds_toArray, List.set_cons_zero, List.set_cons_succ]
  refine held_take 19 (.bool false) rfl (by kernel_rfl) (by kernel_rfl) (by kernel_rfl) (held_move (by rfl) (.tmp 42) rfl rfl) (by assumption) ?_
  try simp only [Act.put, List.setIfInBounds_toArray, List.set_cons_zero, List.set_cons_succ]
  refine held_take 20 (.agg (dc zd)) rfl (by kernel_rfl) (by kernel_rfl) (by kernel_rfl) (held_load (by rfl) 24 (.tmp 13) rfl (w5.heap.size) 0 rfl zd 5 (fun W hS => hS.2.2.2.2.2.1) U24 hi24) (by assumption) ?_
  try simp only [Act.put, List.setIfInBounds_toArray, List.set_cons_zero, List.set_cons_succ]
  refine held_take 23 (.int .i64 width) rfl (by kernel_rfl) (by kernel_rfl) (by kernel_rfl) (held_move (by rfl) (.tmp 0) rfl rfl) (by assumption) ?_
  try simp only [Act.put, List.setIfInBounds_toArray, List.set_cons_zero, List.set_cons_succ]
  refine held_step 21 (by kernel_rfl) rfl (by rfl) (fun K hK => ?_)
  go_simp
  refine hK.out _ _ (hkeep _ _ hH16 (Below.refl_alloc _ _)) (fun hH21 => ?_)
  clear hK K
  try simp only [Act.put, List.setIfInBounds_toArray, List.set_cons_zero, List.set_cons_succ]
  refine held_step 22 (by kernel_rfl) rfl (by rfl) (fun K hK => ?_)
  go_simp
  refine (hs3 _ _ (hlaid _ hH21) (Row.lit W16 #[.int .u8 2] 5 [2] rfl) (by simp)).mono ?_
  rintro e W22 ⟨rfl, hB22⟩
  dsimp only
  refine hK.out _ _ (hkeep _ _ hH21 hB22) (fun hH22 => ?_)
  clear hK K
  try simp only [Act.put, List.setIfInBounds_toArray, List.set_cons_zero, List.set_cons_succ]
  refine held_step 24 (by kernel_rfl) rfl (by rfl) (fun K hK => ?_)
  go_simp
  refine (hc3 _).mono ?_
  rintro e W24 ⟨rfl, hB24⟩
  dsimp only
  refine hK.out _ _ (hkeep _ _ hH22 hB24) (fun hH24 => ?_)
  clear hK K
  try simp only [Act.put, List.setIfInBounds_toArray, List.set_cons_zero, List.set_cons_succ]
  refine held_take 25 (.bool false) rfl (by kernel_rfl) (by kernel_rfl) (by kernel_rfl) (held_pure (by rfl) (fun W => by go_simp)) (by assumption) ?_
  try simp only [Act.put, List.setIfInBounds_toArray, List.set_cons_zero, List.set_cons_succ]
  refine held_take 26 (.bool false) rfl (by kernel_rfl) (by kernel_rfl) (by kernel_rfl) (held_pure (by rfl) (fun W => by go_simp)) (by assumption) ?_
  try simp only [Act.put, List.setIfInBounds_toArray, List.set_cons_zero, List.set_cons_succ]
  refine held_done (by kernel_rfl) ?_ _
  obtain ⟨q6, q8, q9, q11, q12, q13, hB7⟩ := hH24
  have b7 : Below w.heap.size w W24 := b6.trans (hB7.mono b6.size)
  have hbz : Tryd.prog.built 24 [] = some (dc zero32) := by kernel_rfl
  clear f6 f8 f9 f11 f12 f13 hlaid hbase hkeep ho ho' hH0 hH3 hH4 hH6 hH13 hH14 hH16 hH21 hH22 hB hB4 hB6 hB14 hB16 hB22 hB24 hc1 hc2 hc3 hs1 hs2 hs3 hbt
  have z7 : w6.heap.size ≤ W24.heap.size := hB7.size
  have e31z : ∀ (W : World), (Op.equalIn 10000 24 (.agg (dc zd)) (.agg (dc zero32))).run Tryd.prog W = .ok (eqD zd zero32) W := e30 zd zero32
  go_upto_region 6 with fail
  go_cut [67] (fun s W => s = .bool false ∧ Below W24.heap.size W24 W)
  case first =>
    by_cases hw : 32 ≤ width
    · have ez := eqD_false (hz hw)
      clear hz
      go_wp2_with (first
        | (refine wpList_load32 rfl 33 (.tmp 6) ?_ w.heap.size 0 ?_ kk ?_ Tryd.underlying33 hi33 ?_; rfl; rfl; exact q6)
        | (go_at_call 12; refine (hlt _ b7).mono ?_))
      rintro e w8 ⟨g8, cap8, rfl, ho8, hB8⟩
      have q13' := rangeAt_below q13 hB8 (by omega)
      go_wp2_with (first
        | (refine wpList_load32g (by rfl) 24 (.tmp 13) ?_ w5.heap.size 0 ?_ zd 5 ?_ U24 hi24 ?_; rfl; rfl; exact q13')
        | (refine wpList_builtg (by rfl) 24 [] ?_ [] ?_ (dc zero32) hbz ?_; rfl; rfl))
      go_meet
      exact ⟨rfl, hB8⟩
    · clear hz
      go_wp2_with (first
        | (refine wpList_load32 rfl 33 (.tmp 6) ?_ w.heap.size 0 ?_ kk ?_ Tryd.underlying33 hi33 ?_; rfl; rfl; exact q6)
        | (go_at_call 12; refine (hlt _ b7).mono ?_))
      rintro e w8 g8 cap8 rfl ho8 hB8
      have q13' := rangeAt_below q13 hB8 (by omega)
      go_wp2_with (first
        | (refine wpList_load32g (by rfl) 24 (.tmp 13) ?_ w5.heap.size 0 ?_ zd 5 ?_ U24 hi24 ?_; rfl; rfl; exact q13')
        | (refine wpList_builtg (by rfl) 24 [] ?_ [] ?_ (dc zero32) hbz ?_; rfl; rfl))
      go_meet
      exact ⟨rfl, hB8⟩
  obtain ⟨rfl, hB9⟩ := hcut
  have b9 : Below w.heap.size w wc := b7.trans (hB9.mono b7.size)
  have z9 : W24.heap.size ≤ wc.heap.size := hB9.size
  have f8 := rangeAt_below q8 hB9 (by omega)
  have f9 := rangeAt_below q9 hB9 (by omega)
  have f11 := rangeAt_below q11 hB9 (by omega)
  have f12 := rangeAt_below q12 hB9 (by omega)
  clear q6 q8 q9 q11 q12 q13 hlt
  have hkeep : ∀ W W', (fun W => W.rangeAt (w.heap.size + 1) 0 (bvs x.1) ∧ W.rangeAt (w.heap.size + 1 + 1) 0 (bvs y.1) ∧ W.rangeAt w1.heap.size 0 (bvs xd.1) ∧ W.rangeAt w3.heap.size 0 (bvs yd.1) ∧ Below wc.heap.size wc W) W → Below W.heap.size W W' → (fun W => W.rangeAt (w.heap.size + 1) 0 (bvs x.1) ∧ W.rangeAt (w.heap.size + 1 + 1) 0 (bvs y.1) ∧ W.rangeAt w1.heap.size 0 (bvs xd.1) ∧ W.rangeAt w3.heap.size 0 (bvs yd.1) ∧ Below wc.heap.size wc W) W' := fun W W' hS hB => by
    obtain ⟨q1, q2, q3, q4, q5⟩ := hS
    have := q5.size
    exact ⟨rangeAt_below q1 hB (by omega), rangeAt_below q2 hB (by omega), rangeAt_below q3 hB (by omega), rangeAt_below q4 hB (by omega), q5.trans (hB.mono q5.size)⟩
  have hbase : ∀ W, (fun W => W.rangeAt (w.heap.size + 1) 0 (bvs x.1) ∧ W.rangeAt (w.heap.size + 1 + 1) 0 (bvs y.1) ∧ W.rangeAt w1.heap.size 0 (bvs xd.1) ∧ W.rangeAt w3.heap.size 0 (bvs yd.1) ∧ Below wc.heap.size wc W) W → Below w.heap.size w W := fun W hS => b9.trans (hS.2.2.2.2.mono b9.size)
  have hlaid : ∀ W, (fun W => W.rangeAt (w.heap.size + 1) 0 (bvs x.1) ∧ W.rangeAt (w.heap.size + 1 + 1) 0 (bvs y.1) ∧ W.rangeAt w1.heap.size 0 (bvs xd.1) ∧ W.rangeAt w3.heap.size 0 (bvs yd.1) ∧ Below wc.heap.size wc W) W → Laid S K W := fun W hS => HL.out.old (hbase W hS)
  go_wp2_with fail
  refine held_begin (fun W => W.rangeAt (w.heap.size + 1) 0 (bvs x.1) ∧ W.rangeAt (w.heap.size + 1 + 1) 0 (bvs y.1) ∧ W.rangeAt w1.heap.size 0 (bvs xd.1) ∧ W.rangeAt w3.heap.size 0 (bvs yd.1) ∧ Below wc.heap.size wc W) (by kernel_rfl) ⟨f8, f9, f11, f12, (Below.refl _ wc).drew⟩ (fun hH0 => ?_)
  refine held_take 0 (.agg (dc xd)) rfl (by kernel_rfl) (by kernel_rfl) (by kernel_rfl) (held_load (by rfl) 24 (.tmp 11) rfl (w1.heap.size) 0 rfl xd 5 (fun W hS => hS.2.2.1) U24 hi24) (by assumption) ?_
  try simp only [Act.put, List.setIfInBounds_toArray, List.set_cons_zero, List.set_cons_succ]
  refine held_take 1 (.int .i64 width) rfl (by kernel_rfl) (by kernel_rfl) (by kernel_rfl) (held_move (by rfl) (.tmp 0) rfl rfl) (by assumption) ?_
  try simp only [Act.put, List.setIfInBounds_toArray, List.set_cons_zero, List.set_cons_succ]
  refine held_take 3 (.agg (dc xd)) rfl (by kernel_rfl) (by kernel_rfl) (by kernel_rfl) (held_load (by rfl) 24 (.tmp 11) rfl (w1.heap.size) 0 rfl xd 5 (fun W hS => hS.2.2.1) U24 hi24) (by assumption) ?_
  try simp only [Act.put, List.setIfInBounds_toArray, List.set_cons_zero, List.set_cons_succ]
  refine held_step 2 (by kernel_rfl) rfl (by rfl) (fun K hK => ?_)
  go_simp
  refine (hcc1 _).mono ?_
  rintro e W2 ⟨rfl, hB⟩
  dsimp only
  refine hK.out _ _ (hkeep _ _ hH0 hB) (fun hH2 => ?_)
  clear hK K
  try simp only [Act.put, List.setIfInBounds_toArray, List.set_cons_zero, List.set_cons_succ]
  refine held_take 4 (.bool true) rfl (by kernel_rfl) (by kernel_rfl) (by kernel_rfl) (held_pure (by rfl) (fun W => by go_simp)) (by assumption) ?_
  try simp only [Act.put, List.setIfInBounds_toArray, List.set_cons_zero, List.set_cons_succ]
  refine held_take 5 (.bool true) rfl (by kernel_rfl) (by kernel_rfl) (by kernel_rfl) (held_move (by rfl) (.tmp 72) rfl rfl) (by assumption) ?_
  try simp only [Act.put, List.setIfInBounds_toArray, List.set_cons_zero, List.set_cons_succ]
  refine held_take 6 (.agg (dc yd)) rfl (by kernel_rfl) (by kernel_rfl) (by kernel_rfl) (held_load (by rfl) 24 (.tmp 12) rfl (w3.heap.size) 0 rfl yd 5 (fun W hS => hS.2.2.2.1) U24 hi24) (by assumption) ?_
  try simp only [Act.put, List.setIfInBounds_toArray, List.set_cons_zero, List.set_cons_succ]
  refine held_take 7 (.int .i64 width) rfl (by kernel_rfl) (by kernel_rfl) (by kernel_rfl) (held_move (by rfl) (.tmp 0) rfl rfl) (by assumption) ?_
  try simp only [Act.put, List.setIfInBounds_toArray, List.set_cons_zero, List.set_cons_succ]
  refine held_take 9 (.agg (dc yd)) rfl (by kernel_rfl) (by kernel_rfl) (by kernel_rfl) (held_load (by rfl) 24 (.tmp 12) rfl (w3.heap.size) 0 rfl yd 5 (fun W hS => hS.2.2.2.1) U24 hi24) (by assumption) ?_
  try simp only [Act.put, List.setIfInBounds_toArray, List.set_cons_zero, List.set_cons_succ]
  refine held_step 8 (by kernel_rfl) rfl (by rfl) (fun K hK => ?_)
  go_simp
  refine (hcc2 _).mono ?_
  rintro e W8 ⟨rfl, hB⟩
  dsimp only
  refine hK.out _ _ (hkeep _ _ hH2 hB) (fun hH8 => ?_)
  clear hK K
  try simp only [Act.put, List.setIfInBounds_toArray, List.set_cons_zero, List.set_cons_succ]
  refine held_take 10 (.bool true) rfl (by kernel_rfl) (by kernel_rfl) (by kernel_rfl) (held_pure (by rfl) (fun W => by go_simp)) (by assumption) ?_
  try simp only [Act.put, List.setIfInBounds_toArray, List.set_cons_zero, List.set_cons_succ]
  refine held_take 11 (.bool true) rfl (by kernel_rfl) (by kernel_rfl) (by kernel_rfl) (held_pure (by rfl) (fun W => by go_simp)) (by assumption) ?_
  try simp only [Act.put, List.setIfInBounds_toArray, List.set_cons_zero, List.set_cons_succ]
  refine held_take 12 (.bool true) rfl (by kernel_rfl) (by kernel_rfl) (by kernel_rfl) (held_move (by rfl) (.tmp 79) rfl rfl) (by assumption) ?_
  try simp only [Act.put, List.setIfInBounds_toArray, List.set_cons_zero, List.set_cons_succ]
  refine held_take 13 (.int .i64 width) rfl (by kernel_rfl) (by kernel_rfl) (by kernel_rfl) (held_move (by rfl) (.tmp 0) rfl rfl) (by assumption) ?_
  try simp only [Act.put, List.setIfInBounds_toArray, List.set_cons_zero, List.set_cons_succ]
  refine held_take 14 (.agg (dc x)) rfl (by kernel_rfl) (by kernel_rfl) (by kernel_rfl) (held_load (by rfl) 24 (.tmp 8) rfl (w.heap.size + 1) 0 rfl x 5 (fun W hS => hS.1) U24 hi24) (by assumption) ?_
  try simp only [Act.put, List.setIfInBounds_toArray, List.set_cons_zero, List.set_cons_succ]
  refine held_take 15 (.int .i64 width) rfl (by kernel_rfl) (by kernel_rfl) (by kernel_rfl) (held_move (by rfl) (.tmp 0) rfl rfl) (by assumption) ?_
  try simp only [Act.put, List.setIfInBounds_toArray, List.set_cons_zero, List.set_cons_succ]
  refine held_take 17 (.agg (dc y)) rfl (by kernel_rfl) (by kernel_rfl) (by kernel_rfl) (held_load (by rfl) 24 (.tmp 9) rfl (w.heap.size + 1 + 1) 0 rfl y 5 (fun W hS => hS.2.1) U24 hi24) (by assumption) ?_
  try simp only [Act.put, List.setIfInBounds_toArray, List.set_cons_zero, List.set_cons_succ]
  refine held_take 18 (.int .i64 width) rfl (by kernel_rfl) (by kernel_rfl) (by kernel_rfl) (held_move (by rfl) (.tmp 0) rfl rfl) (by assumption) ?_
  try simp only [Act.put, List.setIfInBounds_toArray, List.set_cons_zero, List.set_cons_succ]
  refine held_take 21 (.agg (dc yd)) rfl (by kernel_rfl) (by kernel_rfl) (by kernel_rfl) (held_load (by rfl) 24 (.tmp 12) rfl (w3.heap.size) 0 rfl yd 5 (fun W hS => hS.2.2.2.1) U24 hi24) (by assumption) ?_
  try simp only [Act.put, List.setIfInBounds_toArray, List.set_cons_zero, List.set_cons_succ]
  refine held_step 16 (by kernel_rfl) rfl (by rfl) (fun K hK => ?_)
  go_simp
  refine (hcx _).mono ?_
  rintro e W16 ⟨rfl, hB⟩
  dsimp only
  refine hK.out _ _ (hkeep _ _ hH8 hB) (fun hH16 => ?_)
  clear hK K
  try simp only [Act.put, List.setIfInBounds_toArray, List.set_cons_zero, List.set_cons_succ]
  refine held_step 19 (by kernel_rfl) rfl (by rfl) (fun K hK => ?_)
  go_simp
  refine (hcy _).mono ?_
  rintro e W19 ⟨rfl, hB⟩
  dsimp only
  refine hK.out _ _ (hkeep _ _ hH16 hB) (fun hH19 => ?_)
  clear hK K
  try simp only [Act.put, List.setIfInBounds_toArray, List.set_cons_zero, List.set_cons_succ]
  refine held_step 20 (by kernel_rfl) rfl (by rfl) (fun K hK => ?_)
  go_simp
  refine (hlast _ (hlaid _ hH19)).mono ?_
  rintro e W20 ⟨rfl, hB⟩
  dsimp only
  refine hK.out _ _ (hkeep _ _ hH19 hB) (fun hH20 => ?_)
  clear hK K
  try simp only [Act.put, List.setIfInBounds_toArray, List.set_cons_zero, List.set_cons_succ]
  refine held_take 22 (.bool true) rfl (by kernel_rfl) (by kernel_rfl) (by kernel_rfl) (held_pure (by rfl) (fun W => by go_simp)) (by assumption) ?_
  try simp only [Act.put, List.setIfInBounds_toArray, List.set_cons_zero, List.set_cons_succ]
  refine held_take 23 (.bool true) rfl (by kernel_rfl) (by kernel_rfl) (by kernel_rfl) (held_pure (by rfl) (fun W => by go_simp)) (by assumption) ?_
  try simp only [Act.put, List.setIfInBounds_toArray, List.set_cons_zero, List.set_cons_succ]
  refine held_take 24 (.bool true) rfl (by kernel_rfl) (by kernel_rfl) (by kernel_rfl) (held_pure (by rfl) (fun W => by go_simp)) (by assumption) ?_
  try simp only [Act.put, List.setIfInBounds_toArray, List.set_cons_zero, List.set_cons_succ]
  refine held_done (by kernel_rfl) ?_ _
  have hfin := hbase _ hH20
  go_wp2_with fail
  go_ret
  exact ⟨rfl, hfin⟩
end Go.Proofs.YtonpbmjgoenfdaaDoor
