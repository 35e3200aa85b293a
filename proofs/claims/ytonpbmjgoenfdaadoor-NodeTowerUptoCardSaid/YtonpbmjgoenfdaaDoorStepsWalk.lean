/- Climbs join: plain laws, and the walk of the law NodeSteps. -/
import Derived.Test.YtonpbmjgoenfdaaDoorClimb
import Derived.Test.YtonpbmjgoenfdaaDoorHeld
import Derived.Test.YtonpbmjgoenfdaaDoorHashWalk
namespace Go.Proofs.YtonpbmjgoenfdaaDoor
open Go Go.RowKit
set_option linter.unusedVariables false

section
variable (S : S8) (K : List UInt32) (width : Int) (k : D32)
theorem cut_br (x y : D32) : cutD (brD S K width x y) width = brD S K width x y := cut_cut _ _
theorem cut_em : ∀ n, cutD (emD S K width n) width = emD S K width n
  | 0 => cut_cut _ _
  | n + 1 => cut_cut _ _
theorem cut_climbN (low : Nat) (c : D32) (h : cutD c width = c) : ∀ n, cutD (climbN S K width k low c n) width = climbN S K width k low c n
  | 0 => h
  | n + 1 => by
    rw [climbN]; unfold stepD
    split
    · exact cut_br ..
    · exact cut_br ..
theorem climbN_add (low : Nat) (c : D32) (n : Nat) : ∀ m, climbN S K width k low c (n + m) = climbN S K width k (low + n) (climbN S K width k low c n) m
  | 0 => rfl
  | m + 1 => by rw [← Nat.add_assoc, climbN, climbN, climbN_add low c n m, Nat.add_assoc]
theorem climbN_em (low : Nat) : ∀ n, climbN S K width k low (emD S K width low) n = emD S K width (low + n)
  | 0 => rfl
  | n + 1 => by
    rw [climbN, climbN_em low n]
    unfold stepD
    rw [ite_self]
    rfl
end
/-- The digest that begins with a 1. -/
def oneD : D32 := ⟨1 :: List.replicate 31 0, by simp⟩
theorem clampNat (n : Nat) (h : n ≤ 256) : clamp (n : Int) 0 256 = (n : Int) := by unfold clamp; omega

set_option maxRecDepth 100000 in
set_option maxHeartbeats 4000000 in
theorem steps_walk {S : S8} {K : List UInt32} (hne : climbD S K 32 zero32 0 oneD 1 ≠ zero32) (width a b m : Int) (k d : D32) (w : World) (hL : Laid S K w) :
    Calls Tryd.prog 5 #[.int .i64 width, .agg (dc k), .int .i64 a, .agg (dc d), .int .i64 b, .int .i64 m] w fun e w' => e = .returned (.bool true) ∧ Below w.heap.size w w' := by
  have hi33 : Hid ((Tryd.prog.info? 33).map (·.size) = some 32) := by unfold Hid; kernel_rfl
  have hi24 : Hid ((Tryd.prog.info? 24).map (·.size) = some 32) := by unfold Hid; kernel_rfl
  have hzd : ∀ W : World, (zeroValue 24).run Tryd.prog W = .ok (.agg (dc zero32)) W := fun W => by kernel_rfl
  have hd32 : ∀ d : D32, Box ((Tryd.prog.info? 24).map (·.size) = some (dc d).size) := fun d => ⟨by rw [size_dc]; exact hi24.out⟩
  have hss : ∀ d e : D32, Box ((dc d).size = (dc e).size) := fun d e => ⟨by rw [size_dc, size_dc]⟩
  have e30 : ∀ (x y : D32) (W : World), (Op.equalIn 10000 24 (.agg (dc x)) (.agg (dc y))).run Tryd.prog W = .ok (eqD x y) W := by
    obtain ⟨i5, hi5'⟩ := Option.isSome_iff_exists.1 (show (Tryd.prog.info? 5).isSome = true by kernel_rfl)
    exact fun x y W => equalIn_d32 (d := 9998) Tryd.underlying24 hi5' Tryd.underlying5 (by kernel_rfl) x y W
  have hgd30 : Tryd.prog.eqGuardType Tryd.prog.depth 24 = false := by kernel_rfl
  have ee : ∀ d : D32, eqD d d = true := fun d => eqD_true rfl
  have U24 : Tryd.prog.underlying 24 = some (.array 32 5) := Tryd.underlying24
  have U33 : Tryd.prog.underlying 33 = some (.array 32 5) := Tryd.underlying33
  have bz33 : Tryd.prog.built 33 [] = some (dc zero32) := by kernel_rfl
  have bz24 : Tryd.prog.built 24 [] = some (dc zero32) := by kernel_rfl
  have bo24 : Tryd.prog.built 24 [(0, .int .u8 1)] = some (dc oneD) := by kernel_rfl
  -- the answers, by names
  obtain ⟨A, hA⟩ : ∃ A : Nat, clamp a 0 256 = (A : Int) := ⟨(clamp a 0 256).toNat, by unfold clamp; omega⟩
  obtain ⟨C, hC⟩ : ∃ C : Nat, clamp b 0 256 = (C : Int) := ⟨(clamp b 0 256).toNat, by unfold clamp; omega⟩
  have hA6 : A ≤ 256 := by unfold clamp at hA; omega
  have hC6 : C ≤ 256 := by unfold clamp at hC; omega
  have hwa : ∀ W, _ := fun W => lwithin_any a 0 256 W (by decide)
  have hwb : ∀ W, _ := fun W => lwithin_any b 0 256 W (by decide)
  rw [hA] at hwa
  rw [hC] at hwb
  have h0 : ∀ W, Laid S K W → _ := fun W hW => climb_any 32 zero32 0 oneD 1 W hW
  have hE0 := eqD_false hne
  generalize climbD S K 32 zero32 0 oneD 1 = x0 at h0 hE0
  have hcut : ∀ W, _ := fun W => cut_any d width W
  have hcl : ∀ W, Laid S K W → _ := fun W hW => climb_any width k a d b W hW
  have hT : climbD S K width k a d b = climbN S K width k A (cutD d width) (C - A) := by
    unfold climbD; rw [hA, hC]; rfl
  rw [hT] at hcl
  have hcc : cutD (cutD d width) width = cutD d width := cut_cut _ _
  have hem : ∀ n : Nat, n ≤ 256 → ∀ W, Laid S K W → Calls Tryd.prog 6 #[.int .i64 width, .int .i64 (n : Int)] W fun e w' => e = .returned (.agg (dc (emD S K width n))) ∧ Below W.heap.size W w' := fun n hn W hW => by
    have := empty_any width (n : Int) W hW
    rw [show emptyD S K width (n : Int) = emD S K width n by unfold emptyD; rw [clampNat n hn]; rfl] at this
    exact this
  have hhalf : ∀ M : Nat, M ≤ 256 → ∀ W, Laid S K W → Calls Tryd.prog 14 #[.int .i64 width, .agg (dc k), .int .i64 a, .agg (dc d), .int .i64 (M : Int)] W fun e w' => e = .returned (.agg (dc (climbN S K width k A (cutD d width) (M - A)))) ∧ Below W.heap.size W w' := fun M hM W hW => by
    have := climb_any width k a d (M : Int) W hW
    rw [show climbD S K width k a d (M : Int) = climbN S K width k A (cutD d width) (M - A) by unfold climbD; rw [hA, clampNat M hM]; rfl] at this
    exact this
  have hrest : ∀ M : Nat, A ≤ M → M ≤ C → ∀ W, Laid S K W → Calls Tryd.prog 14 #[.int .i64 width, .agg (dc k), .int .i64 (M : Int), .agg (dc (climbN S K width k A (cutD d width) (M - A))), .int .i64 b] W fun e w' => e = .returned (.agg (dc (climbN S K width k A (cutD d width) (C - A)))) ∧ Below W.heap.size W w' := fun M h1 h2 W hW => by
    have := climb_any width k (M : Int) (climbN S K width k A (cutD d width) (M - A)) b W hW
    rw [show climbD S K width k (M : Int) (climbN S K width k A (cutD d width) (M - A)) b = climbN S K width k A (cutD d width) (C - A) by
      unfold climbD
      rw [hC, clampNat M (by omega), cut_climbN S K width k A _ hcc, show (C : Int).toNat = C by omega, show ((M : Nat) : Int).toNat = M by omega, show C - A = (M - A) + (C - M) by omega, climbN_add, show A + (M - A) = M by omega]] at this
    exact this
  have hclE : A ≤ C → ∀ W, Laid S K W → Calls Tryd.prog 14 #[.int .i64 width, .agg (dc k), .int .i64 (A : Int), .agg (dc (emD S K width A)), .int .i64 (C : Int)] W fun e w' => e = .returned (.agg (dc (emD S K width C))) ∧ Below W.heap.size W w' := fun h1 W hW => by
    have := climb_any width k (A : Int) (emD S K width A) (C : Int) W hW
    rw [show climbD S K width k (A : Int) (emD S K width A) (C : Int) = emD S K width C by
      unfold climbD
      rw [clampNat A hA6, clampNat C hC6, cut_em, show ((C : Nat) : Int).toNat = C by omega, show ((A : Nat) : Int).toNat = A by omega, climbN_em, show A + (C - A) = C by omega]] at this
    exact this
  have hlm : A ≤ C → ∀ W, _ := fun h1 W => lwithin_any m (A : Int) (C : Int) W (by omega)
  obtain ⟨M, hM⟩ : ∃ M : Nat, A ≤ C → clamp m (A : Int) (C : Int) = (M : Int) ∧ A ≤ M ∧ M ≤ C := ⟨(clamp m (A : Int) (C : Int)).toNat, fun h => by unfold clamp; omega⟩
  generalize cutD d width = c0 at hcut hcl hcc hhalf hrest
  clear hA hC hT hcc hne
  have HM := Box.mk hM
  have HLM := Box.mk hlm
  have HRE := Box.mk hrest
  have HHA := Box.mk hhalf
  have HCE := Box.mk hclE
  have HEM := Box.mk hem
  have HCL := Box.mk hcl
  clear hM hlm hrest hhalf hclE hem hcl
  have HL := Lib.hid hL
  clear hL
  go_enter Tryd.func5, Tryd.ntmps5
  go_wp2_with (first
    | (refine wpList_built rfl 33 [] ?_ [] ?_ (dc zero32) bz33 ?_; rfl; rfl)
    | (refine wpList_built rfl 24 [(0, .const (.int .u8 1))] ?_ [(0, .int .u8 1)] ?_ (dc oneD) bo24 ?_; rfl; rfl)
    | (refine wpList_built rfl 24 [] ?_ [] ?_ (dc zero32) bz24 ?_; rfl; rfl)
    | (go_at_call 14; refine (h0 _ (HL.out.old ((Below.refl_alloc w _).alloc (by simp) _))).mono ?_))
  -- GEN
  rintro e w1 ⟨rfl, hB1⟩
  have b1 : Below w.heap.size w w1 := ((Below.refl_alloc w _).alloc (by simp) _).trans (hB1.mono (by simp; omega))
  have z1 : w.heap.size + 2 ≤ w1.heap.size := by have := hB1.size; simpa using this
  have f7 := Lib.hid (rangeAt_below (rangeAt_block (heap_old (heap_new rfl))) hB1 (by simp; omega) : w1.rangeAt w.heap.size 0 (bvs k.1))
  have f9 := Lib.hid (rangeAt_below (rangeAt_block (heap_new (by simp))) hB1 (by simp) : w1.rangeAt (w.heap.size + 1) 0 (bvs d.1))
  clear hB1 h0
  have he0 : ∀ W, (Op.equalIn 10000 24 (.agg (dc x0)) (.agg (dc zero32))).run Tryd.prog W = .ok false W := fun W => by rw [e30, hE0]
  go_upto_region 3 with (first
    | (refine wpList_built rfl 24 [] ?_ [] ?_ (dc zero32) bz24 ?_; rfl; rfl)
    | (refine wpList_yields ?_ (held_eql ?_ 24 24 (.tmp 21) (.tmp 22) ?_ x0 zero32 false ?_ ?_ hgd30 he0) ?_; rfl; rfl; rfl; rfl; rfl))
  clear he0 hE0 bz24 bz33 bo24
  go_wp2_with (first
    | (go_at_call_of 7 (Value.int IntKind.i64 a); refine (hwa _).mono ?_; rintro e w' ⟨rfl, rfl⟩)
    | (go_at_call_of 7 (Value.int IntKind.i64 b); refine (hwb _).mono ?_; rintro e w' ⟨rfl, rfl⟩)
    | (refine wpList_load32 rfl 24 (.tmp 9) ?_ (w.heap.size + 1) 0 ?_ d ?_ U24 hi24 ?_; rfl; rfl; exact f9.out)
    | (go_at_call 9; refine (hcut _).mono ?_))
  rintro e w2 ⟨rfl, hB2⟩
  have b2 : Below w.heap.size w w2 := b1.trans (hB2.mono b1.size)
  have z2 : w1.heap.size ≤ w2.heap.size := hB2.size
  have g7 := Lib.hid (rangeAt_below f7.out hB2 (by omega))
  have g9 := Lib.hid (rangeAt_below f9.out hB2 (by omega))
  clear f7 f9 hB2 hcut
  go_wp2_with (refine wpList_store_row rfl 24 (.tmp 15) (.tmp 30) ?_ w2.heap.size (dc zero32) (dc c0) 24 ?_ ?_ ?_ (hss _ _).out (hd32 _).out (dc_all _) ?_; rfl; rfl; rfl; exact heap_new rfl)
  intro w3 e15 E15
  have B3 : Below w2.heap.size w2 w3 := (Below.refl_alloc w2 _).grown E15 (by simp) (fun k hk => by cases hk; omega)
  have b3 : Below w.heap.size w w3 := b2.trans (B3.mono b2.size)
  have z3 : w2.heap.size + 1 ≤ w3.heap.size := by have := E15.size; simpa using this
  have f7 := Lib.hid (rangeAt_below g7.out B3 (by omega))
  have f9 := Lib.hid (rangeAt_below g9.out B3 (by omega))
  clear g7 g9 B3 E15 b2 b1
  go_wp2_with fail
  go_loopw [16] (fun i wr => ∃ (j : Nat) (dn : D32), A ≤ j ∧ (A ≤ C → j ≤ C) ∧ (C < A → j = A) ∧ i = .int .i64 j ∧ Box (dn = climbN S K width k A c0 (j - A)) ∧ Hid (wr.rangeAt w.heap.size 0 (bvs k.1)) ∧ Hid (wr.rangeAt (w.heap.size + 1) 0 (bvs d.1)) ∧
      Hid (wr.heap[w2.heap.size]? = some (.cells (dc dn) 24 (0, 0))) ∧ Below w.heap.size w wr ∧ w2.heap.size < wr.heap.size) (fun i _ => C - (intOf i).toNat)
  case atStart => exact ⟨A, c0, by omega, fun h => h, fun _ => rfl, rfl, ⟨by rw [Nat.sub_self]; rfl⟩, f7, f9, e15, b3, by omega⟩
  case round =>
    obtain ⟨j, dn, hj1, hj2, hj3, rfl, hdn, r7, r9, r15, br, zr⟩ := hrel
    by_cases hlt : j < C
    · have hbt := bit_any k (255 - (j : Int)) wr
      obtain ⟨t, ht⟩ : ∃ t, bitI k (255 - (j : Int)) = t := ⟨_, rfl⟩
      rw [ht] at hbt
      have HT : Box (bitI k (255 - (j : Int)) = t) := ⟨ht⟩
      clear ht
      by_cases hbit : t = 0
      · subst hbit
        have hbit0 := HT.out
        have HBI : Box (bitI k (255 - (j : Int)) = 0) := ⟨hbit0⟩
        clear hbit0
        go_wp2_with (first
          | (refine wpList_load32 rfl 33 (.tmp 7) ?_ w.heap.size 0 ?_ k ?_ U33 hi33 ?_; rfl; rfl; exact r7.out)
          | (go_at_call 15; refine hbt.mono ?_))
        rintro e w6' ⟨rfl, hB6⟩
        have b6' : Below w.heap.size w w6' := br.trans (hB6.mono br.size)
        have z6' : wr.heap.size ≤ w6'.heap.size := hB6.size
        have s7' := Lib.hid (rangeAt_below r7.out hB6 (by omega))
        have s9' := Lib.hid (rangeAt_below r9.out hB6 (by omega))
        have s15' : Hid (w6'.heap[w2.heap.size]? = some (.cells (dc dn) 24 (0, 0))) := (hB6.block _ (by omega)).trans r15.out
        clear r7 r9 r15 hB6 hbt br
        go_wp2_with fail
        refine held_begin (fun _ => True) (by kernel_rfl) trivial (fun _ => ?_)
        generalize hw6 : w6'.drew = w6
        have b6 : Below w.heap.size w w6 := by rw [← hw6]; exact b6'.drew
        have z6 : wr.heap.size ≤ w6.heap.size := by rw [← hw6]; exact z6'
        have s7 : Hid (w6.rangeAt w.heap.size 0 (bvs k.1)) := by rw [← hw6]; exact s7'
        have s9 : Hid (w6.rangeAt (w.heap.size + 1) 0 (bvs d.1)) := by rw [← hw6]; exact s9'
        have s15 : Hid (w6.heap[w2.heap.size]? = some (.cells (dc dn) 24 (0, 0))) := by rw [← hw6]; exact s15'
        clear hw6 s7' s9' s15' b6' z6'
        obtain ⟨em, HE⟩ : ∃ em, Box (emD S K width j = em) := ⟨_, ⟨rfl⟩⟩
        have hE : ∀ W, Laid S K W → _ := fun W hW => HEM.out j (by omega) W hW
        rw [HE.out] at hE
        obtain ⟨x, HX⟩ : ∃ x, Box (brD S K width dn em = x) := ⟨_, ⟨rfl⟩⟩
        have hBR : ∀ W, Laid S K W → _ := fun W hW => branch_any width dn em W hW
        rw [HX.out] at hBR
        refine held_take 0 (.int .i64 width) rfl (by kernel_rfl) (by kernel_rfl) (by kernel_rfl) (held_move (by rfl) (.tmp 0) rfl rfl) trivial ?_
        try simp only [Act.put, List.setIfInBounds_toArray, List.set_cons_zero, List.set_cons_succ]
        refine held_take 2 (.int .i64 width) rfl (by kernel_rfl) (by kernel_rfl) (by kernel_rfl) (held_move (by rfl) (.tmp 0) rfl rfl) trivial ?_
        try simp only [Act.put, List.setIfInBounds_toArray, List.set_cons_zero, List.set_cons_succ]
        refine held_take 3 (.int .i64 (j : Int)) rfl (by kernel_rfl) (by kernel_rfl) (by kernel_rfl) (held_move (by rfl) (.tmp 16) rfl rfl) trivial ?_
        try simp only [Act.put, List.setIfInBounds_toArray, List.set_cons_zero, List.set_cons_succ]
        refine held_step2 1 4 (by kernel_rfl) rfl rfl (by rfl) (by rfl) (fun K hK => ?_) (fun K hK => ?_)
        · skip
          refine oper_load32 24 (.tmp 15) rfl w2.heap.size 0 rfl dn 5 (rangeAt_block s15.out) U24 hi24 ?_
          refine hK.out _ _ trivial (fun _ => ?_)
          clear hK K
          try simp only [Act.put, List.setIfInBounds_toArray, List.set_cons_zero, List.set_cons_succ]
          refine held_step 4 (by kernel_rfl) rfl (by rfl) (fun K hK => ?_)
          go_simp
          refine (hE _ (HL.out.old b6)).mono ?_
          rintro e w7 ⟨rfl, hB7⟩
          dsimp only
          refine hK.out _ _ trivial (fun _ => ?_)
          clear hK K
          try simp only [Act.put, List.setIfInBounds_toArray, List.set_cons_zero, List.set_cons_succ]
          have b7 : Below w.heap.size w w7 := b6.trans (hB7.mono b6.size)
          have z7 : w6.heap.size ≤ w7.heap.size := hB7.size
          have t7 := Lib.hid (rangeAt_below s7.out hB7 (by omega))
          have t9 := Lib.hid (rangeAt_below s9.out hB7 (by omega))
          have t15 : Hid (w7.heap[w2.heap.size]? = some (.cells (dc dn) 24 (0, 0))) := (hB7.block _ (by omega)).trans s15.out
          refine held_step 5 (by kernel_rfl) rfl (by rfl) (fun K hK => ?_)
          go_simp
          refine (hBR _ (HL.out.old b7)).mono ?_
          rintro e w8 ⟨rfl, hB8⟩
          dsimp only
          refine hK.out _ _ trivial (fun _ => ?_)
          clear hK K
          try simp only [Act.put, List.setIfInBounds_toArray, List.set_cons_zero, List.set_cons_succ]
          have b8 : Below w.heap.size w w8 := b7.trans (hB8.mono b7.size)
          have z8 : w7.heap.size ≤ w8.heap.size := hB8.size
          have u7 := Lib.hid (rangeAt_below t7.out hB8 (by omega))
          have u9 := Lib.hid (rangeAt_below t9.out hB8 (by omega))
          have u15 : Hid (w8.heap[w2.heap.size]? = some (.cells (dc dn) 24 (0, 0))) := (hB8.block _ (by omega)).trans t15.out
          refine held_step 6 (by kernel_rfl) rfl (by rfl) (fun K hK => ?_)
          refine oper_store32 24 (.tmp 15) (.tmp 47) rfl w2.heap.size dn x 24 rfl rfl u15.out hi24 ?_
          intro w9 g9 G9
          refine hK.out _ _ trivial (fun _ => ?_)
          clear hK K
          try simp only [Act.put]
          refine held_done (by kernel_rfl) ?_ _
          go_wp2
          go_roundw
          case rel => exact ⟨j + 1, x, by omega, by omega, by omega, by go_num, ⟨by
              rw [show j + 1 - A = (j - A) + 1 by omega, climbN, ← hdn.out, show A + (j - A) = j by omega]
              unfold stepD
              rw [if_pos HBI.out, HE.out]
              exact HX.out.symm⟩, Lib.hid (rangeAt_grown u7.out G9 (by omega) (by simp; omega)), Lib.hid (rangeAt_grown u9.out G9 (by omega) (by simp; omega)), g9, b8.grown G9 b8.size (fun k hk => by cases hk; omega), by have := G9.size; omega⟩
          case measure => simp [intOf]; omega
        · skip
          go_simp
          refine (hE _ (HL.out.old b6)).mono ?_
          rintro e w7 ⟨rfl, hB7⟩
          dsimp only
          refine hK.out _ _ trivial (fun _ => ?_)
          clear hK K
          try simp only [Act.put, List.setIfInBounds_toArray, List.set_cons_zero, List.set_cons_succ]
          have b7 : Below w.heap.size w w7 := b6.trans (hB7.mono b6.size)
          have z7 : w6.heap.size ≤ w7.heap.size := hB7.size
          have t7 := Lib.hid (rangeAt_below s7.out hB7 (by omega))
          have t9 := Lib.hid (rangeAt_below s9.out hB7 (by omega))
          have t15 : Hid (w7.heap[w2.heap.size]? = some (.cells (dc dn) 24 (0, 0))) := (hB7.block _ (by omega)).trans s15.out
          refine held_step 1 (by kernel_rfl) rfl (by rfl) (fun K hK => ?_)
          refine oper_load32 24 (.tmp 15) rfl w2.heap.size 0 rfl dn 5 (rangeAt_block t15.out) U24 hi24 ?_
          refine hK.out _ _ trivial (fun _ => ?_)
          clear hK K
          try simp only [Act.put, List.setIfInBounds_toArray, List.set_cons_zero, List.set_cons_succ]
          refine held_step 5 (by kernel_rfl) rfl (by rfl) (fun K hK => ?_)
          go_simp
          refine (hBR _ (HL.out.old b7)).mono ?_
          rintro e w8 ⟨rfl, hB8⟩
          dsimp only
          refine hK.out _ _ trivial (fun _ => ?_)
          clear hK K
          try simp only [Act.put, List.setIfInBounds_toArray, List.set_cons_zero, List.set_cons_succ]
          have b8 : Below w.heap.size w w8 := b7.trans (hB8.mono b7.size)
          have z8 : w7.heap.size ≤ w8.heap.size := hB8.size
          have u7 := Lib.hid (rangeAt_below t7.out hB8 (by omega))
          have u9 := Lib.hid (rangeAt_below t9.out hB8 (by omega))
          have u15 : Hid (w8.heap[w2.heap.size]? = some (.cells (dc dn) 24 (0, 0))) := (hB8.block _ (by omega)).trans t15.out
          refine held_step 6 (by kernel_rfl) rfl (by rfl) (fun K hK => ?_)
          refine oper_store32 24 (.tmp 15) (.tmp 47) rfl w2.heap.size dn x 24 rfl rfl u15.out hi24 ?_
          intro w9 g9 G9
          refine hK.out _ _ trivial (fun _ => ?_)
          clear hK K
          try simp only [Act.put]
          refine held_done (by kernel_rfl) ?_ _
          go_wp2
          go_roundw
          case rel => exact ⟨j + 1, x, by omega, by omega, by omega, by go_num, ⟨by
              rw [show j + 1 - A = (j - A) + 1 by omega, climbN, ← hdn.out, show A + (j - A) = j by omega]
              unfold stepD
              rw [if_pos HBI.out, HE.out]
              exact HX.out.symm⟩, Lib.hid (rangeAt_grown u7.out G9 (by omega) (by simp; omega)), Lib.hid (rangeAt_grown u9.out G9 (by omega) (by simp; omega)), g9, b8.grown G9 b8.size (fun k hk => by cases hk; omega), by have := G9.size; omega⟩
          case measure => simp [intOf]; omega
      · have HBI : Box (¬ bitI k (255 - (j : Int)) = 0) := ⟨by rw [HT.out]; exact hbit⟩
        go_wp2_with (first
          | (refine wpList_load32 rfl 33 (.tmp 7) ?_ w.heap.size 0 ?_ k ?_ U33 hi33 ?_; rfl; rfl; exact r7.out)
          | (go_at_call 15; refine hbt.mono ?_))
        rintro e w6' ⟨rfl, hB6⟩
        have b6' : Below w.heap.size w w6' := br.trans (hB6.mono br.size)
        have z6' : wr.heap.size ≤ w6'.heap.size := hB6.size
        have s7' := Lib.hid (rangeAt_below r7.out hB6 (by omega))
        have s9' := Lib.hid (rangeAt_below r9.out hB6 (by omega))
        have s15' : Hid (w6'.heap[w2.heap.size]? = some (.cells (dc dn) 24 (0, 0))) := (hB6.block _ (by omega)).trans r15.out
        clear r7 r9 r15 hB6 hbt br
        go_wp2_with fail
        refine held_begin (fun _ => True) (by kernel_rfl) trivial (fun _ => ?_)
        generalize hw6 : w6'.drew = w6
        have b6 : Below w.heap.size w w6 := by rw [← hw6]; exact b6'.drew
        have z6 : wr.heap.size ≤ w6.heap.size := by rw [← hw6]; exact z6'
        have s7 : Hid (w6.rangeAt w.heap.size 0 (bvs k.1)) := by rw [← hw6]; exact s7'
        have s9 : Hid (w6.rangeAt (w.heap.size + 1) 0 (bvs d.1)) := by rw [← hw6]; exact s9'
        have s15 : Hid (w6.heap[w2.heap.size]? = some (.cells (dc dn) 24 (0, 0))) := by rw [← hw6]; exact s15'
        clear hw6 s7' s9' s15' b6' z6'
        obtain ⟨em, HE⟩ : ∃ em, Box (emD S K width j = em) := ⟨_, ⟨rfl⟩⟩
        have hE : ∀ W, Laid S K W → _ := fun W hW => HEM.out j (by omega) W hW
        rw [HE.out] at hE
        obtain ⟨x, HX⟩ : ∃ x, Box (brD S K width em dn = x) := ⟨_, ⟨rfl⟩⟩
        have hBR : ∀ W, Laid S K W → _ := fun W hW => branch_any width em dn W hW
        rw [HX.out] at hBR
        refine held_take 0 (.int .i64 width) rfl (by kernel_rfl) (by kernel_rfl) (by kernel_rfl) (held_move (by rfl) (.tmp 0) rfl rfl) trivial ?_
        try simp only [Act.put, List.setIfInBounds_toArray, List.set_cons_zero, List.set_cons_succ]
        refine held_take 1 (.int .i64 width) rfl (by kernel_rfl) (by kernel_rfl) (by kernel_rfl) (held_move (by rfl) (.tmp 0) rfl rfl) trivial ?_
        try simp only [Act.put, List.setIfInBounds_toArray, List.set_cons_zero, List.set_cons_succ]
        refine held_take 2 (.int .i64 (j : Int)) rfl (by kernel_rfl) (by kernel_rfl) (by kernel_rfl) (held_move (by rfl) (.tmp 16) rfl rfl) trivial ?_
        try simp only [Act.put, List.setIfInBounds_toArray, List.set_cons_zero, List.set_cons_succ]
        refine held_step2 3 4 (by kernel_rfl) rfl rfl (by rfl) (by rfl) (fun K hK => ?_) (fun K hK => ?_)
        · skip
          go_simp
          refine (hE _ (HL.out.old b6)).mono ?_
          rintro e w7 ⟨rfl, hB7⟩
          dsimp only
          refine hK.out _ _ trivial (fun _ => ?_)
          clear hK K
          try simp only [Act.put, List.setIfInBounds_toArray, List.set_cons_zero, List.set_cons_succ]
          have b7 : Below w.heap.size w w7 := b6.trans (hB7.mono b6.size)
          have z7 : w6.heap.size ≤ w7.heap.size := hB7.size
          have t7 := Lib.hid (rangeAt_below s7.out hB7 (by omega))
          have t9 := Lib.hid (rangeAt_below s9.out hB7 (by omega))
          have t15 : Hid (w7.heap[w2.heap.size]? = some (.cells (dc dn) 24 (0, 0))) := (hB7.block _ (by omega)).trans s15.out
          refine held_step 4 (by kernel_rfl) rfl (by rfl) (fun K hK => ?_)
          refine oper_load32 24 (.tmp 15) rfl w2.heap.size 0 rfl dn 5 (rangeAt_block t15.out) U24 hi24 ?_
          refine hK.out _ _ trivial (fun _ => ?_)
          clear hK K
          try simp only [Act.put, List.setIfInBounds_toArray, List.set_cons_zero, List.set_cons_succ]
          refine held_step 5 (by kernel_rfl) rfl (by rfl) (fun K hK => ?_)
          go_simp
          refine (hBR _ (HL.out.old b7)).mono ?_
          rintro e w8 ⟨rfl, hB8⟩
          dsimp only
          refine hK.out _ _ trivial (fun _ => ?_)
          clear hK K
          try simp only [Act.put, List.setIfInBounds_toArray, List.set_cons_zero, List.set_cons_succ]
          have b8 : Below w.heap.size w w8 := b7.trans (hB8.mono b7.size)
          have z8 : w7.heap.size ≤ w8.heap.size := hB8.size
          have u7 := Lib.hid (rangeAt_below t7.out hB8 (by omega))
          have u9 := Lib.hid (rangeAt_below t9.out hB8 (by omega))
          have u15 : Hid (w8.heap[w2.heap.size]? = some (.cells (dc dn) 24 (0, 0))) := (hB8.block _ (by omega)).trans t15.out
          refine held_step 6 (by kernel_rfl) rfl (by rfl) (fun K hK => ?_)
          refine oper_store32 24 (.tmp 15) (.tmp 53) rfl w2.heap.size dn x 24 rfl rfl u15.out hi24 ?_
          intro w9 g9 G9
          refine hK.out _ _ trivial (fun _ => ?_)
          clear hK K
          try simp only [Act.put]
          refine held_done (by kernel_rfl) ?_ _
          go_wp2
          go_roundw
          case rel => exact ⟨j + 1, x, by omega, by omega, by omega, by go_num, ⟨by
              rw [show j + 1 - A = (j - A) + 1 by omega, climbN, ← hdn.out, show A + (j - A) = j by omega]
              unfold stepD
              rw [if_neg HBI.out, HE.out]
              exact HX.out.symm⟩, Lib.hid (rangeAt_grown u7.out G9 (by omega) (by simp; omega)), Lib.hid (rangeAt_grown u9.out G9 (by omega) (by simp; omega)), g9, b8.grown G9 b8.size (fun k hk => by cases hk; omega), by have := G9.size; omega⟩
          case measure => simp [intOf]; omega
        · skip
          refine oper_load32 24 (.tmp 15) rfl w2.heap.size 0 rfl dn 5 (rangeAt_block s15.out) U24 hi24 ?_
          refine hK.out _ _ trivial (fun _ => ?_)
          clear hK K
          try simp only [Act.put, List.setIfInBounds_toArray, List.set_cons_zero, List.set_cons_succ]
          refine held_step 3 (by kernel_rfl) rfl (by rfl) (fun K hK => ?_)
          go_simp
          refine (hE _ (HL.out.old b6)).mono ?_
          rintro e w7 ⟨rfl, hB7⟩
          dsimp only
          refine hK.out _ _ trivial (fun _ => ?_)
          clear hK K
          try simp only [Act.put, List.setIfInBounds_toArray, List.set_cons_zero, List.set_cons_succ]
          have b7 : Below w.heap.size w w7 := b6.trans (hB7.mono b6.size)
          have z7 : w6.heap.size ≤ w7.heap.size := hB7.size
          have t7 := Lib.hid (rangeAt_below s7.out hB7 (by omega))
          have t9 := Lib.hid (rangeAt_below s9.out hB7 (by omega))
          have t15 : Hid (w7.heap[w2.heap.size]? = some (.cells (dc dn) 24 (0, 0))) := (hB7.block _ (by omega)).trans s15.out
          refine held_step 5 (by kernel_rfl) rfl (by rfl) (fun K hK => ?_)
          go_simp
          refine (hBR _ (HL.out.old b7)).mono ?_
          rintro e w8 ⟨rfl, hB8⟩
          dsimp only
          refine hK.out _ _ trivial (fun _ => ?_)
          clear hK K
          try simp only [Act.put, List.setIfInBounds_toArray, List.set_cons_zero, List.set_cons_succ]
          have b8 : Below w.heap.size w w8 := b7.trans (hB8.mono b7.size)
          have z8 : w7.heap.size ≤ w8.heap.size := hB8.size
          have u7 := Lib.hid (rangeAt_below t7.out hB8 (by omega))
          have u9 := Lib.hid (rangeAt_below t9.out hB8 (by omega))
          have u15 : Hid (w8.heap[w2.heap.size]? = some (.cells (dc dn) 24 (0, 0))) := (hB8.block _ (by omega)).trans t15.out
          refine held_step 6 (by kernel_rfl) rfl (by rfl) (fun K hK => ?_)
          refine oper_store32 24 (.tmp 15) (.tmp 53) rfl w2.heap.size dn x 24 rfl rfl u15.out hi24 ?_
          intro w9 g9 G9
          refine hK.out _ _ trivial (fun _ => ?_)
          clear hK K
          try simp only [Act.put]
          refine held_done (by kernel_rfl) ?_ _
          go_wp2
          go_roundw
          case rel => exact ⟨j + 1, x, by omega, by omega, by omega, by go_num, ⟨by
              rw [show j + 1 - A = (j - A) + 1 by omega, climbN, ← hdn.out, show A + (j - A) = j by omega]
              unfold stepD
              rw [if_neg HBI.out, HE.out]
              exact HX.out.symm⟩, Lib.hid (rangeAt_grown u7.out G9 (by omega) (by simp; omega)), Lib.hid (rangeAt_grown u9.out G9 (by omega) (by simp; omega)), g9, b8.grown G9 b8.size (fun k hk => by cases hk; omega), by have := G9.size; omega⟩
          case measure => simp [intOf]; omega
    · have hjC : j - A = C - A := by omega
      rw [hjC] at hdn
      clear hj1 hj2 hj3 hjC
      have q15 : wr.rangeAt w2.heap.size 0 (bvs dn.1) := rangeAt_block r15.out
      have hcl : ∀ W, Laid S K W → _ := fun W hW => HCL.out W hW
      rw [← hdn.out] at hcl
      have hkeep : ∀ W W', (fun W => W.rangeAt w.heap.size 0 (bvs k.1) ∧ W.rangeAt (w.heap.size + 1) 0 (bvs d.1) ∧ W.rangeAt w2.heap.size 0 (bvs dn.1) ∧ Below wr.heap.size wr W) W → Below W.heap.size W W' → (fun W => W.rangeAt w.heap.size 0 (bvs k.1) ∧ W.rangeAt (w.heap.size + 1) 0 (bvs d.1) ∧ W.rangeAt w2.heap.size 0 (bvs dn.1) ∧ Below wr.heap.size wr W) W' := fun W W' hS hB => by
        obtain ⟨q1, q2, q3, q4⟩ := hS
        have := q4.size
        exact ⟨rangeAt_below q1 hB (by omega), rangeAt_below q2 hB (by omega), rangeAt_below q3 hB (by omega), q4.trans (hB.mono q4.size)⟩
      have hlaid : ∀ W, (fun W => W.rangeAt w.heap.size 0 (bvs k.1) ∧ W.rangeAt (w.heap.size + 1) 0 (bvs d.1) ∧ W.rangeAt w2.heap.size 0 (bvs dn.1) ∧ Below wr.heap.size wr W) W → Laid S K W := fun W hS => HL.out.old (br.trans (hS.2.2.2.mono br.size))
      have hself : ∀ d : D32, ∀ W, (Op.equalIn 10000 24 (.agg (dc d)) (.agg (dc d))).run Tryd.prog W = .ok true W := fun d W => by rw [e30, ee]
      have hself' : ∀ d : D32, ∀ W, (Op.equalIn 10000 24 (.agg (dc d)) (.agg (dc d))).run Tryd.prog W = .ok (!false) W := hself
      clear ee e30
      go_wp2_with fail
      refine held_begin (fun W => W.rangeAt w.heap.size 0 (bvs k.1) ∧ W.rangeAt (w.heap.size + 1) 0 (bvs d.1) ∧ W.rangeAt w2.heap.size 0 (bvs dn.1) ∧ Below wr.heap.size wr W) (by kernel_rfl) ⟨r7.out, r9.out, q15, (Below.refl _ wr).drew⟩ (fun hH0 => ?_)
      refine held_take 0 (.int .i64 width) rfl (by kernel_rfl) (by kernel_rfl) (by kernel_rfl) (held_move (by rfl) (.tmp 0) rfl rfl) (by assumption) ?_
      try simp only [Act.put, List.setIfInBounds_toArray, List.set_cons_zero, List.set_cons_succ]
      refine held_take 1 (.agg (dc k)) rfl (by kernel_rfl) (by kernel_rfl) (by kernel_rfl) (held_load (by rfl) 33 (.tmp 7) rfl (w.heap.size) 0 rfl k 5 (fun W hS => hS.1) U33 hi33) (by assumption) ?_
      try simp only [Act.put, List.setIfInBounds_toArray, List.set_cons_zero, List.set_cons_succ]
      refine held_take 2 (.int .i64 a) rfl (by kernel_rfl) (by kernel_rfl) (by kernel_rfl) (held_move (by rfl) (.tmp 2) rfl rfl) (by assumption) ?_
      try simp only [Act.put, List.setIfInBounds_toArray, List.set_cons_zero, List.set_cons_succ]
      refine held_take 3 (.agg (dc d)) rfl (by kernel_rfl) (by kernel_rfl) (by kernel_rfl) (held_load (by rfl) 24 (.tmp 9) rfl (w.heap.size + 1) 0 rfl d 5 (fun W hS => hS.2.1) U24 hi24) (by assumption) ?_
      try simp only [Act.put, List.setIfInBounds_toArray, List.set_cons_zero, List.set_cons_succ]
      refine held_take 4 (.int .i64 b) rfl (by kernel_rfl) (by kernel_rfl) (by kernel_rfl) (held_move (by rfl) (.tmp 4) rfl rfl) (by assumption) ?_
      try simp only [Act.put, List.setIfInBounds_toArray, List.set_cons_zero, List.set_cons_succ]
      refine held_take 6 (.agg (dc dn)) rfl (by kernel_rfl) (by kernel_rfl) (by kernel_rfl) (held_load (by rfl) 24 (.tmp 15) rfl (w2.heap.size) 0 rfl dn 5 (fun W hS => hS.2.2.1) U24 hi24) (by assumption) ?_
      try simp only [Act.put, List.setIfInBounds_toArray, List.set_cons_zero, List.set_cons_succ]
      refine held_step 5 (by kernel_rfl) rfl (by rfl) (fun K hK => ?_)
      go_simp
      refine (hcl _ (hlaid _ hH0)).mono ?_
      rintro e W5 ⟨rfl, hB⟩
      dsimp only
      refine hK.out _ _ (hkeep _ _ hH0 hB) (fun hH5 => ?_)
      clear hK K
      try simp only [Act.put, List.setIfInBounds_toArray, List.set_cons_zero, List.set_cons_succ]
      refine held_take 7 (.bool false) rfl (by kernel_rfl) (by kernel_rfl) (by kernel_rfl) (held_neq (by rfl) 24 24 (.tmp 59) (.tmp 60) rfl dn dn false rfl rfl hgd30 (hself' dn)) (by assumption) ?_
      try simp only [Act.put, List.setIfInBounds_toArray, List.set_cons_zero, List.set_cons_succ]
      refine held_done (by kernel_rfl) ?_ _
      obtain ⟨q7, q9, q15', B5⟩ := hH5
      have b5 : Below w.heap.size w W5 := br.trans (B5.mono br.size)
      have z5 : wr.heap.size ≤ W5.heap.size := B5.size
      clear hkeep hlaid q15 r7 r9 r15 hB hH0
      by_cases hAC : C < A
      · go_wp2
        go_ret
        exact ⟨rfl, b5⟩
      · have hAC' : A ≤ C := by omega
        obtain ⟨hM1, hM2, hM3⟩ := HM.out hAC'
        have hlm : ∀ W, _ := fun W => HLM.out hAC' W
        rw [hM1] at hlm
        have hM6 : M ≤ 256 := by omega
        have hhf : ∀ W, Laid S K W → _ := fun W hW => HHA.out M hM6 W hW
        have hre : ∀ W, Laid S K W → _ := fun W hW => HRE.out M hM2 hM3 W hW
        rw [← hdn.out] at hre
        have heA : ∀ W, Laid S K W → _ := fun W hW => HEM.out A hA6 W hW
        have heC : ∀ W, Laid S K W → _ := fun W hW => HEM.out C hC6 W hW
        have hcE : ∀ W, Laid S K W → _ := fun W hW => HCE.out hAC' W hW
        generalize climbN S K width k A c0 (M - A) = hf at hhf hre
        generalize emD S K width A = eA at heA hcE
        generalize emD S K width C = eC at heC hcE
        clear hM1 HM HLM HHA HRE HEM HCE HCL hdn
        go_wp2_with (first
          | (go_at_call 7; refine (hlm _).mono ?_; rintro e w' ⟨rfl, rfl⟩)
          | (refine wpList_load32 rfl 33 (.tmp 7) ?_ w.heap.size 0 ?_ k ?_ U33 hi33 ?_; rfl; rfl; exact q7)
          | (refine wpList_load32 rfl 24 (.tmp 9) ?_ (w.heap.size + 1) 0 ?_ d ?_ U24 hi24 ?_; rfl; rfl; exact q9)
          | (go_at_call 14; refine (hhf _ (HL.out.old b5)).mono ?_))
        rintro e w5 ⟨rfl, hB5⟩
        have b6 : Below w.heap.size w w5 := b5.trans (hB5.mono b5.size)
        have z6 : W5.heap.size ≤ w5.heap.size := hB5.size
        have s7 := rangeAt_below q7 hB5 (by omega)
        have s15 := rangeAt_below q15' hB5 (by omega)
        clear q7 q9 q15' hB5 hhf hlm b5
        go_wp2_with (refine wpList_store_row rfl 24 (.tmp 18) (.tmp 74) ?_ w5.heap.size (dc zero32) (dc hf) 24 ?_ ?_ ?_ (hss _ _).out (hd32 _).out (dc_all _) ?_; rfl; rfl; rfl; exact heap_new rfl)
        intro w6 e18 E18
        have B6 : Below w5.heap.size w5 w6 := (Below.refl_alloc w5 _).grown E18 (by simp) (fun k hk => by cases hk; omega)
        have b7 : Below w.heap.size w w6 := b6.trans (B6.mono b6.size)
        have z7 : w5.heap.size + 1 ≤ w6.heap.size := by have := E18.size; simpa using this
        have t7 := rangeAt_below s7 B6 (by omega)
        have t15 := rangeAt_below s15 B6 (by omega)
        have t18 : w6.rangeAt w5.heap.size 0 (bvs hf.1) := rangeAt_block e18.out
        have hkeep : ∀ W W', (fun W => W.rangeAt w.heap.size 0 (bvs k.1) ∧ W.rangeAt w2.heap.size 0 (bvs dn.1) ∧ W.rangeAt w5.heap.size 0 (bvs hf.1) ∧ Below w6.heap.size w6 W) W → Below W.heap.size W W' → (fun W => W.rangeAt w.heap.size 0 (bvs k.1) ∧ W.rangeAt w2.heap.size 0 (bvs dn.1) ∧ W.rangeAt w5.heap.size 0 (bvs hf.1) ∧ Below w6.heap.size w6 W) W' := fun W W' hS hB => by
          obtain ⟨q1, q2, q3, q4⟩ := hS
          have := q4.size
          exact ⟨rangeAt_below q1 hB (by omega), rangeAt_below q2 hB (by omega), rangeAt_below q3 hB (by omega), q4.trans (hB.mono q4.size)⟩
        have hbase : ∀ W, (fun W => W.rangeAt w.heap.size 0 (bvs k.1) ∧ W.rangeAt w2.heap.size 0 (bvs dn.1) ∧ W.rangeAt w5.heap.size 0 (bvs hf.1) ∧ Below w6.heap.size w6 W) W → Below w.heap.size w W := fun W hS => b7.trans (hS.2.2.2.mono b7.size)
        have hlaid : ∀ W, (fun W => W.rangeAt w.heap.size 0 (bvs k.1) ∧ W.rangeAt w2.heap.size 0 (bvs dn.1) ∧ W.rangeAt w5.heap.size 0 (bvs hf.1) ∧ Below w6.heap.size w6 W) W → Laid S K W := fun W hS => HL.out.old (hbase W hS)
        go_wp2_with fail
        refine held_begin (fun W => W.rangeAt w.heap.size 0 (bvs k.1) ∧ W.rangeAt w2.heap.size 0 (bvs dn.1) ∧ W.rangeAt w5.heap.size 0 (bvs hf.1) ∧ Below w6.heap.size w6 W) (by kernel_rfl) ⟨t7, t15, t18, (Below.refl _ w6).drew⟩ (fun hH0 => ?_)
        refine held_take 0 (.int .i64 width) rfl (by kernel_rfl) (by kernel_rfl) (by kernel_rfl) (held_move (by rfl) (.tmp 0) rfl rfl) (by assumption) ?_
        try simp only [Act.put, List.setIfInBounds_toArray, List.set_cons_zero, List.set_cons_succ]
        refine held_take 1 (.agg (dc k)) rfl (by kernel_rfl) (by kernel_rfl) (by kernel_rfl) (held_load (by rfl) 33 (.tmp 7) rfl (w.heap.size) 0 rfl k 5 (fun W hS => hS.1) U33 hi33) (by assumption) ?_
        try simp only [Act.put, List.setIfInBounds_toArray, List.set_cons_zero, List.set_cons_succ]
        refine held_take 2 (.int .i64 (M : Int)) rfl (by kernel_rfl) (by kernel_rfl) (by kernel_rfl) (held_move (by rfl) (.tmp 17) rfl rfl) (by assumption) ?_
        try simp only [Act.put, List.setIfInBounds_toArray, List.set_cons_zero, List.set_cons_succ]
        refine held_take 3 (.agg (dc hf)) rfl (by kernel_rfl) (by kernel_rfl) (by kernel_rfl) (held_load (by rfl) 24 (.tmp 18) rfl (w5.heap.size) 0 rfl hf 5 (fun W hS => hS.2.2.1) U24 hi24) (by assumption) ?_
        try simp only [Act.put, List.setIfInBounds_toArray, List.set_cons_zero, List.set_cons_succ]
        refine held_take 4 (.int .i64 b) rfl (by kernel_rfl) (by kernel_rfl) (by kernel_rfl) (held_move (by rfl) (.tmp 4) rfl rfl) (by assumption) ?_
        try simp only [Act.put, List.setIfInBounds_toArray, List.set_cons_zero, List.set_cons_succ]
        refine held_take 6 (.agg (dc dn)) rfl (by kernel_rfl) (by kernel_rfl) (by kernel_rfl) (held_load (by rfl) 24 (.tmp 15) rfl (w2.heap.size) 0 rfl dn 5 (fun W hS => hS.2.1) U24 hi24) (by assumption) ?_
        try simp only [Act.put, List.setIfInBounds_toArray, List.set_cons_zero, List.set_cons_succ]
        refine held_step 5 (by kernel_rfl) rfl (by rfl) (fun K hK => ?_)
        go_simp
        refine (hre _ (hlaid _ hH0)).mono ?_
        rintro e W5 ⟨rfl, hB⟩
        dsimp only
        refine hK.out _ _ (hkeep _ _ hH0 hB) (fun hH5 => ?_)
        clear hK K
        try simp only [Act.put, List.setIfInBounds_toArray, List.set_cons_zero, List.set_cons_succ]
        refine held_take 7 (.bool true) rfl (by kernel_rfl) (by kernel_rfl) (by kernel_rfl) (held_eql (by rfl) 24 24 (.tmp 80) (.tmp 81) rfl dn dn true rfl rfl hgd30 (hself dn)) (by assumption) ?_
        try simp only [Act.put, List.setIfInBounds_toArray, List.set_cons_zero, List.set_cons_succ]
        refine held_take 8 (.bool true) rfl (by kernel_rfl) (by kernel_rfl) (by kernel_rfl) (held_move (by rfl) (.tmp 82) rfl rfl) (by assumption) ?_
        try simp only [Act.put, List.setIfInBounds_toArray, List.set_cons_zero, List.set_cons_succ]
        refine held_take 9 (.int .i64 width) rfl (by kernel_rfl) (by kernel_rfl) (by kernel_rfl) (held_move (by rfl) (.tmp 0) rfl rfl) (by assumption) ?_
        try simp only [Act.put, List.setIfInBounds_toArray, List.set_cons_zero, List.set_cons_succ]
        refine held_take 10 (.agg (dc k)) rfl (by kernel_rfl) (by kernel_rfl) (by kernel_rfl) (held_load (by rfl) 33 (.tmp 7) rfl (w.heap.size) 0 rfl k 5 (fun W hS => hS.1) U33 hi33) (by assumption) ?_
        try simp only [Act.put, List.setIfInBounds_toArray, List.set_cons_zero, List.set_cons_succ]
        refine held_take 11 (.int .i64 (A : Int)) rfl (by kernel_rfl) (by kernel_rfl) (by kernel_rfl) (held_move (by rfl) (.tmp 13) rfl rfl) (by assumption) ?_
        try simp only [Act.put, List.setIfInBounds_toArray, List.set_cons_zero, List.set_cons_succ]
        refine held_take 12 (.int .i64 width) rfl (by kernel_rfl) (by kernel_rfl) (by kernel_rfl) (held_move (by rfl) (.tmp 0) rfl rfl) (by assumption) ?_
        try simp only [Act.put, List.setIfInBounds_toArray, List.set_cons_zero, List.set_cons_succ]
        refine held_take 13 (.int .i64 (A : Int)) rfl (by kernel_rfl) (by kernel_rfl) (by kernel_rfl) (held_move (by rfl) (.tmp 13) rfl rfl) (by assumption) ?_
        try simp only [Act.put, List.setIfInBounds_toArray, List.set_cons_zero, List.set_cons_succ]
        refine held_take 15 (.int .i64 (C : Int)) rfl (by kernel_rfl) (by kernel_rfl) (by kernel_rfl) (held_move (by rfl) (.tmp 14) rfl rfl) (by assumption) ?_
        try simp only [Act.put, List.setIfInBounds_toArray, List.set_cons_zero, List.set_cons_succ]
        refine held_take 17 (.int .i64 width) rfl (by kernel_rfl) (by kernel_rfl) (by kernel_rfl) (held_move (by rfl) (.tmp 0) rfl rfl) (by assumption) ?_
        try simp only [Act.put, List.setIfInBounds_toArray, List.set_cons_zero, List.set_cons_succ]
        refine held_take 18 (.int .i64 (C : Int)) rfl (by kernel_rfl) (by kernel_rfl) (by kernel_rfl) (held_move (by rfl) (.tmp 14) rfl rfl) (by assumption) ?_
        try simp only [Act.put, List.setIfInBounds_toArray, List.set_cons_zero, List.set_cons_succ]
        refine held_step 14 (by kernel_rfl) rfl (by rfl) (fun K hK => ?_)
        go_simp
        refine (heA _ (hlaid _ hH5)).mono ?_
        rintro e W14 ⟨rfl, hB⟩
        dsimp only
        refine hK.out _ _ (hkeep _ _ hH5 hB) (fun hH14 => ?_)
        clear hK K
        try simp only [Act.put, List.setIfInBounds_toArray, List.set_cons_zero, List.set_cons_succ]
        refine held_step 16 (by kernel_rfl) rfl (by rfl) (fun K hK => ?_)
        go_simp
        refine (hcE _ (hlaid _ hH14)).mono ?_
        rintro e W16 ⟨rfl, hB⟩
        dsimp only
        refine hK.out _ _ (hkeep _ _ hH14 hB) (fun hH16 => ?_)
        clear hK K
        try simp only [Act.put, List.setIfInBounds_toArray, List.set_cons_zero, List.set_cons_succ]
        refine held_step 19 (by kernel_rfl) rfl (by rfl) (fun K hK => ?_)
        go_simp
        refine (heC _ (hlaid _ hH16)).mono ?_
        rintro e W19 ⟨rfl, hB⟩
        dsimp only
        refine hK.out _ _ (hkeep _ _ hH16 hB) (fun hH19 => ?_)
        clear hK K
        try simp only [Act.put, List.setIfInBounds_toArray, List.set_cons_zero, List.set_cons_succ]
        refine held_take 20 (.bool true) rfl (by kernel_rfl) (by kernel_rfl) (by kernel_rfl) (held_eql (by rfl) 24 24 (.tmp 91) (.tmp 94) rfl eC eC true rfl rfl hgd30 (hself eC)) (by assumption) ?_
        try simp only [Act.put, List.setIfInBounds_toArray, List.set_cons_zero, List.set_cons_succ]
        refine held_take 21 (.bool true) rfl (by kernel_rfl) (by kernel_rfl) (by kernel_rfl) (held_pure (by rfl) (fun W => by go_simp)) (by assumption) ?_
        try simp only [Act.put, List.setIfInBounds_toArray, List.set_cons_zero, List.set_cons_succ]
        refine held_take 22 (.bool true) rfl (by kernel_rfl) (by kernel_rfl) (by kernel_rfl) (held_pure (by rfl) (fun W => by go_simp)) (by assumption) ?_
        try simp only [Act.put, List.setIfInBounds_toArray, List.set_cons_zero, List.set_cons_succ]
        refine held_done (by kernel_rfl) ?_ _
        have hfin := hbase _ hH19
        go_wp2_with fail
        go_ret
        exact ⟨rfl, hfin⟩
end Go.Proofs.YtonpbmjgoenfdaaDoor
