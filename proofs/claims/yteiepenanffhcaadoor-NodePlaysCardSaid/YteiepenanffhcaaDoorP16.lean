/- Texts joined: REmpty, EmptiesLaw, Climb. -/
import Derived.Test.YteiepenanffhcaaDoorP15
import Derived.Test.YteiepenanffhcaaDoorP05
import Derived.Test.YteiepenanffhcaaDoorP06
import Derived.Test.YteiepenanffhcaaDoorP08
import Derived.Test.YteiepenanffhcaaDoorP09
import Derived.Test.YteiepenanffhcaaDoorP14
/- The reference's digest of an empty subtree: the walk of ledgerref9.Empty. -/
namespace Go.Proofs.YteiepenanffhcaaDoor
open Go Go.RowKit
set_option linter.unusedVariables false

set_option maxRecDepth 100000 in
set_option maxHeartbeats 1000000 in
theorem rempty_any {S : S8} {K : List UInt32} (width height : Int) (w : World) (hK : K.length = 64) (hL : LaidR S K w) :
    Calls Tryd.prog 33 #[.int .i64 width, .int .i64 height] w fun e w' => e = .returned (.agg (dc (emptyD S K width height))) ∧ Below w.heap.size w w' := by
  have hzd : ∀ W : World, (zeroValue 27).run Tryd.prog W = .ok (.agg (dc zero32)) W := fun W => by kernel_rfl
  have hds : ∀ d e : D32, Box ((dc d).size = (dc e).size) := fun d e => ⟨by rw [size_dc, size_dc]⟩
  have i24 : ∀ d : D32, Box ((Tryd.prog.info? 27).map (·.size) = some (dc d).size) := fun d => ⟨by rw [size_dc]; kernel_rfl⟩
  obtain ⟨H, hH⟩ : ∃ H : Nat, clamp height 0 256 = (H : Int) := ⟨(clamp height 0 256).toNat, by unfold clamp; omega⟩
  have hwi := Box.mk (fun W => lwithin_any height 0 256 W (by omega))
  unfold emptyD
  rw [hH] at hwi ⊢
  have hle := Box.mk (show H ≤ 256 by unfold clamp at hH; omega)
  clear hH
  rw [show ((H : Int)).toNat = H by omega]
  have hcut := Box.mk (fun (g : Nat) (W : World) (hW : Below w.heap.size w W) (hr : Row W (some ⟨g, 0, none⟩) 1 [2]) => rcut_any (S := S) (K := K) width (some ⟨g, 0, none⟩) 1 1 [2] W hK (hL.old hW) hr (by intro h; cases h) (by omega))
  obtain ⟨c0, hc0⟩ : ∃ d, cutD (sha S K [2]) width = d := ⟨_, rfl⟩
  rw [hc0] at hcut
  have h0 := Box.mk (show emD S K width 0 = c0 from hc0)
  have HL := Box.mk hL
  have HK := Box.mk hK
  clear hc0 hL hK
  go_enter Tryd.func33, Tryd.ntmps33
  go_upto_region 1 with fail
  refine wp_anyWorld (fun W => Box (W.heap[w.heap.size]? = some (.cells (dc zero32) 27 (0, 0))) ∧ Box (Below w.heap.size w W) ∧ Box (W.heap.size = w.heap.size + 1)) ⟨⟨heap_new rfl⟩, ⟨Below.refl_alloc w _⟩, ⟨by simp⟩⟩ ?_
  rintro W ⟨A0, B0, s0⟩
  go_wp2_with (go_at_call 46; refine (calls_box (hwi.out _)).mono ?_)
  rintro e w' ⟨⟨rfl, rfl⟩⟩
  clear hwi
  have hR := Box.mk (show Row (W.alloc (.cells #[.int .u8 2] 5)) (some ⟨W.heap.size, 0, none⟩) 1 [2] from Row.lit W #[.int .u8 2] 5 [2] rfl)
  have bA := Box.mk (B0.out.alloc B0.out.size (.cells #[.int .u8 2] 5))
  go_wp2_with (go_at_call 44; refine (calls_box (hcut.out _ _ bA.out hR.out)).mono ?_)
  rintro e w1 ⟨⟨rfl, hB⟩⟩
  have b1 := Box.mk (bA.out.trans (hB.mono bA.out.size))
  have q1 := Box.mk ((hB.block w.heap.size (by have := s0.out; simp; omega)).trans (heap_old (o := .cells #[.int .u8 2] 5) A0.out))
  clear hB hR bA A0 B0 hcut
  go_wp2_with ((with_reducible refine wpList_store_row ?_ 27 (.tmp 6) (.tmp 12) ?_ w1.heap.size (dc zero32) (dc c0) 27 ?_ ?_ ?_ (hds _ _).out (i24 _).out (dc_all _) ?_); rfl; rfl; rfl; rfl; exact heap_new rfl)
  intro w2 g2 G2
  have B12 : Below w1.heap.size w1 w2 := (Below.refl_alloc w1 _).grown G2 (by simp) (fun k hk => by cases hk; omega)
  have b2 := Box.mk (b1.out.trans (B12.mono b1.out.size))
  have q2 := Box.mk ((B12.block _ (heap_lt q1.out)).trans q1.out)
  have x2 := Box.mk (show w2.heap[w1.heap.size]? = some (.cells (dc c0) 27 (0, 0)) from g2.out)
  have hw01 := Box.mk (heap_lt q1.out)
  clear g2 G2 B12 b1 q1
  go_wp2
  go_loopw [7] (fun i wr => ∃ (k : Nat) (d : D32), k ≤ H ∧ i = .int .i64 k ∧ Box (d = emD S K width k) ∧ Box (wr.heap[w1.heap.size]? = some (.cells (dc d) 27 (0, 0))) ∧ Box (wr.heap[w.heap.size]? = some (.cells (dc zero32) 27 (0, 0))) ∧ Box (Below w.heap.size w wr)) (fun i _ => H - (intOf i).toNat)
  case atStart => exact ⟨0, c0, by omega, rfl, ⟨h0.out.symm⟩, x2, q2, b2⟩
  clear x2 q2 b2
  case round =>
    obtain ⟨k, d, hk, rfl, hd, xr, qr, br⟩ := hrel
    by_cases hlt : k < H
    · have hnx := Box.mk (show emD S K width (k + 1) = brD S K width d d by rw [hd.out, emD])
      have hbr := Box.mk (rbranch_any width d d wr HK.out (HL.out.old br.out))
      have hkh := Box.mk (show (k : Int) + 1 ≤ 257 by have := hle.out; omega)
      generalize brD S K width d d = b at *
      go_wp2_with (first
        | ((with_reducible refine arm_row 27 (.tmp 6) ?_ rfl w1.heap.size ?_ 27 (dc d) (0, 0) _ xr.out Tryd.underlying27 rfl (i24 _).out ?_); rfl; rfl)
        | (go_at_call 31; refine (calls_box hbr.out).mono ?_))
      rintro e w4 ⟨⟨rfl, hB5⟩⟩
      have b4 := Box.mk (br.out.trans (hB5.mono br.out.size))
      have q4 := Box.mk ((hB5.block _ (heap_lt qr.out)).trans qr.out)
      have x4 := Box.mk ((hB5.block _ (heap_lt xr.out)).trans xr.out)
      clear hB5 br qr xr hbr
      go_wp2_with ((with_reducible refine wpList_store_row ?_ 27 (.tmp 6) (.tmp 21) ?_ w1.heap.size (dc d) (dc b) 27 ?_ ?_ x4.out (hds _ _).out (i24 _).out (dc_all _) ?_); rfl; rfl; rfl; rfl)
      intro w5 g5 G5
      have b5 := Box.mk (b4.out.grown G5 b4.out.size (fun k hk => by cases hk; have := hw01.out; omega))
      have q5 := Box.mk ((G5.block _ (heap_lt q4.out) (by have := hw01.out; simp; omega)).trans q4.out)
      have x5 := Box.mk (show w5.heap[w1.heap.size]? = some (.cells (dc b) 27 (0, 0)) from g5.out)
      clear g5 G5 b4 q4 x4
      have hk0 := hkh.out
      go_wp2
      go_roundw
      case rel => exact ⟨k + 1, b, by omega, by go_num, ⟨hnx.out.symm⟩, x5, q5, b5⟩
      case measure => simp [intOf]; omega
    · have kH := Box.mk (show k = H by omega)
      go_wp2_with (first
        | ((with_reducible refine arm_row 27 (.tmp 6) ?_ rfl w1.heap.size ?_ 27 (dc d) (0, 0) _ xr.out Tryd.underlying27 rfl (i24 _).out ?_); rfl; rfl)
        | ((with_reducible refine wpList_store_row ?_ 27 (.tmp 4) (.tmp 22) ?_ w.heap.size (dc zero32) (dc d) 27 ?_ ?_ qr.out (hds _ _).out (i24 _).out (dc_all _) ?_); rfl; rfl; rfl; rfl))
      intro w8 g8 G8
      go_wp2
      exact bodyPost_ret (v := .agg (dc d)) (results_cell_row (p := 4) (ty := 27) rfl _ _ w.heap.size 27 _ (0, 0) _ rfl g8.out Tryd.underlying27 rfl (i24 _).out) rfl ⟨by rw [hd.out, kH.out], br.out.grown G8 br.out.size (fun k hk => by cases hk; omega)⟩
end Go.Proofs.YteiepenanffhcaaDoor

/- NodeEmpties: the walk of the law. -/
namespace Go.Proofs.YteiepenanffhcaaDoor
open Go Go.RowKit
set_option linter.unusedVariables false

theorem empties_each {S : S8} {K : List UInt32} {w : World} {o : OpV} (hA : Laid S K w) (hR : LaidR S K w) (hk : o.kind = 7) (W : World) (hb : Below w.heap.size w W) :
    Calls Tryd.prog 11 #[.agg (opC o).toArray] W fun e W' => e = .returned (.bool true) ∧ Below W.heap.size W W' := by
  have hA1 := hA.old hb
  have hR1 := hR.old hb
  exact plays_num7 o hk W fun o' hk' W' hW => numbersPlay_empty o' hk' W' (emptyD S K o'.w o'.n)
      (fun W2 h2 => empty_any o'.w o'.n W2 ((hA1.old hW).old h2)) (fun W2 h2 => rempty_any o'.w o'.n W2 hA.1 ((hR1.old hW).old h2))

set_option maxHeartbeats 800000 in
theorem empties_walk {S : S8} {K : List UInt32} (ao : Option Addr) (n c : Nat) (os : List OpV) (w : World) (h : Ops w ao n os) (mx : n ≤ 4611686018427387904) (hA : Laid S K w) (hR : LaidR S K w) :
    Calls Tryd.prog 7 #[.slice ao n c] w fun e w' => e = .returned (.bool true) ∧ Below w.heap.size w w' := by
  have hU := Box.mk (upTo_any 7 7 ao n c os w h mx fun o ho h1 h2 W hb => empties_each hA hR (by omega) W hb)
  clear h hA hR
  go_enter Tryd.func7, Tryd.ntmps7
  go_wp2_with (go_at_call 10; refine (calls_box hU.out).mono ?_)
  rintro e w1 ⟨⟨rfl, hB⟩⟩
  go_wp2
  go_ret
  exact ⟨rfl, hB⟩
end Go.Proofs.YteiepenanffhcaaDoor

/- Bits of keys and climbs: the walks of batch.Bit and node.Climb. -/
namespace Go.Proofs.YteiepenanffhcaaDoor
open Go Go.RowKit
set_option linter.unusedVariables false

/-- A bit of a key. -/
def bitI (k : D32) (i : Int) : Int := if 0 ≤ i ∧ i < 256 then (((k.1.getD (i.toNat / 8) 0).toNat / 2 ^ (7 - i.toNat % 8) % 2 : Nat) : Int) else 0
theorem bits7 : ∀ n : Fin 256, bits BinOp.and .i64 ((n.1 : Nat) : Int) 7 = ((n.1 % 8 : Nat) : Int) := by decide +kernel
theorem bits1 : ∀ n : Fin 256, bits BinOp.and .i64 ((n.1 : Nat) : Int) 1 = ((n.1 % 2 : Nat) : Int) := by decide +kernel

set_option maxRecDepth 100000 in
set_option maxHeartbeats 800000 in
theorem bit_any (k : D32) (i : Int) (w : World) :
    Calls Tryd.prog 47 #[.agg (dc k), .int .i64 i] w fun e w' => e = .returned (.int .i64 (bitI k i)) ∧ Below w.heap.size w w' := by
  by_cases h1 : i < 0
  · go_enter Tryd.func47, Tryd.ntmps47
    go_wp2
    go_ret
    exact ⟨ret_int (by unfold bitI; rw [if_neg (by omega)]), Below.refl_alloc w _⟩
  · by_cases h2 : 256 ≤ i
    · go_enter Tryd.func47, Tryd.ntmps47
      go_wp2
      go_ret
      exact ⟨ret_int (by unfold bitI; rw [if_neg (by omega)]), Below.refl_alloc w _⟩
    · obtain ⟨n, rfl⟩ : ∃ n : Nat, i = (n : Int) := ⟨i.toNat, by omega⟩
      have hk : (dc k)[n / 8]? = some (bv (k.1.getD (n / 8) 0)) := by
        have h3 : n / 8 < k.1.length := by rw [k.2]; omega
        rw [← Array.getElem?_toList, dc_toList, bvs_getElem?, List.getElem?_eq_getElem h3]
        simp [List.getD, List.getElem?_eq_getElem h3]
      have hb : bitI k (n : Int) = (((k.1.getD (n / 8) 0).toNat / 2 ^ (7 - n % 8) % 2 : Nat) : Int) := by unfold bitI; rw [if_pos (by omega)]; rfl
      rw [hb]
      clear hb
      generalize k.1.getD (n / 8) 0 = x at hk ⊢
      have hb7 : bits BinOp.and .i64 ((n : Nat) : Int) 7 = ((n % 8 : Nat) : Int) := bits7 ⟨n, by omega⟩
      obtain ⟨m, hm⟩ : ∃ m : Nat, 7 - n % 8 = m := ⟨_, rfl⟩
      have hw7 : wrap64 (7 - ((n % 8 : Nat) : Int)) = (m : Int) := by unfold wrap64; omega
      have hm7 : m ≤ 7 := by omega
      have hlt : x.toNat / 2 ^ m < 256 := Nat.lt_of_le_of_lt (Nat.div_le_self _ _) x.toNat_lt
      have hb1 : bits BinOp.and .i64 ((x.toNat / 2 ^ m : Nat) : Int) 1 = ((x.toNat / 2 ^ m % 2 : Nat) : Int) := bits1 ⟨_, hlt⟩
      rw [hm]
      have hy : wrap64 ((x.toNat : Int) / 2 ^ m) = ((x.toNat / 2 ^ m : Nat) : Int) := by
        have h5 : ((x.toNat : Int) / 2 ^ m) = ((x.toNat / 2 ^ m : Nat) : Int) := by push_cast; rfl
        rw [h5]
        clear h5 hb1
        generalize x.toNat / 2 ^ m = y at hlt ⊢
        unfold wrap64; omega
      have HY := Lib.hid hy
      clear hy
      generalize x.toNat / 2 ^ m = y at HY hlt hb1 ⊢
      generalize hq : n % 8 = q at hb7 hw7
      clear hq hm
      have hk' : (dc k)[n / 8]? = some (.int .u8 (x.toNat : Int)) := hk
      have hx := x.toNat_lt
      clear hk
      go_enter Tryd.func47, Tryd.ntmps47
      go_wp2
      go_ret
      exact ⟨ret_int (by rw [HY.out]; exact hb1), Below.refl_alloc w _⟩

/-- One step of a climb from a height: beside the empty subtree, on the side that the key's bit leaves free. -/
def stepD (S : S8) (K : List UInt32) (width : Int) (k : D32) (h : Nat) (d : D32) : D32 :=
  if bitI k (255 - h) = 0 then brD S K width d (emD S K width h) else brD S K width (emD S K width h) d
/-- So many steps. -/
def climbN (S : S8) (K : List UInt32) (width : Int) (k : D32) (low : Nat) (d : D32) : Nat → D32
  | 0 => d
  | n + 1 => stepD S K width k (low + n) (climbN S K width k low d n)
/-- The digest that a subtree has further up on a key's path. -/
def climbD (S : S8) (K : List UInt32) (width : Int) (k : D32) (a : Int) (d : D32) (b : Int) : D32 :=
  climbN S K width k (clamp a 0 256).toNat (cutD d width) ((clamp b 0 256).toNat - (clamp a 0 256).toNat)

set_option maxRecDepth 100000 in
set_option maxHeartbeats 800000 in
theorem climb_any {S : S8} {K : List UInt32} (width : Int) (k : D32) (a : Int) (d : D32) (b : Int) (w : World) (hL : Laid S K w) :
    Calls Tryd.prog 34 #[.int .i64 width, .agg (dc k), .int .i64 a, .agg (dc d), .int .i64 b] w fun e w' => e = .returned (.agg (dc (climbD S K width k a d b))) ∧ Below w.heap.size w w' := by
  have hi33 : Hid ((Tryd.prog.info? 26).map (·.size) = some 32) := by unfold Hid; kernel_rfl
  have hi24 : Hid ((Tryd.prog.info? 27).map (·.size) = some 32) := by unfold Hid; kernel_rfl
  have hzd : ∀ W : World, (zeroValue 27).run Tryd.prog W = .ok (.agg (dc zero32)) W := fun W => by kernel_rfl
  have hd32 : ∀ d : D32, Box ((Tryd.prog.info? 27).map (·.size) = some (dc d).size) := fun d => ⟨by rw [size_dc]; exact hi24.out⟩
  have hss : ∀ d e : D32, Box ((dc d).size = (dc e).size) := fun d e => ⟨by rw [size_dc, size_dc]⟩
  obtain ⟨A, hA⟩ : ∃ A : Nat, clamp a 0 256 = (A : Int) := ⟨(clamp a 0 256).toNat, by unfold clamp; omega⟩
  obtain ⟨B, hB⟩ : ∃ B : Nat, clamp b 0 256 = (B : Int) := ⟨(clamp b 0 256).toNat, by unfold clamp; omega⟩
  have hwa : ∀ W, _ := fun W => within_any a 0 256 W
  have hwb : ∀ W, _ := fun W => within_any b 0 256 W
  have hcut : ∀ W, _ := fun W => cut_any d width W
  unfold climbD
  rw [hA] at hwa ⊢
  rw [hB] at hwb ⊢
  have hA6 : A ≤ 256 := by unfold clamp at hA; omega
  have hB6 : B ≤ 256 := by unfold clamp at hB; omega
  rw [show ((A : Int)).toNat = A by omega, show ((B : Int)).toNat = B by omega]
  clear hA hB
  generalize cutD d width = c at hcut ⊢
  go_enter Tryd.func34, Tryd.ntmps34
  have hB0 : Below w.heap.size w (((w.alloc (.cells (dc k) 26)).alloc (.cells (dc d) 27)).alloc (.cells (dc zero32) 27)) := ((Below.refl_alloc w _).alloc (by simp) _).alloc (by simp; omega) _
  have f6 : (((w.alloc (.cells (dc k) 26)).alloc (.cells (dc d) 27)).alloc (.cells (dc zero32) 27)).rangeAt w.heap.size 0 (bvs k.1) := rangeAt_block (heap_old (heap_old (heap_new rfl)))
  have f8 : (((w.alloc (.cells (dc k) 26)).alloc (.cells (dc d) 27)).alloc (.cells (dc zero32) 27)).heap[w.heap.size + 1]? = some (.cells (dc d) 27 (0, 0)) := heap_old (heap_new (by simp))
  have f10 : (((w.alloc (.cells (dc k) 26)).alloc (.cells (dc d) 27)).alloc (.cells (dc zero32) 27)).heap[w.heap.size + 1 + 1]? = some (.cells (dc zero32) 27 (0, 0)) := heap_new (by simp)
  have F8 := Lib.hid f8
  have F10 := Lib.hid f10
  have F6 := Lib.hid f6
  clear f8 f10 f6
  go_wp2_with (first
    | (refine wpList_load32 rfl 27 (.tmp 8) ?_ (w.heap.size + 1) 0 ?_ d ?_ Tryd.underlying27 hi24 ?_; rfl; rfl; exact rangeAt_block F8.out)
    | (go_at_call 42; refine (hcut _).mono ?_))
  rintro e w1 ⟨rfl, hB1⟩
  have b1 : Below w.heap.size w w1 := hB0.trans (hB1.mono hB0.size)
  have z1 : w.heap.size + 3 ≤ w1.heap.size := by have := hB1.size; simpa using this
  have G6 := Lib.hid (rangeAt_below F6.out hB1 (by simp; omega))
  have G8 : Hid (w1.heap[w.heap.size + 1]? = some (.cells (dc d) 27 (0, 0))) := (hB1.block _ (by simp)).trans F8.out
  have G10 : Hid (w1.heap[w.heap.size + 1 + 1]? = some (.cells (dc zero32) 27 (0, 0))) := (hB1.block _ (by simp)).trans F10.out
  clear F6 F8 F10 hB1 hB0 hcut
  go_wp2_with (refine wpList_store_row rfl 27 (.tmp 8) (.tmp 17) ?_ (w.heap.size + 1) (dc d) (dc c) 27 ?_ ?_ ?_ (hss _ _).out (hd32 _).out (dc_all _) ?_; rfl; rfl; rfl; exact G8.out)
  intro w2 e8 E8
  have b2 : Below w.heap.size w w2 := b1.grown E8 b1.size (fun k hk => by cases hk; omega)
  have z2 : w.heap.size + 3 ≤ w2.heap.size := Nat.le_trans z1 E8.size
  have F10 : Hid (w2.heap[w.heap.size + 1 + 1]? = some (.cells (dc zero32) 27 (0, 0))) := (E8.block _ (by omega) (by simp)).trans G10.out
  have F6 : Hid (w2.rangeAt w.heap.size 0 (bvs k.1)) := Lib.hid (rangeAt_grown G6.out E8 (by omega) (by simp))
  clear G6 G8 G10 E8 b1
  by_cases hAB : B ≤ A
  · go_wp2_with (first
      | (go_at_call_of 45 (Value.int IntKind.i64 a); refine (hwa _).mono ?_; rintro e w' ⟨rfl, rfl⟩)
      | (go_at_call_of 45 (Value.int IntKind.i64 b); refine (hwb _).mono ?_; rintro e w' ⟨rfl, rfl⟩)
      | (refine wpList_load32 rfl 27 (.tmp 8) ?_ (w.heap.size + 1) 0 ?_ c ?_ Tryd.underlying27 hi24 ?_; rfl; rfl; exact rangeAt_block e8.out)
      | (refine wpList_store_row rfl 27 (.tmp 10) (.tmp 25) ?_ (w.heap.size + 1 + 1) (dc zero32) (dc c) 27 ?_ ?_ ?_ (hss _ _).out (hd32 _).out (dc_all _) ?_; rfl; rfl; rfl; exact F10.out))
    intro w3 e10 E10
    go_wp2
    exact bodyPost_ret (v := .agg (dc c)) (results_cell_row (p := 10) (ty := 27) rfl _ _ (w.heap.size + 1 + 1) 27 _ (0, 0) _ rfl e10.out Tryd.underlying27 rfl (hd32 c).out) rfl ⟨by rw [Nat.sub_eq_zero_of_le hAB]; rfl, b2.grown E10 b2.size (fun k hk => by cases hk; omega)⟩
  · have hemp : ∀ W, Laid S K W → _ := fun W hW => empty_any width (A : Int) W hW
    rw [show emptyD S K width (A : Int) = emD S K width A by unfold emptyD; rw [show clamp (A : Int) 0 256 = (A : Int) by unfold clamp; omega]; rfl] at hemp
    obtain ⟨m0, hm0⟩ : ∃ x, emD S K width A = x := ⟨_, rfl⟩
    rw [hm0] at hemp
    have HM0 : Box (emD S K width A = m0) := ⟨hm0⟩
    clear hm0
    go_wp2_with (first
      | (go_at_call_of 45 (Value.int IntKind.i64 a); refine (hwa _).mono ?_; rintro e w' ⟨rfl, rfl⟩)
      | (go_at_call_of 45 (Value.int IntKind.i64 b); refine (hwb _).mono ?_; rintro e w' ⟨rfl, rfl⟩)
      | (go_at_call 32; refine (hemp _ (hL.old b2)).mono ?_))
    rintro e w3 ⟨rfl, hB3⟩
    have b3 : Below w.heap.size w w3 := b2.trans (hB3.mono b2.size)
    have z3 : w2.heap.size ≤ w3.heap.size := hB3.size
    have G6 := Lib.hid (rangeAt_below F6.out hB3 (by omega))
    have G8 : Hid (w3.heap[w.heap.size + 1]? = some (.cells (dc c) 27 (0, 0))) := (hB3.block _ (by omega)).trans e8.out
    have G10 : Hid (w3.heap[w.heap.size + 1 + 1]? = some (.cells (dc zero32) 27 (0, 0))) := (hB3.block _ (by omega)).trans F10.out
    clear F6 e8 F10 hB3 hemp
    go_wp2_with (refine wpList_store_row rfl 27 (.tmp 13) (.tmp 28) ?_ w3.heap.size (dc zero32) (dc m0) 27 ?_ ?_ ?_ (hss _ _).out (hd32 _).out (dc_all _) ?_; rfl; rfl; rfl; exact heap_new rfl)
    intro w4 e13 E13
    have B4 : Below w3.heap.size w3 w4 := (Below.refl_alloc w3 _).grown E13 (by simp) (fun k hk => by cases hk; omega)
    have b4 : Below w.heap.size w w4 := b3.trans (B4.mono b3.size)
    have z4 : w3.heap.size + 1 ≤ w4.heap.size := by have := E13.size; simpa using this
    have F6 := Lib.hid (rangeAt_below G6.out B4 (by omega))
    have F8 : Hid (w4.heap[w.heap.size + 1]? = some (.cells (dc c) 27 (0, 0))) := (B4.block _ (by omega)).trans G8.out
    have F10 : Hid (w4.heap[w.heap.size + 1 + 1]? = some (.cells (dc zero32) 27 (0, 0))) := (B4.block _ (by omega)).trans G10.out
    clear G6 G8 G10 B4 E13 b3 hwa hwb
    go_wp2_with fail
    go_loopw [14] (fun i wr => ∃ (j : Nat) (dn mn : D32), A ≤ j ∧ j ≤ B ∧ i = .int .i64 j ∧ Box (dn = climbN S K width k A c (j - A)) ∧ Box (mn = emD S K width j) ∧ Hid (wr.rangeAt w.heap.size 0 (bvs k.1)) ∧
      Hid (wr.heap[w.heap.size + 1]? = some (.cells (dc dn) 27 (0, 0))) ∧ Hid (wr.heap[w.heap.size + 1 + 1]? = some (.cells (dc zero32) 27 (0, 0))) ∧
      Hid (wr.heap[w3.heap.size]? = some (.cells (dc mn) 27 (0, 0))) ∧ Below w.heap.size w wr ∧ w3.heap.size < wr.heap.size) (fun i _ => B - (intOf i).toNat)
    case atStart => exact ⟨A, c, m0, by omega, by omega, rfl, ⟨by rw [Nat.sub_self]; rfl⟩, ⟨HM0.out.symm⟩, F6, F8, F10, e13, b4, by omega⟩
    case round =>
      obtain ⟨j, dn, mn, hj1, hj2, rfl, hdn, hmn, r6, r8, r10, r13, br, zr⟩ := hrel
      by_cases hlt : j < B
      · have hbt := bit_any k (255 - (j : Int)) wr
        by_cases hbit : bitI k (255 - (j : Int)) = 0
        · rw [hbit] at hbt
          go_wp2_with (first
            | (refine wpList_load32 rfl 26 (.tmp 6) ?_ w.heap.size 0 ?_ k ?_ Tryd.underlying26 hi33 ?_; rfl; rfl; exact r6.out)
            | (go_at_call 47; refine hbt.mono ?_))
          rintro e w5 ⟨rfl, hB5⟩
          have b5 : Below w.heap.size w w5 := br.trans (hB5.mono br.size)
          have z5 : wr.heap.size ≤ w5.heap.size := hB5.size
          have s6 := Lib.hid (rangeAt_below r6.out hB5 (by omega))
          have s8 : Hid (w5.heap[w.heap.size + 1]? = some (.cells (dc dn) 27 (0, 0))) := (hB5.block _ (by omega)).trans r8.out
          have s10 : Hid (w5.heap[w.heap.size + 1 + 1]? = some (.cells (dc zero32) 27 (0, 0))) := (hB5.block _ (by omega)).trans r10.out
          have s13 : Hid (w5.heap[w3.heap.size]? = some (.cells (dc mn) 27 (0, 0))) := (hB5.block _ (by omega)).trans r13.out
          clear r6 r8 r10 r13 hB5 hbt br
          have hbr := branch_any width dn mn w5 (hL.old b5)
          obtain ⟨x, hx⟩ : ∃ x, brD S K width dn mn = x := ⟨_, rfl⟩
          rw [hx] at hbr
          have HX : Box (climbN S K width k A c (j + 1 - A) = x) := ⟨by
            rw [show j + 1 - A = (j - A) + 1 by omega, climbN, ← hdn.out, show A + (j - A) = j by omega]
            unfold stepD
            rw [if_pos hbit, ← hmn.out]
            exact hx⟩
          clear hx
          go_wp2_with (first
            | (refine wpList_load32 rfl 27 (.tmp 8) ?_ (w.heap.size + 1) 0 ?_ dn ?_ Tryd.underlying27 hi24 ?_; rfl; rfl; exact rangeAt_block s8.out)
            | (refine wpList_load32 rfl 27 (.tmp 13) ?_ w3.heap.size 0 ?_ mn ?_ Tryd.underlying27 hi24 ?_; rfl; rfl; exact rangeAt_block s13.out)
            | (go_at_call 30; refine hbr.mono ?_))
          rintro e w6 ⟨rfl, hB6⟩
          have b6 : Below w.heap.size w w6 := b5.trans (hB6.mono b5.size)
          have z6 : w5.heap.size ≤ w6.heap.size := hB6.size
          have r6 := Lib.hid (rangeAt_below s6.out hB6 (by omega))
          have r8 : Hid (w6.heap[w.heap.size + 1]? = some (.cells (dc dn) 27 (0, 0))) := (hB6.block _ (by omega)).trans s8.out
          have r10 : Hid (w6.heap[w.heap.size + 1 + 1]? = some (.cells (dc zero32) 27 (0, 0))) := (hB6.block _ (by omega)).trans s10.out
          have r13 : Hid (w6.heap[w3.heap.size]? = some (.cells (dc mn) 27 (0, 0))) := (hB6.block _ (by omega)).trans s13.out
          clear s6 s8 s10 s13 hB6 hbr b5
          go_wp2_with (refine wpList_store_row rfl 27 (.tmp 8) (.tmp 43) ?_ (w.heap.size + 1) (dc dn) (dc x) 27 ?_ ?_ r8.out (hss _ _).out (hd32 _).out (dc_all _) ?_; rfl; rfl; rfl)
          intro w7 e7 E7
          have b7 : Below w.heap.size w w7 := b6.grown E7 b6.size (fun k hk => by cases hk; omega)
          have z7 : w6.heap.size ≤ w7.heap.size := E7.size
          have s6 := Lib.hid (rangeAt_grown r6.out E7 (by omega) (by simp))
          have s10 : Hid (w7.heap[w.heap.size + 1 + 1]? = some (.cells (dc zero32) 27 (0, 0))) := (E7.block _ (by omega) (by simp)).trans r10.out
          have s13 : Hid (w7.heap[w3.heap.size]? = some (.cells (dc mn) 27 (0, 0))) := (E7.block _ (by omega) (by simp; omega)).trans r13.out
          clear r6 r8 r10 r13 E7 b6
          have hbr := branch_any width mn mn w7 (hL.old b7)
          obtain ⟨y, hy⟩ : ∃ y, brD S K width mn mn = y := ⟨_, rfl⟩
          rw [hy] at hbr
          have HY : Box (emD S K width (j + 1) = y) := ⟨by rw [emD, ← hmn.out]; exact hy⟩
          clear hy
          go_wp2_with (first
            | (refine wpList_load32 rfl 27 (.tmp 13) ?_ w3.heap.size 0 ?_ mn ?_ Tryd.underlying27 hi24 ?_; rfl; rfl; exact rangeAt_block s13.out)
            | (go_at_call 30; refine hbr.mono ?_))
          rintro e w8 ⟨rfl, hB8⟩
          have b8 : Below w.heap.size w w8 := b7.trans (hB8.mono b7.size)
          have z8 : w7.heap.size ≤ w8.heap.size := hB8.size
          have r6 := Lib.hid (rangeAt_below s6.out hB8 (by omega))
          have r8 : Hid (w8.heap[w.heap.size + 1]? = some (.cells (dc x) 27 (0, 0))) := (hB8.block _ (by omega)).trans e7.out
          have r10 : Hid (w8.heap[w.heap.size + 1 + 1]? = some (.cells (dc zero32) 27 (0, 0))) := (hB8.block _ (by omega)).trans s10.out
          have r13 : Hid (w8.heap[w3.heap.size]? = some (.cells (dc mn) 27 (0, 0))) := (hB8.block _ (by omega)).trans s13.out
          clear s6 s10 s13 hB8 hbr b7 e7
          go_wp2_with (refine wpList_store_row rfl 27 (.tmp 13) (.tmp 51) ?_ w3.heap.size (dc mn) (dc y) 27 ?_ ?_ r13.out (hss _ _).out (hd32 _).out (dc_all _) ?_; rfl; rfl; rfl)
          intro w9 e9 E9
          have b9 : Below w.heap.size w w9 := b8.grown E9 b8.size (fun k hk => by cases hk; omega)
          have z9 : w8.heap.size ≤ w9.heap.size := E9.size
          have t6 := Lib.hid (rangeAt_grown r6.out E9 (by omega) (by simp; omega))
          have t8 : Hid (w9.heap[w.heap.size + 1]? = some (.cells (dc x) 27 (0, 0))) := (E9.block _ (by omega) (by simp; omega)).trans r8.out
          have t10 : Hid (w9.heap[w.heap.size + 1 + 1]? = some (.cells (dc zero32) 27 (0, 0))) := (E9.block _ (by omega) (by simp; omega)).trans r10.out
          clear r6 r8 r10 r13 E9 b8
          go_wp2
          go_roundw
          case rel => exact ⟨j + 1, x, y, by omega, by omega, by go_num, ⟨HX.out.symm⟩, ⟨HY.out.symm⟩, t6, t8, t10, e9, b9, by omega⟩
          case measure => simp [intOf]; omega
        · have HBI : Box (¬ bitI k (255 - (j : Int)) = 0) := ⟨hbit⟩
          obtain ⟨t, ht⟩ : ∃ t, bitI k (255 - (j : Int)) = t := ⟨_, rfl⟩
          have hbit' : ¬ t = 0 := by rw [← ht]; exact hbit
          rw [ht] at hbt
          clear ht hbit
          go_wp2_with (first
            | (refine wpList_load32 rfl 26 (.tmp 6) ?_ w.heap.size 0 ?_ k ?_ Tryd.underlying26 hi33 ?_; rfl; rfl; exact r6.out)
            | (go_at_call 47; refine hbt.mono ?_))
          rintro e w5 ⟨rfl, hB5⟩
          have b5 : Below w.heap.size w w5 := br.trans (hB5.mono br.size)
          have z5 : wr.heap.size ≤ w5.heap.size := hB5.size
          have s6 := Lib.hid (rangeAt_below r6.out hB5 (by omega))
          have s8 : Hid (w5.heap[w.heap.size + 1]? = some (.cells (dc dn) 27 (0, 0))) := (hB5.block _ (by omega)).trans r8.out
          have s10 : Hid (w5.heap[w.heap.size + 1 + 1]? = some (.cells (dc zero32) 27 (0, 0))) := (hB5.block _ (by omega)).trans r10.out
          have s13 : Hid (w5.heap[w3.heap.size]? = some (.cells (dc mn) 27 (0, 0))) := (hB5.block _ (by omega)).trans r13.out
          clear r6 r8 r10 r13 hB5 hbt br
          have hbr := branch_any width mn dn w5 (hL.old b5)
          obtain ⟨x, hx⟩ : ∃ x, brD S K width mn dn = x := ⟨_, rfl⟩
          rw [hx] at hbr
          have HX : Box (climbN S K width k A c (j + 1 - A) = x) := ⟨by
            rw [show j + 1 - A = (j - A) + 1 by omega, climbN, ← hdn.out, show A + (j - A) = j by omega]
            unfold stepD
            rw [if_neg HBI.out, ← hmn.out]
            exact hx⟩
          clear hx
          go_wp2_with (first
            | (refine wpList_load32 rfl 27 (.tmp 8) ?_ (w.heap.size + 1) 0 ?_ dn ?_ Tryd.underlying27 hi24 ?_; rfl; rfl; exact rangeAt_block s8.out)
            | (refine wpList_load32 rfl 27 (.tmp 13) ?_ w3.heap.size 0 ?_ mn ?_ Tryd.underlying27 hi24 ?_; rfl; rfl; exact rangeAt_block s13.out)
            | (go_at_call 30; refine hbr.mono ?_))
          rintro e w6 ⟨rfl, hB6⟩
          have b6 : Below w.heap.size w w6 := b5.trans (hB6.mono b5.size)
          have z6 : w5.heap.size ≤ w6.heap.size := hB6.size
          have r6 := Lib.hid (rangeAt_below s6.out hB6 (by omega))
          have r8 : Hid (w6.heap[w.heap.size + 1]? = some (.cells (dc dn) 27 (0, 0))) := (hB6.block _ (by omega)).trans s8.out
          have r10 : Hid (w6.heap[w.heap.size + 1 + 1]? = some (.cells (dc zero32) 27 (0, 0))) := (hB6.block _ (by omega)).trans s10.out
          have r13 : Hid (w6.heap[w3.heap.size]? = some (.cells (dc mn) 27 (0, 0))) := (hB6.block _ (by omega)).trans s13.out
          clear s6 s8 s10 s13 hB6 hbr b5
          go_wp2_with (refine wpList_store_row rfl 27 (.tmp 8) (.tmp 47) ?_ (w.heap.size + 1) (dc dn) (dc x) 27 ?_ ?_ r8.out (hss _ _).out (hd32 _).out (dc_all _) ?_; rfl; rfl; rfl)
          intro w7 e7 E7
          have b7 : Below w.heap.size w w7 := b6.grown E7 b6.size (fun k hk => by cases hk; omega)
          have z7 : w6.heap.size ≤ w7.heap.size := E7.size
          have s6 := Lib.hid (rangeAt_grown r6.out E7 (by omega) (by simp))
          have s10 : Hid (w7.heap[w.heap.size + 1 + 1]? = some (.cells (dc zero32) 27 (0, 0))) := (E7.block _ (by omega) (by simp)).trans r10.out
          have s13 : Hid (w7.heap[w3.heap.size]? = some (.cells (dc mn) 27 (0, 0))) := (E7.block _ (by omega) (by simp; omega)).trans r13.out
          clear r6 r8 r10 r13 E7 b6
          have hbr := branch_any width mn mn w7 (hL.old b7)
          obtain ⟨y, hy⟩ : ∃ y, brD S K width mn mn = y := ⟨_, rfl⟩
          rw [hy] at hbr
          have HY : Box (emD S K width (j + 1) = y) := ⟨by rw [emD, ← hmn.out]; exact hy⟩
          clear hy
          go_wp2_with (first
            | (refine wpList_load32 rfl 27 (.tmp 13) ?_ w3.heap.size 0 ?_ mn ?_ Tryd.underlying27 hi24 ?_; rfl; rfl; exact rangeAt_block s13.out)
            | (go_at_call 30; refine hbr.mono ?_))
          rintro e w8 ⟨rfl, hB8⟩
          have b8 : Below w.heap.size w w8 := b7.trans (hB8.mono b7.size)
          have z8 : w7.heap.size ≤ w8.heap.size := hB8.size
          have r6 := Lib.hid (rangeAt_below s6.out hB8 (by omega))
          have r8 : Hid (w8.heap[w.heap.size + 1]? = some (.cells (dc x) 27 (0, 0))) := (hB8.block _ (by omega)).trans e7.out
          have r10 : Hid (w8.heap[w.heap.size + 1 + 1]? = some (.cells (dc zero32) 27 (0, 0))) := (hB8.block _ (by omega)).trans s10.out
          have r13 : Hid (w8.heap[w3.heap.size]? = some (.cells (dc mn) 27 (0, 0))) := (hB8.block _ (by omega)).trans s13.out
          clear s6 s10 s13 hB8 hbr b7 e7
          go_wp2_with (refine wpList_store_row rfl 27 (.tmp 13) (.tmp 51) ?_ w3.heap.size (dc mn) (dc y) 27 ?_ ?_ r13.out (hss _ _).out (hd32 _).out (dc_all _) ?_; rfl; rfl; rfl)
          intro w9 e9 E9
          have b9 : Below w.heap.size w w9 := b8.grown E9 b8.size (fun k hk => by cases hk; omega)
          have z9 : w8.heap.size ≤ w9.heap.size := E9.size
          have t6 := Lib.hid (rangeAt_grown r6.out E9 (by omega) (by simp; omega))
          have t8 : Hid (w9.heap[w.heap.size + 1]? = some (.cells (dc x) 27 (0, 0))) := (E9.block _ (by omega) (by simp; omega)).trans r8.out
          have t10 : Hid (w9.heap[w.heap.size + 1 + 1]? = some (.cells (dc zero32) 27 (0, 0))) := (E9.block _ (by omega) (by simp; omega)).trans r10.out
          clear r6 r8 r10 r13 E9 b8
          go_wp2
          go_roundw
          case rel => exact ⟨j + 1, x, y, by omega, by omega, by go_num, ⟨HX.out.symm⟩, ⟨HY.out.symm⟩, t6, t8, t10, e9, b9, by omega⟩
          case measure => simp [intOf]; omega
      · have hjB : j = B := by omega
        subst hjB
        go_wp2_with (first
          | (refine wpList_load32 rfl 27 (.tmp 8) ?_ (w.heap.size + 1) 0 ?_ dn ?_ Tryd.underlying27 hi24 ?_; rfl; rfl; exact rangeAt_block r8.out)
          | (refine wpList_store_row rfl 27 (.tmp 10) (.tmp 52) ?_ (w.heap.size + 1 + 1) (dc zero32) (dc dn) 27 ?_ ?_ r10.out (hss _ _).out (hd32 _).out (dc_all _) ?_; rfl; rfl; rfl))
        intro w5 g5 G5
        go_wp2
        exact bodyPost_ret (v := .agg (dc dn)) (results_cell_row (p := 10) (ty := 27) rfl _ _ (w.heap.size + 1 + 1) 27 _ (0, 0) _ rfl g5.out Tryd.underlying27 rfl (hd32 dn).out) rfl ⟨by rw [hdn.out], br.grown G5 br.size (fun k hk => by cases hk; omega)⟩
end Go.Proofs.YteiepenanffhcaaDoor
