/- The reference's climbs: the walks of ledgerref9.bit, Empties, ClimbWith, Climb. -/
import Derived.Test.YteiepenanffhcaaDoorRTree
import Derived.Test.YteiepenanffhcaaDoorClimb
import Derived.Test.YteiepenanffhcaaDoorOwnD
namespace Go.Proofs.YteiepenanffhcaaDoor
open Go Go.RowKit
set_option linter.unusedVariables false

set_option maxRecDepth 100000 in
set_option maxHeartbeats 1000000 in
theorem rbit_any (k : D32) (i : Nat) (hi : i < 256) (w : World) :
    Calls Tryd.prog 58 #[.agg (dc k), .int .i64 i] w fun e w' => e = .returned (.int .i64 (bitI k i)) ∧ Below w.heap.size w w' := by
  have hB : bitI k i = (((k.1.getD (i / 8) 0).toNat / 2 ^ (7 - i % 8) % 2 : Nat) : Int) := by
    unfold bitI
    rw [if_pos (by omega), Int.toNat_natCast]
  have hk32 := k.2
  have hcell : (w.alloc (.cells (dc k) 26)).cell? ⟨w.heap.size, i / 8, none⟩ = some (.int .u8 ((k.1.getD (i / 8) 0).toNat : Int)) := by
    rw [cell_d32 (heap_new rfl) (i / 8) (by omega)]
    simp [List.getD, List.getElem?_eq_getElem (show i / 8 < k.1.length by omega)]
  rw [hB]
  have hb256 := (k.1.getD (i / 8) 0).toNat_lt
  generalize (k.1.getD (i / 8) 0).toNat = B at *
  clear hB hk32
  have f0 : (0 : Int) ≤ (i : Int) / 8 := by omega
  have f1 : (i : Int) / 8 < 32 := by omega
  have f2 : ((i : Int) / 8).toNat = i / 8 := by omega
  have B0 := Box.mk (Below.refl_alloc w (.cells (dc k) 26))
  go_enter Tryd.func58, Tryd.ntmps58
  go_wp2
  clear hcell f0 f1 f2
  go_loopw [5, 6] (fun v j wr => ∃ n : Nat, i % 8 ≤ n ∧ n ≤ 7 ∧ j = .int .i64 n ∧ v = .int .i64 ((B / 2 ^ (n - i % 8) : Nat) : Int) ∧ Box (Below w.heap.size w wr)) (fun _ j _ => 7 - (intOf j).toNat)
  case atStart => exact ⟨i % 8, by omega, by omega, by simp, by simp, B0⟩
  case round =>
    obtain ⟨n, hn1, hn2, rfl, rfl, br⟩ := hrel
    have hq : B / 2 ^ (n - i % 8) ≤ B := Nat.div_le_self _ _
    by_cases hlt : n < 7
    · have hs := Box.mk (show B / 2 ^ (n + 1 - i % 8) = B / 2 ^ (n - i % 8) / 2 by rw [show n + 1 - i % 8 = (n - i % 8) + 1 by omega, Nat.pow_succ, Nat.div_div_eq_div_mul])
      generalize B / 2 ^ (n - i % 8) = Q at *
      go_wp2
      go_roundw
      case rel => exact ⟨n + 1, by omega, by omega, by go_num, by rw [hs.out]; go_num, br⟩
      case measure => simp [intOf]; omega
    · obtain rfl : n = 7 := by omega
      rw [show ((7 : Nat) : Int) = 7 from rfl]
      obtain ⟨Q, hQ⟩ : ∃ Q, B / 2 ^ (7 - i % 8) = Q := ⟨_, rfl⟩
      have HQ := Box.mk hQ
      rw [hQ] at hq ⊢
      clear hQ
      go_wp2
      go_ret
      exact ⟨ret_int (by rw [HQ.out]; omega), br.out⟩

theorem ownD_base {w : World} {a b : Nat} {e : TypeId} {v : Value} {ds : List D32} (h : OwnD w b e v ds) (hab : a ≤ b) : OwnD w a e v ds := by
  obtain ⟨hl, h⟩ := h
  refine ⟨hl, ?_⟩
  rcases h with h | ⟨g, cap, cur, rfl, h1, h2⟩
  · exact .inl h
  · exact .inr ⟨g, cap, cur, rfl, Nat.le_trans hab h1, h2⟩
/-- The digests of the empty subtrees of the first n heights. -/
def emDs (S : S8) (K : List UInt32) (width : Int) (n : Nat) : List D32 := (List.range n).map (emD S K width)
theorem length_emDs (S : S8) (K : List UInt32) (width : Int) (n : Nat) : (emDs S K width n).length = n := by simp [emDs]
theorem emDs_succ (S : S8) (K : List UInt32) (width : Int) (n : Nat) : emDs S K width (n + 1) = emDs S K width n ++ [emD S K width n] := by simp [emDs, List.range_succ]

set_option maxRecDepth 100000 in
set_option maxHeartbeats 2000000 in
theorem rempties_any {S : S8} {K : List UInt32} (width : Int) (w : World) (hK : K.length = 64) (hL : LaidR S K w) :
    Calls Tryd.prog 48 #[.int .i64 width] w fun e w' => (∃ v, e = .returned v ∧ OwnD w' w.heap.size 27 v (emDs S K width 257)) ∧ Below w.heap.size w w' := by
  have hzd : ∀ W : World, (zeroValue 27).run Tryd.prog W = .ok (.agg (dc zero32)) W := fun W => by kernel_rfl
  have hds : ∀ d e : D32, Box ((dc d).size = (dc e).size) := fun d e => ⟨by rw [size_dc, size_dc]⟩
  have i24 : ∀ d : D32, Box ((Tryd.prog.info? 27).map (·.size) = some (dc d).size) := fun d => ⟨by rw [size_dc]; kernel_rfl⟩
  have U26 : Tryd.prog.underlying 69 = some (.slice 27) := Tryd.underlying69
  have I24 : (Tryd.prog.info? 27).map (fun i => (i.zero, i.size, i.bytes)) = some (some (.agg (dc zero32)), 32, 32) := by kernel_rfl
  have hcut := Box.mk (fun (g : Nat) (W : World) (hW : Below w.heap.size w W) (hr : Row W (some ⟨g, 0, none⟩) 1 [2]) => rcut_any (S := S) (K := K) width (some ⟨g, 0, none⟩) 1 1 [2] W hK (hL.old hW) hr (by intro h; cases h) (by omega))
  obtain ⟨c0, hc0⟩ : ∃ d, cutD (sha S K [2]) width = d := ⟨_, rfl⟩
  rw [hc0] at hcut
  have h0 := Box.mk (show emD S K width 0 = c0 from hc0)
  have HL := Box.mk hL
  have HK := Box.mk hK
  have hR := Box.mk (show Row (w.alloc (.cells #[.int .u8 2] 5)) (some ⟨w.heap.size, 0, none⟩) 1 [2] from Row.lit w #[.int .u8 2] 5 [2] rfl)
  have bA := Box.mk (Below.refl_alloc w (.cells #[.int .u8 2] 5))
  clear hc0 hL hK
  go_enter Tryd.func48, Tryd.ntmps48
  go_wp2_with (go_at_call 44; refine (calls_box (hcut.out _ _ bA.out hR.out)).mono ?_)
  rintro e w1 ⟨⟨rfl, hB⟩⟩
  have b1 := Box.mk (bA.out.trans (hB.mono bA.out.size))
  clear hB hR bA hcut
  go_wp2_with ((with_reducible refine wpList_store_row ?_ 27 (.tmp 3) (.tmp 8) ?_ w1.heap.size (dc zero32) (dc c0) 27 ?_ ?_ ?_ (hds _ _).out (i24 _).out (dc_all _) ?_); rfl; rfl; rfl; rfl; exact heap_new rfl)
  intro w2 g2 G2
  have B12 : Below w1.heap.size w1 w2 := (Below.refl_alloc w1 _).grown G2 (by simp) (fun k hk => by cases hk; omega)
  have b2 := Box.mk (b1.out.trans (B12.mono b1.out.size))
  have x2 := Box.mk (show w2.heap[w1.heap.size]? = some (.cells (dc c0) 27 (0, 0)) from g2.out)
  have hw01 := Box.mk b1.out.size
  clear g2 G2 B12 b1
  have o2 := Box.mk (OwnD.lit w2 w2.heap.size 27 c0 (Nat.le_refl _))
  have b3 := Box.mk (b2.out.alloc b2.out.size (.cells (dc c0) 27))
  have x3 := Box.mk (heap_old (o := .cells (dc c0) 27) x2.out)
  go_wp2_with (first
    | ((with_reducible refine arm_row 27 (.tmp 3) ?_ rfl w1.heap.size ?_ 27 (dc c0) (0, 0) _ x2.out Tryd.underlying27 rfl (i24 _).out ?_); rfl; rfl)
    | ((with_reducible refine wpList_lit32 rfl 69 27 (.tmp 9) ?_ c0 ?_ U26 I24 ?_); rfl; rfl))
  have hne2 := Box.mk (heap_lt x2.out)
  have hw2 := Box.mk (show w2.heap.size ≤ (w2.alloc (.cells (dc c0) 27)).heap.size by simp)
  have o3 := Box.mk (show OwnD (w2.alloc (.cells (dc c0) 27)) w2.heap.size 27 (.slice (some ⟨w2.heap.size, 0, none⟩) 1 1) (emDs S K width 1) by rw [show emDs S K width 1 = [c0] by rw [← h0.out]; rfl]; exact o2.out)
  clear o2 x2 b2
  generalize w2.alloc (.cells (dc c0) 27) = w3 at *
  go_loopw [4, 5] (fun v i wr => ∃ (k : Nat) (d : D32), k ≤ 256 ∧ i = .int .i64 k ∧ Box (d = emD S K width k) ∧ Box (wr.heap[w1.heap.size]? = some (.cells (dc d) 27 (0, 0))) ∧ Box (OwnD wr w2.heap.size 27 v (emDs S K width (k + 1))) ∧ Box (Below w.heap.size w wr) ∧ Box (w2.heap.size ≤ wr.heap.size)) (fun _ i _ => 256 - (intOf i).toNat)
  case atStart => exact ⟨0, c0, Nat.zero_le _, rfl, ⟨h0.out.symm⟩, x3, o3, b3, hw2⟩
  clear x3 o3 b3 hw2
  case round =>
    obtain ⟨k, d, hk, rfl, hd, xr, ow, br, sr⟩ := hrel
    by_cases hlt : k < 256
    · have hnx := Box.mk (show emD S K width (k + 1) = brD S K width d d by rw [hd.out, emD])
      have hbr := Box.mk (rbranch_any width d d wr HK.out (HL.out.old br.out))
      have hl := Box.mk (length_emDs S K width (k + 1))
      have hsu := Box.mk (show emDs S K width (k + 1 + 1) = emDs S K width (k + 1) ++ [brD S K width d d] by rw [emDs_succ S K width (k + 1), hnx.out])
      generalize brD S K width d d = b at *
      generalize emDs S K width (k + 1) = ds at *
      go_wp2_with (first
        | ((with_reducible refine arm_row 27 (.tmp 3) ?_ rfl w1.heap.size ?_ 27 (dc d) (0, 0) _ xr.out Tryd.underlying27 rfl (i24 _).out ?_); rfl; rfl)
        | (go_at_call 31; refine (calls_box hbr.out).mono ?_))
      rintro e w4 ⟨⟨rfl, hB5⟩⟩
      have b4 := Box.mk (br.out.trans (hB5.mono br.out.size))
      have o4 := Box.mk (ow.out.below hB5)
      have x4 := Box.mk ((hB5.block _ (heap_lt xr.out)).trans xr.out)
      have s4 := Box.mk (Nat.le_trans sr.out hB5.size)
      clear hB5 br ow xr hbr sr
      go_wp2_with ((with_reducible refine wpList_store_row ?_ 27 (.tmp 3) (.tmp 18) ?_ w1.heap.size (dc d) (dc b) 27 ?_ ?_ x4.out (hds _ _).out (i24 _).out (dc_all _) ?_); rfl; rfl; rfl; rfl)
      intro w5 g5 G5
      have b5 := Box.mk (b4.out.grown G5 b4.out.size (fun k hk => by cases hk; have := hw01.out; omega))
      have o5 := Box.mk (o4.out.grown G5 (by intro hx; have := (o4.out.block _ hx).1; have := hne2.out; omega))
      have x5 := Box.mk (show w5.heap[w1.heap.size]? = some (.cells (dc b) 27 (0, 0)) from g5.out)
      have s5 := Box.mk (Nat.le_trans s4.out G5.size)
      clear g5 G5 b4 o4 x4 s4
      have o6 := Box.mk (o5.out.below (Below.refl_alloc w5 (.cells (dc b) 27)))
      have b6 := Box.mk (b5.out.alloc b5.out.size (.cells (dc b) 27))
      have x6 := Box.mk (heap_old (o := .cells (dc b) 27) x5.out)
      have r6 := Box.mk (show (w5.alloc (.cells (dc b) 27)).rangeAt w5.heap.size 0 (bvs b.1) from rangeAt_block (heap_new rfl))
      have s6 := Box.mk (show w2.heap.size ≤ (w5.alloc (.cells (dc b) 27)).heap.size by have := s5.out; simp; omega)
      have hl5 := Box.mk (show ds.length ≤ 2097152 by rw [hl.out]; omega)
      go_wp2_with (first
        | ((with_reducible refine arm_row 27 (.tmp 3) ?_ rfl w1.heap.size ?_ 27 (dc b) (0, 0) _ x5.out Tryd.underlying27 rfl (i24 _).out ?_); rfl; rfl)
        | ((with_reducible refine wpList_lit32 rfl 69 27 (.tmp 20) ?_ b ?_ U26 I24 ?_); rfl; rfl)
        | ((with_reducible refine wpList_append_d32 rfl (.tmp 19) (.tmp 21) 69 27 ?_ U26 I24 w2.heap.size _ ds ?_ o6.out w5.heap.size 1 b ?_ r6.out hl5.out s6.out ?_); rfl; rfl; rfl))
      intro v' w7 own7 G7
      have b7 := Box.mk (b6.out.grown G7 b6.out.size (fun g hg => by have := (o6.out.block g hg).1; have := hne2.out; have := hw01.out; omega))
      have x7 := Box.mk ((G7.block _ (heap_lt x6.out) (by intro hx; have := (o6.out.block _ hx.symm).1; have := hne2.out; omega)).trans x6.out)
      have o7 := Box.mk own7
      have s7 := Box.mk (Nat.le_trans s6.out G7.size)
      clear own7 G7 b5 o5 x5 s5 o6 b6 x6 r6 s6
      go_wp2
      go_roundw
      case rel => exact ⟨k + 1, b, by omega, by go_num, ⟨hnx.out.symm⟩, x7, ⟨by rw [hsu.out]; exact o7.out⟩, b7, s7⟩
      case measure => simp [intOf]; omega
    · obtain rfl : k = 256 := by omega
      rw [show ((256 : Nat) : Int) = 256 from rfl]
      have o8 := Box.mk (show OwnD wr w.heap.size _ _ (emDs S K width 257) from ownD_base ow.out (by have := hne2.out; have := hw01.out; omega))
      clear ow xr
      go_wp2
      go_ret
      exact ⟨⟨_, rfl, o8.out⟩, br.out⟩
end Go.Proofs.YteiepenanffhcaaDoor
