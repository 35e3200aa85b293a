/- The reference's digests: the walks of ledgerref1.Cut and of ledgerref9's cut, Leaf, Branch, Empty. -/
import Derived.Test.YteiepenanffhcaaDoorRSum
import Derived.Test.YteiepenanffhcaaDoorRefText
namespace Go.Proofs.YteiepenanffhcaaDoor
open Go Go.RowKit
set_option linter.unusedVariables false

theorem own_nilR {w : World} {base : Nat} {e : TypeId} {ao : Option Addr} {n c : Nat} {l : List UInt8} (h : Own w base e (.slice ao n c) l) : ao = none → n = 0 ∧ c = 0 := by
  intro hx
  subst hx
  rcases h with ⟨_, ⟨hv, h0⟩ | ⟨g, cap, cur, hv, _⟩⟩
  · have := Value.slice.inj hv; exact ⟨this.2.1, this.2.2⟩
  · cases hv
/-- A digest of which the places from c up to k are zeros. -/
def cutK (d : List UInt8) (c k : Nat) : List UInt8 := d.take (min c k) ++ List.replicate (k - c) 0 ++ d.drop k
theorem length_cutK (d : List UInt8) (c k : Nat) (hk : k ≤ d.length) : (cutK d c k).length = d.length := by
  simp [cutK]; omega
theorem cutK_low (d : List UInt8) (c k : Nat) (h : k ≤ c) : cutK d c k = d := by
  unfold cutK
  rw [Nat.min_eq_right h, Nat.sub_eq_zero_of_le h]; simp
theorem cutK_set (d : List UInt8) (c k : Nat) (h : c ≤ k) (hk : k < d.length) : (cutK d c k).set k 0 = cutK d c (k + 1) := by
  unfold cutK
  rw [Nat.min_eq_left h, Nat.min_eq_left (by omega), List.set_append_right _ _ (by simp; omega)]
  rw [show k + 1 - c = (k - c) + 1 by omega, List.replicate_succ', List.append_assoc, List.append_assoc, List.append_assoc]
  congr 2
  rw [show (k - (d.take c ++ List.replicate (k - c) (0 : UInt8)).length) = 0 by simp; omega]
  rw [List.drop_eq_getElem_cons hk]
  rfl

set_option maxRecDepth 100000 in
set_option maxHeartbeats 1000000 in
theorem rcut1_any (d : D32) (width : Int) (w : World) :
    Calls Tryd.prog 57 #[.agg (dc d), .int .i64 width] w fun e w' => e = .returned (.agg (dc (cutD d width))) ∧ Below w.heap.size w w' := by
  have hzd : ∀ W : World, (zeroValue 27).run Tryd.prog W = .ok (.agg (dc zero32)) W := fun W => by kernel_rfl
  have hi5 : Box ((Tryd.prog.info? 5).map (·.size) = some 1) := ⟨by kernel_rfl⟩
  obtain ⟨D, hD⟩ : ∃ D, cutD d width = D := ⟨_, rfl⟩
  have HD := Box.mk (show D.1 = cutK d.1 (wid width) 32 by
    rw [← hD]
    show d.1.take (wid width) ++ List.replicate (32 - wid width) 0 = _
    unfold cutK
    rw [Nat.min_eq_left (wid_le width), List.drop_of_length_le (by rw [d.2]; omega), List.append_nil])
  have hc1 : ∀ k : Nat, k < 32 → ((width ≤ (k : Int)) ↔ wid width ≤ k) := fun k hk => by unfold wid clamp; omega
  have HC := Box.mk hc1
  have h32 := Box.mk d.2
  rw [hD]
  generalize wid width = c at *
  clear hD hc1
  go_enter Tryd.func57, Tryd.ntmps57
  go_upto_region 1 with fail
  refine wp_anyWorld (fun W => Box (W.heap[w.heap.size]? = some (.cells (bvs (cutK d.1 c 0)).toArray 27 (0, 0))) ∧ Box (W.heap[w.heap.size + 1]? = some (.cells (dc zero32) 27 (0, 0))) ∧ Box (Below w.heap.size w W))
    ⟨⟨by rw [cutK_low d.1 c 0 (Nat.zero_le _)]; exact heap_old (heap_new rfl)⟩, ⟨heap_new (by simp)⟩, ⟨(Below.refl_alloc w _).alloc (by simp) _⟩⟩ ?_
  rintro W ⟨A0, A1, B0⟩
  go_wp2
  go_loopw [5] (fun i wr => ∃ k : Nat, k ≤ 32 ∧ i = .int .i64 k ∧ Box (wr.heap[w.heap.size]? = some (.cells (bvs (cutK d.1 c k)).toArray 27 (0, 0))) ∧ Box (wr.heap[w.heap.size + 1]? = some (.cells (dc zero32) 27 (0, 0))) ∧ Box (Below w.heap.size w wr)) (fun i _ => 32 - (intOf i).toNat)
  case atStart => exact ⟨0, Nat.zero_le _, rfl, A0, A1, B0⟩
  clear A0 A1 B0
  case round =>
    obtain ⟨k, hk, rfl, xr, qr, br⟩ := hrel
    by_cases hlt : k < 32
    · have hlen := Box.mk (length_cutK d.1 c k (by rw [h32.out]; omega))
      have k0 : (0 : Int) ≤ (k : Int) := by omega
      have k1 : (k : Int) < 32 := by omega
      rcases Int.lt_or_le (k : Int) width with hw | hw
      · have hs := Box.mk (show cutK d.1 c k = cutK d.1 c (k + 1) by
          have := (HC.out k hlt)
          rw [cutK_low _ _ _ (by omega), cutK_low _ _ _ (by omega)])
        go_wp2
        go_roundw
        case rel => exact ⟨k + 1, by omega, by go_num, ⟨by rw [← hs.out]; exact xr.out⟩, qr, br⟩
        case measure => simp [intOf]; omega
      · have cX := bvs_cell xr.out (i := k) (by rw [hlen.out, h32.out]; exact hlt)
        have zX := frozen_of_row _ w.heap.size k _ 27 xr.out
        have hs := Box.mk (cutK_set d.1 c k ((HC.out k hlt).1 hw) (by rw [h32.out]; exact hlt))
        go_wp2_with (refine wpList_store_int rfl 5 (.tmp 14) (.const (.int .u8 0)) rfl ⟨w.heap.size, k, none⟩ (bv 0) rfl rfl ⟨_, _, rfl⟩ hi5.out ⟨_, cX⟩ zX ?_)
        have x2 := bvs_set 0 xr.out (i := k)
        rw [hs.out] at x2
        have X2 := Box.mk x2
        clear x2 cX zX
        go_wp2
        go_roundw
        case rel => exact ⟨k + 1, by omega, by go_num, X2, ⟨(heap_setCell_other _ _ _ _ (by simp)).trans qr.out⟩, ⟨br.out.setCell (by simp) _⟩⟩
        case measure => simp [intOf]; omega
    · obtain rfl : k = 32 := by omega
      rw [show ((32 : Nat) : Int) = 32 from rfl]
      have xD := Box.mk (show wr.heap[w.heap.size]? = some (.cells (dc D) 27 (0, 0)) by show _ = some (Obj.cells (bvs D.1).toArray _ _); rw [HD.out]; exact xr.out)
      have i24 : Box ((Tryd.prog.info? 27).map (·.size) = some (dc D).size) := ⟨by rw [size_dc]; kernel_rfl⟩
      have hds : Box ((dc zero32).size = (dc D).size) := ⟨by rw [size_dc, size_dc]⟩
      clear HD xr
      go_wp2_with (first
        | ((with_reducible refine arm_row 27 (.tmp 2) ?_ rfl w.heap.size ?_ 27 (dc D) (0, 0) _ xD.out Tryd.underlying27 rfl i24.out ?_); rfl; rfl)
        | ((with_reducible refine wpList_store_row ?_ 27 (.tmp 4) (.tmp 15) ?_ (w.heap.size + 1) (dc zero32) (dc D) 27 ?_ ?_ qr.out hds.out i24.out (dc_all _) ?_); rfl; rfl; rfl; rfl))
      intro w8 g8 G8
      go_wp2
      exact bodyPost_ret (v := .agg (dc D)) (results_cell_row (p := 4) (ty := 27) rfl _ _ (w.heap.size + 1) 27 _ (0, 0) _ rfl g8.out Tryd.underlying27 rfl i24.out) rfl ⟨rfl, br.out.grown G8 br.out.size (fun k hk => by cases hk; omega)⟩

set_option maxRecDepth 100000 in
set_option maxHeartbeats 1000000 in
theorem rcut_any {S : S8} {K : List UInt32} (width : Int) (ao : Option Addr) (n c : Nat) (l : List UInt8) (w : World) (hK : K.length = 64) (hL : LaidR S K w) (hp : Row w ao n l) (hnil : ao = none → n = 0 ∧ c = 0) (hmax : n ≤ 140737488351300) :
    Calls Tryd.prog 44 #[.slice ao n c, .int .i64 width] w fun e w' => e = .returned (.agg (dc (cutD (sha S K l) width))) ∧ Below w.heap.size w w' := by
  have hzd : ∀ W : World, (zeroValue 27).run Tryd.prog W = .ok (.agg (dc zero32)) W := fun W => by kernel_rfl
  have hsum := fun W (hW : Below w.heap.size w W) => rsum_any S K ao n c l W hK (hL.old hW) (hp.old hW) hnil hmax
  clear hK hL hp hnil hmax
  obtain ⟨s, hs⟩ : ∃ s, sha S K l = s := ⟨_, rfl⟩
  rw [hs] at hsum ⊢
  clear hs
  have hcut := fun W => rcut1_any s width W
  generalize cutD s width = D at *
  have hds : ∀ d e : D32, Box ((dc d).size = (dc e).size) := fun d e => ⟨by rw [size_dc, size_dc]⟩
  have i24 : ∀ d : D32, Box ((Tryd.prog.info? 27).map (·.size) = some (dc d).size) := fun d => ⟨by rw [size_dc]; kernel_rfl⟩
  go_enter Tryd.func44, Tryd.ntmps44
  go_wp2_with (go_at_call 56; refine (calls_box (hsum _ (Below.refl_alloc w _))).mono ?_)
  rintro e w1 ⟨⟨rfl, hB⟩⟩
  have b1 := Box.mk ((Below.refl_alloc w (.cells (dc zero32) 27)).trans (hB.mono (by simp)))
  have q1 := Box.mk ((hB.block w.heap.size (by simp)).trans (heap_new (w := w) (o := .cells (dc zero32) 27) rfl))
  clear hB hsum
  go_wp2_with ((with_reducible refine wpList_store_row ?_ 27 (.tmp 5) (.tmp 7) ?_ w1.heap.size (dc zero32) (dc s) 27 ?_ ?_ ?_ (hds _ _).out (i24 _).out (dc_all _) ?_); rfl; rfl; rfl; rfl; exact heap_new rfl)
  intro w2 g2 G2
  have B12 : Below w1.heap.size w1 w2 := (Below.refl_alloc w1 _).grown G2 (by simp) (fun k hk => by cases hk; omega)
  have b2 := Box.mk (b1.out.trans (B12.mono b1.out.size))
  have q2 := Box.mk ((B12.block _ (heap_lt q1.out)).trans q1.out)
  have x2 := rows_of g2
  clear g2 G2 B12 b1 q1
  go_wp2_with (first
    | ((with_reducible refine arm_row 27 (.tmp 5) ?_ rfl w1.heap.size ?_ 27 (dc s) (0, 0) _ x2.out Tryd.underlying27 rfl (i24 _).out ?_); rfl; rfl)
    | (go_at_call 57; refine (calls_box (hcut _)).mono ?_))
  rintro e w3 ⟨⟨rfl, hB⟩⟩
  have b3 := Box.mk (b2.out.trans (hB.mono b2.out.size))
  have q3 := Box.mk ((hB.block _ (heap_lt q2.out)).trans q2.out)
  clear hB q2 b2 x2 hcut
  go_wp2_with ((with_reducible refine wpList_store_row ?_ 27 (.tmp 4) (.tmp 10) ?_ w.heap.size (dc zero32) (dc D) 27 ?_ ?_ q3.out (hds _ _).out (i24 _).out (dc_all _) ?_); rfl; rfl; rfl; rfl)
  intro w8 g8 G8
  go_wp2
  exact bodyPost_ret (v := .agg (dc D)) (results_cell_row (p := 4) (ty := 27) rfl _ _ w.heap.size 27 _ (0, 0) _ rfl g8.out Tryd.underlying27 rfl (i24 _).out) rfl ⟨rfl, b3.out.grown G8 b3.out.size (fun k hk => by cases hk; omega)⟩

set_option maxRecDepth 100000 in
set_option maxHeartbeats 1000000 in
theorem rleaf_any {S : S8} {K : List UInt32} (width : Int) (kk : D32) (ao : Option Addr) (n c : Nat) (l : List UInt8) (w : World) (hK : K.length = 64) (hL : LaidR S K w) (h : Row w ao n l) (hb : n ≤ 140737488351232) :
    Calls Tryd.prog 26 #[.int .i64 width, .agg (dc kk), .slice ao n c] w fun e w' => e = .returned (.agg (dc (leafD S K width kk l))) ∧ Below w.heap.size w w' := by
  have hzd : ∀ W : World, (zeroValue 27).run Tryd.prog W = .ok (.agg (dc zero32)) W := fun W => by kernel_rfl
  have htx := fun W (hW : Below w.heap.size w W) => rleafText_any kk ao n c l W (h.old hW) hb
  have hl := h.1
  have hlen := length_leafT kk l
  obtain ⟨t, ht⟩ : ∃ t, leafT kk l = t := ⟨_, rfl⟩
  rw [show (0 :: (kk.1 ++ l)) = t from ht] at htx
  unfold leafD
  rw [ht] at hlen ⊢
  have hlt := Box.mk (show t.length ≤ 140737488351300 by omega)
  clear ht hlen hl h
  have hcut := fun W (hW : Below w.heap.size w W) (ao : Option Addr) (c : Nat) (hr : Row W ao t.length t) (hn : ao = none → t.length = 0 ∧ c = 0) => rcut_any (S := S) (K := K) width ao t.length c t W hK (hL.old hW) hr hn hlt.out
  clear hK hL
  generalize cutD (sha S K t) width = D at *
  have hds : ∀ d e : D32, Box ((dc d).size = (dc e).size) := fun d e => ⟨by rw [size_dc, size_dc]⟩
  have i24 : ∀ d : D32, Box ((Tryd.prog.info? 27).map (·.size) = some (dc d).size) := fun d => ⟨by rw [size_dc]; kernel_rfl⟩
  have i26 : Box ((Tryd.prog.info? 26).map (·.size) = some (dc kk).size) := ⟨by rw [size_dc]; kernel_rfl⟩
  go_enter Tryd.func26, Tryd.ntmps26
  go_upto_region 1 with fail
  refine wp_anyWorld (fun W => Box (W.heap[w.heap.size]? = some (.cells (dc kk) 26 (0, 0))) ∧ Box (W.heap[w.heap.size + 1]? = some (.cells (dc zero32) 27 (0, 0))) ∧ Box (Below w.heap.size w W))
    ⟨⟨heap_old (heap_new rfl)⟩, ⟨heap_new (by simp)⟩, ⟨(Below.refl_alloc w _).alloc (by simp) _⟩⟩ ?_
  rintro W ⟨A0, A1, B0⟩
  go_wp2_with (first
    | ((with_reducible refine arm_row 26 (.tmp 4) ?_ rfl w.heap.size ?_ 26 (dc kk) (0, 0) _ A0.out Tryd.underlying26 rfl i26.out ?_); rfl; rfl)
    | (go_at_call 24; refine (calls_box (htx _ B0.out)).mono ?_))
  rintro e w1 ⟨⟨⟨v, rfl, hO⟩, hB⟩⟩
  have b1 := Box.mk (B0.out.trans (hB.mono B0.out.size))
  have q1 := Box.mk ((hB.block _ (heap_lt A1.out)).trans A1.out)
  obtain ⟨ao1, c1, rfl, hrow, hcm, hlc, hlow⟩ := hO.open
  have hR := Box.mk hrow
  have hn1 : Box (ao1 = none → t.length = 0 ∧ c1 = 0) := ⟨own_nilR hO⟩
  clear hO hrow hcm hlc hlow hB A0 A1 B0 htx
  go_wp2_with (go_at_call 44; refine (calls_box (hcut _ b1.out _ _ hR.out hn1.out)).mono ?_)
  rintro e w3 ⟨⟨rfl, hB⟩⟩
  have b3 := Box.mk (b1.out.trans (hB.mono b1.out.size))
  have q3 := Box.mk ((hB.block _ (heap_lt q1.out)).trans q1.out)
  clear hB q1 b1 hR hcut
  go_wp2_with ((with_reducible refine wpList_store_row ?_ 27 (.tmp 6) (.tmp 13) ?_ (w.heap.size + 1) (dc zero32) (dc D) 27 ?_ ?_ q3.out (hds _ _).out (i24 _).out (dc_all _) ?_); rfl; rfl; rfl; rfl)
  intro w8 g8 G8
  go_wp2
  exact bodyPost_ret (v := .agg (dc D)) (results_cell_row (p := 6) (ty := 27) rfl _ _ (w.heap.size + 1) 27 _ (0, 0) _ rfl g8.out Tryd.underlying27 rfl (i24 _).out) rfl ⟨rfl, b3.out.grown G8 b3.out.size (fun k hk => by cases hk; omega)⟩

set_option maxRecDepth 100000 in
set_option maxHeartbeats 1000000 in
theorem rbranch_any {S : S8} {K : List UInt32} (width : Int) (x y : D32) (w : World) (hK : K.length = 64) (hL : LaidR S K w) :
    Calls Tryd.prog 31 #[.int .i64 width, .agg (dc x), .agg (dc y)] w fun e w' => e = .returned (.agg (dc (brD S K width x y))) ∧ Below w.heap.size w w' := by
  have hzd : ∀ W : World, (zeroValue 27).run Tryd.prog W = .ok (.agg (dc zero32)) W := fun W => by kernel_rfl
  have htx := fun W => rbranchText_any width x y W
  have hlen := length_branchT width x y
  have hwl := wid_le width
  obtain ⟨t, ht⟩ : ∃ t, branchT width x y = t := ⟨_, rfl⟩
  rw [show (1 :: (x.1.take (wid width) ++ y.1.take (wid width))) = t from ht] at htx
  unfold brD
  rw [ht] at hlen ⊢
  have hlt := Box.mk (show t.length ≤ 140737488351300 by omega)
  clear ht hlen hwl
  have hcut := fun W (hW : Below w.heap.size w W) (ao : Option Addr) (c : Nat) (hr : Row W ao t.length t) (hn : ao = none → t.length = 0 ∧ c = 0) => rcut_any (S := S) (K := K) width ao t.length c t W hK (hL.old hW) hr hn hlt.out
  clear hK hL
  generalize cutD (sha S K t) width = D at *
  have hds : ∀ d e : D32, Box ((dc d).size = (dc e).size) := fun d e => ⟨by rw [size_dc, size_dc]⟩
  have i24 : ∀ d : D32, Box ((Tryd.prog.info? 27).map (·.size) = some (dc d).size) := fun d => ⟨by rw [size_dc]; kernel_rfl⟩
  go_enter Tryd.func31, Tryd.ntmps31
  go_upto_region 1 with fail
  refine wp_anyWorld (fun W => Box (W.heap[w.heap.size]? = some (.cells (dc x) 27 (0, 0))) ∧ Box (W.heap[w.heap.size + 1]? = some (.cells (dc y) 27 (0, 0))) ∧ Box (W.heap[w.heap.size + 1 + 1]? = some (.cells (dc zero32) 27 (0, 0))) ∧ Box (Below w.heap.size w W))
    ⟨⟨heap_old (heap_old (heap_new rfl))⟩, ⟨heap_old (heap_new (by simp))⟩, ⟨heap_new (by simp)⟩, ⟨((Below.refl_alloc w _).alloc (by simp) _).alloc (by simp; omega) _⟩⟩ ?_
  rintro W ⟨A0, A2, A1, B0⟩
  go_wp2_with (first
    | ((with_reducible refine arm_row 27 (.tmp 4) ?_ rfl w.heap.size ?_ 27 (dc x) (0, 0) _ A0.out Tryd.underlying27 rfl (i24 _).out ?_); rfl; rfl)
    | ((with_reducible refine arm_row 27 (.tmp 5) ?_ rfl (w.heap.size + 1) ?_ 27 (dc y) (0, 0) _ A2.out Tryd.underlying27 rfl (i24 _).out ?_); rfl; rfl)
    | (go_at_call 29; refine (calls_box (htx _)).mono ?_))
  rintro e w1 ⟨⟨⟨v, rfl, hO⟩, hB⟩⟩
  have b1 := Box.mk (B0.out.trans (hB.mono B0.out.size))
  have q1 := Box.mk ((hB.block _ (heap_lt A1.out)).trans A1.out)
  obtain ⟨ao1, c1, rfl, hrow, hcm, hlc, hlow⟩ := hO.open
  have hR := Box.mk hrow
  have hn1 : Box (ao1 = none → t.length = 0 ∧ c1 = 0) := ⟨own_nilR hO⟩
  clear hO hrow hcm hlc hlow hB A0 A1 A2 B0 htx
  go_wp2_with (go_at_call 44; refine (calls_box (hcut _ b1.out _ _ hR.out hn1.out)).mono ?_)
  rintro e w3 ⟨⟨rfl, hB⟩⟩
  have b3 := Box.mk (b1.out.trans (hB.mono b1.out.size))
  have q3 := Box.mk ((hB.block _ (heap_lt q1.out)).trans q1.out)
  clear hB q1 b1 hR hcut
  go_wp2_with ((with_reducible refine wpList_store_row ?_ 27 (.tmp 6) (.tmp 14) ?_ (w.heap.size + 1 + 1) (dc zero32) (dc D) 27 ?_ ?_ q3.out (hds _ _).out (i24 _).out (dc_all _) ?_); rfl; rfl; rfl; rfl)
  intro w8 g8 G8
  go_wp2
  exact bodyPost_ret (v := .agg (dc D)) (results_cell_row (p := 6) (ty := 27) rfl _ _ (w.heap.size + 1 + 1) 27 _ (0, 0) _ rfl g8.out Tryd.underlying27 rfl (i24 _).out) rfl ⟨rfl, b3.out.grown G8 b3.out.size (fun k hk => by cases hk; omega)⟩
end Go.Proofs.YteiepenanffhcaaDoor
