/- Texts joined: RTree, Val5, SumsLaw. -/
import Derived.Test.YteiepenanffhcaaDoorP14
import Derived.Test.YteiepenanffhcaaDoorP06
import Derived.Test.YteiepenanffhcaaDoorP07
import Derived.Test.YteiepenanffhcaaDoorP08
import Derived.Test.YteiepenanffhcaaDoorP05
import Derived.Test.YteiepenanffhcaaDoorP09
/- The reference's digests: the walks of ledgerref1.Cut and of ledgerref9's cut, Leaf, Branch, Empty. -/
namespace Go.Proofs.YteiepenanffhcaaDoor
open Go Go.RowKit
set_option linter.unusedVariables false

theorem own_nilR {w : World} {base : Nat} {e : TypeId} {ao : Option Addr} {n c : Nat} {l : List UInt8} (h : Own w base e (.slice ao n c) l) : ao = none → n = 0 ∧ c = 0 := by
  intro hx
  subst hx
  rcases h with ⟨_, ⟨hv, h0⟩ | ⟨g, cap, cur, hv, _⟩⟩
  · have := Value.slice.inj hv; exact ⟨this.2.1, this.2.2⟩
  · cases hv
/-- A digest of which the places from c up to k are zeros. -/
def cutK (d : List UInt8) (c k : Nat) : List UInt8 := d.take (min c k) ++ List.replicate (k - c) 0 ++ d.drop k
theorem length_cutK (d : List UInt8) (c k : Nat) (hk : k ≤ d.length) : (cutK d c k).length = d.length := by
  simp [cutK]; omega
theorem cutK_low (d : List UInt8) (c k : Nat) (h : k ≤ c) : cutK d c k = d := by
  unfold cutK
  rw [Nat.min_eq_right h, Nat.sub_eq_zero_of_le h]; simp
theorem cutK_set (d : List UInt8) (c k : Nat) (h : c ≤ k) (hk : k < d.length) : (cutK d c k).set k 0 = cutK d c (k + 1) := by
  unfold cutK
  rw [Nat.min_eq_left h, Nat.min_eq_left (by omega), List.set_append_right _ _ (by simp; omega)]
  rw [show k + 1 - c = (k - c) + 1 by omega, List.replicate_succ', List.append_assoc, List.append_assoc, List.append_assoc]
  congr 2
  rw [show (k - (d.take c ++ List.replicate (k - c) (0 : UInt8)).length) = 0 by simp; omega]
  rw [List.drop_eq_getElem_cons hk]
  rfl

set_option maxRecDepth 100000 in
set_option maxHeartbeats 1000000 in
theorem rcut1_any (d : D32) (width : Int) (w : World) :
    Calls Tryd.prog 57 #[.agg (dc d), .int .i64 width] w fun e w' => e = .returned (.agg (dc (cutD d width))) ∧ Below w.heap.size w w' := by
  have hzd : ∀ W : World, (zeroValue 27).run Tryd.prog W = .ok (.agg (dc zero32)) W := fun W => by kernel_rfl
  have hi5 : Box ((Tryd.prog.info? 5).map (·.size) = some 1) := ⟨by kernel_rfl⟩
  obtain ⟨D, hD⟩ : ∃ D, cutD d width = D := ⟨_, rfl⟩
  have HD := Box.mk (show D.1 = cutK d.1 (wid width) 32 by
    rw [← hD]
    show d.1.take (wid width) ++ List.replicate (32 - wid width) 0 = _
    unfold cutK
    rw [Nat.min_eq_left (wid_le width), List.drop_of_length_le (by rw [d.2]; omega), List.append_nil])
  have hc1 : ∀ k : Nat, k < 32 → ((width ≤ (k : Int)) ↔ wid width ≤ k) := fun k hk => by unfold wid clamp; omega
  have HC := Box.mk hc1
  have h32 := Box.mk d.2
  rw [hD]
  generalize wid width = c at *
  clear hD hc1
  go_enter Tryd.func57, Tryd.ntmps57
  go_upto_region 1 with fail
  refine wp_anyWorld (fun W => Box (W.heap[w.heap.size]? = some (.cells (bvs (cutK d.1 c 0)).toArray 27 (0, 0))) ∧ Box (W.heap[w.heap.size + 1]? = some (.cells (dc zero32) 27 (0, 0))) ∧ Box (Below w.heap.size w W))
    ⟨⟨by rw [cutK_low d.1 c 0 (Nat.zero_le _)]; exact heap_old (heap_new rfl)⟩, ⟨heap_new (by simp)⟩, ⟨(Below.refl_alloc w _).alloc (by simp) _⟩⟩ ?_
  rintro W ⟨A0, A1, B0⟩
  go_wp2
  go_loopw [5] (fun i wr => ∃ k : Nat, k ≤ 32 ∧ i = .int .i64 k ∧ Box (wr.heap[w.heap.size]? = some (.cells (bvs (cutK d.1 c k)).toArray 27 (0, 0))) ∧ Box (wr.heap[w.heap.size + 1]? = some (.cells (dc zero32) 27 (0, 0))) ∧ Box (Below w.heap.size w wr)) (fun i _ => 32 - (intOf i).toNat)
  case atStart => exact ⟨0, Nat.zero_le _, rfl, A0, A1, B0⟩
  clear A0 A1 B0
  case round =>
    obtain ⟨k, hk, rfl, xr, qr, br⟩ := hrel
    by_cases hlt : k < 32
    · have hlen := Box.mk (length_cutK d.1 c k (by rw [h32.out]; omega))
      have k0 : (0 : Int) ≤ (k : Int) := by omega
      have k1 : (k : Int) < 32 := by omega
      rcases Int.lt_or_le (k : Int) width with hw | hw
      · have hs := Box.mk (show cutK d.1 c k = cutK d.1 c (k + 1) by
          have := (HC.out k hlt)
          rw [cutK_low _ _ _ (by omega), cutK_low _ _ _ (by omega)])
        go_wp2
        go_roundw
        case rel => exact ⟨k + 1, by omega, by go_num, ⟨by rw [← hs.out]; exact xr.out⟩, qr, br⟩
        case measure => simp [intOf]; omega
      · have cX := bvs_cell xr.out (i := k) (by rw [hlen.out, h32.out]; exact hlt)
        have zX := frozen_of_row _ w.heap.size k _ 27 xr.out
        have hs := Box.mk (cutK_set d.1 c k ((HC.out k hlt).1 hw) (by rw [h32.out]; exact hlt))
        go_wp2_with (refine wpList_store_int rfl 5 (.tmp 14) (.const (.int .u8 0)) rfl ⟨w.heap.size, k, none⟩ (bv 0) rfl rfl ⟨_, _, rfl⟩ hi5.out ⟨_, cX⟩ zX ?_)
        have x2 := bvs_set 0 xr.out (i := k)
        rw [hs.out] at x2
        have X2 := Box.mk x2
        clear x2 cX zX
        go_wp2
        go_roundw
        case rel => exact ⟨k + 1, by omega, by go_num, X2, ⟨(heap_setCell_other _ _ _ _ (by simp)).trans qr.out⟩, ⟨br.out.setCell (by simp) _⟩⟩
        case measure => simp [intOf]; omega
    · obtain rfl : k = 32 := by omega
      rw [show ((32 : Nat) : Int) = 32 from rfl]
      have xD := Box.mk (show wr.heap[w.heap.size]? = some (.cells (dc D) 27 (0, 0)) by show _ = some (Obj.cells (bvs D.1).toArray _ _); rw [HD.out]; exact xr.out)
      have i24 : Box ((Tryd.prog.info? 27).map (·.size) = some (dc D).size) := ⟨by rw [size_dc]; kernel_rfl⟩
      have hds : Box ((dc zero32).size = (dc D).size) := ⟨by rw [size_dc, size_dc]⟩
      clear HD xr
      go_wp2_with (first
        | ((with_reducible refine arm_row 27 (.tmp 2) ?_ rfl w.heap.size ?_ 27 (dc D) (0, 0) _ xD.out Tryd.underlying27 rfl i24.out ?_); rfl; rfl)
        | ((with_reducible refine wpList_store_row ?_ 27 (.tmp 4) (.tmp 15) ?_ (w.heap.size + 1) (dc zero32) (dc D) 27 ?_ ?_ qr.out hds.out i24.out (dc_all _) ?_); rfl; rfl; rfl; rfl))
      intro w8 g8 G8
      go_wp2
      exact bodyPost_ret (v := .agg (dc D)) (results_cell_row (p := 4) (ty := 27) rfl _ _ (w.heap.size + 1) 27 _ (0, 0) _ rfl g8.out Tryd.underlying27 rfl i24.out) rfl ⟨rfl, br.out.grown G8 br.out.size (fun k hk => by cases hk; omega)⟩

set_option maxRecDepth 100000 in
set_option maxHeartbeats 1000000 in
theorem rcut_any {S : S8} {K : List UInt32} (width : Int) (ao : Option Addr) (n c : Nat) (l : List UInt8) (w : World) (hK : K.length = 64) (hL : LaidR S K w) (hp : Row w ao n l) (hnil : ao = none → n = 0 ∧ c = 0) (hmax : n ≤ 140737488351300) :
    Calls Tryd.prog 44 #[.slice ao n c, .int .i64 width] w fun e w' => e = .returned (.agg (dc (cutD (sha S K l) width))) ∧ Below w.heap.size w w' := by
  have hzd : ∀ W : World, (zeroValue 27).run Tryd.prog W = .ok (.agg (dc zero32)) W := fun W => by kernel_rfl
  have hsum := fun W (hW : Below w.heap.size w W) => rsum_any S K ao n c l W hK (hL.old hW) (hp.old hW) hnil hmax
  clear hK hL hp hnil hmax
  obtain ⟨s, hs⟩ : ∃ s, sha S K l = s := ⟨_, rfl⟩
  rw [hs] at hsum ⊢
  clear hs
  have hcut := fun W => rcut1_any s width W
  generalize cutD s width = D at *
  have hds : ∀ d e : D32, Box ((dc d).size = (dc e).size) := fun d e => ⟨by rw [size_dc, size_dc]⟩
  have i24 : ∀ d : D32, Box ((Tryd.prog.info? 27).map (·.size) = some (dc d).size) := fun d => ⟨by rw [size_dc]; kernel_rfl⟩
  go_enter Tryd.func44, Tryd.ntmps44
  go_wp2_with (go_at_call 56; refine (calls_box (hsum _ (Below.refl_alloc w _))).mono ?_)
  rintro e w1 ⟨⟨rfl, hB⟩⟩
  have b1 := Box.mk ((Below.refl_alloc w (.cells (dc zero32) 27)).trans (hB.mono (by simp)))
  have q1 := Box.mk ((hB.block w.heap.size (by simp)).trans (heap_new (w := w) (o := .cells (dc zero32) 27) rfl))
  clear hB hsum
  go_wp2_with ((with_reducible refine wpList_store_row ?_ 27 (.tmp 5) (.tmp 7) ?_ w1.heap.size (dc zero32) (dc s) 27 ?_ ?_ ?_ (hds _ _).out (i24 _).out (dc_all _) ?_); rfl; rfl; rfl; rfl; exact heap_new rfl)
  intro w2 g2 G2
  have B12 : Below w1.heap.size w1 w2 := (Below.refl_alloc w1 _).grown G2 (by simp) (fun k hk => by cases hk; omega)
  have b2 := Box.mk (b1.out.trans (B12.mono b1.out.size))
  have q2 := Box.mk ((B12.block _ (heap_lt q1.out)).trans q1.out)
  have x2 := rows_of g2
  clear g2 G2 B12 b1 q1
  go_wp2_with (first
    | ((with_reducible refine arm_row 27 (.tmp 5) ?_ rfl w1.heap.size ?_ 27 (dc s) (0, 0) _ x2.out Tryd.underlying27 rfl (i24 _).out ?_); rfl; rfl)
    | (go_at_call 57; refine (calls_box (hcut _)).mono ?_))
  rintro e w3 ⟨⟨rfl, hB⟩⟩
  have b3 := Box.mk (b2.out.trans (hB.mono b2.out.size))
  have q3 := Box.mk ((hB.block _ (heap_lt q2.out)).trans q2.out)
  clear hB q2 b2 x2 hcut
  go_wp2_with ((with_reducible refine wpList_store_row ?_ 27 (.tmp 4) (.tmp 10) ?_ w.heap.size (dc zero32) (dc D) 27 ?_ ?_ q3.out (hds _ _).out (i24 _).out (dc_all _) ?_); rfl; rfl; rfl; rfl)
  intro w8 g8 G8
  go_wp2
  exact bodyPost_ret (v := .agg (dc D)) (results_cell_row (p := 4) (ty := 27) rfl _ _ w.heap.size 27 _ (0, 0) _ rfl g8.out Tryd.underlying27 rfl (i24 _).out) rfl ⟨rfl, b3.out.grown G8 b3.out.size (fun k hk => by cases hk; omega)⟩

set_option maxRecDepth 100000 in
set_option maxHeartbeats 1000000 in
theorem rleaf_any {S : S8} {K : List UInt32} (width : Int) (kk : D32) (ao : Option Addr) (n c : Nat) (l : List UInt8) (w : World) (hK : K.length = 64) (hL : LaidR S K w) (h : Row w ao n l) (hb : n ≤ 140737488351232) :
    Calls Tryd.prog 26 #[.int .i64 width, .agg (dc kk), .slice ao n c] w fun e w' => e = .returned (.agg (dc (leafD S K width kk l))) ∧ Below w.heap.size w w' := by
  have hzd : ∀ W : World, (zeroValue 27).run Tryd.prog W = .ok (.agg (dc zero32)) W := fun W => by kernel_rfl
  have htx := fun W (hW : Below w.heap.size w W) => rleafText_any kk ao n c l W (h.old hW) hb
  have hl := h.1
  have hlen := length_leafT kk l
  obtain ⟨t, ht⟩ : ∃ t, leafT kk l = t := ⟨_, rfl⟩
  rw [show (0 :: (kk.1 ++ l)) = t from ht] at htx
  unfold leafD
  rw [ht] at hlen ⊢
  have hlt := Box.mk (show t.length ≤ 140737488351300 by omega)
  clear ht hlen hl h
  have hcut := fun W (hW : Below w.heap.size w W) (ao : Option Addr) (c : Nat) (hr : Row W ao t.length t) (hn : ao = none → t.length = 0 ∧ c = 0) => rcut_any (S := S) (K := K) width ao t.length c t W hK (hL.old hW) hr hn hlt.out
  clear hK hL
  generalize cutD (sha S K t) width = D at *
  have hds : ∀ d e : D32, Box ((dc d).size = (dc e).size) := fun d e => ⟨by rw [size_dc, size_dc]⟩
  have i24 : ∀ d : D32, Box ((Tryd.prog.info? 27).map (·.size) = some (dc d).size) := fun d => ⟨by rw [size_dc]; kernel_rfl⟩
  have i26 : Box ((Tryd.prog.info? 26).map (·.size) = some (dc kk).size) := ⟨by rw [size_dc]; kernel_rfl⟩
  go_enter Tryd.func26, Tryd.ntmps26
  go_upto_region 1 with fail
  refine wp_anyWorld (fun W => Box (W.heap[w.heap.size]? = some (.cells (dc kk) 26 (0, 0))) ∧ Box (W.heap[w.heap.size + 1]? = some (.cells (dc zero32) 27 (0, 0))) ∧ Box (Below w.heap.size w W))
    ⟨⟨heap_old (heap_new rfl)⟩, ⟨heap_new (by simp)⟩, ⟨(Below.refl_alloc w _).alloc (by simp) _⟩⟩ ?_
  rintro W ⟨A0, A1, B0⟩
  go_wp2_with (first
    | ((with_reducible refine arm_row 26 (.tmp 4) ?_ rfl w.heap.size ?_ 26 (dc kk) (0, 0) _ A0.out Tryd.underlying26 rfl i26.out ?_); rfl; rfl)
    | (go_at_call 24; refine (calls_box (htx _ B0.out)).mono ?_))
  rintro e w1 ⟨⟨⟨v, rfl, hO⟩, hB⟩⟩
  have b1 := Box.mk (B0.out.trans (hB.mono B0.out.size))
  have q1 := Box.mk ((hB.block _ (heap_lt A1.out)).trans A1.out)
  obtain ⟨ao1, c1, rfl, hrow, hcm, hlc, hlow⟩ := hO.open
  have hR := Box.mk hrow
  have hn1 : Box (ao1 = none → t.length = 0 ∧ c1 = 0) := ⟨own_nilR hO⟩
  clear hO hrow hcm hlc hlow hB A0 A1 B0 htx
  go_wp2_with (go_at_call 44; refine (calls_box (hcut _ b1.out _ _ hR.out hn1.out)).mono ?_)
  rintro e w3 ⟨⟨rfl, hB⟩⟩
  have b3 := Box.mk (b1.out.trans (hB.mono b1.out.size))
  have q3 := Box.mk ((hB.block _ (heap_lt q1.out)).trans q1.out)
  clear hB q1 b1 hR hcut
  go_wp2_with ((with_reducible refine wpList_store_row ?_ 27 (.tmp 6) (.tmp 13) ?_ (w.heap.size + 1) (dc zero32) (dc D) 27 ?_ ?_ q3.out (hds _ _).out (i24 _).out (dc_all _) ?_); rfl; rfl; rfl; rfl)
  intro w8 g8 G8
  go_wp2
  exact bodyPost_ret (v := .agg (dc D)) (results_cell_row (p := 6) (ty := 27) rfl _ _ (w.heap.size + 1) 27 _ (0, 0) _ rfl g8.out Tryd.underlying27 rfl (i24 _).out) rfl ⟨rfl, b3.out.grown G8 b3.out.size (fun k hk => by cases hk; omega)⟩

set_option maxRecDepth 100000 in
set_option maxHeartbeats 1000000 in
theorem rbranch_any {S : S8} {K : List UInt32} (width : Int) (x y : D32) (w : World) (hK : K.length = 64) (hL : LaidR S K w) :
    Calls Tryd.prog 31 #[.int .i64 width, .agg (dc x), .agg (dc y)] w fun e w' => e = .returned (.agg (dc (brD S K width x y))) ∧ Below w.heap.size w w' := by
  have hzd : ∀ W : World, (zeroValue 27).run Tryd.prog W = .ok (.agg (dc zero32)) W := fun W => by kernel_rfl
  have htx := fun W => rbranchText_any width x y W
  have hlen := length_branchT width x y
  have hwl := wid_le width
  obtain ⟨t, ht⟩ : ∃ t, branchT width x y = t := ⟨_, rfl⟩
  rw [show (1 :: (x.1.take (wid width) ++ y.1.take (wid width))) = t from ht] at htx
  unfold brD
  rw [ht] at hlen ⊢
  have hlt := Box.mk (show t.length ≤ 140737488351300 by omega)
  clear ht hlen hwl
  have hcut := fun W (hW : Below w.heap.size w W) (ao : Option Addr) (c : Nat) (hr : Row W ao t.length t) (hn : ao = none → t.length = 0 ∧ c = 0) => rcut_any (S := S) (K := K) width ao t.length c t W hK (hL.old hW) hr hn hlt.out
  clear hK hL
  generalize cutD (sha S K t) width = D at *
  have hds : ∀ d e : D32, Box ((dc d).size = (dc e).size) := fun d e => ⟨by rw [size_dc, size_dc]⟩
  have i24 : ∀ d : D32, Box ((Tryd.prog.info? 27).map (·.size) = some (dc d).size) := fun d => ⟨by rw [size_dc]; kernel_rfl⟩
  go_enter Tryd.func31, Tryd.ntmps31
  go_upto_region 1 with fail
  refine wp_anyWorld (fun W => Box (W.heap[w.heap.size]? = some (.cells (dc x) 27 (0, 0))) ∧ Box (W.heap[w.heap.size + 1]? = some (.cells (dc y) 27 (0, 0))) ∧ Box (W.heap[w.heap.size + 1 + 1]? = some (.cells (dc zero32) 27 (0, 0))) ∧ Box (Below w.heap.size w W))
    ⟨⟨heap_old (heap_old (heap_new rfl))⟩, ⟨heap_old (heap_new (by simp))⟩, ⟨heap_new (by simp)⟩, ⟨((Below.refl_alloc w _).alloc (by simp) _).alloc (by simp; omega) _⟩⟩ ?_
  rintro W ⟨A0, A2, A1, B0⟩
  go_wp2_with (first
    | ((with_reducible refine arm_row 27 (.tmp 4) ?_ rfl w.heap.size ?_ 27 (dc x) (0, 0) _ A0.out Tryd.underlying27 rfl (i24 _).out ?_); rfl; rfl)
    | ((with_reducible refine arm_row 27 (.tmp 5) ?_ rfl (w.heap.size + 1) ?_ 27 (dc y) (0, 0) _ A2.out Tryd.underlying27 rfl (i24 _).out ?_); rfl; rfl)
    | (go_at_call 29; refine (calls_box (htx _)).mono ?_))
  rintro e w1 ⟨⟨⟨v, rfl, hO⟩, hB⟩⟩
  have b1 := Box.mk (B0.out.trans (hB.mono B0.out.size))
  have q1 := Box.mk ((hB.block _ (heap_lt A1.out)).trans A1.out)
  obtain ⟨ao1, c1, rfl, hrow, hcm, hlc, hlow⟩ := hO.open
  have hR := Box.mk hrow
  have hn1 : Box (ao1 = none → t.length = 0 ∧ c1 = 0) := ⟨own_nilR hO⟩
  clear hO hrow hcm hlc hlow hB A0 A1 A2 B0 htx
  go_wp2_with (go_at_call 44; refine (calls_box (hcut _ b1.out _ _ hR.out hn1.out)).mono ?_)
  rintro e w3 ⟨⟨rfl, hB⟩⟩
  have b3 := Box.mk (b1.out.trans (hB.mono b1.out.size))
  have q3 := Box.mk ((hB.block _ (heap_lt q1.out)).trans q1.out)
  clear hB q1 b1 hR hcut
  go_wp2_with ((with_reducible refine wpList_store_row ?_ 27 (.tmp 6) (.tmp 14) ?_ (w.heap.size + 1 + 1) (dc zero32) (dc D) 27 ?_ ?_ q3.out (hds _ _).out (i24 _).out (dc_all _) ?_); rfl; rfl; rfl; rfl)
  intro w8 g8 G8
  go_wp2
  exact bodyPost_ret (v := .agg (dc D)) (results_cell_row (p := 6) (ty := 27) rfl _ _ (w.heap.size + 1 + 1) 27 _ (0, 0) _ rfl g8.out Tryd.underlying27 rfl (i24 _).out) rfl ⟨rfl, b3.out.grown G8 b3.out.size (fun k hk => by cases hk; omega)⟩
end Go.Proofs.YteiepenanffhcaaDoor

/- One play of a call that is handed a list: Leaf. -/
namespace Go.Proofs.YteiepenanffhcaaDoor
open Go Go.RowKit
set_option linter.unusedVariables false

set_option maxRecDepth 100000 in
set_option maxHeartbeats 4000000 in
theorem valuePlay_leaf {S : S8} {K : List UInt32} (o : OpV) (hk : o.kind = 5) (n : Nat) (hn : n ≤ 140737488351232) (L : List UInt8) (hL : L.length = n) (g : Nat) (a1 : Option Addr) (c1 : Nat) (w : World) (hLa : Laid S K w) (hLr : LaidR S K w)
    (hg0 : w.heap[g]? = some (.cells (bvs (roomyL L)).toArray 5 (0, 0))) (hrow : Row w a1 n L) (hnone : a1 = none → n = 0 ∧ c1 = 0) (hle : n ≤ c1) (hmax : c1 ≤ maxLen) :
    Calls Tryd.prog 14 #[.agg (opC o).toArray, .slice (some ⟨g, 0, none⟩) (n + 100) (n + 100), .slice a1 n c1] w fun e W' => e = .returned (.bool true) ∧ Below w.heap.size w W' := by
  have UK : Tryd.prog.underlying 26 = some (.array 32 5) := Tryd.underlying26
  have hiK : Hid ((Tryd.prog.info? 26).map (·.size) = some 32) := by unfold Hid; kernel_rfl
  have bel0 := Below.refl_alloc w (.cells (opC o).toArray 32)
  have F0 : Box ((w.alloc (.cells (opC o).toArray 32)).heap[w.heap.size]? = some (.cells (opC o).toArray 32 (0, 0))) := ⟨heap_new rfl⟩
  have r4 := Box.mk (rangeAt_cells (o := 4) F0.out (cs := bvs o.k.1) fun j hj => opC_k o j (by rwa [length_bvs, o.k.2] at hj))
  have c0 : (w.alloc (.cells (opC o).toArray 32)).cell? ⟨w.heap.size, 0, none⟩ = some (.int .i64 5) := by rw [cell_of_row _ _ 0 _ _ _ F0.out, ← hk]; rfl
  have cc1 : Box ((w.alloc (.cells (opC o).toArray 32)).cell? ⟨w.heap.size, 1, none⟩ = some (.int .i64 o.w)) := ⟨by rw [cell_of_row _ _ 1 _ _ _ F0.out]; rfl⟩
  have HG := Box.mk ((bel0.block g (heap_lt hg0)).trans hg0)
  have HR := Box.mk (hrow.old bel0)
  have B0 := Box.mk bel0
  have HL := Box.mk hL
  have Hnone := Box.mk hnone
  have Hmax := Box.mk hmax
  have hlt := Box.mk (heap_lt F0.out)
  have hgl := Box.mk (heap_lt HG.out)
  have HLa := Box.mk (hLa.old bel0)
  have HLr := Box.mk (hLr.old bel0)
  have HK := Box.mk hLa.1
  have hcut : (n : Int) ≤ (n : Int) + 100 := by omega
  clear hrow hnone hmax hle hg0 hL bel0 F0 hk hLa hLr
  generalize (opC o).toArray = cs at *
  have hgD : Tryd.prog.eqGuardType Tryd.prog.depth 27 = false := by kernel_rfl
  go_enter Tryd.func14, Tryd.ntmps14
  go_upto_region 1 with fail
  generalize w.alloc (.cells cs 32) = w1 at *
  go_upto_region 19 with fail
  have hA : Box (∀ W, Below w1.heap.size w1 W → _) := ⟨fun W HH => leaf_any (S := S) (K := K) o.w o.k (some ⟨g, 0, none⟩) n (n + 100) L W (HLa.out.old HH) (row_front ((HH.block g hgl.out).trans HG.out) HL.out) (by intro h; cases h) hn⟩
  have hB : Box (∀ W, Below w1.heap.size w1 W → _) := ⟨fun W HH => rleaf_any (S := S) (K := K) o.w o.k a1 n c1 L W HK.out (HLr.out.old HH) (HR.out.old HH) hn⟩
  generalize leafD S K o.w o.k L = dd at *
  have eDD : ∀ (W : World), (Op.equalIn 10000 27 (.agg (dc dd)) (.agg (dc dd))).run Tryd.prog W = .ok true W := by
    obtain ⟨i5, hi5'⟩ := Option.isSome_iff_exists.1 (show (Tryd.prog.info? 5).isSome = true by kernel_rfl)
    intro W
    have := equalIn_d32 (d := 9998) Tryd.underlying27 hi5' Tryd.underlying5 (by kernel_rfl) dd dd W
    rwa [eqD_true rfl] at this
  refine held_begin (fun W => Below w1.heap.size w1 W) (by kernel_rfl) (Below.refl _ w1).drew (fun hH0 => ?_)
  refine held_take 0 (.pointer (some ⟨w.heap.size, 1, none⟩)) rfl (by kernel_rfl) (by kernel_rfl) (by kernel_rfl) (held_pure (by rfl) (fun W => by go_simp)) (by assumption) ?_
  try simp only [Act.put, List.setIfInBounds_toArray, List.set_cons_zero, List.set_cons_succ]
  refine held_take 1 (.int .i64 o.w) rfl (by kernel_rfl) (by kernel_rfl) (by kernel_rfl) (held_load1 (by rfl) 3 (.tmp 90) rfl w.heap.size 1 rfl .i64 (.int .i64 o.w) (fun W hS => (hS.cell (p := ⟨w.heap.size, 1, none⟩) hlt.out).trans cc1.out) Tryd.underlying3) (by assumption) ?_
  try simp only [Act.put, List.setIfInBounds_toArray, List.set_cons_zero, List.set_cons_succ]
  refine held_take 2 (.pointer (some ⟨w.heap.size, 4, none⟩)) rfl (by kernel_rfl) (by kernel_rfl) (by kernel_rfl) (held_pure (by rfl) (fun W => by go_simp)) (by assumption) ?_
  try simp only [Act.put, List.setIfInBounds_toArray, List.set_cons_zero, List.set_cons_succ]
  refine held_take 3 (.agg (dc o.k)) rfl (by kernel_rfl) (by kernel_rfl) (by kernel_rfl) (held_load (by rfl) 26 (.tmp 92) rfl (w.heap.size) 4 rfl o.k 5 (fun W hS => rangeAt_below r4.out hS hlt.out) UK hiK) (by assumption) ?_
  try simp only [Act.put, List.setIfInBounds_toArray, List.set_cons_zero, List.set_cons_succ]
  refine held_take 4 (.slice (some ⟨g, 0, none⟩) n (n + 100)) rfl (by kernel_rfl) (by kernel_rfl) (by kernel_rfl) (held_move (by rfl) (.tmp 7) rfl rfl) (by assumption) ?_
  try simp only [Act.put, List.setIfInBounds_toArray, List.set_cons_zero, List.set_cons_succ]
  refine held_take 6 (.pointer (some ⟨w.heap.size, 1, none⟩)) rfl (by kernel_rfl) (by kernel_rfl) (by kernel_rfl) (held_pure (by rfl) (fun W => by go_simp)) (by assumption) ?_
  try simp only [Act.put, List.setIfInBounds_toArray, List.set_cons_zero, List.set_cons_succ]
  refine held_take 7 (.int .i64 o.w) rfl (by kernel_rfl) (by kernel_rfl) (by kernel_rfl) (held_load1 (by rfl) 3 (.tmp 96) rfl w.heap.size 1 rfl .i64 (.int .i64 o.w) (fun W hS => (hS.cell (p := ⟨w.heap.size, 1, none⟩) hlt.out).trans cc1.out) Tryd.underlying3) (by assumption) ?_
  try simp only [Act.put, List.setIfInBounds_toArray, List.set_cons_zero, List.set_cons_succ]
  refine held_take 8 (.pointer (some ⟨w.heap.size, 4, none⟩)) rfl (by kernel_rfl) (by kernel_rfl) (by kernel_rfl) (held_pure (by rfl) (fun W => by go_simp)) (by assumption) ?_
  try simp only [Act.put, List.setIfInBounds_toArray, List.set_cons_zero, List.set_cons_succ]
  refine held_take 9 (.agg (dc o.k)) rfl (by kernel_rfl) (by kernel_rfl) (by kernel_rfl) (held_load (by rfl) 26 (.tmp 98) rfl (w.heap.size) 4 rfl o.k 5 (fun W hS => rangeAt_below r4.out hS hlt.out) UK hiK) (by assumption) ?_
  try simp only [Act.put, List.setIfInBounds_toArray, List.set_cons_zero, List.set_cons_succ]
  refine held_take 10 (.slice a1 n c1) rfl (by kernel_rfl) (by kernel_rfl) (by kernel_rfl) (held_move (by rfl) (.tmp 2) rfl rfl) (by assumption) ?_
  try simp only [Act.put, List.setIfInBounds_toArray, List.set_cons_zero, List.set_cons_succ]
  refine held_step 5 (by kernel_rfl) rfl (by rfl) (fun K hK => ?_)
  go_simp
  refine (calls_box (hA.out _ hH0)).mono ?_
  rintro e W5 ⟨⟨rfl, hBA⟩⟩
  dsimp only
  refine hK.out _ _ (hH0.trans (hBA.mono hH0.size)) (fun hH5 => ?_)
  clear hK K
  try simp only [Act.put, List.setIfInBounds_toArray, List.set_cons_zero, List.set_cons_succ]
  refine held_step 11 (by kernel_rfl) rfl (by rfl) (fun K hK => ?_)
  go_simp
  refine (calls_box (hB.out _ hH5)).mono ?_
  rintro e W11 ⟨⟨rfl, hBB⟩⟩
  dsimp only
  refine hK.out _ _ (hH5.trans (hBB.mono hH5.size)) (fun hH11 => ?_)
  clear hK K
  try simp only [Act.put, List.setIfInBounds_toArray, List.set_cons_zero, List.set_cons_succ]
  refine held_take 12 (.bool true) rfl (by kernel_rfl) (by kernel_rfl) (by kernel_rfl) (held_eql (by rfl) 27 27 (.tmp 95) (.tmp 101) rfl dd dd true rfl rfl hgD eDD) (by assumption) ?_
  try simp only [Act.put, List.setIfInBounds_toArray, List.set_cons_zero, List.set_cons_succ]
  refine held_take 13 (.bool true) rfl (by kernel_rfl) (by kernel_rfl) (by kernel_rfl) (held_pure (by rfl) (fun W => by go_simp)) (by assumption) ?_
  try simp only [Act.put, List.setIfInBounds_toArray, List.set_cons_zero, List.set_cons_succ]
  refine held_done (by kernel_rfl) ?_ _
  have Bf := Box.mk hH11
  clear hBA hBB hH0 hH5 hH11
  have hRI := Box.mk (roomyIs_any (some ⟨g, 0, none⟩) a1 (n + 100) (n + 100) n c1 (roomyL L) L _ (row_whole ((Bf.out.block g hgl.out).trans HG.out) HL.out) (HR.out.old Bf.out) (by unfold maxLen; omega) hn)
  rw [eqB_true rfl] at hRI
  go_wp2_with (go_at_call 27; refine (calls_box hRI.out).mono ?_)
  rintro e W9 ⟨⟨rfl, hB9⟩⟩
  have B9 := Box.mk (B0.out.trans ((Bf.out.trans (hB9.mono Bf.out.size)).mono B0.out.size))
  clear hB9
  go_wp2
  go_ret
  exact ⟨rfl, B9.out⟩
end Go.Proofs.YteiepenanffhcaaDoor

/- NodeSums: the walk of the law. -/
namespace Go.Proofs.YteiepenanffhcaaDoor
open Go Go.RowKit
set_option linter.unusedVariables false

theorem sums_each {S : S8} {K : List UInt32} {w : World} {o : OpV} (hi : OpIn w o) (hA : Laid S K w) (hR : LaidR S K w) (h1 : 5 ≤ o.kind) (h2 : o.kind ≤ 6) (W : World) (hb : Below w.heap.size w W) :
    Calls Tryd.prog 11 #[.agg (opC o).toArray] W fun e W' => e = .returned (.bool true) ∧ Below W.heap.size W W' := by
  obtain ⟨lv, hv⟩ := hi.val
  obtain ⟨ln, hn⟩ := hi.nval
  have hA1 := hA.old hb
  have hR1 := hR.old hb
  rcases (show o.kind = 5 ∨ o.kind = 6 by omega) with hk | hk
  · exact plays_val5 o hk W lv ln (hv.old hb) hi.vlen (hn.old hb) hi.nlen fun L hL g a1 c1 W' hW h3 h4 h5 h6 h7 => valuePlay_leaf o hk o.vn hi.vlen L hL g a1 c1 W' (hA1.old hW) (hR1.old hW) h3 h4 h5 h6 h7
  · exact plays_num6 o hk W fun o' hk' W' hW => numbersPlay_branch o' hk' W' (brD S K o'.w o'.d o'.e)
      (fun W2 h2 => branch_any o'.w o'.d o'.e W2 ((hA1.old hW).old h2)) (fun W2 h2 => rbranch_any o'.w o'.d o'.e W2 hA.1 ((hR1.old hW).old h2))

set_option maxHeartbeats 800000 in
theorem sums_walk {S : S8} {K : List UInt32} (ao : Option Addr) (n c : Nat) (os : List OpV) (w : World) (h : Ops w ao n os) (mx : n ≤ 4611686018427387904) (hin : ∀ o ∈ os, OpIn w o) (hA : Laid S K w) (hR : LaidR S K w) :
    Calls Tryd.prog 6 #[.slice ao n c] w fun e w' => e = .returned (.bool true) ∧ Below w.heap.size w w' := by
  have hU := Box.mk (upTo_any 5 6 ao n c os w h mx fun o ho h1 h2 W hb => sums_each (hin o ho) hA hR h1 h2 W hb)
  clear h hin hA hR
  go_enter Tryd.func6, Tryd.ntmps6
  go_wp2_with (go_at_call 10; refine (calls_box hU.out).mono ?_)
  rintro e w1 ⟨⟨rfl, hB⟩⟩
  go_wp2
  go_ret
  exact ⟨rfl, hB⟩
end Go.Proofs.YteiepenanffhcaaDoor
