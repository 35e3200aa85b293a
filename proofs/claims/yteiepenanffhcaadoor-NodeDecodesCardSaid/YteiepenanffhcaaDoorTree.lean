/- The digests of leaves, branches and empty subtrees: the walks of node.Leaf, node.Branch, node.Empty. -/
import Derived.Test.YteiepenanffhcaaDoorSumF
import Derived.Test.YteiepenanffhcaaDoorCut
namespace Go.Proofs.YteiepenanffhcaaDoor
open Go Go.RowKit
set_option linter.unusedVariables false

theorem length_shaD (B K : List UInt32) (l : List UInt8) : (shaD B K l).length = 32 := length_outN _ _
/-- The digest of a text, over the program's two tables. -/
def sha (S : S8) (K : List UInt32) (l : List UInt8) : D32 := ⟨shaD S.list K l, length_shaD _ _ _⟩
theorem dc_mk (l : List UInt8) (h : l.length = 32) : dc ⟨l, h⟩ = (bvs l).toArray := rfl
theorem dc_sha (S : S8) (K : List UInt32) (l : List UInt8) : dc (sha S K l) = (bvs (shaD S.list K l)).toArray := by
  unfold sha
  exact dc_mk _ _
/-- The two tables lie where the program reads them. -/
def Laid (S : S8) (K : List UInt32) (w : World) : Prop :=
  K.length = 64 ∧ (∀ i, i < 8 → w.cell? ⟨0, i, none⟩ = some (uv (S.list.getD i 0))) ∧ (∀ i, i < 64 → w.cell? ⟨2, i, none⟩ = some (uv (K.getD i 0)))
theorem Laid.old {S : S8} {K : List UInt32} {w w' : World} (h : Laid S K w) (hb : Below w.heap.size w w') : Laid S K w' :=
  ⟨h.1, fun i hi => (hb.cell (p := ⟨0, i, none⟩) (block_lt_of_cell (h.2.1 i hi))).trans (h.2.1 i hi), fun i hi => (hb.cell (p := ⟨2, i, none⟩) (block_lt_of_cell (h.2.2 i hi))).trans (h.2.2 i hi)⟩

theorem sum_any {S : S8} {K : List UInt32} (ao : Option Addr) (n c : Nat) (l : List UInt8) (w : World) (hL : Laid S K w)
    (hp : Row w ao n l) (hnc : n ≤ c) (hmax : n ≤ 140737488355328) (hnil : ao = none → n = 0 ∧ c = 0) (hao : ∀ b' o', ao = some ⟨b', o', none⟩ → b' < w.heap.size) :
    Calls Tryd.prog 43 #[.slice ao n c] w fun e w' => e = .returned (.agg (dc (sha S K l))) ∧ Below w.heap.size w w' := by
  rw [dc_sha]
  exact sumf_any S K ao n c l w hL.1 hp hnc hmax hnil hao hL.2.1 hL.2.2

/-- The text of a leaf, of two subtrees. -/
def leafT (kk : D32) (l : List UInt8) : List UInt8 := 0 :: (kk.1 ++ l)
def branchT (width : Int) (x y : D32) : List UInt8 := 1 :: (x.1.take (wid width) ++ y.1.take (wid width))
/-- The digests of a leaf, of two subtrees, of an empty subtree. -/
def leafD (S : S8) (K : List UInt32) (width : Int) (kk : D32) (l : List UInt8) : D32 := cutD (sha S K (leafT kk l)) width
def brD (S : S8) (K : List UInt32) (width : Int) (x y : D32) : D32 := cutD (sha S K (branchT width x y)) width
def emD (S : S8) (K : List UInt32) (width : Int) : Nat → D32
  | 0 => cutD (sha S K [2]) width
  | n + 1 => brD S K width (emD S K width n) (emD S K width n)
theorem length_branchT (width : Int) (x y : D32) : (branchT width x y).length = 1 + 2 * wid width := by
  have := wid_le width
  simp only [branchT, List.length_cons, List.length_append, List.length_take, x.2, y.2]
  omega
theorem length_leafT (kk : D32) (l : List UInt8) : (leafT kk l).length = 33 + l.length := by
  simp only [leafT, List.length_cons, List.length_append, kk.2]
  omega

set_option maxRecDepth 100000 in
set_option maxHeartbeats 800000 in
theorem leaf_any {S : S8} {K : List UInt32} (width : Int) (kk : D32) (ao : Option Addr) (n c : Nat) (l : List UInt8) (w : World) (hL : Laid S K w) (h : Row w ao n l) (hn : ao = none → n = 0 ∧ c = 0) (hb : n ≤ 140737488351232) :
    Calls Tryd.prog 25 #[.int .i64 width, .agg (dc kk), .slice ao n c] w fun e w' => e = .returned (.agg (dc (leafD S K width kk l))) ∧ Below w.heap.size w w' := by
  obtain ⟨t, ht⟩ : ∃ t, leafT kk l = t := ⟨_, rfl⟩
  have hlt : ∀ W, Below w.heap.size w W → _ := fun W hW => leafText_any kk ao n c l W (h.old hW) hn hb
  have hl := h.1
  have hlen := length_leafT kk l
  have hi33 : Hid ((Tryd.prog.info? 26).map (·.size) = some 32) := by unfold Hid; kernel_rfl
  have hi24 : Hid ((Tryd.prog.info? 27).map (·.size) = some 32) := by unfold Hid; kernel_rfl
  have hzd : ∀ W : World, (zeroValue 27).run Tryd.prog W = .ok (.agg (dc zero32)) W := fun W => by kernel_rfl
  rw [show (0 :: (kk.1 ++ l)) = t from ht] at hlt
  unfold leafD
  rw [ht] at hlen ⊢
  have hlen' : 33 + n = t.length := by omega
  rw [hlen'] at hlt
  have hB0 : ∀ o o', Below w.heap.size w ((w.alloc o).alloc o') := fun o o' => (Below.refl_alloc w _).alloc (by simp) _
  obtain ⟨sd, hsd⟩ : ∃ sd, sha S K t = sd := ⟨_, rfl⟩
  have hsum : ∀ base g cap W, Laid S K W → Own W base 5 (.slice (some ⟨g, 0, none⟩) t.length cap) t → _ := fun base g cap W hLW ho => sum_any (some ⟨g, 0, none⟩) t.length cap t W hLW ho.row.1 ho.row.2.2.2.1 (by omega) (fun h => by cases h) (fun b' o' h => by cases h; exact ho.row.2.2.1)
  rw [hsd] at hsum ⊢
  obtain ⟨cd, hcd⟩ : ∃ cd, cutD sd width = cd := ⟨_, rfl⟩
  have hcut : ∀ W, _ := fun W => cut_any sd width W
  rw [hcd] at hcut ⊢
  clear ht hsd hcd hlen hlen' hl
  go_enter Tryd.func25, Tryd.ntmps25
  go_wp2_with (first
    | (refine wpList_load32 rfl 26 (.tmp 4) ?_ w.heap.size 0 ?_ kk ?_ Tryd.underlying26 hi33 ?_; rfl; rfl; exact rangeAt_block (heap_old (heap_new rfl)))
    | (go_at_call 23; refine (hlt _ (hB0 _ _)).mono ?_))
  rintro e w1 ⟨g, cap, rfl, ho, hB⟩
  have hB1 := (hB0 _ _).trans (hB.mono (hB0 _ _).size)
  have R1 : Box (w1.heap[w.heap.size + 1]? = some (.cells (dc zero32) 27 (0, 0))) := ⟨(hB.block _ (by simp)).trans (heap_new (by simp))⟩
  have s1 := heap_lt R1.out
  clear hB hlt
  go_wp2_with (go_at_call 43; refine (hsum _ _ _ _ (hL.old hB1) ho).mono ?_)
  rintro e w2 ⟨rfl, hB2⟩
  have R2 : Box (w2.heap[w.heap.size + 1]? = some (.cells (dc zero32) 27 (0, 0))) := ⟨(hB2.block _ s1).trans R1.out⟩
  have hB3 := hB1.trans (hB2.mono hB1.size)
  have s2 := heap_lt R2.out
  clear hB1 hB2 R1 ho hsum
  go_wp2_with (go_at_call 42; refine (hcut _).mono ?_)
  rintro e w3 ⟨rfl, hB4⟩
  have R3 : Box (w3.heap[w.heap.size + 1]? = some (.cells (dc zero32) 27 (0, 0))) := ⟨(hB4.block _ s2).trans R2.out⟩
  have hB5 := hB3.trans (hB4.mono hB3.size)
  clear hB3 hB4 R2 hcut
  have i24 : Box ((Tryd.prog.info? 27).map (·.size) = some (dc cd).size) := ⟨by rw [size_dc]; exact hi24.out⟩
  have hds : Box ((dc zero32).size = (dc cd).size) := ⟨by rw [size_dc, size_dc]⟩
  go_wp2_with (refine wpList_store_row rfl 27 (.tmp 6) (.tmp 12) ?_ (w.heap.size + 1) (dc zero32) (dc cd) 27 ?_ ?_ R3.out hds.out i24.out (dc_all _) ?_; rfl; rfl; rfl)
  intro w4 g4 G4
  have hB6 := hB5.grown G4 hB5.size (fun k hk => by cases hk; omega)
  go_wp2
  exact bodyPost_ret (v := .agg (dc cd)) (results_cell_row (p := 6) (ty := 27) rfl _ _ (w.heap.size + 1) 27 _ (0, 0) _ rfl g4.out Tryd.underlying27 rfl i24.out) rfl ⟨rfl, hB6⟩

set_option maxRecDepth 100000 in
set_option maxHeartbeats 800000 in
theorem branch_any {S : S8} {K : List UInt32} (width : Int) (x y : D32) (w : World) (hL : Laid S K w) :
    Calls Tryd.prog 30 #[.int .i64 width, .agg (dc x), .agg (dc y)] w fun e w' => e = .returned (.agg (dc (brD S K width x y))) ∧ Below w.heap.size w w' := by
  obtain ⟨t, ht⟩ : ∃ t, branchT width x y = t := ⟨_, rfl⟩
  have hlt : ∀ W, _ := fun W => branchText_any width x y W
  have hlen := length_branchT width x y
  have hi24 : Hid ((Tryd.prog.info? 27).map (·.size) = some 32) := by unfold Hid; kernel_rfl
  have hzd : ∀ W : World, (zeroValue 27).run Tryd.prog W = .ok (.agg (dc zero32)) W := fun W => by kernel_rfl
  have hwl := wid_le width
  rw [show (1 :: (x.1.take (wid width) ++ y.1.take (wid width))) = t from ht] at hlt
  unfold brD
  rw [ht] at hlen ⊢
  rw [← hlen] at hlt
  have hB0 : ∀ o o' o'', Below w.heap.size w (((w.alloc o).alloc o').alloc o'') := fun o o' o'' => ((Below.refl_alloc w _).alloc (by simp) _).alloc (by simp; omega) _
  obtain ⟨sd, hsd⟩ : ∃ sd, sha S K t = sd := ⟨_, rfl⟩
  have hsum : ∀ base g cap W, Laid S K W → Own W base 5 (.slice (some ⟨g, 0, none⟩) t.length cap) t → _ := fun base g cap W hLW ho => sum_any (some ⟨g, 0, none⟩) t.length cap t W hLW ho.row.1 ho.row.2.2.2.1 (by omega) (fun h => by cases h) (fun b' o' h => by cases h; exact ho.row.2.2.1)
  rw [hsd] at hsum ⊢
  obtain ⟨cd, hcd⟩ : ∃ cd, cutD sd width = cd := ⟨_, rfl⟩
  have hcut : ∀ W, _ := fun W => cut_any sd width W
  rw [hcd] at hcut ⊢
  clear ht hsd hcd hlen hwl
  go_enter Tryd.func30, Tryd.ntmps30
  go_wp2_with (first
    | (refine wpList_load32 rfl 27 (.tmp 4) ?_ w.heap.size 0 ?_ x ?_ Tryd.underlying27 hi24 ?_; rfl; rfl; exact rangeAt_block (heap_old (heap_old (heap_new rfl))))
    | (refine wpList_load32 rfl 27 (.tmp 5) ?_ (w.heap.size + 1) 0 ?_ y ?_ Tryd.underlying27 hi24 ?_; rfl; rfl; exact rangeAt_block (heap_old (heap_new (by simp))))
    | (go_at_call 28; refine (hlt _).mono ?_))
  rintro e w1 ⟨g, cap, rfl, ho, hB⟩
  have hB1 := (hB0 _ _ _).trans (hB.mono (hB0 _ _ _).size)
  have R1 : Box (w1.heap[w.heap.size + 1 + 1]? = some (.cells (dc zero32) 27 (0, 0))) := ⟨(hB.block _ (by simp)).trans (heap_new (by simp))⟩
  have s1 := heap_lt R1.out
  clear hB hlt
  go_wp2_with (go_at_call 43; refine (hsum _ _ _ _ (hL.old hB1) ho).mono ?_)
  rintro e w2 ⟨rfl, hB2⟩
  have R2 : Box (w2.heap[w.heap.size + 1 + 1]? = some (.cells (dc zero32) 27 (0, 0))) := ⟨(hB2.block _ s1).trans R1.out⟩
  have hB3 := hB1.trans (hB2.mono hB1.size)
  have s2 := heap_lt R2.out
  clear hB1 hB2 R1 ho hsum
  go_wp2_with (go_at_call 42; refine (hcut _).mono ?_)
  rintro e w3 ⟨rfl, hB4⟩
  have R3 : Box (w3.heap[w.heap.size + 1 + 1]? = some (.cells (dc zero32) 27 (0, 0))) := ⟨(hB4.block _ s2).trans R2.out⟩
  have hB5 := hB3.trans (hB4.mono hB3.size)
  clear hB3 hB4 R2 hcut
  have i24 : Box ((Tryd.prog.info? 27).map (·.size) = some (dc cd).size) := ⟨by rw [size_dc]; exact hi24.out⟩
  have hds : Box ((dc zero32).size = (dc cd).size) := ⟨by rw [size_dc, size_dc]⟩
  go_wp2_with (refine wpList_store_row rfl 27 (.tmp 6) (.tmp 13) ?_ (w.heap.size + 1 + 1) (dc zero32) (dc cd) 27 ?_ ?_ R3.out hds.out i24.out (dc_all _) ?_; rfl; rfl; rfl)
  intro w4 g4 G4
  have hB6 := hB5.grown G4 hB5.size (fun k hk => by cases hk; omega)
  go_wp2
  exact bodyPost_ret (v := .agg (dc cd)) (results_cell_row (p := 6) (ty := 27) rfl _ _ (w.heap.size + 1 + 1) 27 _ (0, 0) _ rfl g4.out Tryd.underlying27 rfl i24.out) rfl ⟨rfl, hB6⟩

/-- The digest of an empty subtree of a height held within its bounds. -/
def emptyD (S : S8) (K : List UInt32) (width height : Int) : D32 := emD S K width (clamp height 0 256).toNat
set_option maxRecDepth 100000 in
set_option maxHeartbeats 800000 in
theorem empty_any {S : S8} {K : List UInt32} (width height : Int) (w : World) (hL : Laid S K w) :
    Calls Tryd.prog 32 #[.int .i64 width, .int .i64 height] w fun e w' => e = .returned (.agg (dc (emptyD S K width height))) ∧ Below w.heap.size w w' := by
  have hi24 : Hid ((Tryd.prog.info? 27).map (·.size) = some 32) := by unfold Hid; kernel_rfl
  have hzd : ∀ W : World, (zeroValue 27).run Tryd.prog W = .ok (.agg (dc zero32)) W := fun W => by kernel_rfl
  obtain ⟨H, hH⟩ : ∃ H : Nat, clamp height 0 256 = (H : Int) := ⟨(clamp height 0 256).toNat, by unfold clamp; omega⟩
  have hwi : ∀ W, _ := fun W => within_any height 0 256 W
  unfold emptyD
  rw [hH] at hwi ⊢
  have hle : H ≤ 256 := by unfold clamp at hH; omega
  clear hH
  rw [show ((H : Int)).toNat = H by omega]
  obtain ⟨d0, hd0⟩ : ∃ d, sha S K [2] = d := ⟨_, rfl⟩
  have hsum : ∀ g W, Laid S K W → Row W (some ⟨g, 0, none⟩) 1 [2] → g < W.heap.size → _ := fun g W hLW hr hg => sum_any (some ⟨g, 0, none⟩) 1 1 [2] W hLW hr (by omega) (by omega) (fun h => by cases h) (fun b' o' h => by cases h; exact hg)
  rw [hd0] at hsum
  obtain ⟨c0, hc0⟩ : ∃ d, cutD d0 width = d := ⟨_, rfl⟩
  have hcut : ∀ W, _ := fun W => cut_any d0 width W
  rw [hc0] at hcut
  have h0 : Box (emD S K width 0 = c0) := ⟨by unfold emD; rw [hd0, hc0]⟩
  clear hd0 hc0
  go_enter Tryd.func32, Tryd.ntmps32
  go_wp2_with (go_at_call 43; refine (hsum _ _ (hL.old ((Below.refl_alloc w _).alloc (by simp) _)) ?_ (by simp)).mono ?_; (have := Row.lit (w.alloc (.cells (dc zero32) 27)) #[.int .u8 2] 5 [2] rfl; simpa using this))
  rintro e w1 ⟨rfl, hB⟩
  have hB1 : Below w.heap.size w w1 := ((Below.refl_alloc w _).alloc (by simp) _).trans (hB.mono (by simp; omega))
  have R1 : Box (w1.heap[w.heap.size]? = some (.cells (dc zero32) 27 (0, 0))) := ⟨(hB.block _ (by simp; omega)).trans (heap_old (heap_new rfl))⟩
  have s1 := heap_lt R1.out
  clear hB hsum
  go_wp2_with (go_at_call 42; refine (hcut _).mono ?_)
  rintro e w2 ⟨rfl, hB2⟩
  have R2 : Box (w2.heap[w.heap.size]? = some (.cells (dc zero32) 27 (0, 0))) := ⟨(hB2.block _ s1).trans R1.out⟩
  have hB3 := hB1.trans (hB2.mono hB1.size)
  have s2 := heap_lt R2.out
  clear hB1 hB2 R1 hcut
  have hd32 : ∀ d : D32, Box ((Tryd.prog.info? 27).map (·.size) = some (dc d).size) := fun d => ⟨by rw [size_dc]; exact hi24.out⟩
  have hss : ∀ d e : D32, Box ((dc d).size = (dc e).size) := fun d e => ⟨by rw [size_dc, size_dc]⟩
  go_wp2_with (refine wpList_store_row rfl 27 (.tmp 5) (.tmp 9) ?_ w2.heap.size (dc zero32) (dc c0) 27 ?_ ?_ ?_ (hss _ _).out (hd32 _).out (dc_all _) ?_; rfl; rfl; rfl; exact heap_new rfl)
  intro w3 g3 G3
  have hB4 : Below w2.heap.size w2 w3 := (Below.refl_alloc w2 _).grown G3 (by simp) (fun k hk => by cases hk; omega)
  have s3 : w2.heap.size < w3.heap.size := heap_lt g3.out
  clear G3
  go_wp2_with (go_at_call 45; refine (hwi _).mono ?_)
  rintro e w' ⟨rfl, rfl⟩
  clear hwi
  go_wp2
  go_loopw [12] (fun i wr => ∃ (k : Nat) (d : D32), k ≤ H ∧ i = .int .i64 k ∧ Box (d = emD S K width k) ∧ Hid (wr.heap[w2.heap.size]? = some (.cells (dc d) 27 (0, 0))) ∧ Below w2.heap.size w2 wr) (fun i _ => H - (intOf i).toNat)
  case atStart => exact ⟨0, c0, by omega, rfl, ⟨h0.out.symm⟩, g3, hB4⟩
  case round =>
    obtain ⟨k, d, hk, rfl, hd, gr, Br⟩ := hrel
    have sr : w2.heap.size < wr.heap.size := heap_lt gr.out
    by_cases hlt : k < H
    · obtain ⟨b, hb⟩ : ∃ b, brD S K width d d = b := ⟨_, rfl⟩
      have hbr := branch_any width d d wr (hL.old (hB3.trans (Br.mono hB3.size)))
      rw [hb] at hbr
      have HB : Box (brD S K width d d = b) := ⟨hb⟩
      clear hb
      have q0 : wr.rangeAt w2.heap.size 0 (bvs d.1) := rangeAt_block gr.out
      have HQ := Lib.hid q0
      clear q0
      go_wp2_with (first
        | (refine wpList_load32 rfl 27 (.tmp 5) ?_ w2.heap.size 0 ?_ d ?_ Tryd.underlying27 hi24 ?_; rfl; rfl; exact HQ.out)
        | (go_at_call 30; refine hbr.mono ?_))
      rintro e w4 ⟨rfl, hB5⟩
      go_wp2_with (refine wpList_store_row rfl 27 (.tmp 5) (.tmp 17) ?_ w2.heap.size (dc d) (dc b) 27 ?_ ?_ ?_ (hss _ _).out (hd32 _).out (dc_all _) ?_; rfl; rfl; rfl; exact ((hB5.block _ sr).trans gr.out))
      intro w5 g5 G5
      go_wp2
      go_roundw
      case rel => exact ⟨k + 1, b, by omega, by go_num, ⟨by rw [← HB.out, hd.out, emD]⟩, g5, ((Br.trans (hB5.mono Br.size)).grown G5 (Br.trans (hB5.mono Br.size)).size (fun k hk => by cases hk; omega))⟩
      case measure => simp [intOf]; omega
    · have kH : k = H := by omega
      have HD : Box (d = emD S K width H) := ⟨by rw [← kH]; exact hd.out⟩
      go_wp2_with (first
        | (refine wpList_load32 rfl 27 (.tmp 5) ?_ w2.heap.size 0 ?_ d ?_ Tryd.underlying27 hi24 ?_; rfl; rfl; exact rangeAt_block gr.out)
        | (refine wpList_store_row rfl 27 (.tmp 4) (.tmp 19) ?_ w.heap.size (dc zero32) (dc d) 27 ?_ ?_ ?_ (hss _ _).out (hd32 _).out (dc_all _) ?_; rfl; rfl; rfl; exact (Br.block _ s2).trans R2.out))
      intro w5 g5 G5
      go_wp2
      exact bodyPost_ret (v := .agg (dc d)) (results_cell_row (p := 4) (ty := 27) rfl _ _ w.heap.size 27 _ (0, 0) _ rfl g5.out Tryd.underlying27 rfl (hd32 d).out) rfl ⟨by rw [HD.out], (hB3.trans (Br.mono hB3.size)).grown G5 (hB3.trans (Br.mono hB3.size)).size (fun k hk => by cases hk; omega)⟩
end Go.Proofs.YteiepenanffhcaaDoor
