/- Texts joined: Tree, Tabs4, RSum. -/
import Derived.Test.YteiepenanffhcaaDoorP11
import Derived.Test.YteiepenanffhcaaDoorP13
import Derived.Test.YteiepenanffhcaaDoorRows
import Derived.ProofKit
import Derived.LaidMore
import Derived.OpenShut
import Derived.Stop.Joined
import Derived.Test.YteiepenanffhcaaDoorP12
import Derived.Test.YteiepenanffhcaaDoorP02
/- The digests of leaves, branches and empty subtrees: the walks of node.Leaf, node.Branch, node.Empty. -/
namespace Go.Proofs.YteiepenanffhcaaDoor
open Go Go.RowKit
set_option linter.unusedVariables false

theorem length_shaD (B K : List UInt32) (l : List UInt8) : (shaD B K l).length = 32 := length_outN _ _
/-- The digest of a text, over the program's two tables. -/
def sha (S : S8) (K : List UInt32) (l : List UInt8) : D32 := ⟨shaD S.list K l, length_shaD _ _ _⟩
theorem dc_mk (l : List UInt8) (h : l.length = 32) : dc ⟨l, h⟩ = (bvs l).toArray := rfl
theorem dc_sha (S : S8) (K : List UInt32) (l : List UInt8) : dc (sha S K l) = (bvs (shaD S.list K l)).toArray := by
  unfold sha
  exact dc_mk _ _
/-- The two tables lie where the program reads them. -/
def Laid (S : S8) (K : List UInt32) (w : World) : Prop :=
  K.length = 64 ∧ (∀ i, i < 8 → w.cell? ⟨0, i, none⟩ = some (uv (S.list.getD i 0))) ∧ (∀ i, i < 64 → w.cell? ⟨2, i, none⟩ = some (uv (K.getD i 0)))
theorem Laid.old {S : S8} {K : List UInt32} {w w' : World} (h : Laid S K w) (hb : Below w.heap.size w w') : Laid S K w' :=
  ⟨h.1, fun i hi => (hb.cell (p := ⟨0, i, none⟩) (block_lt_of_cell (h.2.1 i hi))).trans (h.2.1 i hi), fun i hi => (hb.cell (p := ⟨2, i, none⟩) (block_lt_of_cell (h.2.2 i hi))).trans (h.2.2 i hi)⟩

theorem sum_any {S : S8} {K : List UInt32} (ao : Option Addr) (n c : Nat) (l : List UInt8) (w : World) (hL : Laid S K w)
    (hp : Row w ao n l) (hnc : n ≤ c) (hmax : n ≤ 140737488355328) (hnil : ao = none → n = 0 ∧ c = 0) (hao : ∀ b' o', ao = some ⟨b', o', none⟩ → b' < w.heap.size) :
    Calls Tryd.prog 43 #[.slice ao n c] w fun e w' => e = .returned (.agg (dc (sha S K l))) ∧ Below w.heap.size w w' := by
  rw [dc_sha]
  exact sumf_any S K ao n c l w hL.1 hp hnc hmax hnil hao hL.2.1 hL.2.2

/-- The text of a leaf, of two subtrees. -/
def leafT (kk : D32) (l : List UInt8) : List UInt8 := 0 :: (kk.1 ++ l)
def branchT (width : Int) (x y : D32) : List UInt8 := 1 :: (x.1.take (wid width) ++ y.1.take (wid width))
/-- The digests of a leaf, of two subtrees, of an empty subtree. -/
def leafD (S : S8) (K : List UInt32) (width : Int) (kk : D32) (l : List UInt8) : D32 := cutD (sha S K (leafT kk l)) width
def brD (S : S8) (K : List UInt32) (width : Int) (x y : D32) : D32 := cutD (sha S K (branchT width x y)) width
def emD (S : S8) (K : List UInt32) (width : Int) : Nat → D32
  | 0 => cutD (sha S K [2]) width
  | n + 1 => brD S K width (emD S K width n) (emD S K width n)
theorem length_branchT (width : Int) (x y : D32) : (branchT width x y).length = 1 + 2 * wid width := by
  have := wid_le width
  simp only [branchT, List.length_cons, List.length_append, List.length_take, x.2, y.2]
  omega
theorem length_leafT (kk : D32) (l : List UInt8) : (leafT kk l).length = 33 + l.length := by
  simp only [leafT, List.length_cons, List.length_append, kk.2]
  omega

set_option maxRecDepth 100000 in
set_option maxHeartbeats 800000 in
theorem leaf_any {S : S8} {K : List UInt32} (width : Int) (kk : D32) (ao : Option Addr) (n c : Nat) (l : List UInt8) (w : World) (hL : Laid S K w) (h : Row w ao n l) (hn : ao = none → n = 0 ∧ c = 0) (hb : n ≤ 140737488351232) :
    Calls Tryd.prog 25 #[.int .i64 width, .agg (dc kk), .slice ao n c] w fun e w' => e = .returned (.agg (dc (leafD S K width kk l))) ∧ Below w.heap.size w w' := by
  obtain ⟨t, ht⟩ : ∃ t, leafT kk l = t := ⟨_, rfl⟩
  have hlt : ∀ W, Below w.heap.size w W → _ := fun W hW => leafText_any kk ao n c l W (h.old hW) hn hb
  have hl := h.1
  have hlen := length_leafT kk l
  have hi33 : Hid ((Tryd.prog.info? 26).map (·.size) = some 32) := by unfold Hid; kernel_rfl
  have hi24 : Hid ((Tryd.prog.info? 27).map (·.size) = some 32) := by unfold Hid; kernel_rfl
  have hzd : ∀ W : World, (zeroValue 27).run Tryd.prog W = .ok (.agg (dc zero32)) W := fun W => by kernel_rfl
  rw [show (0 :: (kk.1 ++ l)) = t from ht] at hlt
  unfold leafD
  rw [ht] at hlen ⊢
  have hlen' : 33 + n = t.length := by omega
  rw [hlen'] at hlt
  have hB0 : ∀ o o', Below w.heap.size w ((w.alloc o).alloc o') := fun o o' => (Below.refl_alloc w _).alloc (by simp) _
  obtain ⟨sd, hsd⟩ : ∃ sd, sha S K t = sd := ⟨_, rfl⟩
  have hsum : ∀ base g cap W, Laid S K W → Own W base 5 (.slice (some ⟨g, 0, none⟩) t.length cap) t → _ := fun base g cap W hLW ho => sum_any (some ⟨g, 0, none⟩) t.length cap t W hLW ho.row.1 ho.row.2.2.2.1 (by omega) (fun h => by cases h) (fun b' o' h => by cases h; exact ho.row.2.2.1)
  rw [hsd] at hsum ⊢
  obtain ⟨cd, hcd⟩ : ∃ cd, cutD sd width = cd := ⟨_, rfl⟩
  have hcut : ∀ W, _ := fun W => cut_any sd width W
  rw [hcd] at hcut ⊢
  clear ht hsd hcd hlen hlen' hl
  go_enter Tryd.func25, Tryd.ntmps25
  go_wp2_with (first
    | (refine wpList_load32 rfl 26 (.tmp 4) ?_ w.heap.size 0 ?_ kk ?_ Tryd.underlying26 hi33 ?_; rfl; rfl; exact rangeAt_block (heap_old (heap_new rfl)))
    | (go_at_call 23; refine (hlt _ (hB0 _ _)).mono ?_))
  rintro e w1 ⟨g, cap, rfl, ho, hB⟩
  have hB1 := (hB0 _ _).trans (hB.mono (hB0 _ _).size)
  have R1 : Box (w1.heap[w.heap.size + 1]? = some (.cells (dc zero32) 27 (0, 0))) := ⟨(hB.block _ (by simp)).trans (heap_new (by simp))⟩
  have s1 := heap_lt R1.out
  clear hB hlt
  go_wp2_with (go_at_call 43; refine (hsum _ _ _ _ (hL.old hB1) ho).mono ?_)
  rintro e w2 ⟨rfl, hB2⟩
  have R2 : Box (w2.heap[w.heap.size + 1]? = some (.cells (dc zero32) 27 (0, 0))) := ⟨(hB2.block _ s1).trans R1.out⟩
  have hB3 := hB1.trans (hB2.mono hB1.size)
  have s2 := heap_lt R2.out
  clear hB1 hB2 R1 ho hsum
  go_wp2_with (go_at_call 42; refine (hcut _).mono ?_)
  rintro e w3 ⟨rfl, hB4⟩
  have R3 : Box (w3.heap[w.heap.size + 1]? = some (.cells (dc zero32) 27 (0, 0))) := ⟨(hB4.block _ s2).trans R2.out⟩
  have hB5 := hB3.trans (hB4.mono hB3.size)
  clear hB3 hB4 R2 hcut
  have i24 : Box ((Tryd.prog.info? 27).map (·.size) = some (dc cd).size) := ⟨by rw [size_dc]; exact hi24.out⟩
  have hds : Box ((dc zero32).size = (dc cd).size) := ⟨by rw [size_dc, size_dc]⟩
  go_wp2_with (refine wpList_store_row rfl 27 (.tmp 6) (.tmp 12) ?_ (w.heap.size + 1) (dc zero32) (dc cd) 27 ?_ ?_ R3.out hds.out i24.out (dc_all _) ?_; rfl; rfl; rfl)
  intro w4 g4 G4
  have hB6 := hB5.grown G4 hB5.size (fun k hk => by cases hk; omega)
  go_wp2
  exact bodyPost_ret (v := .agg (dc cd)) (results_cell_row (p := 6) (ty := 27) rfl _ _ (w.heap.size + 1) 27 _ (0, 0) _ rfl g4.out Tryd.underlying27 rfl i24.out) rfl ⟨rfl, hB6⟩

set_option maxRecDepth 100000 in
set_option maxHeartbeats 800000 in
theorem branch_any {S : S8} {K : List UInt32} (width : Int) (x y : D32) (w : World) (hL : Laid S K w) :
    Calls Tryd.prog 30 #[.int .i64 width, .agg (dc x), .agg (dc y)] w fun e w' => e = .returned (.agg (dc (brD S K width x y))) ∧ Below w.heap.size w w' := by
  obtain ⟨t, ht⟩ : ∃ t, branchT width x y = t := ⟨_, rfl⟩
  have hlt : ∀ W, _ := fun W => branchText_any width x y W
  have hlen := length_branchT width x y
  have hi24 : Hid ((Tryd.prog.info? 27).map (·.size) = some 32) := by unfold Hid; kernel_rfl
  have hzd : ∀ W : World, (zeroValue 27).run Tryd.prog W = .ok (.agg (dc zero32)) W := fun W => by kernel_rfl
  have hwl := wid_le width
  rw [show (1 :: (x.1.take (wid width) ++ y.1.take (wid width))) = t from ht] at hlt
  unfold brD
  rw [ht] at hlen ⊢
  rw [← hlen] at hlt
  have hB0 : ∀ o o' o'', Below w.heap.size w (((w.alloc o).alloc o').alloc o'') := fun o o' o'' => ((Below.refl_alloc w _).alloc (by simp) _).alloc (by simp; omega) _
  obtain ⟨sd, hsd⟩ : ∃ sd, sha S K t = sd := ⟨_, rfl⟩
  have hsum : ∀ base g cap W, Laid S K W → Own W base 5 (.slice (some ⟨g, 0, none⟩) t.length cap) t → _ := fun base g cap W hLW ho => sum_any (some ⟨g, 0, none⟩) t.length cap t W hLW ho.row.1 ho.row.2.2.2.1 (by omega) (fun h => by cases h) (fun b' o' h => by cases h; exact ho.row.2.2.1)
  rw [hsd] at hsum ⊢
  obtain ⟨cd, hcd⟩ : ∃ cd, cutD sd width = cd := ⟨_, rfl⟩
  have hcut : ∀ W, _ := fun W => cut_any sd width W
  rw [hcd] at hcut ⊢
  clear ht hsd hcd hlen hwl
  go_enter Tryd.func30, Tryd.ntmps30
  go_wp2_with (first
    | (refine wpList_load32 rfl 27 (.tmp 4) ?_ w.heap.size 0 ?_ x ?_ Tryd.underlying27 hi24 ?_; rfl; rfl; exact rangeAt_block (heap_old (heap_old (heap_new rfl))))
    | (refine wpList_load32 rfl 27 (.tmp 5) ?_ (w.heap.size + 1) 0 ?_ y ?_ Tryd.underlying27 hi24 ?_; rfl; rfl; exact rangeAt_block (heap_old (heap_new (by simp))))
    | (go_at_call 28; refine (hlt _).mono ?_))
  rintro e w1 ⟨g, cap, rfl, ho, hB⟩
  have hB1 := (hB0 _ _ _).trans (hB.mono (hB0 _ _ _).size)
  have R1 : Box (w1.heap[w.heap.size + 1 + 1]? = some (.cells (dc zero32) 27 (0, 0))) := ⟨(hB.block _ (by simp)).trans (heap_new (by simp))⟩
  have s1 := heap_lt R1.out
  clear hB hlt
  go_wp2_with (go_at_call 43; refine (hsum _ _ _ _ (hL.old hB1) ho).mono ?_)
  rintro e w2 ⟨rfl, hB2⟩
  have R2 : Box (w2.heap[w.heap.size + 1 + 1]? = some (.cells (dc zero32) 27 (0, 0))) := ⟨(hB2.block _ s1).trans R1.out⟩
  have hB3 := hB1.trans (hB2.mono hB1.size)
  have s2 := heap_lt R2.out
  clear hB1 hB2 R1 ho hsum
  go_wp2_with (go_at_call 42; refine (hcut _).mono ?_)
  rintro e w3 ⟨rfl, hB4⟩
  have R3 : Box (w3.heap[w.heap.size + 1 + 1]? = some (.cells (dc zero32) 27 (0, 0))) := ⟨(hB4.block _ s2).trans R2.out⟩
  have hB5 := hB3.trans (hB4.mono hB3.size)
  clear hB3 hB4 R2 hcut
  have i24 : Box ((Tryd.prog.info? 27).map (·.size) = some (dc cd).size) := ⟨by rw [size_dc]; exact hi24.out⟩
  have hds : Box ((dc zero32).size = (dc cd).size) := ⟨by rw [size_dc, size_dc]⟩
  go_wp2_with (refine wpList_store_row rfl 27 (.tmp 6) (.tmp 13) ?_ (w.heap.size + 1 + 1) (dc zero32) (dc cd) 27 ?_ ?_ R3.out hds.out i24.out (dc_all _) ?_; rfl; rfl; rfl)
  intro w4 g4 G4
  have hB6 := hB5.grown G4 hB5.size (fun k hk => by cases hk; omega)
  go_wp2
  exact bodyPost_ret (v := .agg (dc cd)) (results_cell_row (p := 6) (ty := 27) rfl _ _ (w.heap.size + 1 + 1) 27 _ (0, 0) _ rfl g4.out Tryd.underlying27 rfl i24.out) rfl ⟨rfl, hB6⟩

/-- The digest of an empty subtree of a height held within its bounds. -/
def emptyD (S : S8) (K : List UInt32) (width height : Int) : D32 := emD S K width (clamp height 0 256).toNat
set_option maxRecDepth 100000 in
set_option maxHeartbeats 800000 in
theorem empty_any {S : S8} {K : List UInt32} (width height : Int) (w : World) (hL : Laid S K w) :
    Calls Tryd.prog 32 #[.int .i64 width, .int .i64 height] w fun e w' => e = .returned (.agg (dc (emptyD S K width height))) ∧ Below w.heap.size w w' := by
  have hi24 : Hid ((Tryd.prog.info? 27).map (·.size) = some 32) := by unfold Hid; kernel_rfl
  have hzd : ∀ W : World, (zeroValue 27).run Tryd.prog W = .ok (.agg (dc zero32)) W := fun W => by kernel_rfl
  obtain ⟨H, hH⟩ : ∃ H : Nat, clamp height 0 256 = (H : Int) := ⟨(clamp height 0 256).toNat, by unfold clamp; omega⟩
  have hwi : ∀ W, _ := fun W => within_any height 0 256 W
  unfold emptyD
  rw [hH] at hwi ⊢
  have hle : H ≤ 256 := by unfold clamp at hH; omega
  clear hH
  rw [show ((H : Int)).toNat = H by omega]
  obtain ⟨d0, hd0⟩ : ∃ d, sha S K [2] = d := ⟨_, rfl⟩
  have hsum : ∀ g W, Laid S K W → Row W (some ⟨g, 0, none⟩) 1 [2] → g < W.heap.size → _ := fun g W hLW hr hg => sum_any (some ⟨g, 0, none⟩) 1 1 [2] W hLW hr (by omega) (by omega) (fun h => by cases h) (fun b' o' h => by cases h; exact hg)
  rw [hd0] at hsum
  obtain ⟨c0, hc0⟩ : ∃ d, cutD d0 width = d := ⟨_, rfl⟩
  have hcut : ∀ W, _ := fun W => cut_any d0 width W
  rw [hc0] at hcut
  have h0 : Box (emD S K width 0 = c0) := ⟨by unfold emD; rw [hd0, hc0]⟩
  clear hd0 hc0
  go_enter Tryd.func32, Tryd.ntmps32
  go_wp2_with (go_at_call 43; refine (hsum _ _ (hL.old ((Below.refl_alloc w _).alloc (by simp) _)) ?_ (by simp)).mono ?_; (have := Row.lit (w.alloc (.cells (dc zero32) 27)) #[.int .u8 2] 5 [2] rfl; simpa using this))
  rintro e w1 ⟨rfl, hB⟩
  have hB1 : Below w.heap.size w w1 := ((Below.refl_alloc w _).alloc (by simp) _).trans (hB.mono (by simp; omega))
  have R1 : Box (w1.heap[w.heap.size]? = some (.cells (dc zero32) 27 (0, 0))) := ⟨(hB.block _ (by simp; omega)).trans (heap_old (heap_new rfl))⟩
  have s1 := heap_lt R1.out
  clear hB hsum
  go_wp2_with (go_at_call 42; refine (hcut _).mono ?_)
  rintro e w2 ⟨rfl, hB2⟩
  have R2 : Box (w2.heap[w.heap.size]? = some (.cells (dc zero32) 27 (0, 0))) := ⟨(hB2.block _ s1).trans R1.out⟩
  have hB3 := hB1.trans (hB2.mono hB1.size)
  have s2 := heap_lt R2.out
  clear hB1 hB2 R1 hcut
  have hd32 : ∀ d : D32, Box ((Tryd.prog.info? 27).map (·.size) = some (dc d).size) := fun d => ⟨by rw [size_dc]; exact hi24.out⟩
  have hss : ∀ d e : D32, Box ((dc d).size = (dc e).size) := fun d e => ⟨by rw [size_dc, size_dc]⟩
  go_wp2_with (refine wpList_store_row rfl 27 (.tmp 5) (.tmp 9) ?_ w2.heap.size (dc zero32) (dc c0) 27 ?_ ?_ ?_ (hss _ _).out (hd32 _).out (dc_all _) ?_; rfl; rfl; rfl; exact heap_new rfl)
  intro w3 g3 G3
  have hB4 : Below w2.heap.size w2 w3 := (Below.refl_alloc w2 _).grown G3 (by simp) (fun k hk => by cases hk; omega)
  have s3 : w2.heap.size < w3.heap.size := heap_lt g3.out
  clear G3
  go_wp2_with (go_at_call 45; refine (hwi _).mono ?_)
  rintro e w' ⟨rfl, rfl⟩
  clear hwi
  go_wp2
  go_loopw [12] (fun i wr => ∃ (k : Nat) (d : D32), k ≤ H ∧ i = .int .i64 k ∧ Box (d = emD S K width k) ∧ Hid (wr.heap[w2.heap.size]? = some (.cells (dc d) 27 (0, 0))) ∧ Below w2.heap.size w2 wr) (fun i _ => H - (intOf i).toNat)
  case atStart => exact ⟨0, c0, by omega, rfl, ⟨h0.out.symm⟩, g3, hB4⟩
  case round =>
    obtain ⟨k, d, hk, rfl, hd, gr, Br⟩ := hrel
    have sr : w2.heap.size < wr.heap.size := heap_lt gr.out
    by_cases hlt : k < H
    · obtain ⟨b, hb⟩ : ∃ b, brD S K width d d = b := ⟨_, rfl⟩
      have hbr := branch_any width d d wr (hL.old (hB3.trans (Br.mono hB3.size)))
      rw [hb] at hbr
      have HB : Box (brD S K width d d = b) := ⟨hb⟩
      clear hb
      have q0 : wr.rangeAt w2.heap.size 0 (bvs d.1) := rangeAt_block gr.out
      have HQ := Lib.hid q0
      clear q0
      go_wp2_with (first
        | (refine wpList_load32 rfl 27 (.tmp 5) ?_ w2.heap.size 0 ?_ d ?_ Tryd.underlying27 hi24 ?_; rfl; rfl; exact HQ.out)
        | (go_at_call 30; refine hbr.mono ?_))
      rintro e w4 ⟨rfl, hB5⟩
      go_wp2_with (refine wpList_store_row rfl 27 (.tmp 5) (.tmp 17) ?_ w2.heap.size (dc d) (dc b) 27 ?_ ?_ ?_ (hss _ _).out (hd32 _).out (dc_all _) ?_; rfl; rfl; rfl; exact ((hB5.block _ sr).trans gr.out))
      intro w5 g5 G5
      go_wp2
      go_roundw
      case rel => exact ⟨k + 1, b, by omega, by go_num, ⟨by rw [← HB.out, hd.out, emD]⟩, g5, ((Br.trans (hB5.mono Br.size)).grown G5 (Br.trans (hB5.mono Br.size)).size (fun k hk => by cases hk; omega))⟩
      case measure => simp [intOf]; omega
    · have kH : k = H := by omega
      have HD : Box (d = emD S K width H) := ⟨by rw [← kH]; exact hd.out⟩
      go_wp2_with (first
        | (refine wpList_load32 rfl 27 (.tmp 5) ?_ w2.heap.size 0 ?_ d ?_ Tryd.underlying27 hi24 ?_; rfl; rfl; exact rangeAt_block gr.out)
        | (refine wpList_store_row rfl 27 (.tmp 4) (.tmp 19) ?_ w.heap.size (dc zero32) (dc d) 27 ?_ ?_ ?_ (hss _ _).out (hd32 _).out (dc_all _) ?_; rfl; rfl; rfl; exact (Br.block _ s2).trans R2.out))
      intro w5 g5 G5
      go_wp2
      exact bodyPost_ret (v := .agg (dc d)) (results_cell_row (p := 4) (ty := 27) rfl _ _ w.heap.size 27 _ (0, 0) _ rfl g5.out Tryd.underlying27 rfl (hd32 d).out) rfl ⟨by rw [HD.out], (hB3.trans (Br.mono hB3.size)).grown G5 (hB3.trans (Br.mono hB3.size)).size (fun k hk => by cases hk; omega)⟩
end Go.Proofs.YteiepenanffhcaaDoor

/- The four tables of the program and of the reference, as the text lays them: what the laid condition gives the walks. -/
namespace Go.Proofs.YteiepenanffhcaaDoor
open Go Go.ChangeShapes Go.WideShapes Go.ChangeAt Go.WideMaps Go.WideElems Go.RowKit
set_option linter.unusedVariables false

/-- The words of a laid table. -/
def wordsOf {H : Type} : DataW H → List UInt32
  | .agg l => l.map fun x => match x with
    | .lit (.int _ k) => UInt32.ofNat k.toNat
    | _ => 0
  | _ => []
def beginT : List UInt32 := wordsOf (Rows.laid_ledger_digest_begin (H := Unit))
def roundT : List UInt32 := wordsOf (Rows.laid_ledger_digest_round (H := Unit))
def begin8 : S8 := S8.of beginT

theorem cells_of_words {H : Type} {enc : TypeId × Value → H} {P : Program} {W : World} {base : Nat} {spare : TypeId → Bool} {held : Bool} {fuel : Nat} {t e : TypeId} {cs : List Value} {q : List MemPlace} (n : Nat) (ks : List UInt32)
    (ht : P.underlying t = some (.array n e)) (he : P.underlying e = some (.int .u32)) (hc : P.cellsOf e = 1) (hks : ks.length = n)
    (h : DataW.trod enc P W base spare held fuel t cs = some (.agg (ks.map fun k => .lit (.int .u32 (k.toNat : Int))), q)) :
    ∀ i, i < n → cs[i]? = some (uv (ks.getD i 0)) := by
  intro i hi
  obtain ⟨xs, m, rfl, hx, _, hn, hel⟩ := DataW.trod_array ht h
  have h1 := hel i hi
  rw [hc, Nat.mul_one] at h1
  have hlx : i < xs.length := by omega
  rw [List.getElem?_eq_getElem hlx] at h1
  obtain ⟨k, e1, e2, _⟩ := DataW.trod_int he h1
  have hmap : xs.map (·.1) = ks.map fun k => .lit (.int .u32 (k.toNat : Int)) := by
    simp only [Prod.mk.injEq, DataW.agg.injEq] at hx
    exact hx.1.symm
  have hki : i < ks.length := by omega
  have h2 : (xs.map (·.1))[i]? = (ks.map fun k => (DataW.lit (.int .u32 (k.toNat : Int)) : DataW H))[i]? := by rw [hmap]
  rw [List.getElem?_map, List.getElem?_map, List.getElem?_eq_getElem hlx, List.getElem?_eq_getElem hki, e2] at h2
  simp only [Option.map_some, Option.some.injEq, DataW.lit.injEq, Lit.int.injEq, true_and] at h2
  have h3 : ((cs.drop i).take 1)[0]? = some (.int .u32 k) := by rw [e1]; rfl
  rw [List.getElem?_take, if_pos (by omega), List.getElem?_drop, Nat.add_zero] at h3
  rw [h3, h2]
  simp [uv, List.getD, List.getElem?_eq_getElem hki]

theorem gFirst : Tryd.prog.globalNamed "ledger/ledgerref1.first" = some 1 := by kernel_rfl
theorem gConsts : Tryd.prog.globalNamed "ledger/ledgerref1.consts" = some 3 := by kernel_rfl
theorem gBegin : Tryd.prog.globalNamed "ledger/digest.begin" = some 0 := by kernel_rfl
theorem gRound : Tryd.prog.globalNamed "ledger/digest.round" = some 2 := by kernel_rfl
theorem tFirst : (Tryd.prog.globals[1]?).map (·.type) = some 83 := by kernel_rfl
theorem tConsts : (Tryd.prog.globals[3]?).map (·.type) = some 93 := by kernel_rfl
theorem tBegin : (Tryd.prog.globals[0]?).map (·.type) = some 83 := by kernel_rfl
theorem tRound : (Tryd.prog.globals[2]?).map (·.type) = some 93 := by kernel_rfl
def laid4 {H : Type} : List (String × DataW H) := [("ledger/ledgerref1.first", Rows.laid_ledger_ledgerref1_first), ("ledger/ledgerref1.consts", Rows.laid_ledger_ledgerref1_consts), ("ledger/digest.begin", Rows.laid_ledger_digest_begin), ("ledger/digest.round", Rows.laid_ledger_digest_round)]
theorem first_words {H : Type} : (Rows.laid_ledger_ledgerref1_first : DataW H) = .agg (beginT.map fun k => .lit (.int .u32 (k.toNat : Int))) := by kernel_rfl
theorem consts_words {H : Type} : (Rows.laid_ledger_ledgerref1_consts : DataW H) = .agg (roundT.map fun k => .lit (.int .u32 (k.toNat : Int))) := by kernel_rfl
theorem begin_words {H : Type} : (Rows.laid_ledger_digest_begin : DataW H) = .agg (beginT.map fun k => .lit (.int .u32 (k.toNat : Int))) := by kernel_rfl
theorem round_words {H : Type} : (Rows.laid_ledger_digest_round : DataW H) = .agg (roundT.map fun k => .lit (.int .u32 (k.toNat : Int))) := by kernel_rfl

/-- The reference's tables lie in a world. -/
def LaidR (S : S8) (K : List UInt32) (w : World) : Prop :=
  (∀ i, i < 8 → w.cell? ⟨1, i, none⟩ = some (uv (S.list.getD i 0))) ∧ (∀ i, i < 64 → w.cell? ⟨3, i, none⟩ = some (uv (K.getD i 0)))

theorem of_laid4 {W : World} (h : laidMetH Tryd.prog laid4 W) : Laid begin8 roundT W ∧ LaidR begin8 roundT W := by
  rw [MakeChecks.laidMetH_plain _ _ _ (by kernel_rfl)] at h
  obtain ⟨ps, ⟨g0, t0, cs0, f0, p0, q0, hg0, ht0, hv0, hd0, ⟨g1, t1, cs1, f1, p1, q1, hg1, ht1, hv1, hd1, ⟨g2, t2, cs2, f2, p2, q2, hg2, ht2, hv2, hd2, ⟨g3, t3, cs3, f3, p3, q3, hg3, ht3, hv3, hd3, _, _⟩, _⟩, _⟩, _⟩, _, _⟩ := h
  obtain rfl := Option.some.inj (gFirst.symm.trans hg0)
  obtain rfl := Option.some.inj (gConsts.symm.trans hg1)
  obtain rfl := Option.some.inj (gBegin.symm.trans hg2)
  obtain rfl := Option.some.inj (gRound.symm.trans hg3)
  obtain rfl := Option.some.inj (tFirst.symm.trans ht0)
  obtain rfl := Option.some.inj (tConsts.symm.trans ht1)
  obtain rfl := Option.some.inj (tBegin.symm.trans ht2)
  obtain rfl := Option.some.inj (tRound.symm.trans ht3)
  rw [first_words] at hd0
  rw [consts_words] at hd1
  rw [begin_words] at hd2
  rw [round_words] at hd3
  have c5 : Tryd.prog.cellsOf 82 = 1 := by kernel_rfl
  have h0 := cells_of_words 8 beginT Tryd.underlying83 Tryd.underlying82 c5 (by kernel_rfl) hd0
  have h1 := cells_of_words 64 roundT Tryd.underlying93 Tryd.underlying82 c5 (by kernel_rfl) hd1
  have h2 := cells_of_words 8 beginT Tryd.underlying83 Tryd.underlying82 c5 (by kernel_rfl) hd2
  have h3 := cells_of_words 64 roundT Tryd.underlying93 Tryd.underlying82 c5 (by kernel_rfl) hd3
  have cell : ∀ {name : String} {g : Nat} {cs : Array Value}, Tryd.prog.globalNamed name = some g → W.var? Tryd.prog name = some cs → ∀ (i : Nat) (v : Value), cs.toList[i]? = some v → W.cell? ⟨g, i, none⟩ = some v := fun hg hv i v h => by
    rw [World.var?_cell hg hv i, ← Array.getElem?_toList]; exact h
  have e8 : begin8.list = beginT := by kernel_rfl
  refine ⟨⟨by kernel_rfl, fun i hi => ?_, fun i hi => ?_⟩, fun i hi => ?_, fun i hi => ?_⟩
  · rw [e8]; exact cell hg2 hv2 i _ (h2 i hi)
  · exact cell hg3 hv3 i _ (h3 i hi)
  · rw [e8]; exact cell hg0 hv0 i _ (h0 i hi)
  · exact cell hg1 hv1 i _ (h1 i hi)
/-- The door's own heap meets the condition. -/
theorem door_met (os : Os) (args : Array Value) : laidMetH Tryd.prog laid4 ((World.doorLaid Tryd.prog 800 os).forCall (fun _ _ => 0) ⟨#[], args, []⟩).memory :=
  laidMetH_of_parts3 (fuel := 8) (laidMet_of_run' 8 (by kernel_rfl) (by kernel_rfl)) (by kernel_rfl) (by kernel_rfl)
end Go.Proofs.YteiepenanffhcaaDoor

/- The reference's digest of a text: the walk of ledgerref1.Sum, up to its state. -/
namespace Go.Proofs.YteiepenanffhcaaDoor
open Go Go.RowKit
set_option linter.unusedVariables false

theorem addTo_comm (A B : S8) : addTo A.list B.list 8 = addTo B.list A.list 8 := by
  simp [addTo, S8.list, UInt32.add_comm]
theorem LaidR.old {S : S8} {K : List UInt32} {w w' : World} (h : LaidR S K w) (hb : Below w.heap.size w w') : LaidR S K w' :=
  ⟨fun i hi => (hb.cell (p := ⟨1, i, none⟩) (block_lt_of_cell (h.1 i hi))).trans (h.1 i hi), fun i hi => (hb.cell (p := ⟨3, i, none⟩) (block_lt_of_cell (h.2 i hi))).trans (h.2 i hi)⟩
theorem rows_of {w : World} {g : Nat} {cs : Array Value} {t : TypeId} (h : Hid (w.heap[g]? = some (.cells cs t (0, 0)))) : Box (w.heap[g]? = some (.cells cs t (0, 0))) := ⟨h.out⟩

theorem val_mk32 (l : List UInt8) (h : l.length = 32) : (⟨l, h⟩ : D32).1 = l := rfl
theorem sha_val (S : S8) (K : List UInt32) (l : List UInt8) : (sha S K l).1 = shaD S.list K l := by
  unfold sha
  exact val_mk32 _ _
theorem sha_pad (S : S8) (K : List UInt32) (l : List UInt8) (N : Nat) (D : D32) (hD : sha S K l = D) (hl : l.length ≤ 140737488355328) (hN : (padL l).length = 64 * N) : D.1 = outN (absorb K S.list (padL l) N) 8 := by
  have h := sha_val S K l
  have h2 := shaD_pad S.list K l hl
  rw [hN, Nat.mul_div_cancel_left _ (by omega)] at h2
  exact (congrArg (·.1) hD).symm.trans (h.trans h2)

/-- The digest's bytes, the first k of them laid. -/
def outR (st : List UInt32) (k : Nat) : List UInt8 := (List.range k).map (wordByte st) ++ List.replicate (32 - k) 0
theorem length_outR (st : List UInt32) (k : Nat) (hk : k ≤ 32) : (outR st k).length = 32 := by simp [outR]; omega
theorem outR_set (st : List UInt32) (k : Nat) (hk : k < 32) : (outR st k).set k (wordByte st k) = outR st (k + 1) := by
  unfold outR
  rw [List.set_append_right _ _ (by simp), List.range_succ, List.map_append, List.append_assoc]
  congr 1
  simp only [List.length_map, List.length_range, Nat.sub_self, List.map_cons, List.map_nil]
  rw [show 32 - k = (32 - (k + 1)) + 1 by omega, List.replicate_succ, List.set_cons_zero]
  rfl

set_option maxRecDepth 100000 in
set_option maxHeartbeats 4000000 in
theorem rsum_any (S : S8) (K : List UInt32) (ao : Option Addr) (n c : Nat) (l : List UInt8) (w : World) (hK : K.length = 64) (hL : LaidR S K w)
    (hp : Row w ao n l) (hnil : ao = none → n = 0 ∧ c = 0) (hmax : n ≤ 140737488351300) :
    Calls Tryd.prog 56 #[.slice ao n c] w fun e w' => e = .returned (.agg (dc (sha S K l))) ∧ Below w.heap.size w w' := by
  have hl := hp.1
  obtain ⟨D, hD⟩ : ∃ D, sha S K l = D := ⟨_, rfl⟩
  obtain ⟨N, hN⟩ : ∃ N, (padL l).length = 64 * N := ⟨(padL l).length / 64, by have := padL_mod l; omega⟩
  have HD := Box.mk (sha_pad S K l N D hD (by omega) hN)
  rw [hD]
  have hNm := Box.mk (show 64 * N ≤ 140737488351400 by rw [← hN, length_padL]; unfold padz; omega)
  have hfil := fun W (hW : Below w.heap.size w W) => filled_any ao n c l W (hp.old hW) hnil hmax
  have hN1 := Box.mk (show 1 ≤ N by have := length_padL l; omega)
  generalize padL l = P at *
  have hPl := Box.mk hN
  have hKb := Box.mk hK
  clear hD hN hp hnil hmax hl hK
  have hi8 : ∀ R : List UInt32, R.length = 8 → Hid ((Tryd.prog.info? 83).map (·.size) = some (uvs R).toArray.size) := fun R hR => by
    unfold Hid
    have h : (Tryd.prog.info? 83).map (·.size) = some 8 := by kernel_rfl
    rw [h]; simp [hR]
  have hi8l : Hid ((Tryd.prog.info? 83).map (·.size) = some (uvs S.list).length) := by
    unfold Hid
    have h : (Tryd.prog.info? 83).map (·.size) = some 8 := by kernel_rfl
    rw [h]; rfl
  have hi64 : ∀ R : List UInt32, R.length = 64 → Hid ((Tryd.prog.info? 93).map (·.size) = some (uvs R).toArray.size) := fun R hR => by
    unfold Hid
    have h : (Tryd.prog.info? 93).map (·.size) = some 64 := by kernel_rfl
    rw [h]; simp [hR]
  have hss : ∀ R R' : List UInt32, R.length = R'.length → Hid ((uvs R).toArray.size = (uvs R').toArray.size) := fun R R' h => by
    unfold Hid; simp [h]
  have hi5 : Box ((Tryd.prog.info? 5).map (·.size) = some 1) := ⟨by kernel_rfl⟩
  obtain ⟨z8, HZ8⟩ : ∃ z8 : List UInt32, Box (z8 = List.replicate 8 0) := ⟨_, ⟨rfl⟩⟩
  obtain ⟨z64, HZ64⟩ : ∃ z64 : List UInt32, Box (z64 = List.replicate 64 0) := ⟨_, ⟨rfl⟩⟩
  have hz8l := Box.mk (show z8.length = 8 by rw [HZ8.out]; rfl)
  have hz64l := Box.mk (show z64.length = 64 by rw [HZ64.out]; simp)
  have hz8 : ∀ W : World, (zeroValue 83).run Tryd.prog W = .ok (.agg (uvs z8).toArray) W := fun W => by rw [HZ8.out]; kernel_rfl
  have hz64 : ∀ W : World, (zeroValue 93).run Tryd.prog W = .ok (.agg (uvs z64).toArray) W := fun W => by rw [HZ64.out]; kernel_rfl
  have hzd : ∀ W : World, (zeroValue 27).run Tryd.prog W = .ok (.agg (dc zero32)) W := fun W => by kernel_rfl
  have hg0 : 1 < w.heap.size := block_lt_of_cell (hL.1 0 (by omega))
  have HRG : Box (∀ W, Below w.heap.size w W → W.rangeAt 1 0 (uvs S.list)) := ⟨fun W hW j v hj => by
    obtain ⟨hl, rfl⟩ := uvs_at hj
    rw [Nat.zero_add]
    exact (hW.cell (p := ⟨1, j, none⟩) hg0).trans (hL.1 j hl)⟩
  have HLb := Box.mk hL
  clear hL
  go_enter Tryd.func56, Tryd.ntmps56
  go_wp2_with (go_at_call 60; refine (calls_box (hfil _ (Below.refl_alloc w _))).mono ?_)
  rintro e w1 ⟨⟨⟨v, rfl, hO⟩, hB⟩⟩
  have B1 := Box.mk ((Below.refl_alloc w (.cells (dc zero32) 27)).trans (hB.mono (by simp)))
  have R1 := Box.mk ((hB.block w.heap.size (by simp)).trans (heap_new (w := w) (o := .cells (dc zero32) 27) rfl))
  have s1 := Box.mk (heap_lt R1.out)
  obtain ⟨ao1, c1, rfl, hrow, hcm, hlc, hlow⟩ := hO.open
  obtain ⟨T, hT⟩ : ∃ T, 64 * N = T := ⟨_, rfl⟩
  have HT := Box.mk hT
  rw [hPl.out, hT] at hrow ⊢
  clear hT
  obtain ⟨b1, o1, rfl⟩ := hrow.at0 (by have := hN1.out; have := HT.out; omega)
  have HR := Box.mk hrow
  have hb1 := Box.mk (show b1 < w1.heap.size from (hlow b1 o1 rfl).2)
  clear hB hO hrow hlow hlc hcm hfil
  have hrg1 := Box.mk (HRG.out w1 B1.out)
  go_wp2_with (first
    | ((with_reducible refine wpList_load_midg ?_ 83 (.global 1) ?_ 1 0 ?_ (uvs S.list) _ hrg1.out Tryd.underlying83 rfl hi8l.out ?_); rfl; rfl; rfl)
    | ((with_reducible refine wpList_store_row ?_ 83 (.tmp 4) (.tmp 11) ?_ w1.heap.size (uvs z8).toArray (uvs S.list).toArray 83 ?_ ?_ ?_ (hss _ _ hz8l.out).out (hi8 _ rfl).out (uvs_all _) ?_); rfl; rfl; rfl; rfl; exact heap_new rfl))
  intro w2 g2 G2
  have B12 : Below w1.heap.size w1 w2 := (Below.refl_alloc w1 _).grown G2 (by simp) (fun k hk => by cases hk; omega)
  have b2 := Box.mk (B1.out.trans (B12.mono B1.out.size))
  have q2 := Box.mk ((B12.block _ s1.out).trans R1.out)
  have r2 := Box.mk (HR.out.old B12)
  have st2 := rows_of g2
  have sz2 := Box.mk (show w1.heap.size < w2.heap.size from heap_lt g2.out)
  clear g2 G2 B12 R1 HR hrg1
  go_wp2
  go_loopw [5, 6] (fun i t6 wr => ∃ (k p : Nat), Box (p = 64 * k ∧ k ≤ N) ∧ i = .int .i64 p ∧ Box (wr.heap[w1.heap.size]? = some (.cells (uvs (absorb K S.list P k)).toArray 83 (0, 0))) ∧
     Box (wr.heap[w.heap.size]? = some (.cells (dc zero32) 27 (0, 0))) ∧ Box (Below w.heap.size w wr) ∧ Box (Row wr (some ⟨b1, o1, none⟩) T P) ∧ Box (w1.heap.size < wr.heap.size)) (fun i _ _ => T - (intOf i).toNat)
  case atStart => exact ⟨0, 0, ⟨rfl, Nat.zero_le _⟩, rfl, ⟨by rw [absorb_zero]; exact st2.out⟩, q2, b2, r2, sz2⟩
  clear st2 q2 b2 r2 sz2
  case round =>
    obtain ⟨k, p, hk, rfl, sr, qr, br, rr, zr⟩ := hrel
    rcases Nat.lt_or_ge p T with hlt | hge
    · have hkN := Box.mk (show k < N by have := HT.out; have := hk.out; omega)
      have hwo := words_any b1 o1 T c1 p P wr rr.out (by have := HT.out; have := hk.out; omega) (by have := HT.out; have := hNm.out; omega)
      have hblk := Box.mk (show (P.drop p).take 64 = (P.drop (64 * k)).take 64 by rw [hk.out.1])
      have hws := Box.mk (show (fill2 (fill1 ((P.drop p).take 64) 16) 48).length = 64 by rw [length_fill2, length_fill1])
      have hcm := Box.mk (show ∀ st, compress K st ((P.drop p).take 64) = addTo (rounds K (fill2 (fill1 ((P.drop p).take 64) 16) 48) (S8.of st) 64).list st 8 from fun st => rfl)
      have hst := Box.mk (show (absorb K S.list P k).length = 8 by rw [length_absorb]; rfl)
      have hnx := Box.mk (absorb_succ K k S.list P)
      rw [← hblk.out] at hnx
      generalize (P.drop p).take 64 = blk at *
      generalize fill2 (fill1 blk 16) 48 = ws at *
      go_wp2_with (go_at_call 61; refine (calls_box hwo).mono ?_)
      rintro e w3 ⟨⟨rfl, hB3⟩⟩
      have b3 := Box.mk (br.out.trans (hB3.mono br.out.size))
      have q3 := Box.mk ((hB3.block _ (Nat.lt_of_lt_of_le (heap_lt qr.out) (Nat.le_refl _))).trans qr.out)
      have s3 := Box.mk ((hB3.block _ zr.out).trans sr.out)
      have r3 := Box.mk (rr.out.old hB3)
      have z3 := Box.mk (Nat.lt_of_lt_of_le zr.out hB3.size)
      clear hB3 qr sr rr hwo
      go_wp2_with ((with_reducible refine wpList_store_row ?_ 93 (.tmp 6) (.tmp 20) ?_ w3.heap.size (uvs z64).toArray (uvs ws).toArray 93 ?_ ?_ ?_ (hss _ _ (hz64l.out.trans hws.out.symm)).out (hi64 _ hws.out).out (uvs_all _) ?_); rfl; rfl; rfl; rfl; exact heap_new rfl)
      intro w4 g4 G4
      have B34 : Below w3.heap.size w3 w4 := (Below.refl_alloc w3 _).grown G4 (by simp) (fun k hk => by cases hk; omega)
      have b4 := Box.mk (b3.out.trans (B34.mono b3.out.size))
      have q4 := Box.mk ((B34.block _ (heap_lt q3.out)).trans q3.out)
      have s4 := Box.mk ((B34.block _ (heap_lt s3.out)).trans s3.out)
      have r4 := Box.mk (r3.out.old B34)
      have z4 := Box.mk (Nat.lt_of_lt_of_le z3.out B34.size)
      have x4 := rows_of g4
      clear g4 G4 B34 b3 q3 s3 r3 z3
      obtain ⟨A, hA⟩ := s8_of hst.out
      rw [hA] at s4 hnx
      have hbe := Box.mk (fun W (hW : LaidR S K W) => behind_any K ws A W hKb.out hws.out hW.2)
      have hnx2 := Box.mk (show absorb K S.list P (k + 1) = addTo A.list (rounds K ws A 64).list 8 by
        rw [hnx.out, hcm.out, addTo_comm]
        rfl)
      have hl8 := Box.mk (show (addTo A.list (rounds K ws A 64).list 8).length = 8 from length_addTo _ _ _)
      clear hA hst hnx hcm
      generalize addTo A.list (rounds K ws A 64).list 8 = F at *
      go_wp2_with (first
        | ((with_reducible refine arm_row 83 (.tmp 4) ?_ rfl w1.heap.size ?_ 83 (uvs A.list).toArray (0, 0) _ s4.out Tryd.underlying83 rfl (hi8 _ rfl).out ?_); rfl; rfl)
        | ((with_reducible refine arm_row 93 (.tmp 6) ?_ rfl w3.heap.size ?_ 93 (uvs ws).toArray (0, 0) _ x4.out Tryd.underlying93 rfl (hi64 _ hws.out).out ?_); rfl; rfl)
        | (go_at_call 62; refine (calls_box (hbe.out _ (HLb.out.old b4.out))).mono ?_))
      rintro e w5 ⟨⟨rfl, hB5⟩⟩
      have b5 := Box.mk (b4.out.trans (hB5.mono b4.out.size))
      have q5 := Box.mk ((hB5.block _ (heap_lt q4.out)).trans q4.out)
      have s5 := Box.mk ((hB5.block _ (heap_lt s4.out)).trans s4.out)
      have r5 := Box.mk (r4.out.old hB5)
      have z5 := Box.mk (Nat.lt_of_lt_of_le z4.out hB5.size)
      clear hB5 b4 q4 s4 r4 z4 x4 hbe
      have hsA := hss A.list F (by rw [hl8.out]; rfl)
      go_wp2_with ((with_reducible refine wpList_store_row ?_ 83 (.tmp 4) (.tmp 23) ?_ w1.heap.size (uvs A.list).toArray (uvs F).toArray 83 ?_ ?_ s5.out hsA.out (hi8 _ hl8.out).out (uvs_all _) ?_); rfl; rfl; rfl; rfl)
      intro w6 g6 G6
      have b6 := Box.mk (b5.out.grown G6 b5.out.size (fun k hk => by cases hk; have := s1.out; omega))
      have q6 := Box.mk ((G6.block _ (heap_lt q5.out) (by have := s1.out; simp; omega)).trans q5.out)
      have r6 := Box.mk (r5.out.grown G6 (by have := hb1.out; have := z5.out; omega) (by have := hb1.out; simp; omega))
      have z6 := Box.mk (Nat.lt_of_lt_of_le z5.out G6.size)
      have s6 := rows_of g6
      clear g6 G6 b5 q5 s5 r5 z5 hsA
      have hp64 := IntWalk.i64_in ((p : Int) + 64) (by have := HT.out; have := hNm.out; omega)
      go_wp2
      go_roundw
      case rel => exact ⟨k + 1, p + 64, ⟨by have := hk.out; have := hkN.out; omega⟩, by go_num, ⟨by rw [hnx2.out]; exact s6.out⟩, q6, b6, r6, z6⟩
      case measure => simp [intOf]; omega
    · have hkN := Box.mk (show k = N by have := HT.out; have := hk.out; omega)
      have hst := Box.mk (show (absorb K S.list P k).length = 8 by rw [length_absorb]; rfl)
      have hfin := Box.mk (show D.1 = outN (absorb K S.list P k) 8 by rw [hkN.out]; exact HD.out)
      generalize absorb K S.list P k = F at *
      have hDl := Box.mk (show D = ⟨outR F 32, length_outR F 32 (by omega)⟩ from Subtype.ext (by rw [hfin.out, outN_bytes]; simp [outR]))
      have hz0 := Box.mk (show dc zero32 = (bvs (outR F 0)).toArray from rfl)
      have hnl : ¬ p < T := by omega
      clear hge
      go_wp2
      clear hnl
      have b7 := Box.mk (br.out.alloc br.out.size (.cells (dc zero32) 27))
      have q7 := Box.mk (heap_old (o := .cells (dc zero32) 27) qr.out)
      have s7 := Box.mk (heap_old (o := .cells (dc zero32) 27) sr.out)
      have x7 := Box.mk (show (wr.alloc (.cells (dc zero32) 27)).heap[wr.heap.size]? = some (.cells (bvs (outR F 0)).toArray 27 (0, 0)) by rw [heap_new rfl, hz0.out])
      obtain ⟨M, hM⟩ : ∃ M, wr.heap.size = M := ⟨_, rfl⟩
      have hMw := Box.mk (show w1.heap.size < M by rw [← hM]; exact zr.out)
      rw [hM] at x7 ⊢
      clear hM qr sr br rr zr hk
      generalize wr.alloc (.cells (dc zero32) 27) = wq at *
      go_loopw [8] (fun i wr => ∃ k : Nat, k ≤ 32 ∧ i = .int .i64 k ∧ Box (wr.heap[M]? = some (.cells (bvs (outR F k)).toArray 27 (0, 0))) ∧ Box (wr.heap[w1.heap.size]? = some (.cells (uvs F).toArray 83 (0, 0))) ∧
        Box (wr.heap[w.heap.size]? = some (.cells (dc zero32) 27 (0, 0))) ∧ Box (Below w.heap.size w wr)) (fun i _ => 32 - (intOf i).toNat)
      case atStart => exact ⟨0, Nat.zero_le _, rfl, x7, s7, q7, b7⟩
      clear x7 s7 q7 b7
      case round =>
        obtain ⟨k, hk, rfl, xr, sr, qr, br⟩ := hrel
        by_cases hlt : k < 32
        · have hlen := Box.mk (length_outR F k hk)
          have cF : wr.cell? ⟨w1.heap.size, k / 4, none⟩ = some (uv (F.getD (k / 4) 0)) := uvs_cell sr.out (by rw [hst.out]; omega)
          have cX := bvs_cell xr.out (i := k) (by rw [hlen.out]; exact hlt)
          have zX := frozen_of_row _ M k _ 27 xr.out
          have hsh : ∀ t x, binOp .shr t (uv x) (.int .u64 (24 - 8 * ((k : Int) % 4))) = pure (uv (x >>> UInt32.ofNat (24 - 8 * (k % 4)))) := fun t x => by
            rw [show (24 - 8 * ((k : Int) % 4)) = ((24 - 8 * (k % 4) : Nat) : Int) by omega]
            exact uv_shr t x .u64 _ (by omega)
          have f0 : (0 : Int) ≤ (k : Int) / 4 := by omega
          have f1 : (k : Int) / 4 < 8 := by omega
          have f2 : ((k : Int) / 4).toNat = k / 4 := by omega
          have f3 := IntWalk.i64_in (8 * ((k : Int) % 4)) (by omega)
          have f4 := IntWalk.i64_in (24 - 8 * ((k : Int) % 4)) (by omega)
          have k0 : (0 : Int) ≤ (k : Int) := by omega
          have k1 : (k : Int) < 32 := by omega
          go_wp2_with (refine wpList_store_int rfl 5 (.tmp 40) (.tmp 39) rfl ⟨M, k, none⟩ (bv (wordByte F k)) rfl rfl ⟨_, _, rfl⟩ hi5.out ⟨_, cX⟩ zX ?_)
          have x2 := bvs_set (wordByte F k) xr.out (i := k)
          rw [outR_set F k hlt] at x2
          have X2 := Box.mk x2
          clear x2 cF cX zX
          go_roundw
          case rel => exact ⟨k + 1, by omega, by go_num, X2, ⟨(heap_setCell_other _ _ _ _ (by have := hMw.out; simp; omega)).trans sr.out⟩, ⟨(heap_setCell_other _ _ _ _ (by have := hMw.out; have := s1.out; simp; omega)).trans qr.out⟩, ⟨br.out.setCell (by have := hMw.out; have := s1.out; simp; omega) _⟩⟩
          case measure => simp [intOf]; omega
        · obtain rfl : k = 32 := by omega
          rw [show ((32 : Nat) : Int) = 32 from rfl]
          have xD := Box.mk (show wr.heap[M]? = some (.cells (dc D) 27 (0, 0)) by rw [hDl.out]; exact xr.out)
          have i24 : Box ((Tryd.prog.info? 27).map (·.size) = some (dc D).size) := ⟨by rw [size_dc]; kernel_rfl⟩
          have hds : Box ((dc zero32).size = (dc D).size) := ⟨by rw [size_dc, size_dc]⟩
          clear hDl xr
          go_wp2_with (first
            | ((with_reducible refine arm_row 27 (.tmp 7) ?_ rfl M ?_ 27 (dc D) (0, 0) _ xD.out Tryd.underlying27 rfl i24.out ?_); rfl; rfl)
            | ((with_reducible refine wpList_store_row ?_ 27 (.tmp 2) (.tmp 41) ?_ w.heap.size (dc zero32) (dc D) 27 ?_ ?_ qr.out hds.out i24.out (dc_all _) ?_); rfl; rfl; rfl; rfl))
          intro w8 g8 G8
          go_wp2
          exact bodyPost_ret (v := .agg (dc D)) (results_cell_row (p := 2) (ty := 27) rfl _ _ w.heap.size 27 _ (0, 0) _ rfl g8.out Tryd.underlying27 rfl i24.out) rfl ⟨rfl, br.out.grown G8 br.out.size (fun k hk => by cases hk; omega)⟩
end Go.Proofs.YteiepenanffhcaaDoor
