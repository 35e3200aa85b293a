import Derived.Test.YteiepenanffhcaaDoorText
import Derived.Deep.WholeRow
namespace Go.Proofs.YteiepenanffhcaaDoor
open Go Go.RowKit

/-- A digest cut to its first bytes. -/
def cutD (d : D32) (width : Int) : D32 := ⟨d.1.take (wid width) ++ List.replicate (32 - wid width) 0, by
  have := wid_le width; have := d.2; rw [List.length_append, List.length_take, List.length_replicate]; omega⟩

theorem splice_cut (d : List UInt8) (c : Nat) (hd : c ≤ d.length) : splice (bvs (List.replicate 32 0)) 0 (bvs (d.take c)) = bvs (d.take c ++ List.replicate (32 - c) 0) := by
  unfold splice
  rw [bvs_append, List.take_zero, List.nil_append, length_bvs, List.length_take, Nat.min_eq_left hd, Nat.zero_add, bvs, bvs, bvs, List.map_replicate, List.map_replicate, List.drop_replicate]

set_option maxHeartbeats 800000 in
theorem cut_any (d : D32) (width : Int) (w : World) :
    Calls Tryd.prog 42 #[.agg (dc d), .int .i64 width] w fun e w' => e = .returned (.agg (dc (cutD d width))) ∧ Below w.heap.size w w' := by
  have hal : Tryd.prog.arrayLen 27 = 32 := by kernel_rfl
  have hc := wid_eq width
  have hc32 := wid_le width
  have hcut : dc (cutD d width) = (bvs (d.1.take (wid width) ++ List.replicate (32 - wid width) 0)).toArray := rfl
  rw [hcut]
  generalize wid width = c at hc hc32 ⊢
  have hd := d.2
  have hu : Tryd.prog.underlying 28 = some (.slice 5) := Tryd.underlying28
  have hsz : Hid ((Tryd.prog.info? 5).map (·.size) = some 1) := by unfold Hid; kernel_rfl
  have key : (width < 0 ∧ c ≤ 0) ∨ (0 ≤ width ∧ width ≤ 32 ∧ (c : Int) = width) ∨ (32 < width ∧ 32 ≤ c) := by unfold clamp at hc; omega
  clear hc hcut
  have hlt : (d.1.take c).length = c := by simp [hd, hc32]
  have hl : (d.1.take c ++ List.replicate (32 - c) 0).length = 32 := by rw [List.length_append, hlt]; simp; omega
  have hi30 : Hid ((Tryd.prog.info? 27).map (·.size) = some (bvs (d.1.take c ++ List.replicate (32 - c) 0)).toArray.size) := by
    have h : (Tryd.prog.info? 27).map (·.size) = some 32 := by kernel_rfl
    unfold Hid; rw [h]; simp only [List.size_toArray, length_bvs, hl]
  have hold : Hid ((bvs (List.replicate 32 0)).toArray.size = (bvs (d.1.take c ++ List.replicate (32 - c) 0)).toArray.size) := by
    unfold Hid; simp only [List.size_toArray, length_bvs, hl, List.length_replicate]
  have hfit : 0 + (d.1.take c).length ≤ (bvs (List.replicate 32 0)).length := by rw [hlt]; simpa using hc32
  have HD := Lib.hid hd
  have HLT := Lib.hid hlt
  have hlt1 : (d.1.take c).length ≤ c := by omega
  have hlt2 : c ≤ (d.1.take c).length := by omega
  clear hd hl hlt
  rcases key with ⟨h1, h2⟩ | ⟨h1, h2, rfl⟩ | ⟨h1, h2⟩
  all_goals
    go_enter Tryd.func42, Tryd.ntmps42
    go_wp2_with (fail)
    refine wp_anyWorld (fun W => Hid (W.heap[w.heap.size]? = some (.cells (dc d) 27 (0, 0))) ∧ Hid (W.heap[w.heap.size + 1]? = some (.cells (bvs (List.replicate 32 0)).toArray 27 (0, 0))) ∧
      Hid (W.heap[w.heap.size + 1 + 1]? = some (.cells (bvs (List.replicate 32 0)).toArray 27 (0, 0))) ∧ Below w.heap.size w W)
      ⟨heap_old (heap_old (heap_new rfl)), heap_old (heap_new (by simp)), heap_new (by simp), (((Below.refl _ w).alloc (Nat.le_refl _) _).alloc (by simp) _).alloc (by simp; omega) _⟩ ?_
    rintro W ⟨g0, g1, g2, hb⟩
    have hrd : Row W.drew (some ⟨w.heap.size, 0, none⟩) (d.1.take c).length (d.1.take c) := by
      rw [HLT.out]; exact (Row.of_row (l := d.1) (w := W.drew) (e := 27) (fr := (0, 0)) g0.out).take c (by rw [HD.out]; exact hc32)
    go_region_law (refine step_copy_bytes rfl (.tmp 10) (.tmp 12) 28 28 rfl hu hsz.out (some ⟨w.heap.size + 1 + 1, 0, none⟩) (some ⟨w.heap.size, 0, none⟩) _ 32 _ 32 rfl rfl (w.heap.size + 1 + 1) 0 (bvs (List.replicate 32 0)) 27 (by exact g2.out) (d.1.take c) (by simp only [Nat.min_def]; split <;> omega) (fun _ => rfl) hrd hfit ?_; intro w2 g3 hg2)
    have hb2 := hb.drew.grown hg2 hb.size (fun k hk => by cases hk; omega)
    have g4 : Hid (w2.heap[w.heap.size + 1]? = some (.cells (bvs (List.replicate 32 0)).toArray 27 (0, 0))) := (hg2.block _ (heap_lt g1.out) (by simp)).trans g1.out
    have g5 : Hid (w2.heap[w.heap.size + 1 + 1]? = some (.cells (bvs (d.1.take c ++ List.replicate (32 - c) 0)).toArray 27 (0, 0))) := by
      have := g3.out
      rw [splice_cut d.1 c (by rw [HD.out]; exact hc32)] at this
      exact this
    clear hrd g0 g1 g2 g3 hb hg2
    go_wp2_with (first
      | (refine wpList_load_row rfl 27 (.tmp 5) rfl (w.heap.size + 1 + 1) rfl 27 _ (0, 0) _ g5.out Tryd.underlying27 rfl hi30.out ?_)
      | (refine wpList_store_row rfl 27 (.tmp 4) (.tmp 14) rfl (w.heap.size + 1) _ _ 27 rfl rfl g4.out hold.out hi30.out (bvs_all _) ?_; intro w3 g6 hg3))
    have hb3 := hb2.grown hg3 hb2.size (fun k hk => by cases hk; omega)
    go_wp2
    exact bodyPost_ret (v := .agg (bvs (d.1.take c ++ List.replicate (32 - c) 0)).toArray) (results_cell_row (p := 4) (ty := 27) rfl _ _ (w.heap.size + 1) 27 _ (0, 0) _ rfl g6.out Tryd.underlying27 rfl hi30.out) rfl ⟨rfl, hb3⟩
end Go.Proofs.YteiepenanffhcaaDoor
