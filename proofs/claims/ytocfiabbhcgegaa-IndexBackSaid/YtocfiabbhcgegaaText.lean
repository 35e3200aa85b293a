import Derived.Test.YtocfiabbhcgegaaRows
import Derived.Test.YtocfiabbhcgegaaBase
namespace Go.Proofs.Ytocfiabbhcgegaa
open Go Go.RowKit

theorem byteTy : ByteTy Try.prog 26 5 := by
  have h : (Try.prog.info? 5).map (fun i => (i.zero, i.size, i.bytes)) = some (some (.int .u8 0), 1, 1) := by kernel_rfl
  obtain ⟨i, h1, h2, h3, h4⟩ := info_parts h
  exact ⟨i, Try.underlying26, h1, h2, h3, h4⟩

theorem ret_int {k : IntKind} {a b : Int} (h : a = b) : Ending.returned (.int k a) = .returned (.int k b) := by rw [h]
set_option maxHeartbeats 400000 in
theorem leafText_any (kk : D32) (ao : Option Addr) (n c : Nat) (l : List UInt8) (w : World) (h : Row w ao n l) (hn : ao = none → n = 0 ∧ c = 0) (hb : n ≤ 140737488351232) :
    Calls Try.prog 18 #[.agg (dc kk), .slice ao n c] w fun e w' => ∃ g cap, e = .returned (.slice (some ⟨g, 0, none⟩) (33 + n) cap) ∧ Own w' w.heap.size 5 (.slice (some ⟨g, 0, none⟩) (33 + n) cap) (0 :: (kk.1 ++ l)) ∧ Below w.heap.size w w' := by
  go_enter Try.func18, Try.ntmps18
  go_wp2_with (first
    | (refine wpList_make_bytes byteTy _ rfl _ _ rfl w.heap.size _ _ _ (33 + n) rfl rfl (by go_num) (by omega) ?_ ?_)
    )
  · simp
  intro w1 hown1 hg1 hs1
  go_wp2_with (first
    | (refine wpList_append_room byteTy _ rfl (.tmp 9) (.tmp 10) rfl w.heap.size _ 0 (33 + n) [] rfl rfl (hown1.alloc _) (some ⟨w1.heap.size, 0, none⟩) 1 1 [0] rfl (by simp) ?_ (by omega) ?_))
  · exact Row.lit w1 _ 5 [0] rfl
  intro w2 hown2 hg2
  have hsz1 : w.heap.size + 1 ≤ w1.heap.size := by omega
  have hb1 : Below (w.heap.size + 1) (w.alloc (.cells (dc kk) 44)) w1 := (Below.refl _ _).grown hg1 (by simp) (fun k hk => by cases hk)
  have hb2 : Below (w.heap.size + 1) (w.alloc (.cells (dc kk) 44)) w2 := (hb1.alloc hsz1 _).grown hg2 (by simp; omega) (fun k hk => by cases hk; omega)
  have hb2' : Below w.heap.size w w2 := (Below.refl_alloc w _).trans (hb2.mono (by omega))
  have hsz2 : w.heap.size ≤ w2.heap.size := hb2'.size
  go_wp2_with (first
    | (refine wpList_append_room byteTy _ rfl (.tmp 12) (.tmp 13) rfl w.heap.size _ 1 (33 + n) _ rfl rfl hown2 (some ⟨w.heap.size, 0, none⟩) 32 32 kk.1 rfl (by simp) ?_ (by omega) ?_)
    | (refine wpList_append_room byteTy _ rfl (.tmp 14) (.tmp 15) rfl w.heap.size _ 33 (33 + n) _ rfl ?_ (by assumption) ao n c l rfl hn ?_ (by omega) ?_))
  · have := (Row.lit w (dc kk) 44 kk.1 (dc_toList kk)).below hb2 (fun b o e => by cases e; omega)
    rwa [kk.2] at this
  intro w3 hown3 hg3
  have hb3 : Below w.heap.size w w3 := (hb2'.grown hg3 hsz2 (fun k hk => by cases hk; omega))
  go_wp2_with (first
    | (refine wpList_append_room byteTy _ rfl (.tmp 14) (.tmp 15) rfl w.heap.size _ 33 (33 + n) _ rfl ?_ hown3 ao n c l rfl hn ?_ (by omega) ?_))
  · simp [kk.2]
  · exact h.old hb3
  intro w4 hown4 hg4
  have hb4 : Below w.heap.size w w4 := (hb3.grown hg4 (Nat.le_trans hsz2 hg3.size) (fun k hk => by cases hk; omega))
  go_wp2
  go_ret
  exact ⟨_, _, rfl, by simpa using hown4, hb4⟩

/-- A width held within its bounds. -/
def clamp (n lo hi : Int) : Int := max lo (min n hi)
theorem within_any (n lo hi : Int) (w : World) : Calls Try.prog 35 #[.int .i64 n, .int .i64 lo, .int .i64 hi] w fun e w' => e = .returned (.int .i64 (clamp n lo hi)) ∧ w = w' := by
  by_cases h1 : hi < n
  · by_cases h2 : lo < hi
    all_goals
      go_enter Try.func35, Try.ntmps35
      go_wp2
      go_ret
      exact ⟨ret_int (by unfold clamp; omega), rfl⟩
  · by_cases h2 : lo < n
    all_goals
      go_enter Try.func35, Try.ntmps35
      go_wp2
      go_ret
      exact ⟨ret_int (by unfold clamp; omega), rfl⟩

/-- The number of bytes that count at a width. -/
def wid (width : Int) : Nat := (clamp width 0 32).toNat
theorem wid_eq (width : Int) : clamp width 0 32 = (wid width : Int) := by unfold wid clamp; omega
theorem wid_le (width : Int) : wid width ≤ 32 := by unfold wid clamp; omega

set_option maxHeartbeats 400000 in
theorem branchText_any (width : Int) (ll rr : D32) (w : World) :
    Calls Try.prog 21 #[.int .i64 width, .agg (dc ll), .agg (dc rr)] w fun e w' => ∃ g cap, e = .returned (.slice (some ⟨g, 0, none⟩) (1 + 2 * wid width) cap) ∧
      Own w' w.heap.size 5 (.slice (some ⟨g, 0, none⟩) (1 + 2 * wid width) cap) (1 :: (ll.1.take (wid width) ++ rr.1.take (wid width))) ∧ Below w.heap.size w w' := by
  have hc := wid_eq width
  have hc32 := wid_le width
  generalize wid width = c at hc hc32 ⊢
  have hll := ll.2
  have hrr0 := rr.2
  have hl1 : 32 ≤ ll.1.length := by omega
  have hl2 : 32 ≤ rr.1.length := by omega
  have hl3 : (ll.1.take c).length = c := by rw [List.length_take]; omega
  clear hll hrr0
  have HL3 := Lib.hid hl3
  clear hl3
  have HC := Lib.hid hc
  clear hc
  go_enter Try.func21, Try.ntmps21
  go_wp2_with (first
    | (go_at_call 35; refine (within_any _ _ _ _).mono ?_; rintro e w' ⟨rfl, rfl⟩; rw [HC.out])
    | (refine wpList_make_bytes byteTy _ rfl _ _ rfl w.heap.size _ _ _ (1 + 2 * c) rfl rfl (by go_num) (by omega) ?_ ?_))
  · simp; omega
  intro w1 hown1 hg1 hs1
  go_wp2_with (first
    | (refine wpList_append_room byteTy _ rfl (.tmp 14) (.tmp 15) rfl w.heap.size _ 0 (1 + 2 * c) [] rfl rfl (hown1.alloc _) (some ⟨w1.heap.size, 0, none⟩) 1 1 [1] rfl (by simp) ?_ (by omega) ?_))
  · exact Row.lit w1 _ 5 [1] rfl
  intro w2 hown2 hg2
  have hb1 : Below (w.heap.size + 2) ((w.alloc (.cells (dc ll) 23)).alloc (.cells (dc rr) 23)) w1 := (Below.refl _ _).grown hg1 (by simp) (fun k hk => by cases hk)
  have hb2 : Below (w.heap.size + 2) ((w.alloc (.cells (dc ll) 23)).alloc (.cells (dc rr) 23)) w2 := (hb1.alloc (by omega) _).grown hg2 (by simp; omega) (fun k hk => by cases hk; omega)
  have hbw : Below w.heap.size w w2 := ((Below.refl_alloc w _).alloc (by simp) _).trans (hb2.mono (by omega))
  have hrl : Row w2 (some ⟨w.heap.size, 0, none⟩) c (ll.1.take c) := (((((Row.lit w (dc ll) 23 ll.1 (dc_toList ll)).old ((Below.refl _ _).alloc (Nat.le_refl _) _)).below hb2 (fun b o e => by cases e; omega))).take c (by omega))
  have hrr : Row w2 (some ⟨w.heap.size + 1, 0, none⟩) c (rr.1.take c) := by
    have := ((Row.lit (w.alloc (.cells (dc ll) 23)) (dc rr) 23 rr.1 (dc_toList rr)).below hb2 (fun b o e => by cases e; simp)).take c (by omega)
    simpa using this
  have hlt1 : w.heap.size + 1 < w2.heap.size := by have := hb2.size; simp at this; omega
  have hrr' : Row w2.drew (some ⟨w.heap.size + 1, 0, none⟩) c (rr.1.take c) := hrr
  have hne1 : (some (w.heap.size + 1 + 1) : Option Nat) ≠ some (w.heap.size + 1) := by simp
  have hal : Try.prog.arrayLen 23 = 32 := by kernel_rfl
  have hcc : (c : Int) ≤ 32 := by omega
  go_wp2
  go_region_law (first
    | (refine step_append_bytes byteTy rfl (.tmp 17) (.tmp 19) rfl w.heap.size _ 1 (1 + 2 * c) _ rfl rfl hown2 ⟨w.heap.size, 0, none⟩ c 32 (ll.1.take c) rfl hrl (by omega) ?_; intro w3 hown3 hg3)
    | (refine step_append_bytes byteTy rfl (.tmp 20) (.tmp 22) rfl w.heap.size _ (1 + c) (1 + 2 * c) _ rfl (by rw [List.length_append, HL3.out]; rfl) hown3 ⟨w.heap.size + 1, 0, none⟩ c 32 (rr.1.take c) rfl (hrr'.grown hg3 (by exact hlt1) (by exact hne1)) (by omega) ?_; intro w4 hown4 hg4))
  have hb3 : Below w.heap.size w w3 := hbw.drew.grown hg3 (by have := hbw.size; simpa using this) (fun k hk => by cases hk; omega)
  have hb4 : Below w.heap.size w w4 := hb3.grown hg4 hb3.size (fun k hk => by cases hk; omega)
  have hfin : Own w4 w.heap.size 5 (.slice (some ⟨w.heap.size + 1 + 1, 0, none⟩) (1 + 2 * c) (1 + 2 * c)) (1 :: (ll.1.take c ++ rr.1.take c)) := by
    have e : 1 + c + c = 1 + 2 * c := by omega
    rw [e] at hown4; simpa using hown4
  have e12 : 1 + c + c = 1 + 2 * c := by omega
  have HE := Lib.hid e12
  clear e12
  go_wp2
  go_ret
  exact ⟨_, _, by rw [← HE.out]; rfl, hfin, hb4⟩
end Go.Proofs.Ytocfiabbhcgegaa
