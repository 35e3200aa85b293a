/- Branches as bytes: the walk of (branch).lay. -/
import Derived.Test.YtocfiabbhcgegaaLay
namespace Go.Proofs.Ytocfiabbhcgegaa
open Go Go.RowKit
set_option linter.unusedVariables false

/-- A number below 2^32 as four bytes, the lowest first. -/
def le4 (n : Nat) : List UInt8 := [UInt8.ofNat n, UInt8.ofNat (n / 256), UInt8.ofNat (n / 65536), UInt8.ofNat (n / 16777216)]
theorem le4_cells (n : Nat) (h : n ≤ 4096) : [Value.int .u8 ((n : Int) % 256), Value.int .u8 ((n : Int) / 256), Value.int .u8 ((n : Int) / 65536), Value.int .u8 ((n : Int) / 16777216)] = bvs (le4 n) := by
  have h0 : ∀ m : Nat, ((UInt8.ofNat m).toNat : Int) = (m : Int) % 256 := fun m => by rw [UInt8.toNat_ofNat']; omega
  show _ = [bv _, bv _, bv _, bv _]
  unfold bv
  rw [h0, h0, h0, h0]
  congr 1
  congr 1
  · congr 1; omega
  congr 1
  · congr 1; omega
  congr 1
  congr 1; omega
/-- The bytes of a branch. -/
def brT (l r : Child) (lp rp lc rc : Nat) : List UInt8 := le4 lp ++ (le4 rp ++ (le4 lc ++ (le4 rc ++ (l.sum.1 ++ r.sum.1))))

set_option maxRecDepth 100000 in
set_option maxHeartbeats 2000000 in
theorem branch_lay (l r : Child) (lp rp lc rc : Nat) (h1 : l.page = (lp : Int)) (h2 : r.page = (rp : Int)) (h3 : l.count = (lc : Int)) (h4 : r.count = (rc : Int)) (b1 : lp ≤ 4096) (b2 : rp ≤ 4096) (b3 : lc ≤ 4096) (b4 : rc ≤ 4096) (w : World) :
    Calls Try.prog 61 #[.agg (brC l r).toArray] w fun e w' => ∃ g cap, e = .returned (.slice (some ⟨g, 0, none⟩) 80 cap) ∧ Own w' w.heap.size 5 (.slice (some ⟨g, 0, none⟩) 80 cap) (brT l r lp rp lc rc) ∧ Below w.heap.size w w' := by
  have c0 := brC_0 l r
  have c1 := brC_1 l r
  have c34 : (brC l r).toArray[34]? = some (.int .i64 r.page) := (brC_at l r 0).trans (chC_0 r)
  have c35 : (brC l r).toArray[35]? = some (.int .i64 r.count) := (brC_at l r 1).trans (chC_1 r)
  rw [h1] at c0
  rw [h2] at c34
  rw [h3] at c1
  rw [h4] at c35
  have hrl : ∀ W : World, W.heap[w.heap.size]? = some (.cells (brC l r).toArray 79 (0, 0)) → Row W (some ⟨w.heap.size, 2, none⟩) l.sum.1.length l.sum.1 := fun W hW => Row.of_block hW (by
    show ((chC l ++ chC r).drop 2).take _ = _
    have hl : (bvs l.sum.1).length = 32 := by rw [length_bvs, l.sum.2]
    show ((bvs l.sum.1 ++ chC r)).take _ = _
    rw [← length_bvs l.sum.1, List.take_left'] <;> rfl)
  have hrr : ∀ W : World, W.heap[w.heap.size]? = some (.cells (brC l r).toArray 79 (0, 0)) → Row W (some ⟨w.heap.size, 36, none⟩) r.sum.1.length r.sum.1 := fun W hW => Row.of_block hW (by
    show ((chC l ++ chC r).drop 36).take _ = _
    rw [List.drop_append, List.drop_of_length_le (by rw [length_chC]; omega), length_chC, List.nil_append]
    show (bvs r.sum.1).take _ = _
    rw [List.take_of_length_le (by rw [length_bvs]; omega)])
  have HRL := Box.mk hrl
  have HRR := Box.mk hrr
  have hl32 := Box.mk l.sum.2
  have hr32 := Box.mk r.sum.2
  clear hrl hrr h1 h2 h3 h4
  generalize (brC l r).toArray = cs at *
  go_enter Try.func61, Try.ntmps61
  go_wp2_with (refine wpList_make_bytes byteTy _ rfl _ _ rfl w.heap.size _ _ _ 80 rfl rfl (by rfl) (by omega) ?_ ?_)
  · simp
  intro w1 own1 G1 z1
  have B1 : Box (w1.heap[w.heap.size]? = some (.cells cs 79 (0, 0))) := ⟨(G1.block _ (by simp) (by simp)).trans (heap_new rfl)⟩
  have bb1 : Below w.heap.size w w1 := (Below.refl_alloc w _).grown G1 (by simp) (fun k hk => by cases hk)
  have d0 : w1.cell? ⟨w.heap.size, 0, none⟩ = some (.int .i64 lp) := by rw [cell_of_row w1 _ 0 _ _ _ B1.out]; exact c0
  have d1 : w1.cell? ⟨w.heap.size, 1, none⟩ = some (.int .i64 lc) := by rw [cell_of_row w1 _ 1 _ _ _ B1.out]; exact c1
  have d34 : w1.cell? ⟨w.heap.size, 34, none⟩ = some (.int .i64 rp) := by rw [cell_of_row w1 _ 34 _ _ _ B1.out]; exact c34
  have d35 : w1.cell? ⟨w.heap.size, 35, none⟩ = some (.int .i64 rc) := by rw [cell_of_row w1 _ 35 _ _ _ B1.out]; exact c35
  have x0 : ∀ (a b c d : Value) (W : World), (Instr.index 97 (.agg #[a, b, c, d]) (.int .i64 0)).run Try.prog W = .ok a W := fun a b c d W => by kernel_rfl
  have x1 : ∀ (a b c d : Value) (W : World), (Instr.index 97 (.agg #[a, b, c, d]) (.int .i64 1)).run Try.prog W = .ok b W := fun a b c d W => by kernel_rfl
  have x2 : ∀ (a b c d : Value) (W : World), (Instr.index 97 (.agg #[a, b, c, d]) (.int .i64 2)).run Try.prog W = .ok c W := fun a b c d W => by kernel_rfl
  have x3 : ∀ (a b c d : Value) (W : World), (Instr.index 97 (.agg #[a, b, c, d]) (.int .i64 3)).run Try.prog W = .ok d W := fun a b c d W => by kernel_rfl
  clear c0 c1 c34 c35
  -- GEN
  have hal : Try.prog.arrayLen 23 = 32 := by kernel_rfl
  go_wp2
  refine wp_loop_rounds 5 ?_
  clear d0 d1 d34 d35
  rw [rounds_succ]
  go_wp2_with (refine wpList_append_room byteTy _ rfl (.tmp 23) (.tmp 35) ?_ w.heap.size _ 0 80 _ ?_ ?_ (own1.alloc _) (some ⟨w1.heap.size, 0, none⟩) 4 4 (le4 lp) ?_ (by simp) ?_ (by omega) ?_; rfl; rfl; rfl; rfl; exact Row.lit w1 _ 5 (le4 lp) (le4_cells lp b1))
  intro w2 own2 G2
  have B2 : Box (w2.heap[w.heap.size]? = some (.cells cs 79 (0, 0))) := ⟨(G2.block _ (by have := heap_lt B1.out; simp; omega) (by simp)).trans ((Below.refl_alloc w1 _).block _ (heap_lt B1.out) |>.trans B1.out)⟩
  have bb2 : Below w.heap.size w w2 := ((bb1.alloc bb1.size _)).grown G2 (by have := bb1.size; simp; omega) (fun k hk => by cases hk; omega)
  clear B1 bb1 G2 own1
  go_wp2
  rw [rounds_succ]
  go_wp2_with (refine wpList_append_room byteTy _ rfl (.tmp 23) (.tmp 35) ?_ w.heap.size _ 4 80 _ ?_ ?_ (own2.alloc _) (some ⟨w2.heap.size, 0, none⟩) 4 4 (le4 rp) ?_ (by simp) ?_ (by omega) ?_; rfl; rfl; rfl; rfl; exact Row.lit w2 _ 5 (le4 rp) (le4_cells rp b2))
  intro w3 own3 G3
  have B3 : Box (w3.heap[w.heap.size]? = some (.cells cs 79 (0, 0))) := ⟨(G3.block _ (by have := heap_lt B2.out; simp; omega) (by simp)).trans ((Below.refl_alloc w2 _).block _ (heap_lt B2.out) |>.trans B2.out)⟩
  have bb3 : Below w.heap.size w w3 := ((bb2.alloc bb2.size _)).grown G3 (by have := bb2.size; simp; omega) (fun k hk => by cases hk; omega)
  clear B2 bb2 G3 own2
  go_wp2
  rw [rounds_succ]
  go_wp2_with (refine wpList_append_room byteTy _ rfl (.tmp 23) (.tmp 35) ?_ w.heap.size _ 8 80 _ ?_ ?_ (own3.alloc _) (some ⟨w3.heap.size, 0, none⟩) 4 4 (le4 lc) ?_ (by simp) ?_ (by omega) ?_; rfl; rfl; rfl; rfl; exact Row.lit w3 _ 5 (le4 lc) (le4_cells lc b3))
  intro w4 own4 G4
  have B4 : Box (w4.heap[w.heap.size]? = some (.cells cs 79 (0, 0))) := ⟨(G4.block _ (by have := heap_lt B3.out; simp; omega) (by simp)).trans ((Below.refl_alloc w3 _).block _ (heap_lt B3.out) |>.trans B3.out)⟩
  have bb4 : Below w.heap.size w w4 := ((bb3.alloc bb3.size _)).grown G4 (by have := bb3.size; simp; omega) (fun k hk => by cases hk; omega)
  clear B3 bb3 G4 own3
  go_wp2
  rw [rounds_succ]
  go_wp2_with (refine wpList_append_room byteTy _ rfl (.tmp 23) (.tmp 35) ?_ w.heap.size _ 12 80 _ ?_ ?_ (own4.alloc _) (some ⟨w4.heap.size, 0, none⟩) 4 4 (le4 rc) ?_ (by simp) ?_ (by omega) ?_; rfl; rfl; rfl; rfl; exact Row.lit w4 _ 5 (le4 rc) (le4_cells rc b4))
  intro w5 own5 G5
  have B5 : Box (w5.heap[w.heap.size]? = some (.cells cs 79 (0, 0))) := ⟨(G5.block _ (by have := heap_lt B4.out; simp; omega) (by simp)).trans ((Below.refl_alloc w4 _).block _ (heap_lt B4.out) |>.trans B4.out)⟩
  have bb5 : Below w.heap.size w w5 := ((bb4.alloc bb4.size _)).grown G5 (by have := bb4.size; simp; omega) (fun k hk => by cases hk; omega)
  clear B4 bb4 G5 own4
  go_wp2
  rw [rounds_succ]
  go_wp2_with (refine wpList_append_room byteTy _ rfl (.tmp 38) (.tmp 41) ?_ w.heap.size _ 16 80 _ ?_ ?_ own5 (some ⟨w.heap.size, 2, none⟩) 32 32 l.sum.1 ?_ (by simp) ?_ (by omega) ?_; rfl; rfl; rfl; rfl; (have := HRL.out _ B5.out; rwa [hl32.out] at this))
  intro w6 own6 G6
  have B6 : Box (w6.heap[w.heap.size]? = some (.cells cs 79 (0, 0))) := ⟨(G6.block _ (heap_lt B5.out) (by simp)).trans B5.out⟩
  have bb6 : Below w.heap.size w w6 := bb5.grown G6 bb5.size (fun k hk => by cases hk; omega)
  clear B5 bb5 G6 own5
  go_wp2_with (refine wpList_append_room byteTy _ rfl (.tmp 43) (.tmp 46) ?_ w.heap.size _ 48 80 _ ?_ ?_ own6 (some ⟨w.heap.size, 36, none⟩) 32 32 r.sum.1 ?_ (by simp) ?_ (by omega) ?_; rfl; rfl; (simp [hl32.out, le4]); rfl; (have := HRR.out _ B6.out; rwa [hr32.out] at this))
  intro w7 own7 G7
  have bb7 : Below w.heap.size w w7 := bb6.grown G7 bb6.size (fun k hk => by cases hk; omega)
  go_wp2
  go_ret
  refine ⟨_, _, rfl, ?_, bb7⟩
  have e : brT l r lp rp lc rc = [] ++ le4 lp ++ le4 rp ++ le4 lc ++ le4 rc ++ l.sum.1 ++ r.sum.1 := by simp [brT]
  rw [e]
  exact own7
end Go.Proofs.Ytocfiabbhcgegaa
