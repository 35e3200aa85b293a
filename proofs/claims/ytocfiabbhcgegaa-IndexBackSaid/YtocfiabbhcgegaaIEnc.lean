/- Encode of a record. -/
import Derived.Test.YtocfiabbhcgegaaIRightI
import Derived.Test.YtocfiabbhcgegaaLayB
import Derived.Test.YtocfiabbhcgegaaArm2
namespace Go.Proofs.Ytocfiabbhcgegaa
open Go Go.RowKit
set_option linter.unusedVariables false

theorem le4_val2 (n : Nat) : [Value.int .u8 ((n : Int) % 256), Value.int .u8 ((n : Int) / 256 % 256), Value.int .u8 ((n : Int) / 65536 % 256), Value.int .u8 ((n : Int) / 16777216 % 256)] = bvs (le4 n) := by
  have h0 : ∀ m : Nat, ((UInt8.ofNat m).toNat : Int) = (m : Int) % 256 := fun m => by rw [UInt8.toNat_ofNat']; omega
  show _ = [bv _, bv _, bv _, bv _]
  unfold bv
  rw [h0, h0, h0, h0]
  rfl
theorem le4_val3 (n : Nat) (h : n ≤ 1073741824) : [Value.int .u8 ((n : Int) % 256), Value.int .u8 ((n : Int) / 256 % 256), Value.int .u8 ((n : Int) / 65536 % 256), Value.int .u8 ((n : Int) / 16777216)] = bvs (le4 n) := by
  rw [← le4_val2]
  congr 1; congr 1; congr 1; congr 1; congr 1; omega
theorem pageB_iff (v : Int) : pageB v = true ↔ 2 ≤ v ∧ v ≤ 4095 := by unfold pageB; simp
/-- The numbers of a right record are small. -/
theorem right_small (u b x2 x3 x4 x5 : Int) (h : rightI u b x2 x3 x4 x5 = true) : (0 ≤ u ∧ u ≤ 1073741824) ∧ (0 ≤ b ∧ b ≤ 1073741824) ∧ (0 ≤ x2 ∧ x2 ≤ 4096) ∧ (0 ≤ x3 ∧ x3 ≤ 4096) ∧ (0 ≤ x4 ∧ x4 ≤ 4096) ∧ (0 ≤ x5 ∧ x5 ≤ 4096) := by
  unfold rightI at h
  split at h
  · cases h
  · rename_i h1
    split at h
    · cases h
    · rename_i h2
      have hh : heldB x4 x5 = true := by cases hq : heldB x4 x5 <;> simp_all
      unfold heldB at hh
      simp only [Bool.or_eq_true, Bool.and_eq_true, decide_eq_true_eq] at hh
      split at h
      · cases h
      · rename_i h3
        have h4 : 0 ≤ x4 ∧ x4 ≤ 4096 := by
          by_cases q : x4 = 0
          · omega
          · have : pageB x4 = true := by
              cases hq : pageB x4
              · exact absurd ⟨q, hq⟩ h3
              · rfl
            rw [pageB_iff] at this; omega
        refine ⟨by omega, by omega, ?_, ?_, h4, by omega⟩ <;>
        · split at h
          · simp only [Bool.and_eq_true, beq_iff_eq] at h; omega
          · split at h
            · cases h
            · rename_i h6
              have p2 : pageB x2 = true := by cases hq : pageB x2 <;> simp_all
              rw [pageB_iff] at p2
              first
              | omega
              | (split at h
                 · simp only [beq_iff_eq] at h; omega
                 · split at h
                   · simp only [beq_iff_eq] at h; omega
                   · simp only [Bool.and_eq_true, decide_eq_true_eq] at h
                     have p3 := h.1
                     rw [pageB_iff] at p3
                     omega)

/-- The text of a record. -/
def encR (x : RecV) : List UInt8 := le4 x.f0.toNat ++ (le4 x.f1.toNat ++ (le4 x.f2.toNat ++ (le4 x.f3.toNat ++ (le4 x.f4.toNat ++ (le4 x.f5.toNat ++ x.sum.1)))))
theorem length_encR (x : RecV) : (encR x).length = 56 := by simp [encR, le4, x.sum.2]

set_option maxRecDepth 100000 in
set_option maxHeartbeats 4000000 in
theorem ienc_any (x : RecV) (w : World) :
    Calls Try.prog 5 #[.agg (recC x).toArray] w fun e w' =>
      ((rightR x = true ∧ ∃ g cap, e = .returned (.tuple #[.slice (some ⟨g, 0, none⟩) 56 cap, .int .i64 0]) ∧ Own w' w.heap.size 5 (.slice (some ⟨g, 0, none⟩) 56 cap) (encR x)) ∨
        (rightR x = false ∧ e = .returned (.tuple #[.slice none 0 0, .int .i64 150]))) ∧ Below w.heap.size w w' := by
  have hiR : Box ((Try.prog.info? 25).map (·.size) = some (recC x).toArray.size) := ⟨by
    have h : (Try.prog.info? 25).map (·.size) = some 38 := by kernel_rfl
    rw [h, List.size_toArray, length_recC]⟩
  have F0 := Box.mk (show (w.alloc (.cells (recC x).toArray 25)).heap[w.heap.size]? = some (.cells (recC x).toArray 25 (0, 0)) from heap_new rfl)
  have B0 := Box.mk (Below.refl_alloc w (.cells (recC x).toArray 25))
  have hR := Box.mk (fun W => iright_any x W)
  have hC := Box.mk (fun (W : World) (h : W.heap[w.heap.size]? = some (.cells (recC x).toArray 25 (0, 0))) => rec_cells h)
  have hS := Box.mk (fun (W : World) (h : W.heap[w.heap.size]? = some (.cells (recC x).toArray 25 (0, 0))) => show Row W (some ⟨w.heap.size, 6, none⟩) x.sum.1.length x.sum.1 from Row.of_block h (by
    show ((recC x).drop 6).take _ = _
    show (bvs x.sum.1).take _ = _
    rw [List.take_of_length_le (by rw [length_bvs]; omega)]))
  have HE := Box.mk (show encR x = [] ++ le4 x.f0.toNat ++ le4 x.f1.toNat ++ le4 x.f2.toNat ++ le4 x.f3.toNat ++ le4 x.f4.toNat ++ le4 x.f5.toNat ++ x.sum.1 by unfold encR; simp only [List.append_assoc, List.nil_append])
  have hsm := Box.mk (fun h => right_small x.f0 x.f1 x.f2 x.f3 x.f4 x.f5 h)
  have hs32 := Box.mk x.sum.2
  cases hr : rightR x
  · rw [hr] at hR
    clear hsm HE hS hC hs32
    generalize (recC x).toArray = cs at *
    go_enter Try.func5, Try.ntmps5
    go_wp2_with (first
      | ((with_reducible refine arm_row 25 (.tmp 1) ?_ ?_ w.heap.size ?_ 25 cs (0, 0) _ F0.out Try.underlying25 rfl hiR.out ?_); rfl; rfl; rfl)
      | (go_at_call 25; refine (calls_box (hR.out _)).mono ?_))
    rintro e w1 ⟨⟨rfl, hB⟩⟩
    have B1 := Box.mk (B0.out.trans (hB.mono B0.out.size))
    clear hB hr
    go_wp2
    go_ret2
    exact ⟨.inr ⟨by first | rfl | trivial, rfl⟩, B1.out⟩
  · rw [hr] at hR
    obtain ⟨s0, s1, s2, s3, s4, s5⟩ := hsm.out hr
    generalize encR x = lE at *
    generalize (recC x).toArray = cs at *
    obtain ⟨f0, f1, f2, f3, f4, f5, sm⟩ := x
    dsimp only at *
    obtain ⟨m0, rfl⟩ : ∃ m : Nat, f0 = m := ⟨f0.toNat, by omega⟩
    have e0 : m0 ≤ 1073741824 := by omega
    obtain ⟨m1, rfl⟩ : ∃ m : Nat, f1 = m := ⟨f1.toNat, by omega⟩
    have e1 : m1 ≤ 1073741824 := by omega
    obtain ⟨m2, rfl⟩ : ∃ m : Nat, f2 = m := ⟨f2.toNat, by omega⟩
    have e2 : m2 ≤ 1073741824 := by omega
    obtain ⟨m3, rfl⟩ : ∃ m : Nat, f3 = m := ⟨f3.toNat, by omega⟩
    have e3 : m3 ≤ 1073741824 := by omega
    obtain ⟨m4, rfl⟩ : ∃ m : Nat, f4 = m := ⟨f4.toNat, by omega⟩
    have e4 : m4 ≤ 1073741824 := by omega
    obtain ⟨m5, rfl⟩ : ∃ m : Nat, f5 = m := ⟨f5.toNat, by omega⟩
    have e5 : m5 ≤ 1073741824 := by omega
    simp only [Int.toNat_natCast] at HE
    clear s0 s1 s2 s3 s4 s5 hsm hr
    have x0 : ∀ (a b c d e f : Value) (W : World), (Instr.index 56 (.agg #[a, b, c, d, e, f]) (.int .i64 0)).run Try.prog W = .ok a W := fun a b c d e f W => by kernel_rfl
    have x1 : ∀ (a b c d e f : Value) (W : World), (Instr.index 56 (.agg #[a, b, c, d, e, f]) (.int .i64 1)).run Try.prog W = .ok b W := fun a b c d e f W => by kernel_rfl
    have x2 : ∀ (a b c d e f : Value) (W : World), (Instr.index 56 (.agg #[a, b, c, d, e, f]) (.int .i64 2)).run Try.prog W = .ok c W := fun a b c d e f W => by kernel_rfl
    have x3 : ∀ (a b c d e f : Value) (W : World), (Instr.index 56 (.agg #[a, b, c, d, e, f]) (.int .i64 3)).run Try.prog W = .ok d W := fun a b c d e f W => by kernel_rfl
    have x4 : ∀ (a b c d e f : Value) (W : World), (Instr.index 56 (.agg #[a, b, c, d, e, f]) (.int .i64 4)).run Try.prog W = .ok e W := fun a b c d e f W => by kernel_rfl
    have x5 : ∀ (a b c d e f : Value) (W : World), (Instr.index 56 (.agg #[a, b, c, d, e, f]) (.int .i64 5)).run Try.prog W = .ok f W := fun a b c d e f W => by kernel_rfl
    have hal : Try.prog.arrayLen 23 = 32 := by kernel_rfl
    go_enter Try.func5, Try.ntmps5
    go_wp2_with (first
      | ((with_reducible refine arm_row 25 (.tmp 1) ?_ ?_ w.heap.size ?_ 25 cs (0, 0) _ F0.out Try.underlying25 rfl hiR.out ?_); rfl; rfl; rfl)
      | (go_at_call 25; refine (calls_box (hR.out _)).mono ?_))
    rintro e w0 ⟨⟨rfl, hB⟩⟩
    have bb0 : Below w.heap.size w w0 := B0.out.trans (hB.mono B0.out.size)
    have Bk0 : Box (w0.heap[w.heap.size]? = some (.cells cs 25 (0, 0))) := ⟨(hB.block _ (heap_lt F0.out)).trans F0.out⟩
    have hbs0 := bb0.size
    clear hB B0 F0 hR hiR
    go_wp2_with (refine wpList_make_bytes byteTy _ rfl _ _ rfl w.heap.size _ _ _ 56 rfl rfl (by rfl) (by omega) ?_ ?_)
    · omega
    intro w1 own1 G1 z1
    have B1 : Box (w1.heap[w.heap.size]? = some (.cells cs 25 (0, 0))) := ⟨(G1.block _ (heap_lt Bk0.out) (by simp)).trans Bk0.out⟩
    have bb1 : Below w.heap.size w w1 := bb0.grown G1 hbs0 (fun k hk => by cases hk)
    obtain ⟨g, hg⟩ : ∃ z, w0.heap.size = z := ⟨_, rfl⟩
    rw [hg] at own1 ⊢
    have hgw : w.heap.size < g := by have := heap_lt Bk0.out; omega
    clear Bk0 bb0 G1 hbs0 z1 hg
    obtain ⟨c0, c1, c2, c3, c4, c5⟩ := hC.out w1 B1.out
    go_wp2
    refine wp_loop_rounds 7 ?_
    clear c0 c1 c2 c3 c4 c5
    rw [rounds_succ]
    go_wp2_with (refine wpList_append_room byteTy _ rfl (.tmp 27) (.tmp 39) ?_ w.heap.size _ 0 56 _ ?_ ?_ (own1.alloc _) (some ⟨w1.heap.size, 0, none⟩) 4 4 (le4 m0) ?_ (by simp) ?_ (by omega) ?_; rfl; rfl; rfl; rfl; (first | exact Row.lit w1 _ 5 (le4 m0) (le4_val2 m0) | exact Row.lit w1 _ 5 (le4 m0) (le4_cells m0 (by omega)) | exact Row.lit w1 _ 5 (le4 m0) (le4_val3 m0 e0)))
    intro w2 own2 G2
    have B2 : Box (w2.heap[w.heap.size]? = some (.cells cs 25 (0, 0))) := ⟨(G2.block _ (by have := heap_lt B1.out; simp; omega) (by intro h; have := Option.some.inj h; omega)).trans ((Below.refl_alloc w1 _).block _ (heap_lt B1.out) |>.trans B1.out)⟩
    have bb2 : Below w.heap.size w w2 := ((bb1.alloc bb1.size _)).grown G2 (by have := bb1.size; simp; omega) (fun k hk => by cases hk; omega)
    clear B1 bb1 G2 own1
    go_wp2
    rw [rounds_succ]
    go_wp2_with (refine wpList_append_room byteTy _ rfl (.tmp 27) (.tmp 39) ?_ w.heap.size _ 4 56 _ ?_ ?_ (own2.alloc _) (some ⟨w2.heap.size, 0, none⟩) 4 4 (le4 m1) ?_ (by simp) ?_ (by omega) ?_; rfl; rfl; rfl; rfl; (first | exact Row.lit w2 _ 5 (le4 m1) (le4_val2 m1) | exact Row.lit w2 _ 5 (le4 m1) (le4_cells m1 (by omega)) | exact Row.lit w2 _ 5 (le4 m1) (le4_val3 m1 e1)))
    intro w3 own3 G3
    have B3 : Box (w3.heap[w.heap.size]? = some (.cells cs 25 (0, 0))) := ⟨(G3.block _ (by have := heap_lt B2.out; simp; omega) (by intro h; have := Option.some.inj h; omega)).trans ((Below.refl_alloc w2 _).block _ (heap_lt B2.out) |>.trans B2.out)⟩
    have bb3 : Below w.heap.size w w3 := ((bb2.alloc bb2.size _)).grown G3 (by have := bb2.size; simp; omega) (fun k hk => by cases hk; omega)
    clear B2 bb2 G3 own2
    go_wp2
    rw [rounds_succ]
    go_wp2_with (refine wpList_append_room byteTy _ rfl (.tmp 27) (.tmp 39) ?_ w.heap.size _ 8 56 _ ?_ ?_ (own3.alloc _) (some ⟨w3.heap.size, 0, none⟩) 4 4 (le4 m2) ?_ (by simp) ?_ (by omega) ?_; rfl; rfl; rfl; rfl; (first | exact Row.lit w3 _ 5 (le4 m2) (le4_val2 m2) | exact Row.lit w3 _ 5 (le4 m2) (le4_cells m2 (by omega)) | exact Row.lit w3 _ 5 (le4 m2) (le4_val3 m2 e2)))
    intro w4 own4 G4
    have B4 : Box (w4.heap[w.heap.size]? = some (.cells cs 25 (0, 0))) := ⟨(G4.block _ (by have := heap_lt B3.out; simp; omega) (by intro h; have := Option.some.inj h; omega)).trans ((Below.refl_alloc w3 _).block _ (heap_lt B3.out) |>.trans B3.out)⟩
    have bb4 : Below w.heap.size w w4 := ((bb3.alloc bb3.size _)).grown G4 (by have := bb3.size; simp; omega) (fun k hk => by cases hk; omega)
    clear B3 bb3 G4 own3
    go_wp2
    rw [rounds_succ]
    go_wp2_with (refine wpList_append_room byteTy _ rfl (.tmp 27) (.tmp 39) ?_ w.heap.size _ 12 56 _ ?_ ?_ (own4.alloc _) (some ⟨w4.heap.size, 0, none⟩) 4 4 (le4 m3) ?_ (by simp) ?_ (by omega) ?_; rfl; rfl; rfl; rfl; (first | exact Row.lit w4 _ 5 (le4 m3) (le4_val2 m3) | exact Row.lit w4 _ 5 (le4 m3) (le4_cells m3 (by omega)) | exact Row.lit w4 _ 5 (le4 m3) (le4_val3 m3 e3)))
    intro w5 own5 G5
    have B5 : Box (w5.heap[w.heap.size]? = some (.cells cs 25 (0, 0))) := ⟨(G5.block _ (by have := heap_lt B4.out; simp; omega) (by intro h; have := Option.some.inj h; omega)).trans ((Below.refl_alloc w4 _).block _ (heap_lt B4.out) |>.trans B4.out)⟩
    have bb5 : Below w.heap.size w w5 := ((bb4.alloc bb4.size _)).grown G5 (by have := bb4.size; simp; omega) (fun k hk => by cases hk; omega)
    clear B4 bb4 G5 own4
    go_wp2
    rw [rounds_succ]
    go_wp2_with (refine wpList_append_room byteTy _ rfl (.tmp 27) (.tmp 39) ?_ w.heap.size _ 16 56 _ ?_ ?_ (own5.alloc _) (some ⟨w5.heap.size, 0, none⟩) 4 4 (le4 m4) ?_ (by simp) ?_ (by omega) ?_; rfl; rfl; rfl; rfl; (first | exact Row.lit w5 _ 5 (le4 m4) (le4_val2 m4) | exact Row.lit w5 _ 5 (le4 m4) (le4_cells m4 (by omega)) | exact Row.lit w5 _ 5 (le4 m4) (le4_val3 m4 e4)))
    intro w6 own6 G6
    have B6 : Box (w6.heap[w.heap.size]? = some (.cells cs 25 (0, 0))) := ⟨(G6.block _ (by have := heap_lt B5.out; simp; omega) (by intro h; have := Option.some.inj h; omega)).trans ((Below.refl_alloc w5 _).block _ (heap_lt B5.out) |>.trans B5.out)⟩
    have bb6 : Below w.heap.size w w6 := ((bb5.alloc bb5.size _)).grown G6 (by have := bb5.size; simp; omega) (fun k hk => by cases hk; omega)
    clear B5 bb5 G6 own5
    go_wp2
    rw [rounds_succ]
    go_wp2_with (refine wpList_append_room byteTy _ rfl (.tmp 27) (.tmp 39) ?_ w.heap.size _ 20 56 _ ?_ ?_ (own6.alloc _) (some ⟨w6.heap.size, 0, none⟩) 4 4 (le4 m5) ?_ (by simp) ?_ (by omega) ?_; rfl; rfl; rfl; rfl; (first | exact Row.lit w6 _ 5 (le4 m5) (le4_val2 m5) | exact Row.lit w6 _ 5 (le4 m5) (le4_cells m5 (by omega)) | exact Row.lit w6 _ 5 (le4 m5) (le4_val3 m5 e5)))
    intro w7 own7 G7
    have B7 : Box (w7.heap[w.heap.size]? = some (.cells cs 25 (0, 0))) := ⟨(G7.block _ (by have := heap_lt B6.out; simp; omega) (by intro h; have := Option.some.inj h; omega)).trans ((Below.refl_alloc w6 _).block _ (heap_lt B6.out) |>.trans B6.out)⟩
    have bb7 : Below w.heap.size w w7 := ((bb6.alloc bb6.size _)).grown G7 (by have := bb6.size; simp; omega) (fun k hk => by cases hk; omega)
    clear B6 bb6 G7 own6
    go_wp2
    rw [rounds_succ]
    go_wp2_with (refine wpList_append_room byteTy _ rfl (.tmp 42) (.tmp 44) ?_ w.heap.size _ 24 56 _ ?_ ?_ own7 (some ⟨w.heap.size, 6, none⟩) 32 32 sm.1 ?_ (by simp) ?_ (by omega) ?_; rfl; rfl; rfl; rfl; (have := hS.out _ B7.out; rwa [hs32.out] at this))
    intro w8 own8 G8
    have bb8 : Below w.heap.size w w8 := bb7.grown G8 bb7.size (fun k hk => by cases hk; omega)
    clear B7 bb7 G8 own7
    go_wp2
    go_ret2
    refine ⟨.inl ⟨by first | rfl | trivial, _, _, rfl, ?_⟩, bb8⟩
    rw [HE.out]
    exact own8
end Go.Proofs.Ytocfiabbhcgegaa
