/- A text with what comes behind it: the walk of ledgerref1.filled. -/
import Derived.Test.YteiepenanffhcaaDoorCopy
namespace Go.Proofs.YteiepenanffhcaaDoor
open Go Go.RowKit
set_option linter.unusedVariables false

/-- The eight bytes of a number, the highest first; the first k of them. -/
def be8 (L : Nat) (k : Nat) : List UInt8 := (List.range k).map fun i => UInt8.ofNat (L / 2 ^ (56 - 8 * i))
/-- How many zeros come behind the mark. -/
def padz (n : Nat) : Nat := (119 - n % 64) % 64
/-- A text filled up. -/
def padL (l : List UInt8) : List UInt8 := l ++ 128 :: List.replicate (padz l.length) 0 ++ be8 (8 * l.length) 8

theorem own_slice {w : World} {base : Nat} {e : TypeId} {v : Value} {l : List UInt8} (h : Own w base e v l) : ∃ ao c, v = .slice ao l.length c := by
  obtain ⟨hl, h⟩ := h
  rcases h with ⟨rfl, h0⟩ | ⟨g, cap, cur, rfl, _⟩
  · exact ⟨none, 0, by rw [h0]⟩
  · exact ⟨_, _, rfl⟩
theorem byte_div8 (L n : Nat) : Value.int .u8 ((L : Int) / 2 ^ n % 256) = bv (UInt8.ofNat (L / 2 ^ n)) := by
  unfold bv
  congr 1
def lenV : Value → Nat
  | .slice _ n _ => n
  | _ => 0

set_option maxRecDepth 100000 in
set_option maxHeartbeats 2000000 in
theorem filled_any (ao : Option Addr) (n c : Nat) (l : List UInt8) (w : World) (h0 : Row w ao n l) (hnc : ao = none → n = 0 ∧ c = 0) (hb : n ≤ 140737488351300) :
    Calls Tryd.prog 60 #[.slice ao n c] w fun e w' => (∃ v, e = .returned v ∧ Own w' w.heap.size 5 v (padL l)) ∧ Below w.heap.size w w' := by
  have h := Box.mk h0
  have hl := Box.mk h0.1
  have HN := Box.mk hnc
  have own0 : Own w w.heap.size 5 (.slice none 0 0) [] := ⟨rfl, .inl ⟨rfl, rfl⟩⟩
  have O0 := Box.mk own0
  clear h0 hnc own0
  go_enter Tryd.func60, Tryd.ntmps60
  go_wp2_with ((with_reducible refine arm_append byteTyC (.tmp 6) (.tmp 7) ?_ rfl w.heap.size _ [] ?_ O0.out ao n c l ?_ HN.out h.out (by simp; omega) (Nat.le_refl _) ?_); rfl; rfl; rfl)
  intro v1 w1 own1 G1
  have B1 := Box.mk (below_own (Below.refl w.heap.size w) O0.out G1 (Nat.le_refl _))
  have O1 := Box.mk (show Own w1 w.heap.size 5 v1 l from own1)
  clear own1 G1 O0
  have R128 := Box.mk (show Row (w1.alloc (.cells #[.int .u8 128] 5)) (some ⟨w1.heap.size, 0, none⟩) 1 [128] from Row.lit w1 #[.int .u8 128] 5 [128] rfl)
  go_wp2_with ((with_reducible refine arm_append byteTyC (.tmp 9) (.tmp 10) ?_ rfl w.heap.size _ l ?_ (O1.out.alloc _) (some ⟨w1.heap.size, 0, none⟩) 1 1 [128] ?_ (by intro h; cases h) R128.out (by rw [hl.out]; omega) (by have := B1.out.size; simp; omega) ?_); rfl; rfl; rfl)
  intro v2 w2 own2 G2
  have B2 := Box.mk (below_own (B1.out.alloc B1.out.size (.cells #[.int .u8 128] 5)) (O1.out.alloc _) G2 (Nat.le_refl _))
  have O2 := Box.mk own2
  clear own2 G2 O1 B1
  go_wp2
  go_loopw [3] (fun v wr => ∃ z : Nat, z ≤ padz n ∧ Below w.heap.size w wr ∧ Own wr w.heap.size 5 v (l ++ [128] ++ List.replicate z 0)) (fun v _ => padz n - (lenV v - n - 1))
  case atStart => exact ⟨0, Nat.zero_le _, B2.out, by simpa using O2.out⟩
  case round =>
    obtain ⟨z, hz, hB0, hO0⟩ := hrel
    have HB := Box.mk hB0
    have HO := Box.mk hO0
    clear hB0 hO0
    have hlen := Box.mk (show (l ++ [128] ++ List.replicate z 0).length = n + 1 + z by simp [hl.out]; omega)
    obtain ⟨ao3, c3, rfl⟩ := own_slice HO.out
    rw [hlen.out] at HO ⊢
    by_cases hlt : z < padz n
    · have hc : (((n : Int) + 1 + (z : Int)) % 64 != 56) = true := by
        rw [bne_iff_ne]; unfold padz at hlt; omega
      have hsz := Box.mk HB.out.size
      have HU := Box.mk (show l ++ [128] ++ List.replicate (z + 1) 0 = (l ++ [128] ++ List.replicate z 0) ++ [0] by rw [List.replicate_succ']; simp)
      have hz63 : z ≤ 63 := by unfold padz at hlt; omega
      generalize l ++ [128] ++ List.replicate z 0 = lk at *
      have R0 := Box.mk (show Row (wr.alloc (.cells #[.int .u8 0] 5)) (some ⟨wr.heap.size, 0, none⟩) 1 [0] from Row.lit wr #[.int .u8 0] 5 [0] rfl)
      go_wp2_with ((with_reducible refine arm_append byteTyC (.tmp 16) (.tmp 17) ?_ rfl w.heap.size _ lk ?_ (HO.out.alloc _) (some ⟨wr.heap.size, 0, none⟩) 1 1 [0] ?_ (by intro h; cases h) R0.out (by rw [hlen.out]; omega) (by have := hsz.out; simp; omega) ?_); rfl; rfl; rfl)
      intro v' w' own' G
      have hB' := Box.mk (below_own (HB.out.alloc HB.out.size (.cells #[.int .u8 0] 5)) (HO.out.alloc _) G (Nat.le_refl _))
      obtain ⟨ao4, c4, rfl⟩ := own_slice own'
      have hl4 := Box.mk (show (lk ++ [0]).length = n + 1 + (z + 1) by simp [hlen.out]; omega)
      rw [hl4.out] at own' ⊢
      have HO4 := Box.mk own'
      clear own' G HO HB
      go_wp2
      go_roundw
      case rel => exact ⟨z + 1, by omega, hB'.out, by rw [HU.out]; exact HO4.out⟩
      case measure => simp [lenV]; omega
    · have hzp : z = padz n := by omega
      have hc : (((n : Int) + 1 + (z : Int)) % 64 != 56) = false := by
        rw [bne_eq_false_iff_eq, hzp]; unfold padz; omega
      have hw1 : IntKind.u64.wrap ((n : Int) * 8) = ((8 * n : Nat) : Int) := by
        have h1 : ∀ m : Int, IntKind.u64.wrap m = m % 18446744073709551616 := fun m => by simp [IntKind.wrap, IntKind.signed, IntKind.bits]
        rw [h1]; omega
      have hw2 : IntKind.u64.wrap (n : Int) = (n : Int) := by
        have h1 : ∀ m : Int, IntKind.u64.wrap m = m % 18446744073709551616 := fun m => by simp [IntKind.wrap, IntKind.signed, IntKind.bits]
        rw [h1]; omega
      have hsz := Box.mk HB.out.size
      have HPad := Box.mk (show l ++ [128] ++ List.replicate z 0 ++ be8 (8 * n) 8 = padL l by unfold padL; rw [hl.out, hzp]; simp)
      have hz63 : z ≤ 63 := by rw [hzp]; unfold padz; omega
      generalize l ++ [128] ++ List.replicate z 0 = lz at *
      generalize 8 * n = L at *
      clear hzp hlt hz O2 B2 R128
      go_wp2
      obtain ⟨wz, hwz⟩ : ∃ x, x = wr := ⟨_, rfl⟩
      subst hwz
      go_loopw [3, 5] (fun v i wr => ∃ k : Nat, k ≤ 8 ∧ i = .int .i64 k ∧ Below w.heap.size w wr ∧ Own wr w.heap.size 5 v (lz ++ be8 L k)) (fun v i _ => 8 - (intOf i).toNat)
      case atStart => exact ⟨0, Nat.zero_le _, rfl, HB.out, by simpa [be8] using HO.out⟩
      case round =>
        obtain ⟨k, hk, rfl, hB0, hO0⟩ := hrel
        have HB := Box.mk hB0
        have HO := Box.mk hO0
        clear hB0 hO0
        have hsz := Box.mk HB.out.size
        by_cases hlt : k < 8
        · have R8 := Box.mk (show Row (wr.alloc (.cells #[.int .u8 ((L : Int) / 2 ^ (56 - 8 * k) % 256)] 5)) (some ⟨wr.heap.size, 0, none⟩) 1 [UInt8.ofNat (L / 2 ^ (56 - 8 * k))] from Row.lit wr _ 5 [UInt8.ofNat (L / 2 ^ (56 - 8 * k))] (by show [_] = [_]; rw [byte_div8]))
          have HU := Box.mk (show lz ++ be8 L (k + 1) = (lz ++ be8 L k) ++ [UInt8.ofNat (L / 2 ^ (56 - 8 * k))] by unfold be8; rw [List.range_succ]; simp)
          have hle := Box.mk (show (lz ++ be8 L k).length ≤ 140737488351400 by have := hlen.out; simp [be8]; omega)
          generalize UInt8.ofNat (L / 2 ^ (56 - 8 * k)) = u8 at *
          generalize lz ++ be8 L k = lk at *
          go_wp2_with ((with_reducible refine arm_append byteTyC (.tmp 27) (.tmp 35) ?_ rfl w.heap.size _ lk ?_ (HO.out.alloc _) (some ⟨wr.heap.size, 0, none⟩) 1 1 [u8] ?_ (by intro h; cases h) R8.out (by have := hle.out; omega) (by have := hsz.out; simp; omega) ?_); rfl; rfl; rfl)
          intro v' w' own' G
          have hB' := Box.mk (below_own (HB.out.alloc HB.out.size (.cells #[.int .u8 ((L : Int) / 2 ^ (56 - 8 * k) % 256)] 5)) (HO.out.alloc _) G (Nat.le_refl _))
          have HO4 := Box.mk own'
          clear own' G HO HB
          go_wp2
          go_roundw
          case rel => exact ⟨k + 1, by omega, by go_num, hB'.out, by rw [HU.out]; exact HO4.out⟩
          case measure => simp [intOf]; omega
        · obtain rfl : k = 8 := by omega
          rw [show ((8 : Nat) : Int) = 8 from rfl]
          have HQ := HO.out
          rw [HPad.out] at HQ
          have HP := Box.mk HQ
          clear HO HQ
          go_wp2
          go_ret
          exact ⟨⟨_, rfl, HP.out⟩, HB.out⟩
end Go.Proofs.YteiepenanffhcaaDoor
