/- Texts joined: RFilled, RPad, RTurn. -/
import Derived.Test.YteiepenanffhcaaDoorP01
import Derived.Test.YteiepenanffhcaaDoorP11
import Derived.Test.YteiepenanffhcaaDoorRows
import Derived.Test.YteiepenanffhcaaDoorP09
/- A text with what comes behind it: the walk of ledgerref1.filled. -/
namespace Go.Proofs.YteiepenanffhcaaDoor
open Go Go.RowKit
set_option linter.unusedVariables false

/-- The eight bytes of a number, the highest first; the first k of them. -/
def be8 (L : Nat) (k : Nat) : List UInt8 := (List.range k).map fun i => UInt8.ofNat (L / 2 ^ (56 - 8 * i))
/-- How many zeros come behind the mark. -/
def padz (n : Nat) : Nat := (119 - n % 64) % 64
/-- A text filled up. -/
def padL (l : List UInt8) : List UInt8 := l ++ 128 :: List.replicate (padz l.length) 0 ++ be8 (8 * l.length) 8

theorem own_slice {w : World} {base : Nat} {e : TypeId} {v : Value} {l : List UInt8} (h : Own w base e v l) : ∃ ao c, v = .slice ao l.length c := by
  obtain ⟨hl, h⟩ := h
  rcases h with ⟨rfl, h0⟩ | ⟨g, cap, cur, rfl, _⟩
  · exact ⟨none, 0, by rw [h0]⟩
  · exact ⟨_, _, rfl⟩
theorem byte_div8 (L n : Nat) : Value.int .u8 ((L : Int) / 2 ^ n % 256) = bv (UInt8.ofNat (L / 2 ^ n)) := by
  unfold bv
  congr 1
def lenV : Value → Nat
  | .slice _ n _ => n
  | _ => 0

set_option maxRecDepth 100000 in
set_option maxHeartbeats 2000000 in
theorem filled_any (ao : Option Addr) (n c : Nat) (l : List UInt8) (w : World) (h0 : Row w ao n l) (hnc : ao = none → n = 0 ∧ c = 0) (hb : n ≤ 140737488351300) :
    Calls Tryd.prog 60 #[.slice ao n c] w fun e w' => (∃ v, e = .returned v ∧ Own w' w.heap.size 5 v (padL l)) ∧ Below w.heap.size w w' := by
  have h := Box.mk h0
  have hl := Box.mk h0.1
  have HN := Box.mk hnc
  have own0 : Own w w.heap.size 5 (.slice none 0 0) [] := ⟨rfl, .inl ⟨rfl, rfl⟩⟩
  have O0 := Box.mk own0
  clear h0 hnc own0
  go_enter Tryd.func60, Tryd.ntmps60
  go_wp2_with ((with_reducible refine arm_append byteTyC (.tmp 6) (.tmp 7) ?_ rfl w.heap.size _ [] ?_ O0.out ao n c l ?_ HN.out h.out (by simp; omega) (Nat.le_refl _) ?_); rfl; rfl; rfl)
  intro v1 w1 own1 G1
  have B1 := Box.mk (below_own (Below.refl w.heap.size w) O0.out G1 (Nat.le_refl _))
  have O1 := Box.mk (show Own w1 w.heap.size 5 v1 l from own1)
  clear own1 G1 O0
  have R128 := Box.mk (show Row (w1.alloc (.cells #[.int .u8 128] 5)) (some ⟨w1.heap.size, 0, none⟩) 1 [128] from Row.lit w1 #[.int .u8 128] 5 [128] rfl)
  go_wp2_with ((with_reducible refine arm_append byteTyC (.tmp 9) (.tmp 10) ?_ rfl w.heap.size _ l ?_ (O1.out.alloc _) (some ⟨w1.heap.size, 0, none⟩) 1 1 [128] ?_ (by intro h; cases h) R128.out (by rw [hl.out]; omega) (by have := B1.out.size; simp; omega) ?_); rfl; rfl; rfl)
  intro v2 w2 own2 G2
  have B2 := Box.mk (below_own (B1.out.alloc B1.out.size (.cells #[.int .u8 128] 5)) (O1.out.alloc _) G2 (Nat.le_refl _))
  have O2 := Box.mk own2
  clear own2 G2 O1 B1
  go_wp2
  go_loopw [3] (fun v wr => ∃ z : Nat, z ≤ padz n ∧ Below w.heap.size w wr ∧ Own wr w.heap.size 5 v (l ++ [128] ++ List.replicate z 0)) (fun v _ => padz n - (lenV v - n - 1))
  case atStart => exact ⟨0, Nat.zero_le _, B2.out, by simpa using O2.out⟩
  case round =>
    obtain ⟨z, hz, hB0, hO0⟩ := hrel
    have HB := Box.mk hB0
    have HO := Box.mk hO0
    clear hB0 hO0
    have hlen := Box.mk (show (l ++ [128] ++ List.replicate z 0).length = n + 1 + z by simp [hl.out]; omega)
    obtain ⟨ao3, c3, rfl⟩ := own_slice HO.out
    rw [hlen.out] at HO ⊢
    by_cases hlt : z < padz n
    · have hc : (((n : Int) + 1 + (z : Int)) % 64 != 56) = true := by
        rw [bne_iff_ne]; unfold padz at hlt; omega
      have hsz := Box.mk HB.out.size
      have HU := Box.mk (show l ++ [128] ++ List.replicate (z + 1) 0 = (l ++ [128] ++ List.replicate z 0) ++ [0] by rw [List.replicate_succ']; simp)
      have hz63 : z ≤ 63 := by unfold padz at hlt; omega
      generalize l ++ [128] ++ List.replicate z 0 = lk at *
      have R0 := Box.mk (show Row (wr.alloc (.cells #[.int .u8 0] 5)) (some ⟨wr.heap.size, 0, none⟩) 1 [0] from Row.lit wr #[.int .u8 0] 5 [0] rfl)
      go_wp2_with ((with_reducible refine arm_append byteTyC (.tmp 16) (.tmp 17) ?_ rfl w.heap.size _ lk ?_ (HO.out.alloc _) (some ⟨wr.heap.size, 0, none⟩) 1 1 [0] ?_ (by intro h; cases h) R0.out (by rw [hlen.out]; omega) (by have := hsz.out; simp; omega) ?_); rfl; rfl; rfl)
      intro v' w' own' G
      have hB' := Box.mk (below_own (HB.out.alloc HB.out.size (.cells #[.int .u8 0] 5)) (HO.out.alloc _) G (Nat.le_refl _))
      obtain ⟨ao4, c4, rfl⟩ := own_slice own'
      have hl4 := Box.mk (show (lk ++ [0]).length = n + 1 + (z + 1) by simp [hlen.out]; omega)
      rw [hl4.out] at own' ⊢
      have HO4 := Box.mk own'
      clear own' G HO HB
      go_wp2
      go_roundw
      case rel => exact ⟨z + 1, by omega, hB'.out, by rw [HU.out]; exact HO4.out⟩
      case measure => simp [lenV]; omega
    · have hzp : z = padz n := by omega
      have hc : (((n : Int) + 1 + (z : Int)) % 64 != 56) = false := by
        rw [bne_eq_false_iff_eq, hzp]; unfold padz; omega
      have hw1 : IntKind.u64.wrap ((n : Int) * 8) = ((8 * n : Nat) : Int) := by
        have h1 : ∀ m : Int, IntKind.u64.wrap m = m % 18446744073709551616 := fun m => by simp [IntKind.wrap, IntKind.signed, IntKind.bits]
        rw [h1]; omega
      have hw2 : IntKind.u64.wrap (n : Int) = (n : Int) := by
        have h1 : ∀ m : Int, IntKind.u64.wrap m = m % 18446744073709551616 := fun m => by simp [IntKind.wrap, IntKind.signed, IntKind.bits]
        rw [h1]; omega
      have hsz := Box.mk HB.out.size
      have HPad := Box.mk (show l ++ [128] ++ List.replicate z 0 ++ be8 (8 * n) 8 = padL l by unfold padL; rw [hl.out, hzp]; simp)
      have hz63 : z ≤ 63 := by rw [hzp]; unfold padz; omega
      generalize l ++ [128] ++ List.replicate z 0 = lz at *
      generalize 8 * n = L at *
      clear hzp hlt hz O2 B2 R128
      go_wp2
      obtain ⟨wz, hwz⟩ : ∃ x, x = wr := ⟨_, rfl⟩
      subst hwz
      go_loopw [3, 5] (fun v i wr => ∃ k : Nat, k ≤ 8 ∧ i = .int .i64 k ∧ Below w.heap.size w wr ∧ Own wr w.heap.size 5 v (lz ++ be8 L k)) (fun v i _ => 8 - (intOf i).toNat)
      case atStart => exact ⟨0, Nat.zero_le _, rfl, HB.out, by simpa [be8] using HO.out⟩
      case round =>
        obtain ⟨k, hk, rfl, hB0, hO0⟩ := hrel
        have HB := Box.mk hB0
        have HO := Box.mk hO0
        clear hB0 hO0
        have hsz := Box.mk HB.out.size
        by_cases hlt : k < 8
        · have R8 := Box.mk (show Row (wr.alloc (.cells #[.int .u8 ((L : Int) / 2 ^ (56 - 8 * k) % 256)] 5)) (some ⟨wr.heap.size, 0, none⟩) 1 [UInt8.ofNat (L / 2 ^ (56 - 8 * k))] from Row.lit wr _ 5 [UInt8.ofNat (L / 2 ^ (56 - 8 * k))] (by show [_] = [_]; rw [byte_div8]))
          have HU := Box.mk (show lz ++ be8 L (k + 1) = (lz ++ be8 L k) ++ [UInt8.ofNat (L / 2 ^ (56 - 8 * k))] by unfold be8; rw [List.range_succ]; simp)
          have hle := Box.mk (show (lz ++ be8 L k).length ≤ 140737488351400 by have := hlen.out; simp [be8]; omega)
          generalize UInt8.ofNat (L / 2 ^ (56 - 8 * k)) = u8 at *
          generalize lz ++ be8 L k = lk at *
          go_wp2_with ((with_reducible refine arm_append byteTyC (.tmp 27) (.tmp 35) ?_ rfl w.heap.size _ lk ?_ (HO.out.alloc _) (some ⟨wr.heap.size, 0, none⟩) 1 1 [u8] ?_ (by intro h; cases h) R8.out (by have := hle.out; omega) (by have := hsz.out; simp; omega) ?_); rfl; rfl; rfl)
          intro v' w' own' G
          have hB' := Box.mk (below_own (HB.out.alloc HB.out.size (.cells #[.int .u8 ((L : Int) / 2 ^ (56 - 8 * k) % 256)] 5)) (HO.out.alloc _) G (Nat.le_refl _))
          have HO4 := Box.mk own'
          clear own' G HO HB
          go_wp2
          go_roundw
          case rel => exact ⟨k + 1, by omega, by go_num, hB'.out, by rw [HU.out]; exact HO4.out⟩
          case measure => simp [intOf]; omega
        · obtain rfl : k = 8 := by omega
          rw [show ((8 : Nat) : Int) = 8 from rfl]
          have HQ := HO.out
          rw [HPad.out] at HQ
          have HP := Box.mk HQ
          clear HO HQ
          go_wp2
          go_ret
          exact ⟨⟨_, rfl, HP.out⟩, HB.out⟩
end Go.Proofs.YteiepenanffhcaaDoor

/- The hash of a text filled up in one piece is the hash that takes it piece by piece: plain lists, no program in sight. -/
namespace Go.Proofs.YteiepenanffhcaaDoor
open Go Go.RowKit
set_option linter.unusedVariables false

theorem absorb_add (K : List UInt32) : ∀ (a b : Nat) (st : List UInt32) (l : List UInt8), absorb K st l (a + b) = absorb K (absorb K st l a) (l.drop (64 * a)) b
  | 0, b, st, l => by rw [absorb_zero, Nat.zero_add, Nat.mul_zero, List.drop_zero]
  | a + 1, b, st, l => by
    rw [show a + 1 + b = (a + b) + 1 by omega, absorb_cons, absorb_cons, absorb_add K a b, List.drop_drop, show 64 + 64 * a = 64 * (a + 1) by omega]
theorem absorb_front (K : List UInt32) : ∀ (a : Nat) (st : List UInt32) (l m : List UInt8), 64 * a ≤ l.length → absorb K st (l ++ m) a = absorb K st l a
  | 0, st, l, m, _ => by rw [absorb_zero, absorb_zero]
  | a + 1, st, l, m, h => by
    rw [absorb_cons, absorb_cons, List.take_append_of_le_length (by omega), List.drop_append_of_le_length (by omega)]
    exact absorb_front K a _ _ _ (by rw [List.length_drop]; omega)

theorem tailN_get (n L : Nat) (hn : 1 ≤ n) (hn2 : n ≤ 120) : ∀ k, k ≤ 8 → ∀ i, i < 128 → (tailN n L k)[i]? = some (if i = 0 then 128 else if n ≤ i ∧ i < n + k then UInt8.ofNat (L / 2 ^ (56 - 8 * (i - n))) else 0)
  | 0, _, i, hi => by
    rw [tailN, List.getElem?_set]
    by_cases h : i = 0
    · subst h; simp [zeros]
    · rw [if_neg (fun e => h e.symm), if_neg h, if_neg (by omega)]
      simp only [zeros, List.getElem?_replicate]
      rw [if_pos hi]
  | k + 1, hk, i, hi => by
    rw [tailN, List.getElem?_set]
    by_cases h : n + k = i
    · rw [if_pos h, if_pos (by rw [length_tailN]; omega), if_neg (by omega), if_pos (by omega), show i - n = k by omega]
    · rw [if_neg h, tailN_get n L hn hn2 k (by omega) i hi]
      by_cases h0 : i = 0
      · rw [if_pos h0, if_pos h0]
      · rw [if_neg h0, if_neg h0]
        by_cases h1 : n ≤ i ∧ i < n + k
        · rw [if_pos h1, if_pos (by omega)]
        · rw [if_neg h1, if_neg (by omega)]
theorem tail_list (n L : Nat) (hn : 1 ≤ n) (hn2 : n ≤ 64) : (tailN n L 8).take (n + 8) = 128 :: List.replicate (n - 1) 0 ++ be8 L 8 := by
  apply List.ext_getElem?
  intro i
  rw [List.getElem?_take]
  by_cases h : i < n + 8
  · rw [if_pos h, tailN_get n L hn (by omega) 8 (by omega) i (by omega)]
    by_cases h0 : i = 0
    · subst h0; rw [if_pos rfl]; rfl
    · rw [if_neg h0]
      by_cases h1 : n ≤ i
      · rw [if_pos (by omega), List.getElem?_append_right (by simp; omega)]
        simp only [List.length_cons, List.length_replicate, be8, List.getElem?_map]
        rw [show i - (n - 1 + 1) = i - n by omega, List.getElem?_range (by omega)]
        rfl
      · rw [if_neg (by omega), List.getElem?_append_left (by simp; omega)]
        obtain ⟨j, rfl⟩ : ∃ j, i = j + 1 := ⟨i - 1, by omega⟩
        rw [List.getElem?_cons_succ, List.getElem?_replicate, if_pos (by omega)]
  · rw [if_neg h, List.getElem?_eq_none]
    simp [be8]; omega
theorem length_padL (l : List UInt8) : (padL l).length = l.length + 9 + padz l.length := by simp [padL, be8]; omega
theorem padL_mod (l : List UInt8) : (padL l).length % 64 = 0 := by rw [length_padL]; unfold padz; omega
/-- The hash of a text filled up in one piece. -/
theorem shaD_pad (B K : List UInt32) (l : List UInt8) (hl : l.length ≤ 140737488355328) : shaD B K l = outN (absorb K B (padL l) ((padL l).length / 64)) 8 := by
  have hL : (UInt64.ofNat l.length * 8).toNat = 8 * l.length := by
    rw [UInt64.toNat_mul, UInt64.toNat_ofNat']
    show l.length % 18446744073709551616 * 8 % 18446744073709551616 = _
    omega
  unfold shaD finD
  rw [hL]
  have hd : (l.drop (64 * (l.length / 64))).length = l.length % 64 := by rw [List.length_drop]; omega
  have hr : (splice (List.replicate 64 0) 0 (l.drop (64 * (l.length / 64)))).take (l.length % 64) = l.drop (64 * (l.length / 64)) := by
    unfold splice
    rw [List.take_zero, List.nil_append, List.take_append_of_le_length (by omega), ← hd, List.take_length]
  rw [hr, tail_list _ _ (by omega) (by omega)]
  have hp : (119 - l.length % 64) % 64 + 1 - 1 = padz l.length := by unfold padz; omega
  rw [hp]
  have hq : (padL l).length / 64 = l.length / 64 + (l.length % 64 + ((119 - l.length % 64) % 64 + 1 + 8)) / 64 := by
    rw [length_padL]; unfold padz; omega
  rw [hq, absorb_add]
  congr 2
  · unfold padL
    rw [List.append_assoc, absorb_front K _ _ _ _ (by omega)]
  · unfold padL
    rw [List.append_assoc, List.drop_append_of_le_length (by omega)]
/-- The bytes of a state, one by one. -/
def wordByte (st : List UInt32) (i : Nat) : UInt8 := (st.getD (i / 4) 0 >>> UInt32.ofNat (24 - 8 * (i % 4))).toUInt8
theorem outN_bytes (st : List UInt32) : outN st 8 = (List.range 32).map (wordByte st) := by
  have h : ∀ x : UInt32, x >>> 0 = x := fun x => by simp
  have h0 : ∀ x : UInt32, x.toUInt8 = (x >>> UInt32.ofNat 0).toUInt8 := fun x => by rw [show UInt32.ofNat 0 = 0 from rfl, h]
  simp only [outN]
  rw [h0 (st.getD 0 0), h0 (st.getD 1 0), h0 (st.getD 2 0), h0 (st.getD 3 0), h0 (st.getD 4 0), h0 (st.getD 5 0), h0 (st.getD 6 0), h0 (st.getD 7 0)]
  show _ = _
  kernel_rfl
end Go.Proofs.YteiepenanffhcaaDoor

/- The rotations of the reference: ledgerref1.turn at the ten numbers that it is called with; the complement of a word. -/
namespace Go.Proofs.YteiepenanffhcaaDoor
open Go Go.RowKit

@[go_sem] theorem uv_not (x : UInt32) : Op.unary .xor (uv x) = pure (uv (~~~ x)) := by
  have h := uv_xor 0 4294967295 x
  have e : (4294967295 : UInt32) ^^^ x = ~~~ x := by
    apply UInt32.toBitVec_inj.1
    rw [UInt32.toBitVec_xor, UInt32.toBitVec_not]
    rw [show ((4294967295 : UInt32).toBitVec) = BitVec.allOnes 32 by decide, BitVec.allOnes_xor]
  rw [e] at h
  rw [← h]
  show _ = binOp .xor 0 (.int .u32 _) (.int .u32 _)
  rw [binOp_xor]
  rfl

theorem turn_17 (x : UInt32) (w : World) : Calls Tryd.prog 64 #[uv x, .int .u64 17] w fun e w' => e = .returned (uv ((x <<< 15) ||| (x >>> 17))) ∧ w' = w := by
  have hk : IntKind.u64.wrap (32 - 17) = 15 := by decide
  rw [UInt32.or_comm]
  go_enter Tryd.func64, Tryd.ntmps64
  go_wp2
  go_ret
  exact ⟨rfl, rfl⟩

theorem turn_19 (x : UInt32) (w : World) : Calls Tryd.prog 64 #[uv x, .int .u64 19] w fun e w' => e = .returned (uv ((x <<< 13) ||| (x >>> 19))) ∧ w' = w := by
  have hk : IntKind.u64.wrap (32 - 19) = 13 := by decide
  rw [UInt32.or_comm]
  go_enter Tryd.func64, Tryd.ntmps64
  go_wp2
  go_ret
  exact ⟨rfl, rfl⟩

theorem turn_7 (x : UInt32) (w : World) : Calls Tryd.prog 64 #[uv x, .int .u64 7] w fun e w' => e = .returned (uv ((x <<< 25) ||| (x >>> 7))) ∧ w' = w := by
  have hk : IntKind.u64.wrap (32 - 7) = 25 := by decide
  rw [UInt32.or_comm]
  go_enter Tryd.func64, Tryd.ntmps64
  go_wp2
  go_ret
  exact ⟨rfl, rfl⟩

theorem turn_18 (x : UInt32) (w : World) : Calls Tryd.prog 64 #[uv x, .int .u64 18] w fun e w' => e = .returned (uv ((x <<< 14) ||| (x >>> 18))) ∧ w' = w := by
  have hk : IntKind.u64.wrap (32 - 18) = 14 := by decide
  rw [UInt32.or_comm]
  go_enter Tryd.func64, Tryd.ntmps64
  go_wp2
  go_ret
  exact ⟨rfl, rfl⟩

theorem turn_6 (x : UInt32) (w : World) : Calls Tryd.prog 64 #[uv x, .int .u64 6] w fun e w' => e = .returned (uv ((x <<< 26) ||| (x >>> 6))) ∧ w' = w := by
  have hk : IntKind.u64.wrap (32 - 6) = 26 := by decide
  rw [UInt32.or_comm]
  go_enter Tryd.func64, Tryd.ntmps64
  go_wp2
  go_ret
  exact ⟨rfl, rfl⟩

theorem turn_11 (x : UInt32) (w : World) : Calls Tryd.prog 64 #[uv x, .int .u64 11] w fun e w' => e = .returned (uv ((x <<< 21) ||| (x >>> 11))) ∧ w' = w := by
  have hk : IntKind.u64.wrap (32 - 11) = 21 := by decide
  rw [UInt32.or_comm]
  go_enter Tryd.func64, Tryd.ntmps64
  go_wp2
  go_ret
  exact ⟨rfl, rfl⟩

theorem turn_25 (x : UInt32) (w : World) : Calls Tryd.prog 64 #[uv x, .int .u64 25] w fun e w' => e = .returned (uv ((x <<< 7) ||| (x >>> 25))) ∧ w' = w := by
  have hk : IntKind.u64.wrap (32 - 25) = 7 := by decide
  rw [UInt32.or_comm]
  go_enter Tryd.func64, Tryd.ntmps64
  go_wp2
  go_ret
  exact ⟨rfl, rfl⟩

theorem turn_2 (x : UInt32) (w : World) : Calls Tryd.prog 64 #[uv x, .int .u64 2] w fun e w' => e = .returned (uv ((x <<< 30) ||| (x >>> 2))) ∧ w' = w := by
  have hk : IntKind.u64.wrap (32 - 2) = 30 := by decide
  rw [UInt32.or_comm]
  go_enter Tryd.func64, Tryd.ntmps64
  go_wp2
  go_ret
  exact ⟨rfl, rfl⟩

theorem turn_13 (x : UInt32) (w : World) : Calls Tryd.prog 64 #[uv x, .int .u64 13] w fun e w' => e = .returned (uv ((x <<< 19) ||| (x >>> 13))) ∧ w' = w := by
  have hk : IntKind.u64.wrap (32 - 13) = 19 := by decide
  rw [UInt32.or_comm]
  go_enter Tryd.func64, Tryd.ntmps64
  go_wp2
  go_ret
  exact ⟨rfl, rfl⟩

theorem turn_22 (x : UInt32) (w : World) : Calls Tryd.prog 64 #[uv x, .int .u64 22] w fun e w' => e = .returned (uv ((x <<< 10) ||| (x >>> 22))) ∧ w' = w := by
  have hk : IntKind.u64.wrap (32 - 22) = 10 := by decide
  rw [UInt32.or_comm]
  go_enter Tryd.func64, Tryd.ntmps64
  go_wp2
  go_ret
  exact ⟨rfl, rfl⟩
end Go.Proofs.YteiepenanffhcaaDoor
