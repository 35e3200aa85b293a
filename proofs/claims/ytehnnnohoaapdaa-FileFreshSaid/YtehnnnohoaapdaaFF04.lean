/- Texts joined: CrcP, Same. -/
import Derived.Test.YtehnnnohoaapdaaFF03
import Derived.Test.YtehnnnohoaapdaaRows
import Derived.Test.YtehnnnohoaapdaaFF00
/- The checksum, in plain Lean. No program in sight. -/
namespace Go.Proofs.Ytehnnnohoaapdaa
set_option linter.unusedSectionVars false
set_option linter.unusedSimpArgs false
open Go Go.RowKit
set_option linter.unusedVariables false
def stepT : List UInt32 := [0x00000000, 0x1DB71064, 0x3B6E20C8, 0x26D930AC, 0x76DC4190, 0x6B6B51F4, 0x4DB26158, 0x5005713C, 0xEDB88320, 0xF00F9344, 0xD6D6A3E8, 0xCB61B38C, 0x9B64C2B0, 0x86D3D2D4, 0xA00AE278, 0xBDBDF21C]
def stepV (i : UInt32) : UInt32 := stepT.getD i.toNat 0
def stepR (r : UInt32) : UInt32 := stepV (r &&& 15) ^^^ (r >>> 4)
def feedB (r : UInt32) (x : UInt8) : UInt32 := stepR (stepR (r ^^^ x.toUInt32))
def feedL (r : UInt32) (l : List UInt8) : UInt32 := l.foldl feedB r
def updL (c : UInt32) (l : List UInt8) : UInt32 := ~~~ (feedL (~~~ c) l)
def crcL (l : List UInt8) : UInt32 := updL 0 l
def sum4 (s : UInt32) : List UInt8 := [s.toUInt8, (s >>> 8).toUInt8, (s >>> 16).toUInt8, (s >>> 24).toUInt8]
def sealB (l : List UInt8) : List UInt8 := l ++ sum4 (crcL l)
def wholeB (l : List UInt8) : Bool := decide (4 ≤ l.length ∧ l.drop (l.length - 4) = sum4 (crcL (l.take (l.length - 4))))
theorem length_sealB (l : List UInt8) : (sealB l).length = l.length + 4 := by simp [sealB, sum4]
theorem wholeB_sealB (l : List UInt8) : wholeB (sealB l) = true := by
  unfold wholeB
  rw [decide_eq_true_iff, length_sealB, Nat.add_sub_cancel]
  refine ⟨by omega, ?_⟩
  unfold sealB
  rw [List.drop_left' rfl, List.take_left' rfl]
theorem sum4_cells (s : UInt32) : [bv s.toUInt8, bv (s >>> 8).toUInt8, bv (s >>> 16).toUInt8, bv (s >>> 24).toUInt8] = bvs (sum4 s) := rfl
theorem feedL_succ (r : UInt32) (l : List UInt8) (k : Nat) (h : k < l.length) : feedL r (l.take (k + 1)) = feedB (feedL r (l.take k)) l[k] := by
  unfold feedL
  rw [List.take_succ_eq_append_getElem h, List.foldl_append]; rfl
theorem and15 (r : UInt32) : (r &&& 15).toNat < 16 := by
  rw [UInt32.toNat_and]
  have h := @Nat.and_two_pow_sub_one_eq_mod r.toNat 4
  have e : UInt32.toNat 15 = 2 ^ 4 - 1 := rfl
  rw [e, h]
  exact Nat.mod_lt _ (by decide)
end Go.Proofs.Ytehnnnohoaapdaa

namespace Go.Proofs.Ytehnnnohoaapdaa
set_option linter.unusedSectionVars false
set_option linter.unusedSimpArgs false
set_option linter.unusedVariables false
open Go Go.RowKit
theorem take_eq_snoc {l m : List UInt8} {k : Nat} (h1 : k < l.length) (h2 : k < m.length) (he : l[k] = m[k]) (h : l.take k = m.take k) : l.take (k+1) = m.take (k+1) := by
  rw [List.take_succ_eq_append_getElem h1, List.take_succ_eq_append_getElem h2, h, he]
theorem take_ne {l m : List UInt8} {k : Nat} (h1 : k < l.length) (h2 : k < m.length) (he : l[k] ≠ m[k]) : l ≠ m := by
  intro h; subst h; exact he rfl
theorem byte_ne {a b : UInt8} : (((a.toNat : Int) != (b.toNat : Int)) = true) ↔ a ≠ b := by
  rw [bne_iff_ne, ne_eq, ne_eq, Int.ofNat_inj, UInt8.toNat_inj]
theorem byte_eq {a b : UInt8} : (((a.toNat : Int) != (b.toNat : Int)) = false) ↔ a = b := by
  rw [bne_eq_false_iff_eq, Int.ofNat_inj, UInt8.toNat_inj]
theorem dec_true {l m : List UInt8} (h : l = m) : Value.bool true = Value.bool (eqB l m) := by rw [eqB_true h]
theorem dec_false {l m : List UInt8} (h : l ≠ m) : Value.bool false = Value.bool (eqB l m) := by rw [eqB_false h]
set_option maxHeartbeats 400000 in
theorem sameBytes_any (a0 a1 : Option Addr) (n0 c0 n1 c1 : Nat) (l0 l1 : List UInt8) (w : World) (h0 : Row w a0 n0 l0) (h1 : Row w a1 n1 l1) (m0 : n0 ≤ maxLen) (m1 : n1 ≤ maxLen) :
    Calls Try.prog 35 #[.slice a0 n0 c0, .slice a1 n1 c1] w fun e w' => e = .returned (.bool (eqB l0 l1)) ∧ ∃ q, w' = w.drewN q := by
  unfold maxLen at m0 m1
  have hl0 := h0.1
  have hl1 := h1.1
  by_cases hn : n0 = n1
  · subst hn
    by_cases hz : n0 = 0
    · subst hz
      obtain rfl : l0 = [] := List.length_eq_zero_iff.1 hl0
      obtain rfl : l1 = [] := List.length_eq_zero_iff.1 hl1
      clear h0 h1 hl0 hl1
      go_enter Try.func35, Try.ntmps35
      go_wp2
      refine wp_loop_rounds 1 ?_; rw [rounds_succ]
      go_wp2
      go_ret
      exact ⟨congrArg Ending.returned (dec_true rfl), 0, rfl⟩
    · obtain ⟨b0, o0, rfl⟩ := h0.at0 (by omega)
      obtain ⟨b1, o1, rfl⟩ := h1.at0 (by omega)
      have H0 := Lib.hid hl0
      have H1 := Lib.hid hl1
      clear hl0 hl1
      go_enter Try.func35, Try.ntmps35
      go_wp2
      go_loopw [5] (fun i wr => ∃ k q : Nat, k ≤ n0 ∧ i = .int .i64 k ∧ wr = w.drewN q ∧ l0.take k = l1.take k) (fun i _ => n0 - (intOf i).toNat)
      case atStart => exact ⟨0, 0, Nat.zero_le _, rfl, rfl, rfl⟩
      case round =>
        obtain ⟨k, q, hk, rfl, rfl, ht⟩ := hrel
        have HT := Lib.hid ht
        clear ht
        by_cases hlt : k < n0
        · have e0 : w.cell? ⟨b0, o0 + k, none⟩ = some (.int .u8 (l0[k]'(by have := H0.out; omega)).toNat) := h0.cell k (by have := H0.out; omega)
          have e1 : w.cell? ⟨b1, o1 + k, none⟩ = some (.int .u8 (l1[k]'(by have := H1.out; omega)).toNat) := h1.cell k (by have := H1.out; omega)
          go_wp2
          go_quiet (fail)
          go_wp2
          · have hne := byte_ne.1 (by assumption)
            go_ret
            exact ⟨congrArg Ending.returned (dec_false (take_ne _ _ hne)), q + nq, by simp⟩
          · have heq := byte_eq.1 (by assumption)
            go_roundw
            case rel => exact ⟨k + 1, _, by omega, by go_num, rfl, take_eq_snoc _ _ heq HT.out⟩
            case measure => simp [intOf]; omega
        · go_wp2
          go_ret
          refine ⟨congrArg Ending.returned (dec_true ?_), _, rfl⟩
          have := HT.out
          rwa [List.take_of_length_le (by have := H0.out; omega), List.take_of_length_le (by have := H1.out; omega)] at this
  · have hf : ((n0 : Int) != (n1 : Int)) = true := by rw [bne_iff_ne]; omega
    go_enter Try.func35, Try.ntmps35
    go_wp2
    go_ret
    refine ⟨congrArg Ending.returned (dec_false ?_), 0, rfl⟩
    intro h; subst h; omega
end Go.Proofs.Ytehnnnohoaapdaa
