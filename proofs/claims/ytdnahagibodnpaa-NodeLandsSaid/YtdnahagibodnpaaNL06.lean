/- Texts joined: Same. -/
import Derived.Test.YtdnahagibodnpaaRows
import Derived.Test.YtdnahagibodnpaaNL00
namespace Go.Proofs.Ytdnahagibodnpaa
set_option linter.unusedSectionVars false
set_option linter.unusedSimpArgs false
set_option linter.unusedVariables false
open Go Go.RowKit
theorem take_eq_snoc {l m : List UInt8} {k : Nat} (h1 : k < l.length) (h2 : k < m.length) (he : l[k] = m[k]) (h : l.take k = m.take k) : l.take (k+1) = m.take (k+1) := by
  rw [List.take_succ_eq_append_getElem h1, List.take_succ_eq_append_getElem h2, h, he]
theorem take_ne {l m : List UInt8} {k : Nat} (h1 : k < l.length) (h2 : k < m.length) (he : l[k] ≠ m[k]) : l ≠ m := by
  intro h; subst h; exact he rfl
theorem byte_ne {a b : UInt8} : (((a.toNat : Int) != (b.toNat : Int)) = true) ↔ a ≠ b := by
  rw [bne_iff_ne, ne_eq, ne_eq, Int.ofNat_inj, UInt8.toNat_inj]
theorem byte_eq {a b : UInt8} : (((a.toNat : Int) != (b.toNat : Int)) = false) ↔ a = b := by
  rw [bne_eq_false_iff_eq, Int.ofNat_inj, UInt8.toNat_inj]
theorem dec_true {l m : List UInt8} (h : l = m) : Value.bool true = Value.bool (eqB l m) := by rw [eqB_true h]
theorem dec_false {l m : List UInt8} (h : l ≠ m) : Value.bool false = Value.bool (eqB l m) := by rw [eqB_false h]
set_option maxHeartbeats 400000 in
theorem sameBytes_any (a0 a1 : Option Addr) (n0 c0 n1 c1 : Nat) (l0 l1 : List UInt8) (w : World) (h0 : Row w a0 n0 l0) (h1 : Row w a1 n1 l1) (m0 : n0 ≤ maxLen) (m1 : n1 ≤ maxLen) :
    Calls Try.prog 32 #[.slice a0 n0 c0, .slice a1 n1 c1] w fun e w' => e = .returned (.bool (eqB l0 l1)) ∧ ∃ q, w' = w.drewN q := by
  unfold maxLen at m0 m1
  have hl0 := h0.1
  have hl1 := h1.1
  by_cases hn : n0 = n1
  · subst hn
    by_cases hz : n0 = 0
    · subst hz
      obtain rfl : l0 = [] := List.length_eq_zero_iff.1 hl0
      obtain rfl : l1 = [] := List.length_eq_zero_iff.1 hl1
      clear h0 h1 hl0 hl1
      go_enter Try.func32, Try.ntmps32
      go_wp2
      refine wp_loop_rounds 1 ?_; rw [rounds_succ]
      go_wp2
      go_ret
      exact ⟨congrArg Ending.returned (dec_true rfl), 0, rfl⟩
    · obtain ⟨b0, o0, rfl⟩ := h0.at0 (by omega)
      obtain ⟨b1, o1, rfl⟩ := h1.at0 (by omega)
      have H0 := Lib.hid hl0
      have H1 := Lib.hid hl1
      clear hl0 hl1
      go_enter Try.func32, Try.ntmps32
      go_wp2
      go_loopw [5] (fun i wr => ∃ k q : Nat, k ≤ n0 ∧ i = .int .i64 k ∧ wr = w.drewN q ∧ l0.take k = l1.take k) (fun i _ => n0 - (intOf i).toNat)
      case atStart => exact ⟨0, 0, Nat.zero_le _, rfl, rfl, rfl⟩
      case round =>
        obtain ⟨k, q, hk, rfl, rfl, ht⟩ := hrel
        have HT := Lib.hid ht
        clear ht
        by_cases hlt : k < n0
        · have e0 : w.cell? ⟨b0, o0 + k, none⟩ = some (.int .u8 (l0[k]'(by have := H0.out; omega)).toNat) := h0.cell k (by have := H0.out; omega)
          have e1 : w.cell? ⟨b1, o1 + k, none⟩ = some (.int .u8 (l1[k]'(by have := H1.out; omega)).toNat) := h1.cell k (by have := H1.out; omega)
          go_wp2
          go_quiet (fail)
          go_wp2
          · have hne := byte_ne.1 (by assumption)
            go_ret
            exact ⟨congrArg Ending.returned (dec_false (take_ne _ _ hne)), q + nq, by simp⟩
          · have heq := byte_eq.1 (by assumption)
            go_roundw
            case rel => exact ⟨k + 1, _, by omega, by go_num, rfl, take_eq_snoc _ _ heq HT.out⟩
            case measure => simp [intOf]; omega
        · go_wp2
          go_ret
          refine ⟨congrArg Ending.returned (dec_true ?_), _, rfl⟩
          have := HT.out
          rwa [List.take_of_length_le (by have := H0.out; omega), List.take_of_length_le (by have := H1.out; omega)] at this
  · have hf : ((n0 : Int) != (n1 : Int)) = true := by rw [bne_iff_ne]; omega
    go_enter Try.func32, Try.ntmps32
    go_wp2
    go_ret
    refine ⟨congrArg Ending.returned (dec_false ?_), 0, rfl⟩
    intro h; subst h; omega
end Go.Proofs.Ytdnahagibodnpaa
