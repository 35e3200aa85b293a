/- The hash of a text filled up in one piece is the hash that takes it piece by piece: plain lists, no program in sight. -/
import Derived.Test.YteiepenanffhcaaDoorSumF
import Derived.Test.YteiepenanffhcaaDoorRFilled
namespace Go.Proofs.YteiepenanffhcaaDoor
open Go Go.RowKit
set_option linter.unusedVariables false

theorem absorb_add (K : List UInt32) : ∀ (a b : Nat) (st : List UInt32) (l : List UInt8), absorb K st l (a + b) = absorb K (absorb K st l a) (l.drop (64 * a)) b
  | 0, b, st, l => by rw [absorb_zero, Nat.zero_add, Nat.mul_zero, List.drop_zero]
  | a + 1, b, st, l => by
    rw [show a + 1 + b = (a + b) + 1 by omega, absorb_cons, absorb_cons, absorb_add K a b, List.drop_drop, show 64 + 64 * a = 64 * (a + 1) by omega]
theorem absorb_front (K : List UInt32) : ∀ (a : Nat) (st : List UInt32) (l m : List UInt8), 64 * a ≤ l.length → absorb K st (l ++ m) a = absorb K st l a
  | 0, st, l, m, _ => by rw [absorb_zero, absorb_zero]
  | a + 1, st, l, m, h => by
    rw [absorb_cons, absorb_cons, List.take_append_of_le_length (by omega), List.drop_append_of_le_length (by omega)]
    exact absorb_front K a _ _ _ (by rw [List.length_drop]; omega)

theorem tailN_get (n L : Nat) (hn : 1 ≤ n) (hn2 : n ≤ 120) : ∀ k, k ≤ 8 → ∀ i, i < 128 → (tailN n L k)[i]? = some (if i = 0 then 128 else if n ≤ i ∧ i < n + k then UInt8.ofNat (L / 2 ^ (56 - 8 * (i - n))) else 0)
  | 0, _, i, hi => by
    rw [tailN, List.getElem?_set]
    by_cases h : i = 0
    · subst h; simp [zeros]
    · rw [if_neg (fun e => h e.symm), if_neg h, if_neg (by omega)]
      simp only [zeros, List.getElem?_replicate]
      rw [if_pos hi]
  | k + 1, hk, i, hi => by
    rw [tailN, List.getElem?_set]
    by_cases h : n + k = i
    · rw [if_pos h, if_pos (by rw [length_tailN]; omega), if_neg (by omega), if_pos (by omega), show i - n = k by omega]
    · rw [if_neg h, tailN_get n L hn hn2 k (by omega) i hi]
      by_cases h0 : i = 0
      · rw [if_pos h0, if_pos h0]
      · rw [if_neg h0, if_neg h0]
        by_cases h1 : n ≤ i ∧ i < n + k
        · rw [if_pos h1, if_pos (by omega)]
        · rw [if_neg h1, if_neg (by omega)]
theorem tail_list (n L : Nat) (hn : 1 ≤ n) (hn2 : n ≤ 64) : (tailN n L 8).take (n + 8) = 128 :: List.replicate (n - 1) 0 ++ be8 L 8 := by
  apply List.ext_getElem?
  intro i
  rw [List.getElem?_take]
  by_cases h : i < n + 8
  · rw [if_pos h, tailN_get n L hn (by omega) 8 (by omega) i (by omega)]
    by_cases h0 : i = 0
    · subst h0; rw [if_pos rfl]; rfl
    · rw [if_neg h0]
      by_cases h1 : n ≤ i
      · rw [if_pos (by omega), List.getElem?_append_right (by simp; omega)]
        simp only [List.length_cons, List.length_replicate, be8, List.getElem?_map]
        rw [show i - (n - 1 + 1) = i - n by omega, List.getElem?_range (by omega)]
        rfl
      · rw [if_neg (by omega), List.getElem?_append_left (by simp; omega)]
        obtain ⟨j, rfl⟩ : ∃ j, i = j + 1 := ⟨i - 1, by omega⟩
        rw [List.getElem?_cons_succ, List.getElem?_replicate, if_pos (by omega)]
  · rw [if_neg h, List.getElem?_eq_none]
    simp [be8]; omega
theorem length_padL (l : List UInt8) : (padL l).length = l.length + 9 + padz l.length := by simp [padL, be8]; omega
theorem padL_mod (l : List UInt8) : (padL l).length % 64 = 0 := by rw [length_padL]; unfold padz; omega
/-- The hash of a text filled up in one piece. -/
theorem shaD_pad (B K : List UInt32) (l : List UInt8) (hl : l.length ≤ 140737488355328) : shaD B K l = outN (absorb K B (padL l) ((padL l).length / 64)) 8 := by
  have hL : (UInt64.ofNat l.length * 8).toNat = 8 * l.length := by
    rw [UInt64.toNat_mul, UInt64.toNat_ofNat']
    show l.length % 18446744073709551616 * 8 % 18446744073709551616 = _
    omega
  unfold shaD finD
  rw [hL]
  have hd : (l.drop (64 * (l.length / 64))).length = l.length % 64 := by rw [List.length_drop]; omega
  have hr : (splice (List.replicate 64 0) 0 (l.drop (64 * (l.length / 64)))).take (l.length % 64) = l.drop (64 * (l.length / 64)) := by
    unfold splice
    rw [List.take_zero, List.nil_append, List.take_append_of_le_length (by omega), ← hd, List.take_length]
  rw [hr, tail_list _ _ (by omega) (by omega)]
  have hp : (119 - l.length % 64) % 64 + 1 - 1 = padz l.length := by unfold padz; omega
  rw [hp]
  have hq : (padL l).length / 64 = l.length / 64 + (l.length % 64 + ((119 - l.length % 64) % 64 + 1 + 8)) / 64 := by
    rw [length_padL]; unfold padz; omega
  rw [hq, absorb_add]
  congr 2
  · unfold padL
    rw [List.append_assoc, absorb_front K _ _ _ _ (by omega)]
  · unfold padL
    rw [List.append_assoc, List.drop_append_of_le_length (by omega)]
/-- The bytes of a state, one by one. -/
def wordByte (st : List UInt32) (i : Nat) : UInt8 := (st.getD (i / 4) 0 >>> UInt32.ofNat (24 - 8 * (i % 4))).toUInt8
theorem outN_bytes (st : List UInt32) : outN st 8 = (List.range 32).map (wordByte st) := by
  have h : ∀ x : UInt32, x >>> 0 = x := fun x => by simp
  have h0 : ∀ x : UInt32, x.toUInt8 = (x >>> UInt32.ofNat 0).toUInt8 := fun x => by rw [show UInt32.ofNat 0 = 0 from rfl, h]
  simp only [outN]
  rw [h0 (st.getD 0 0), h0 (st.getD 1 0), h0 (st.getD 2 0), h0 (st.getD 3 0), h0 (st.getD 4 0), h0 (st.getD 5 0), h0 (st.getD 6 0), h0 (st.getD 7 0)]
  show _ = _
  kernel_rfl
end Go.Proofs.YteiepenanffhcaaDoor
