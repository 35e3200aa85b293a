/- Records and their bytes, there and back; the contract of Decode in one piece. -/
import Derived.Test.YtocfiabbhcgegaaIDec
namespace Go.Proofs.Ytocfiabbhcgegaa
open Go Go.RowKit
set_option linter.unusedVariables false

theorem d4_le4 (n : Nat) (h : n < 4294967296) (r : List UInt8) : dec4 (le4 n ++ r) = n := by
  unfold dec4 le4
  simp only [List.cons_append, List.getD_cons_zero, List.getD_cons_succ, List.nil_append, UInt8.toNat_ofNat']
  omega
theorem le4_d4 (l : List UInt8) (h : 4 ≤ l.length) : le4 (dec4 l) = l.take 4 := by
  match l, h with
  | a :: b :: c :: d :: r, _ =>
    unfold dec4 le4
    simp only [List.getD_cons_zero, List.getD_cons_succ, List.take_succ_cons, List.take_zero]
    have ha := a.toNat_lt
    have hb := b.toNat_lt
    have hc := c.toNat_lt
    have hd := d.toNat_lt
    have e : ∀ (u : UInt8) (k : Nat), k % 256 = u.toNat → UInt8.ofNat k = u := fun u k h => UInt8.toNat_inj.1 (by rw [UInt8.toNat_ofNat']; exact h)
    rw [e a _ (by omega), e b _ (by omega), e c _ (by omega), e d _ (by omega)]
theorem keyOf_self (k : D32) : keyOf k.1 = k := Subtype.ext (by
  rw [keyOf_eq (by rw [k.2]; omega), List.take_of_length_le (by rw [k.2]; omega)])
theorem cut4 (l : List UInt8) (k : Nat) (h : k + 4 ≤ l.length) (r : List UInt8) (hr : r = l.drop (k + 4)) : le4 (dec4 (l.drop k)) ++ r = l.drop k := by
  rw [le4_d4 _ (by rw [List.length_drop]; omega), hr, ← List.drop_drop, List.take_append_drop]

/-- A right record comes back from its bytes. -/
theorem decR_encR (x : RecV) (h : rightR x = true) : decR (encR x) = x := by
  obtain ⟨s0, s1, s2, s3, s4, s5⟩ := right_small x.f0 x.f1 x.f2 x.f3 x.f4 x.f5 h
  unfold decR encR
  simp only [List.drop_zero]
  rw [show ∀ (n : Nat) (r : List UInt8), (le4 n ++ r).drop 4 = r from fun _ _ => rfl]
  rw [show ∀ (n m : Nat) (r : List UInt8), (le4 n ++ (le4 m ++ r)).drop 8 = r from fun _ _ _ => rfl]
  rw [show ∀ (n m k : Nat) (r : List UInt8), (le4 n ++ (le4 m ++ (le4 k ++ r))).drop 12 = r from fun _ _ _ _ => rfl]
  rw [show ∀ (n m k i : Nat) (r : List UInt8), (le4 n ++ (le4 m ++ (le4 k ++ (le4 i ++ r)))).drop 16 = r from fun _ _ _ _ _ => rfl]
  rw [show ∀ (n m k i j : Nat) (r : List UInt8), (le4 n ++ (le4 m ++ (le4 k ++ (le4 i ++ (le4 j ++ r))))).drop 20 = r from fun _ _ _ _ _ _ => rfl]
  rw [show ∀ (n m k i j q : Nat) (r : List UInt8), (le4 n ++ (le4 m ++ (le4 k ++ (le4 i ++ (le4 j ++ (le4 q ++ r)))))).drop 24 = r from fun _ _ _ _ _ _ _ => rfl]
  rw [d4_le4 _ (by omega), d4_le4 _ (by omega), d4_le4 _ (by omega), d4_le4 _ (by omega), d4_le4 _ (by omega), d4_le4 _ (by omega), keyOf_self]
  rw [Int.toNat_of_nonneg s0.1, Int.toNat_of_nonneg s1.1, Int.toNat_of_nonneg s2.1, Int.toNat_of_nonneg s3.1, Int.toNat_of_nonneg s4.1, Int.toNat_of_nonneg s5.1]
/-- Bytes come back from what they tell. -/
theorem encR_decR (l : List UInt8) (h : l.length = 56) : encR (decR l) = l := by
  unfold decR encR
  simp only [Int.toNat_natCast]
  have e : (keyOf (l.drop 24)).1 = l.drop 24 := by
    rw [keyOf_eq (by rw [List.length_drop]; omega), List.take_of_length_le (by rw [List.length_drop]; omega)]
  rw [e, cut4 l 20 (by omega) _ rfl, cut4 l 16 (by omega) _ rfl, cut4 l 12 (by omega) _ rfl, cut4 l 8 (by omega) _ rfl, cut4 l 4 (by omega) _ rfl, cut4 l 0 (by omega) _ rfl, List.drop_zero]

/-- Decode, whatever comes in. -/
theorem idec_any (ao : Option Addr) (n c : Nat) (l : List UInt8) (w : World) (h : Row w ao n l) (hnil : ao = none → n = 0 ∧ c = 0) (hc : n ≤ c) (hmx : c ≤ maxLen) :
    Calls Try.prog 7 #[.slice ao n c] w fun e w' => e = .returned (.tuple #[.agg (recC (if decRok l = true then decR l else noRec)).toArray, .int .i64 (if decRok l = true then 0 else 150)]) ∧ Below w.heap.size w w' := by
  have hl := h.1
  by_cases hn : n = 56
  · subst hn
    obtain ⟨b, o, rfl⟩ := h.at0 (by omega)
    have e : decRok l = rightR (decR l) := by unfold decRok; rw [decide_eq_true hl, Bool.true_and]
    rw [e]
    exact idec_full b o c l w h hc (by unfold maxLen at hmx; omega)
  · have e : decRok l = false := by unfold decRok; rw [decide_eq_false (by omega)]; rfl
    rw [e]
    exact idec_short ao n c w hn
end Go.Proofs.Ytocfiabbhcgegaa
