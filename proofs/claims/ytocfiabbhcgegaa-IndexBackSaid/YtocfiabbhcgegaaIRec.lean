/- A record of the index: its cells, its small helpers. -/
import Derived.Test.YtocfiabbhcgegaaLay
import Derived.Test.YtocfiabbhcgegaaHeld1
import Derived.Test.YtocfiabbhcgegaaArm
namespace Go.Proofs.Ytocfiabbhcgegaa
open Go Go.RowKit
set_option linter.unusedVariables false

structure RecV where
  f0 : Int
  f1 : Int
  f2 : Int
  f3 : Int
  f4 : Int
  f5 : Int
  sum : D32
def recC (x : RecV) : List Value := [.int .i64 x.f0, .int .i64 x.f1, .int .i64 x.f2, .int .i64 x.f3, .int .i64 x.f4, .int .i64 x.f5] ++ bvs x.sum.1
theorem length_recC (x : RecV) : (recC x).length = 38 := by simp [recC, x.sum.2]
theorem recC_all (x : RecV) : (recC x).toArray.all (·.oneCell') = true := by
  simp only [List.all_toArray, recC, List.all_append, Bool.and_eq_true]
  refine ⟨rfl, ?_⟩
  have := bvs_all x.sum.1
  simpa using this
theorem recC_sum (x : RecV) (j : Nat) (hj : j < 32) : (recC x).toArray[6 + j]? = (bvs x.sum.1)[j]? := by
  rw [← Array.getElem?_toList]
  show (recC x)[6 + j]? = _
  unfold recC
  rw [List.getElem?_append_right (by simp)]
  congr 1; simp
def noRec : RecV := ⟨0, 0, 0, 0, 0, 0, zero32⟩
/-- A page of the store. -/
def pageB (v : Int) : Bool := decide (2 ≤ v) && decide (v ≤ 4095)
def heldB (p n : Int) : Bool := (decide (p = 0) && decide (n = 0)) || (decide (p ≠ 0) && decide (0 < n) && decide (n ≤ 4096))

set_option maxRecDepth 100000 in
theorem lpage_any (v : Int) (w : World) : Calls Try.prog 26 #[.int .i64 v] w fun e w' => e = .returned (.bool (pageB v)) ∧ w' = w := by
  rcases Int.lt_or_le v 2 with h | h
  · have hp : pageB v = false := by unfold pageB; rw [decide_eq_false (by omega)]; rfl
    rw [hp]
    clear hp
    go_enter Try.func26, Try.ntmps26
    go_wp2
    go_ret
    exact ⟨rfl, rfl⟩
  · have hp : pageB v = decide (v ≤ 4095) := by unfold pageB; rw [decide_eq_true h]; rfl
    rw [hp]
    clear hp
    go_enter Try.func26, Try.ntmps26
    go_wp2
    go_ret
    exact ⟨rfl, rfl⟩
set_option maxRecDepth 100000 in
theorem ipage_any (v : Int) (w : World) : Calls Try.prog 39 #[.int .i64 v] w fun e w' => e = .returned (.bool (pageB v)) ∧ w' = w := by
  rcases Int.lt_or_le v 2 with h | h
  · have hp : pageB v = false := by unfold pageB; rw [decide_eq_false (by omega)]; rfl
    rw [hp]
    clear hp
    go_enter Try.func39, Try.ntmps39
    go_wp2
    go_ret
    exact ⟨rfl, rfl⟩
  · have hp : pageB v = decide (v < 4096) := by unfold pageB; rw [decide_eq_true h, Bool.true_and]; exact decide_eq_decide.2 (by omega)
    rw [hp]
    clear hp
    go_enter Try.func39, Try.ntmps39
    go_wp2
    go_ret
    exact ⟨rfl, rfl⟩
set_option maxRecDepth 100000 in
theorem held_any (p n : Int) (w : World) : Calls Try.prog 38 #[.int .i64 p, .int .i64 n] w fun e w' => e = .returned (.bool (heldB p n)) ∧ w' = w := by
  by_cases hp : p = 0
  · subst hp
    by_cases hn : n = 0
    · subst hn
      have hr : heldB 0 0 = true := rfl
      rw [hr]
      go_enter Try.func38, Try.ntmps38
      go_wp2
      go_ret
      exact ⟨rfl, rfl⟩
    · have hr : heldB 0 n = false := by unfold heldB; rw [decide_eq_false hn]; rfl
      have nf : (n == 0) = false := by rw [beq_eq_false_iff_ne]; exact hn
      rw [hr]
      clear hr hn
      go_enter Try.func38, Try.ntmps38
      go_wp2
      go_ret
      exact ⟨rfl, rfl⟩
  · have pf : (p == 0) = false := by rw [beq_eq_false_iff_ne]; exact hp
    have pn : (p != 0) = true := by rw [bne_iff_ne]; exact hp
    rcases Int.lt_or_le 0 n with h | h
    · have hr : heldB p n = decide (n ≤ 4096) := by unfold heldB; rw [decide_eq_false hp, decide_eq_true hp, decide_eq_true h]; simp
      rw [hr]
      clear hr hp
      go_enter Try.func38, Try.ntmps38
      go_wp2
      go_ret
      exact ⟨rfl, rfl⟩
    · have hr : heldB p n = false := by unfold heldB; rw [decide_eq_false hp, decide_eq_false (p := 0 < n) (by omega)]; simp
      rw [hr]
      clear hr hp
      go_enter Try.func38, Try.ntmps38
      go_wp2
      go_ret
      exact ⟨rfl, rfl⟩
/-- How many leaves a record tells of. -/
def numB (u b : Int) : Int := if b = 0 then u else u - b + 1
set_option maxRecDepth 100000 in
theorem numberOf_any (u b : Int) (hu : 0 ≤ u ∧ u ≤ 1073741824) (hb : 0 ≤ b ∧ b ≤ 1073741824) (w : World) : Calls Try.prog 27 #[.int .i64 u, .int .i64 b] w fun e w' => e = .returned (.int .i64 (numB u b)) ∧ w' = w := by
  by_cases h : b = 0
  · subst h
    have hr : numB u 0 = u := rfl
    rw [hr]
    clear hr
    go_enter Try.func27, Try.ntmps27
    go_wp2
    go_ret
    exact ⟨rfl, rfl⟩
  · have hr : numB u b = u - b + 1 := if_neg h
    have bf : (b == 0) = false := by rw [beq_eq_false_iff_ne]; exact h
    have h1 : wrap64 (u - b) = u - b := by unfold wrap64; omega
    have h2 : wrap64 (u - b + 1) = u - b + 1 := by unfold wrap64; omega
    rw [hr]
    clear hr h
    go_enter Try.func27, Try.ntmps27
    go_wp2
    go_ret
    exact ⟨rfl, rfl⟩
end Go.Proofs.Ytocfiabbhcgegaa
