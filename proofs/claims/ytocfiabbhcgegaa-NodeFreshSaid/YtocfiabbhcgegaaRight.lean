/- Which nodes are right: the walks of the law's own side and right. -/
import Derived.Test.YtocfiabbhcgegaaDecode
namespace Go.Proofs.Ytocfiabbhcgegaa
open Go Go.RowKit
set_option linter.unusedVariables false

set_option maxRecDepth 100000 in
set_option maxHeartbeats 2000000 in
theorem side_any (p q : Int) (d : D32) (w : World) :
    Calls Try.prog 34 #[.int .i64 p, .int .i64 q, .agg (dc d)] w fun e w' => e = .returned (.bool (chStands ⟨p, q, d⟩)) ∧ Below w.heap.size w w' := by
  have UD : Try.prog.underlying 23 = some (.array 32 5) := Try.underlying23
  have hiD : Hid ((Try.prog.info? 23).map (·.size) = some 32) := by unfold Hid; kernel_rfl
  have bzD : Try.prog.built 23 [] = some (dc zero32) := by kernel_rfl
  have hgD : Try.prog.eqGuardType Try.prog.depth 23 = false := by kernel_rfl
  have he : ∀ W, (Op.equalIn 10000 23 (.agg (dc d)) (.agg (dc zero32))).run Try.prog W = .ok (eqD d zero32) W := by
    obtain ⟨i5, hi5'⟩ := Option.isSome_iff_exists.1 (show (Try.prog.info? 5).isSome = true by kernel_rfl)
    exact fun W => equalIn_d32 (d := 9998) Try.underlying23 hi5' Try.underlying5 (by kernel_rfl) d zero32 W
  obtain ⟨r, hr⟩ : ∃ r, chStands ⟨p, q, d⟩ = r := ⟨_, rfl⟩
  rw [hr]
  have HR := Box.mk hr
  clear hr
  generalize hrd : eqD d zero32 = rd at he
  have HRD := Box.mk hrd
  clear hrd
  by_cases hp : p = 0
  · subst hp
    by_cases hq : q = 0
    · subst hq
      have hrr : r = rd := by
        rw [← HR.out, ← HRD.out]
        unfold chStands eqCh noChild
        simp
      subst hrr
      go_enter Try.func34, Try.ntmps34
      go_wp2_with (first
        | ((with_reducible refine wpList_load32g ?_ 23 (.tmp 5) ?_ w.heap.size 0 ?_ d 5 ?_ UD hiD ?_); rfl; rfl; rfl; exact rangeAt_block (heap_new rfl))
        | ((with_reducible refine wpList_builtg ?_ 23 [] ?_ [] ?_ (dc zero32) bzD ?_); rfl; rfl; rfl)
        | ((with_reducible refine wpList_yields ?_ (held_eql ?_ 23 23 (.tmp 12) (.tmp 13) ?_ d zero32 r ?_ ?_ hgD he) ?_); rfl; rfl; rfl; rfl; rfl))
      go_ret
      exact ⟨rfl, Below.refl_alloc w _⟩
    · have qf : (q == 0) = false := by rw [beq_eq_false_iff_ne]; exact hq
      have hrr : r = false := by
        rw [← HR.out]
        unfold chStands
        simp [eqCh, noChild, hq]
      subst hrr
      clear he HR HRD
      go_enter Try.func34, Try.ntmps34
      go_wp2
      go_ret
      exact ⟨rfl, Below.refl_alloc w _⟩
  · have pf : (p == 0) = false := by rw [beq_eq_false_iff_ne]; exact hp
    rcases Int.lt_or_le p 2 with k1 | k1
    · skip
      have hrr : r = false := by
        rw [← HR.out]
        unfold chStands
        simp [hp, Int.not_le.2 k1]
      subst hrr
      clear he HR HRD
      go_enter Try.func34, Try.ntmps34
      go_wp2
      go_ret
      exact ⟨rfl, Below.refl_alloc w _⟩
    · rcases Int.lt_or_le 4095 p with k2 | k2
      · have k2' : ¬ p < 4096 := by omega
        have hrr : r = false := by
          rw [← HR.out]
          unfold chStands
          simp [hp, k2']
        subst hrr
        clear he HR HRD
        go_enter Try.func34, Try.ntmps34
        go_wp2
        go_ret
        exact ⟨rfl, Below.refl_alloc w _⟩
      · have k2' : p < 4096 := by omega
        rcases Int.lt_or_le q 1 with k3 | k3
        · have k3' : ¬ 0 < q := by omega
          have hrr : r = false := by
            rw [← HR.out]
            unfold chStands
            simp [hp, k3']
          subst hrr
          clear he HR HRD
          go_enter Try.func34, Try.ntmps34
          go_wp2
          go_ret
          exact ⟨rfl, Below.refl_alloc w _⟩
        · have k3' : 0 < q := by omega
          rcases Int.lt_or_le 4096 q with k4 | k4
          · skip
            have hrr : r = false := by
              rw [← HR.out]
              unfold chStands
              simp [hp, Int.not_le.2 k4]
            subst hrr
            clear he HR HRD
            go_enter Try.func34, Try.ntmps34
            go_wp2
            go_ret
            exact ⟨by show Ending.returned (Value.bool (decide (q ≤ 4096))) = _; rw [decide_eq_false (by omega)], Below.refl_alloc w _⟩
          · skip
            have hrr : r = true := by
              rw [← HR.out]
              unfold chStands
              simp [hp, k1, k2', k3', k4]
            subst hrr
            clear he HR HRD
            go_enter Try.func34, Try.ntmps34
            go_wp2
            go_ret
            exact ⟨rfl, Below.refl_alloc w _⟩
end Go.Proofs.Ytocfiabbhcgegaa
