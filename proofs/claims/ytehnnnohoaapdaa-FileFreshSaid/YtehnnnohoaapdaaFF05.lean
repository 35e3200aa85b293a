/- Texts joined: Copy. -/
import Derived.Test.YtehnnnohoaapdaaRows
import Derived.Test.YtehnnnohoaapdaaFF04
import Derived.Test.YtehnnnohoaapdaaFF01
/- The laws' own lists: copyBytes, roomy, roomyIs. -/
namespace Go.Proofs.Ytehnnnohoaapdaa
set_option linter.unusedSectionVars false
set_option linter.unusedSimpArgs false
open Go Go.RowKit
set_option linter.unusedVariables false
theorem byteTyC : ByteTy Try.prog 22 5 := by
  obtain ⟨i, hi⟩ := Option.isSome_iff_exists.1 (show (Try.prog.info? 5).isSome = true by kernel_rfl)
  have h : (Try.prog.info? 5).map (fun i => (i.zero, i.size, i.bytes)) = some (some (.int .u8 0), 1, 1) := by kernel_rfl
  rw [hi] at h
  simp only [Option.map_some, Option.some.injEq, Prod.mk.injEq] at h
  exact ⟨i, Try.underlying22, hi, h.1, h.2.1, h.2.2⟩
theorem below_drewN2 {B : Nat} {w w' : World} (h : Below B w w') (q : Nat) : Below B w (w'.drewN q) := ⟨h.os, h.tape, h.output, h.size, h.block⟩
theorem below_own {w wr w' : World} {base : Nat} {e : TypeId} {v : Value} {l : List UInt8} (hB : Below base w wr) (ho : Own wr base e v l) (G : wr.grownBy w' v.ownBlock) (hb : base ≤ w.heap.size) : Below base w w' :=
  hB.grown G (Nat.le_trans hb hB.size) fun k hk => (ho.lt k hk).1
set_option maxRecDepth 100000 in
set_option maxHeartbeats 1000000 in
theorem copyBytes_any (ao : Option Addr) (n c : Nat) (l : List UInt8) (w : World) (h0 : Row w ao n l) (hb : n ≤ 140737488351400) :
    Calls Try.prog 32 #[.slice ao n c] w fun e w' => (∃ v, e = .returned v ∧ Own w' w.heap.size 5 v l) ∧ Below w.heap.size w w' := by
  have h := Box.mk h0
  have hl := Box.mk h0.1
  clear h0
  go_enter Try.func32, Try.ntmps32
  go_wp2
  go_loopw [3, 4] (fun v i wr => ∃ k : Nat, k ≤ n ∧ i = .int .i64 k ∧ Below w.heap.size w wr ∧ Own wr w.heap.size 5 v (l.take k)) (fun v i _ => n - (intOf i).toNat)
  case atStart => exact ⟨0, Nat.zero_le _, rfl, Below.refl _ w, by rw [List.take_zero]; exact ⟨rfl, .inl ⟨rfl, rfl⟩⟩⟩
  case round =>
    obtain ⟨k, hk, rfl, hB0, hO0⟩ := hrel
    have HB := Box.mk hB0
    have HO := Box.mk hO0
    clear hB0 hO0
    by_cases hlt : k < n
    · obtain ⟨b, o, rfl⟩ := h.out.at0 (by omega)
      have hkl : k < l.length := by rw [hl.out]; exact hlt
      have e0 : wr.cell? ⟨b, o + k, none⟩ = some (.int .u8 (l[k]'hkl).toNat) := (h.out.old HB.out).cell k hkl
      obtain ⟨u, hu⟩ : ∃ u, l[k]'hkl = u := ⟨_, rfl⟩
      rw [hu] at e0
      have HU := Box.mk (show l.take (k + 1) = l.take k ++ [u] by rw [List.take_succ_eq_append_getElem hkl, hu])
      have hlen := Box.mk (show (l.take k).length = k by rw [List.length_take]; omega)
      have hsz := Box.mk (HB.out.size)
      clear hu hkl
      generalize l.take k = lk at *
      go_wp2_with ((with_reducible refine arm_append byteTyC (.tmp 11) (.tmp 16) ?_ rfl w.heap.size _ lk ?_ (HO.out.alloc _) (some ⟨wr.heap.size, 0, none⟩) 1 1 [u] ?_ (by intro h; cases h) (Row.lit1 wr 5 u) (by rw [hlen.out]; omega) (by have := hsz.out; simp; omega) ?_); rfl; rfl; rfl)
      intro v' w' own' G
      have hB' := Box.mk (below_own (HB.out.alloc HB.out.size (.cells #[.int .u8 (u.toNat : Int)] 5)) (HO.out.alloc _) G (Nat.le_refl _))
      go_wp2
      go_roundw
      case rel => exact ⟨k + 1, by omega, by go_num, hB'.out, by rw [HU.out]; exact own'⟩
      case measure => simp [intOf]; omega
    · obtain rfl : k = n := by omega
      have HO2 := HO.out
      rw [List.take_of_length_le (by rw [hl.out]; omega)] at HO2
      have HO3 := Box.mk HO2
      clear HO HO2
      go_wp2
      go_ret
      exact ⟨⟨_, rfl, HO3.out⟩, HB.out⟩
end Go.Proofs.Ytehnnnohoaapdaa
