/- The reference's texts, written out byte by byte. -/
import Derived.Test.YteiepenanffhcaaDoorCopy
import Derived.Test.YteiepenanffhcaaDoorText
namespace Go.Proofs.YteiepenanffhcaaDoor
open Go Go.RowKit
set_option linter.unusedVariables false

theorem own_lit1 (w : World) (base : Nat) (e : TypeId) (u : UInt8) (h : base ≤ w.heap.size) : Own (w.alloc (.cells #[.int .u8 (u.toNat : Int)] e)) base e (.slice (some ⟨w.heap.size, 0, none⟩) 1 1) [u] :=
  ⟨rfl, .inr ⟨w.heap.size, 1, _, rfl, h, heap_alloc_new w _, Nat.le_refl _, by unfold maxLen; omega, rfl, rfl⟩⟩
theorem own_base2 {w : World} {a b : Nat} {e : TypeId} {v : Value} {l : List UInt8} (h : Own w b e v l) (hab : a ≤ b) : Own w a e v l := by
  obtain ⟨hl, h⟩ := h
  refine ⟨hl, ?_⟩
  rcases h with h | ⟨g, cap, cur, rfl, h1, h2⟩
  · exact .inl h
  · exact .inr ⟨g, cap, cur, rfl, Nat.le_trans hab h1, h2⟩
theorem cell_d32 {w : World} {b : Nat} {d : D32} {e : TypeId} {fr : Nat × Nat} (h : w.heap[b]? = some (.cells (dc d) e fr)) (k : Nat) (hk : k < d.1.length) : w.cell? ⟨b, k, none⟩ = some (.int .u8 ((d.1[k]'hk).toNat : Int)) := by
  rw [cell_of_row w b k (dc d) e fr h, ← Array.getElem?_toList, dc_toList, bvs_getElem?, List.getElem?_eq_getElem hk]
  rfl

set_option maxRecDepth 100000 in
set_option maxHeartbeats 1000000 in
theorem rleafText_any (kk : D32) (ao : Option Addr) (n c : Nat) (l : List UInt8) (w : World) (h0 : Row w ao n l) (hb : n ≤ 140737488351232) :
    Calls Tryd.prog 24 #[.agg (dc kk), .slice ao n c] w fun e w' => (∃ v, e = .returned v ∧ Own w' w.heap.size 5 v (0 :: (kk.1 ++ l))) ∧ Below w.heap.size w w' := by
  have h := Box.mk (h0.old (Below.refl_alloc w (.cells (dc kk) 26)))
  have hl := Box.mk h0.1
  have h32 := Box.mk kk.2
  have F0 : Box ((w.alloc (.cells (dc kk) 26)).heap[w.heap.size]? = some (.cells (dc kk) 26 (0, 0))) := ⟨heap_new rfl⟩
  have HB0 := Box.mk (Below.refl_alloc w (.cells (dc kk) 26))
  have hs0 : Box ((w.alloc (.cells (dc kk) 26)).heap.size = w.heap.size + 1) := ⟨by simp⟩
  clear h0
  go_enter Tryd.func24, Tryd.ntmps24
  go_upto_region 1 with fail
  generalize w.alloc (.cells (dc kk) 26) = w0 at *
  have B0 := Box.mk (Below.refl_alloc w0 (.cells #[.int .u8 ((0 : UInt8).toNat : Int)] 5))
  have O0 := Box.mk (own_lit1 w0 w0.heap.size 5 0 (Nat.le_refl _))
  go_wp2
  go_loopw [5, 6] (fun v i wr => ∃ k : Nat, k ≤ 32 ∧ i = .int .i64 k ∧ Below (w0.heap.size) w0 wr ∧ Own wr (w0.heap.size) 5 v ((0 :: kk.1.take k))) (fun v i _ => 32 - (intOf i).toNat)
  case atStart => exact ⟨0, Nat.zero_le _, rfl, B0.out, by rw [List.take_zero]; exact O0.out⟩
  case round =>
    obtain ⟨k, hk, rfl, hB0, hO0⟩ := hrel
    have HB := Box.mk hB0
    have HO := Box.mk hO0
    clear hB0 hO0
    by_cases hlt : k < 32
    · have hkl : k < kk.1.length := by rw [h32.out]; exact hlt
      have e0 : wr.cell? ⟨w.heap.size, k, none⟩ = some (.int .u8 (kk.1[k]'hkl).toNat) := cell_d32 ((HB.out.block w.heap.size (by rw [hs0.out]; omega)).trans F0.out) k hkl
      obtain ⟨u, hu⟩ : ∃ u, kk.1[k]'hkl = u := ⟨_, rfl⟩
      rw [hu] at e0
      have HU := Box.mk (show (0 :: kk.1.take (k + 1)) = (0 :: kk.1.take k) ++ [u] by rw [List.take_succ_eq_append_getElem hkl, hu]; rfl)
      have hlen := Box.mk (show ((0 :: kk.1.take k)).length ≤ 140737488351300 by simp; omega)
      have hsz := Box.mk (HB.out.size)
      clear hu hkl
      generalize (0 :: kk.1.take k) = lk at *
      go_wp2_with ((with_reducible refine arm_append byteTy (.tmp 13) (.tmp 17) ?_ rfl (w0.heap.size) _ lk ?_ (HO.out.alloc _) (some ⟨wr.heap.size, 0, none⟩) 1 1 [u] ?_ (by intro h; cases h) (Row.lit1 wr 5 u) (by have := hlen.out; omega) (by have := hsz.out; simp at this ⊢; omega) ?_); rfl; rfl; rfl)
      intro v' w' own' G
      have hB' := Box.mk ((HB.out.alloc (by have := hsz.out; simp at this ⊢; omega) (.cells #[.int .u8 (u.toNat : Int)] 5)).grown G (by have := hsz.out; simp at this ⊢; omega) fun k hk => (HO.out.lt k hk).1)
      go_wp2
      go_roundw
      case rel => exact ⟨k + 1, by omega, by go_num, hB'.out, by rw [HU.out]; exact own'⟩
      case measure => simp [intOf]; omega
    · obtain rfl : k = 32 := by omega
      rw [show ((32 : Nat) : Int) = 32 from rfl]
      have HO2 := HO.out
      rw [List.take_of_length_le (by rw [h32.out]; omega)] at HO2
      have HO3 := Box.mk HO2
      clear HO HO2 O0 B0
      go_wp2
      obtain ⟨wz, hwz⟩ : ∃ x, x = wr := ⟨_, rfl⟩
      subst hwz
      go_loopw [5, 7] (fun v i wr => ∃ k : Nat, k ≤ n ∧ i = .int .i64 k ∧ Below (w0.heap.size) w0 wr ∧ Own wr (w0.heap.size) 5 v ((0 :: (kk.1 ++ l.take k)))) (fun v i _ => n - (intOf i).toNat)
      case atStart => exact ⟨0, Nat.zero_le _, rfl, HB.out, by rw [List.take_zero, List.append_nil]; exact HO3.out⟩
      case round =>
        obtain ⟨k, hk, rfl, hB0, hO0⟩ := hrel
        have HB := Box.mk hB0
        have HO := Box.mk hO0
        clear hB0 hO0
        by_cases hlt : k < n
        · obtain ⟨b, o, rfl⟩ := h.out.at0 (by omega)
          have hkl : k < l.length := by rw [hl.out]; exact hlt
          have e0 : wr.cell? ⟨b, o + k, none⟩ = some (.int .u8 (l[k]'hkl).toNat) := (h.out.old HB.out).cell k hkl
          obtain ⟨u, hu⟩ : ∃ u, l[k]'hkl = u := ⟨_, rfl⟩
          rw [hu] at e0
          have HU := Box.mk (show (0 :: (kk.1 ++ l.take (k + 1))) = (0 :: (kk.1 ++ l.take k)) ++ [u] by rw [List.take_succ_eq_append_getElem hkl, hu]; simp)
          have hlen := Box.mk (show ((0 :: (kk.1 ++ l.take k))).length ≤ 140737488351300 by have := h32.out; simp; omega)
          have hsz := Box.mk (HB.out.size)
          clear hu hkl
          generalize (0 :: (kk.1 ++ l.take k)) = lk at *
          go_wp2_with ((with_reducible refine arm_append byteTy (.tmp 25) (.tmp 30) ?_ rfl (w0.heap.size) _ lk ?_ (HO.out.alloc _) (some ⟨wr.heap.size, 0, none⟩) 1 1 [u] ?_ (by intro h; cases h) (Row.lit1 wr 5 u) (by have := hlen.out; omega) (by have := hsz.out; simp at this ⊢; omega) ?_); rfl; rfl; rfl)
          intro v' w' own' G
          have hB' := Box.mk ((HB.out.alloc (by have := hsz.out; simp at this ⊢; omega) (.cells #[.int .u8 (u.toNat : Int)] 5)).grown G (by have := hsz.out; simp at this ⊢; omega) fun k hk => (HO.out.lt k hk).1)
          go_wp2
          go_roundw
          case rel => exact ⟨k + 1, by omega, by go_num, hB'.out, by rw [HU.out]; exact own'⟩
          case measure => simp [intOf]; omega
        · obtain rfl : n = k := by omega
          have HO2 := HO.out
          rw [List.take_of_length_le (by rw [hl.out]; omega)] at HO2
          have HO4 := Box.mk (own_base2 HO2 (a := w.heap.size) (by rw [hs0.out]; omega))
          have HB4 := Box.mk (HB0.out.trans (HB.out.mono (by rw [hs0.out]; omega)))
          clear HO HO2 HO3
          go_wp2
          go_ret
          exact ⟨⟨_, rfl, HO4.out⟩, HB4.out⟩

set_option maxRecDepth 100000 in
set_option maxHeartbeats 1000000 in
theorem rbranchText_any (width : Int) (ll rr : D32) (w : World) :
    Calls Tryd.prog 29 #[.int .i64 width, .agg (dc ll), .agg (dc rr)] w fun e w' => (∃ v, e = .returned v ∧ Own w' w.heap.size 5 v (1 :: (ll.1.take (wid width) ++ rr.1.take (wid width)))) ∧ Below w.heap.size w w' := by
  have hc := wid_eq width
  have hc32 := wid_le width
  have HWI : Box (∀ W, _) := ⟨fun W => lwithin_any width 0 32 W (by omega)⟩
  rw [hc] at HWI
  generalize wid width = c at *
  clear hc
  have hl := Box.mk ll.2
  have hr := Box.mk rr.2
  have F0 : Box (((w.alloc (.cells (dc ll) 27)).alloc (.cells (dc rr) 27)).heap[w.heap.size]? = some (.cells (dc ll) 27 (0, 0))) := ⟨heap_old (heap_new rfl)⟩
  have F1 : Box (((w.alloc (.cells (dc ll) 27)).alloc (.cells (dc rr) 27)).heap[w.heap.size + 1]? = some (.cells (dc rr) 27 (0, 0))) := ⟨heap_new (by simp)⟩
  have HB0 := Box.mk ((Below.refl_alloc w (.cells (dc ll) 27)).alloc (B := w.heap.size) (by simp) (.cells (dc rr) 27))
  have hs0 : Box (((w.alloc (.cells (dc ll) 27)).alloc (.cells (dc rr) 27)).heap.size = w.heap.size + 2) := ⟨by simp⟩
  go_enter Tryd.func29, Tryd.ntmps29
  go_upto_region 1 with fail
  have hsz1 : (w.alloc (.cells (dc ll) 27)).heap.size = w.heap.size + 1 := by simp
  try rw [hsz1]
  clear hsz1
  generalize (w.alloc (.cells (dc ll) 27)).alloc (.cells (dc rr) 27) = w0 at *
  have B0 := Box.mk (Below.refl_alloc w0 (.cells #[.int .u8 ((1 : UInt8).toNat : Int)] 5))
  have O0 := Box.mk (own_lit1 w0 w0.heap.size 5 1 (Nat.le_refl _))
  go_wp2_with (go_at_call 46; refine (calls_box (HWI.out _)).mono ?_)
  rintro e w' ⟨⟨rfl, rfl⟩⟩
  go_wp2
  go_loopw [8, 9] (fun v i wr => ∃ k : Nat, k ≤ c ∧ i = .int .i64 k ∧ Below (w0.heap.size) w0 wr ∧ Own wr (w0.heap.size) 5 v ((1 :: ll.1.take k))) (fun v i _ => c - (intOf i).toNat)
  case atStart => exact ⟨0, Nat.zero_le _, rfl, B0.out, by rw [List.take_zero]; exact O0.out⟩
  case round =>
    obtain ⟨k, hk, rfl, hB0, hO0⟩ := hrel
    have HB := Box.mk hB0
    have HO := Box.mk hO0
    clear hB0 hO0
    by_cases hlt : k < c
    · have hkl : k < ll.1.length := by rw [hl.out]; omega
      have e0 : wr.cell? ⟨w.heap.size, k, none⟩ = some (.int .u8 (ll.1[k]'hkl).toNat) := cell_d32 ((HB.out.block (w.heap.size) (by rw [hs0.out]; omega)).trans F0.out) k hkl
      obtain ⟨u, hu⟩ : ∃ u, ll.1[k]'hkl = u := ⟨_, rfl⟩
      rw [hu] at e0
      have HU := Box.mk (show (1 :: ll.1.take (k + 1)) = (1 :: ll.1.take k) ++ [u] by rw [List.take_succ_eq_append_getElem hkl, hu]; rfl)
      have hlen := Box.mk (show ((1 :: ll.1.take k)).length ≤ 140737488351300 by simp; omega)
      have hsz := Box.mk (HB.out.size)
      clear hu hkl
      generalize (1 :: ll.1.take k) = lk at *
      go_wp2_with ((with_reducible refine arm_append byteTy (.tmp 19) (.tmp 23) ?_ rfl (w0.heap.size) _ lk ?_ (HO.out.alloc _) (some ⟨wr.heap.size, 0, none⟩) 1 1 [u] ?_ (by intro h; cases h) (Row.lit1 wr 5 u) (by have := hlen.out; omega) (by have := hsz.out; simp at this ⊢; omega) ?_); rfl; rfl; rfl)
      intro v' w' own' G
      have hB' := Box.mk ((HB.out.alloc (by have := hsz.out; simp at this ⊢; omega) (.cells #[.int .u8 (u.toNat : Int)] 5)).grown G (by have := hsz.out; simp at this ⊢; omega) fun k hk => (HO.out.lt k hk).1)
      go_wp2
      go_roundw
      case rel => exact ⟨k + 1, by omega, by go_num, hB'.out, by rw [HU.out]; exact own'⟩
      case measure => simp [intOf]; omega
    · obtain rfl : c = k := by omega
      have HO3 := HO
      clear HO O0 B0
      go_wp2
      obtain ⟨wz, hwz⟩ : ∃ x, x = wr := ⟨_, rfl⟩
      subst hwz
      go_loopw [8, 10] (fun v i wr => ∃ k : Nat, k ≤ c ∧ i = .int .i64 k ∧ Below (w0.heap.size) w0 wr ∧ Own wr (w0.heap.size) 5 v ((1 :: (ll.1.take c ++ rr.1.take k)))) (fun v i _ => c - (intOf i).toNat)
      case atStart => exact ⟨0, Nat.zero_le _, rfl, HB.out, by rw [List.take_zero, List.append_nil]; exact HO3.out⟩
      case round =>
        obtain ⟨k, hk, rfl, hB0, hO0⟩ := hrel
        have HB := Box.mk hB0
        have HO := Box.mk hO0
        clear hB0 hO0
        by_cases hlt : k < c
        · have hkl : k < rr.1.length := by rw [hr.out]; omega
          have e0 : wr.cell? ⟨w.heap.size + 1, k, none⟩ = some (.int .u8 (rr.1[k]'hkl).toNat) := cell_d32 ((HB.out.block (w.heap.size + 1) (by rw [hs0.out]; omega)).trans F1.out) k hkl
          obtain ⟨u, hu⟩ : ∃ u, rr.1[k]'hkl = u := ⟨_, rfl⟩
          rw [hu] at e0
          have HU := Box.mk (show (1 :: (ll.1.take c ++ rr.1.take (k + 1))) = (1 :: (ll.1.take c ++ rr.1.take k)) ++ [u] by rw [List.take_succ_eq_append_getElem hkl, hu]; simp)
          have hlen := Box.mk (show ((1 :: (ll.1.take c ++ rr.1.take k))).length ≤ 140737488351300 by simp; omega)
          have hsz := Box.mk (HB.out.size)
          clear hu hkl
          generalize (1 :: (ll.1.take c ++ rr.1.take k)) = lk at *
          go_wp2_with ((with_reducible refine arm_append byteTy (.tmp 30) (.tmp 34) ?_ rfl (w0.heap.size) _ lk ?_ (HO.out.alloc _) (some ⟨wr.heap.size, 0, none⟩) 1 1 [u] ?_ (by intro h; cases h) (Row.lit1 wr 5 u) (by have := hlen.out; omega) (by have := hsz.out; simp at this ⊢; omega) ?_); rfl; rfl; rfl)
          intro v' w' own' G
          have hB' := Box.mk ((HB.out.alloc (by have := hsz.out; simp at this ⊢; omega) (.cells #[.int .u8 (u.toNat : Int)] 5)).grown G (by have := hsz.out; simp at this ⊢; omega) fun k hk => (HO.out.lt k hk).1)
          go_wp2
          go_roundw
          case rel => exact ⟨k + 1, by omega, by go_num, hB'.out, by rw [HU.out]; exact own'⟩
          case measure => simp [intOf]; omega
        · obtain rfl : c = k := by omega
          have HO4 := Box.mk (own_base2 HO.out (a := w.heap.size) (by rw [hs0.out]; omega))
          have HB4 := Box.mk (HB0.out.trans (HB.out.mono (by rw [hs0.out]; omega)))
          clear HO HO3
          go_wp2
          go_ret
          exact ⟨⟨_, rfl, HO4.out⟩, HB4.out⟩
end Go.Proofs.YteiepenanffhcaaDoor
