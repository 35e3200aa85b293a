/- The laws' own lists: copyBytes, roomy, roomyIs. -/
import Derived.Test.YtocfiabbhcgegaaRows
import Derived.Test.YtocfiabbhcgegaaSame
import Derived.Test.YtocfiabbhcgegaaArm2
namespace Go.Proofs.Ytocfiabbhcgegaa
open Go Go.RowKit
set_option linter.unusedVariables false

theorem byteTyC : ByteTy Try.prog 26 5 := by
  obtain ⟨i, hi⟩ := Option.isSome_iff_exists.1 (show (Try.prog.info? 5).isSome = true by kernel_rfl)
  have h : (Try.prog.info? 5).map (fun i => (i.zero, i.size, i.bytes)) = some (some (.int .u8 0), 1, 1) := by kernel_rfl
  rw [hi] at h
  simp only [Option.map_some, Option.some.injEq, Prod.mk.injEq] at h
  exact ⟨i, Try.underlying26, hi, h.1, h.2.1, h.2.2⟩

theorem below_drewN2 {B : Nat} {w w' : World} (h : Below B w w') (q : Nat) : Below B w (w'.drewN q) := ⟨h.os, h.tape, h.output, h.size, h.block⟩
theorem below_own {w wr w' : World} {base : Nat} {e : TypeId} {v : Value} {l : List UInt8} (hB : Below base w wr) (ho : Own wr base e v l) (G : wr.grownBy w' v.ownBlock) (hb : base ≤ w.heap.size) : Below base w w' :=
  hB.grown G (Nat.le_trans hb hB.size) fun k hk => (ho.lt k hk).1

set_option maxRecDepth 100000 in
set_option maxHeartbeats 1000000 in
theorem copyBytes_any (ao : Option Addr) (n c : Nat) (l : List UInt8) (w : World) (h0 : Row w ao n l) (hb : n ≤ 140737488351400) :
    Calls Try.prog 14 #[.slice ao n c] w fun e w' => (∃ v, e = .returned v ∧ Own w' w.heap.size 5 v l) ∧ Below w.heap.size w w' := by
  have h := Box.mk h0
  have hl := Box.mk h0.1
  clear h0
  go_enter Try.func14, Try.ntmps14
  go_wp2
  go_loopw [3, 4] (fun v i wr => ∃ k : Nat, k ≤ n ∧ i = .int .i64 k ∧ Below w.heap.size w wr ∧ Own wr w.heap.size 5 v (l.take k)) (fun v i _ => n - (intOf i).toNat)
  case atStart => exact ⟨0, Nat.zero_le _, rfl, Below.refl _ w, by rw [List.take_zero]; exact ⟨rfl, .inl ⟨rfl, rfl⟩⟩⟩
  case round =>
    obtain ⟨k, hk, rfl, hB0, hO0⟩ := hrel
    have HB := Box.mk hB0
    have HO := Box.mk hO0
    clear hB0 hO0
    by_cases hlt : k < n
    · obtain ⟨b, o, rfl⟩ := h.out.at0 (by omega)
      have hkl : k < l.length := by rw [hl.out]; exact hlt
      have e0 : wr.cell? ⟨b, o + k, none⟩ = some (.int .u8 (l[k]'hkl).toNat) := (h.out.old HB.out).cell k hkl
      obtain ⟨u, hu⟩ : ∃ u, l[k]'hkl = u := ⟨_, rfl⟩
      rw [hu] at e0
      have HU := Box.mk (show l.take (k + 1) = l.take k ++ [u] by rw [List.take_succ_eq_append_getElem hkl, hu])
      have hlen := Box.mk (show (l.take k).length = k by rw [List.length_take]; omega)
      have hsz := Box.mk (HB.out.size)
      clear hu hkl
      generalize l.take k = lk at *
      go_wp2_with ((with_reducible refine arm_append byteTyC (.tmp 11) (.tmp 16) ?_ rfl w.heap.size _ lk ?_ (HO.out.alloc _) (some ⟨wr.heap.size, 0, none⟩) 1 1 [u] ?_ (by intro h; cases h) (Row.lit1 wr 5 u) (by rw [hlen.out]; omega) (by have := hsz.out; simp; omega) ?_); rfl; rfl; rfl)
      intro v' w' own' G
      have hB' := Box.mk (below_own (HB.out.alloc HB.out.size (.cells #[.int .u8 (u.toNat : Int)] 5)) (HO.out.alloc _) G (Nat.le_refl _))
      go_wp2
      go_roundw
      case rel => exact ⟨k + 1, by omega, by go_num, hB'.out, by rw [HU.out]; exact own'⟩
      case measure => simp [intOf]; omega
    · obtain rfl : k = n := by omega
      have HO2 := HO.out
      rw [List.take_of_length_le (by rw [hl.out]; omega)] at HO2
      have HO3 := Box.mk HO2
      clear HO HO2
      go_wp2
      go_ret
      exact ⟨⟨_, rfl, HO3.out⟩, HB.out⟩

/-- What roomy makes. -/
def roomyL (l : List UInt8) : List UInt8 := l ++ (List.range 100).map fun i => UInt8.ofNat (101 + i)
theorem length_roomyL (l : List UInt8) : (roomyL l).length = l.length + 100 := by simp [roomyL]
theorem stage_set (A : List UInt8) (m k : Nat) (hm : A.length = m) (hk : k < m) (u : UInt8) (hu : A[k]? = some u) :
    (A.take k ++ List.replicate (m - k) 0).set k u = A.take (k + 1) ++ List.replicate (m - (k + 1)) 0 := by
  obtain ⟨hk', hu'⟩ := List.getElem?_eq_some_iff.1 hu
  have h1 : (A.take k).length = k := by rw [List.length_take]; omega
  rw [List.set_append_right _ _ (by omega), h1, Nat.sub_self, List.take_succ_eq_append_getElem hk', hu']
  have h2 : m - k = (m - (k + 1)) + 1 := by omega
  rw [h2, List.replicate_succ, List.set_cons_zero, List.append_assoc]
  rfl

set_option maxRecDepth 100000 in
set_option maxHeartbeats 1000000 in
theorem roomy_any (ao : Option Addr) (n c : Nat) (l : List UInt8) (w : World) (h0 : Row w ao n l) (hb : n ≤ 140737488351232) :
    Calls Try.prog 12 #[.slice ao n c] w fun e w' => (∃ g, e = .returned (.slice (some ⟨g, 0, none⟩) (n + 100) (n + 100)) ∧ w'.heap[g]? = some (.cells (bvs (roomyL l)).toArray 5 (0, 0)) ∧ w.heap.size ≤ g) ∧ Below w.heap.size w w' := by
  have h := Box.mk h0
  have hl := Box.mk h0.1
  have hi5 : Box ((Try.prog.info? 5).map (·.size) = some 1) := ⟨by kernel_rfl⟩
  have hadd : wrap64 ((n : Int) + 100) = ((n + 100 : Nat) : Int) := by unfold wrap64; omega
  clear h0
  go_enter Try.func12, Try.ntmps12
  go_wp2_with ((with_reducible refine arm_make_full byteTyC (.tmp 7) (.tmp 7) ?_ rfl .i64 .i64 ((n : Int) + 100) ((n : Int) + 100) (n + 100) ?_ ?_ ?_ ?_ (by omega) ?_); rfl; rfl; rfl; (first | omega | exact hadd); (first | omega | exact hadd))
  intro w1 hg B1
  have f1 := Box.mk (show w1.heap[w.heap.size]? = some (.cells (bvs ((roomyL l).take 0 ++ List.replicate (n + 100 - 0) 0)).toArray 5 (0, 0)) by rw [List.take_zero, List.nil_append, Nat.sub_zero]; exact hg)
  clear hg
  have HB1 := Box.mk B1
  clear B1
  go_wp2
  go_loopw [4] (fun i wr => ∃ k : Nat, k ≤ n + 100 ∧ i = .int .i64 k ∧ Below w.heap.size w wr ∧ Box (wr.heap[w.heap.size]? = some (.cells (bvs ((roomyL l).take k ++ List.replicate (n + 100 - k) 0)).toArray 5 (0, 0)))) (fun i _ => n + 100 - (intOf i).toNat)
  case atStart => exact ⟨0, Nat.zero_le _, rfl, HB1.out, f1⟩
  case round =>
    obtain ⟨k, hk, rfl, hB0, hF⟩ := hrel
    have HB := Box.mk hB0
    clear hB0
    have hsz : Box (w.heap.size ≤ wr.heap.size) := ⟨HB.out.size⟩
    have hlenL : Box (((roomyL l).take k ++ List.replicate (n + 100 - k) 0).length = n + 100) := ⟨by
      have := length_roomyL l
      have := hl.out
      rw [List.length_append, List.length_take, List.length_replicate]; omega⟩
    by_cases hlt : k < n + 100
    · by_cases hkn : k < n
      · obtain ⟨b, o, rfl⟩ := h.out.at0 (by omega)
        have hkl : k < l.length := by rw [hl.out]; exact hkn
        have e0 : wr.cell? ⟨b, o + k, none⟩ = some (.int .u8 (l[k]'hkl).toNat) := (h.out.old HB.out).cell k hkl
        have hu' : (roomyL l)[k]? = some (l[k]'hkl) := by
          unfold roomyL
          rw [List.getElem?_append_left hkl, List.getElem?_eq_getElem hkl]
        obtain ⟨u, hu⟩ : ∃ u, l[k]'hkl = u := ⟨_, rfl⟩
        rw [hu] at e0 hu'
        have HS := Box.mk (stage_set (roomyL l) (n + 100) k (by rw [length_roomyL, hl.out]) hlt u hu')
        clear hu hkl hu'
        generalize (roomyL l).take k ++ List.replicate (n + 100 - k) 0 = cur at *
        generalize hnx : (roomyL l).take (k + 1) ++ List.replicate (n + 100 - (k + 1)) 0 = nxt at *
        have HN := Box.mk hnx
        clear hnx
        go_wp2_with ((with_reducible refine arm_store_byte 5 (.tmp 25) (.tmp 24) ?_ rfl w.heap.size k ?_ (u.toNat : Int) ?_ hi5.out cur hF.out (by rw [hlenL.out]; omega) u rfl ?_); rfl; rfl; rfl)
        intro w' hg' G
        have hF' := Box.mk hg'.out
        rw [HS.out] at hF'
        have HB' := Box.mk (HB.out.grown G hsz.out (fun k hk => by cases hk; exact Nat.le_refl _))
        clear hg' G
        go_wp2
        go_roundw
        case rel => exact ⟨k + 1, by omega, by go_num, HB'.out, by rw [HN.out]; exact hF'⟩
        case measure => simp [intOf]; omega
      · have hw1 : wrap64 (101 + (k : Int)) = 101 + (k : Int) := by unfold wrap64; omega
        have hw2 : wrap64 (101 + (k : Int) - (n : Int)) = ((101 + (k - n) : Nat) : Int) := by unfold wrap64; omega
        have hu' : (roomyL l)[k]? = some (UInt8.ofNat (101 + (k - n))) := by
          unfold roomyL
          rw [List.getElem?_append_right (by rw [hl.out]; omega), hl.out, List.getElem?_map, List.getElem?_range (by omega)]
          rfl
        have HS := Box.mk (stage_set (roomyL l) (n + 100) k (by rw [length_roomyL, hl.out]) hlt _ hu')
        have hzz : Box (101 + (k : Int) - (n : Int) = ((UInt8.ofNat (101 + (k - n))).toNat : Int)) := ⟨by rw [UInt8.toNat_ofNat']; omega⟩
        clear hu'
        generalize (roomyL l).take k ++ List.replicate (n + 100 - k) 0 = cur at *
        generalize hnx : (roomyL l).take (k + 1) ++ List.replicate (n + 100 - (k + 1)) 0 = nxt at *
        have HN := Box.mk hnx
        clear hnx
        generalize UInt8.ofNat (101 + (k - n)) = u at *
        go_wp2_with ((with_reducible refine arm_store_byte 5 (.tmp 34) (.tmp 33) ?_ rfl w.heap.size k ?_ (101 + (k : Int) - (n : Int)) ?_ hi5.out cur hF.out (by rw [hlenL.out]; omega) u hzz.out ?_); rfl; rfl; rfl)
        intro w' hg' G
        have hF' := Box.mk hg'.out
        rw [HS.out] at hF'
        have HB' := Box.mk (HB.out.grown G hsz.out (fun k hk => by cases hk; exact Nat.le_refl _))
        clear hg' G
        go_wp2
        go_roundw
        case rel => exact ⟨k + 1, by omega, by go_num, HB'.out, by rw [HN.out]; exact hF'⟩
        case measure => simp [intOf]; omega
    · obtain rfl : k = n + 100 := by omega
      have hF2 := hF.out
      rw [Nat.sub_self, List.replicate_zero, List.append_nil, List.take_of_length_le (by rw [length_roomyL, hl.out]; omega)] at hF2
      have hF3 := Box.mk hF2
      clear hF hF2 hlenL
      go_wp2
      go_ret
      exact ⟨⟨_, rfl, hF3.out, Nat.le_refl _⟩, HB.out⟩

set_option maxRecDepth 100000 in
set_option maxHeartbeats 1000000 in
theorem roomyIs_any (a0 a1 : Option Addr) (n0 c0 n1 c1 : Nat) (l0 l1 : List UInt8) (w : World) (h0 : Row w a0 n0 l0) (h1 : Row w a1 n1 l1) (m0 : n0 ≤ maxLen) (m1 : n1 ≤ 140737488351232) :
    Calls Try.prog 22 #[.slice a0 n0 c0, .slice a1 n1 c1] w fun e w' => e = .returned (.bool (eqB l0 (roomyL l1))) ∧ Below w.heap.size w w' := by
  have H0 := Box.mk h0
  have H1 := Box.mk h1
  clear h0 h1
  go_enter Try.func22, Try.ntmps22
  go_wp2_with (go_at_call 12; refine (calls_box (roomy_any a1 n1 c1 l1 _ H1.out m1)).mono ?_)
  rintro e w1 ⟨⟨⟨g, rfl, hg, hge⟩, hB⟩⟩
  have B1 := Box.mk hB
  have hn1 := H1.out.1
  have R1 : Box (Row w1 (some ⟨g, 0, none⟩) (n1 + 100) (roomyL l1)) := ⟨by have := Row.of_row hg; rwa [length_roomyL, hn1] at this⟩
  have R0 := Box.mk (H0.out.old B1.out)
  have hm : Box (n1 + 100 ≤ maxLen) := ⟨by unfold maxLen; omega⟩
  clear hB hg hge hn1
  go_wp2_with (go_at_call 19; refine (calls_box (sameBytes_any _ _ _ _ _ _ l0 (roomyL l1) _ R0.out R1.out m0 hm.out)).mono ?_)
  rintro e w2 ⟨⟨rfl, q, rfl⟩⟩
  go_wp2
  go_ret
  exact ⟨rfl, below_drewN2 B1.out q⟩
end Go.Proofs.Ytocfiabbhcgegaa
