/- Texts joined: RDecL, RDecB, SameN. -/
import Derived.Test.YteiepenanffhcaaDoorP20
import Derived.Test.YteiepenanffhcaaDoorP19
import Derived.Test.YteiepenanffhcaaDoorP07
import Derived.Test.YteiepenanffhcaaDoorP00
import Derived.Test.YteiepenanffhcaaDoorP01
/- The reference's Decode: a leaf's way, and the ways that refuse. -/
namespace Go.Proofs.YteiepenanffhcaaDoor
open Go Go.RowKit
set_option linter.unusedVariables false

/-- A leaf as Decode tells it. -/
def lfN (k : D32) (ao : Option Addr) (m c : Nat) : NodeV := ⟨1, 0, 0, 0, 0, zero32, zero32, k, ao, m, c⟩

set_option maxRecDepth 100000 in
set_option maxHeartbeats 8000000 in
theorem rdec_leaf (b o n c : Nat) (l : List UInt8) (w : World) (h0 : Row w (some ⟨b, o, none⟩) n l) (h1 : 32 ≤ n) (h2 : n ≤ 160) :
    Calls Tryd.prog 21 #[.int .i64 1, .slice (some ⟨b, o, none⟩) n c] w fun e w' =>
      (∃ ao' c', e = .returned (.tuple #[.agg (nodeC (lfN (keyOf l) ao' (n - 32) c')).toArray, .int .i64 0]) ∧ Own w' w.heap.size 5 (.slice ao' (n - 32) c') (l.drop 32)) ∧ Below w.heap.size w w' := by
  have hi30 : ∀ x : NodeV, Box ((Tryd.prog.info? 30).map (·.size) = some (nodeC x).toArray.size) := nodeSize
  have hss : ∀ x y : NodeV, Box ((nodeC x).toArray.size = (nodeC y).toArray.size) := nodeSize2
  have hal : ∀ x : NodeV, Box ((nodeC x).toArray.all (·.oneCell') = true) := fun x => ⟨nodeC_all x⟩
  obtain ⟨zn, hzn⟩ : ∃ zn, (nodeC noNode).toArray = zn := ⟨_, rfl⟩
  have hz30 : ∀ W : World, (zeroValue 30).run Tryd.prog W = .ok (.agg zn) W := fun W => by rw [← hzn]; kernel_rfl
  have hb1 : Box (Tryd.prog.built 30 [(0, .int .i64 1)] = some (nodeC (lfN zero32 none 0 0)).toArray) := ⟨by kernel_rfl⟩
  have hzs : ∀ x : NodeV, Box (zn.size = (nodeC x).toArray.size) := fun x => ⟨by rw [← hzn]; exact (hss _ _).out⟩
  have hi28 : Box ((Tryd.prog.info? 28).map (·.size) = some 1) := ⟨by kernel_rfl⟩
  have hi5 : Box ((Tryd.prog.info? 5).map (·.size) = some 1) := ⟨by kernel_rfl⟩
  have hR := Box.mk h0
  have hl := Box.mk h0.1
  have hbl := Box.mk (h0.lt (by omega))
  clear h0 hzn
  go_enter Tryd.func21, Tryd.ntmps21
  go_upto_region 1 with fail
  refine wp_anyWorld (fun W => Box (W.heap[w.heap.size]? = some (.cells zn 30 (0, 0))) ∧ Box (Below w.heap.size w W) ∧ Box (W.heap.size = w.heap.size + 1)) ⟨⟨heap_new rfl⟩, ⟨Below.refl_alloc w _⟩, ⟨by simp⟩⟩ ?_
  rintro W ⟨A0, B0, s0⟩
  obtain ⟨M, hM⟩ : ∃ M, W.heap.size = M := ⟨_, rfl⟩
  have HM := Box.mk (show M = w.heap.size + 1 by rw [← hM]; exact s0.out)
  have HM2 := Box.mk hM
  clear hM
  go_wp2_with (first
    | ((with_reducible refine arm_built 30 [(0, .tmp 11)] ?_ rfl [(0, .int .i64 1)] ?_ (nodeC (lfN zero32 none 0 0)).toArray hb1.out ?_); rfl; rfl)
    | ((with_reducible refine arm_store_row 30 (.tmp 6) (.tmp 12) ?_ rfl W.heap.size zn (nodeC (lfN zero32 none 0 0)).toArray 30 ?_ ?_ ?_ (hzs _).out (hi30 _).out (hal _).out ?_); rfl; rfl; rfl; exact heap_new rfl))
  intro w2 g2 G2
  have B2 := Box.mk ((B0.out.alloc B0.out.size (.cells zn 30)).grown G2 (B0.out.alloc B0.out.size _).size (fun k hk => by cases hk; have := s0.out; omega))
  have x2 := Box.mk (show w2.heap[M]? = some (.cells (nodeC (lfN (keyN l 0) none 0 0)).toArray 30 (0, 0)) by rw [keyN_zero, ← HM2.out]; exact g2.out)
  have q2 := Box.mk ((G2.block w.heap.size (by have := s0.out; simp; omega) (by have := s0.out; simp; omega)).trans (heap_old (o := .cells zn 30) A0.out))
  rw [HM2.out]
  clear g2 G2 A0 B0 s0 HM2
  have hnl : ¬ ((n : Int) < 32) := by omega
  have hng : ¬ ((160 : Int) < (n : Int)) := by omega
  go_wp2
  clear hnl hng
  go_loopw [7] (fun i wr => ∃ k : Nat, k ≤ 32 ∧ i = .int .i64 k ∧ Box (wr.heap[M]? = some (.cells (nodeC (lfN (keyN l k) none 0 0)).toArray 30 (0, 0))) ∧ Box (wr.heap[w.heap.size]? = some (.cells zn 30 (0, 0))) ∧ Box (Below w.heap.size w wr)) (fun i _ => 32 - (intOf i).toNat)
  case atStart => exact ⟨0, Nat.zero_le _, rfl, x2, q2, B2⟩
  clear x2 q2 B2
  case round =>
    obtain ⟨k, hk, rfl, xr, qr, br⟩ := hrel
    by_cases hlt : k < 32
    · have hkl : k < l.length := by rw [hl.out]; omega
      have e0 : wr.cell? ⟨b, o + k, none⟩ = some (.int .u8 (l[k]'hkl).toNat) := (hR.out.old br.out).cell k hkl
      have hsu := Box.mk (keyN_succ l k hlt hkl)
      obtain ⟨u, hu⟩ : ∃ u, l[k]'hkl = u := ⟨_, rfl⟩
      rw [hu] at e0 hsu
      have hset := Box.mk (show (nodeC (lfN (keyN l k) none 0 0)).set (69 + k) (bv u) = nodeC (lfN (keyN l (k + 1)) none 0 0) by rw [nodeC_setkey _ k hlt u, ← hsu.out]; rfl)
      have hlen := Box.mk (show 69 + k < (nodeC (lfN (keyN l k) none 0 0)).length by rw [length_nodeC]; omega)
      have k0 : (0 : Int) ≤ (k : Int) := by omega
      have k1 : (k : Int) < 32 := by omega
      have k2 : (k : Int) < (n : Int) := by omega
      clear hu hkl
      go_wp2_with ((with_reducible refine arm_store_cell 5 (.tmp 34) (.tmp 32) ?_ ?_ M (69 + k) ?_ u ?_ hi5.out (nodeC (lfN (keyN l k) none 0 0)) 30 xr.out hlen.out ?_); rfl; rfl; rfl; rfl)
      intro w3 g3 G3
      have x3 := Box.mk (show w3.heap[M]? = some (.cells (nodeC (lfN (keyN l (k + 1)) none 0 0)).toArray 30 (0, 0)) by rw [← hset.out]; exact g3.out)
      have q3 := Box.mk ((G3.block _ (heap_lt qr.out) (by have := HM.out; simp; omega)).trans qr.out)
      have b3 := Box.mk (br.out.grown G3 br.out.size (fun k hk => by cases hk; have := HM.out; omega))
      clear g3 G3 xr qr br e0
      go_wp2
      go_roundw
      case rel => exact ⟨k + 1, by omega, by go_num, x3, q3, b3⟩
      case measure => simp [intOf]; omega
    · obtain rfl : k = 32 := by omega
      rw [show ((32 : Nat) : Int) = 32 from rfl]
      have hkf := keyN_full l (by rw [hl.out]; exact h1)
      rw [hkf] at xr
      have hMl := Box.mk (heap_lt xr.out)
      clear hkf
      obtain ⟨kf, hkf2⟩ : ∃ kf, keyOf l = kf := ⟨_, rfl⟩
      rw [hkf2] at xr
      have HKF := Box.mk hkf2
      clear hkf2
      go_wp2
      obtain ⟨wz, hwz⟩ : ∃ y, y = wr := ⟨_, rfl⟩
      subst hwz
      go_loopw [8] (fun i wr => ∃ (k : Nat) (ao : Option Addr) (c' : Nat), 32 ≤ k ∧ k ≤ n ∧ i = .int .i64 k ∧ Box (wr.heap[M]? = some (.cells (nodeC (lfN kf ao (k - 32) c')).toArray 30 (0, 0))) ∧ Box (wr.heap[w.heap.size]? = some (.cells zn 30 (0, 0))) ∧ Box (Below w.heap.size w wr) ∧
        Box (Own wr (M + 1) 5 (.slice ao (k - 32) c') ((l.drop 32).take (k - 32))) ∧ Box (M < wr.heap.size)) (fun i _ => n - (intOf i).toNat)
      case atStart => exact ⟨32, none, 0, Nat.le_refl _, h1, rfl, xr, qr, br, ⟨rfl, .inl ⟨rfl, rfl⟩⟩, hMl⟩
      clear xr qr br hMl
      case round =>
        obtain ⟨k, ao, c', hk1, hk, rfl, xr, qr, br, ow, sr⟩ := hrel
        by_cases hlt : k < n
        · have hkl : k < l.length := by rw [hl.out]; omega
          have E0 := Box.mk (show w.cell? ⟨b, o + k, none⟩ = some (.int .u8 (l[k]'hkl).toNat) from hR.out.cell k hkl)
          have hsu := Box.mk (show (l.drop 32).take (k + 1 - 32) = (l.drop 32).take (k - 32) ++ [l[k]'hkl] by
            rw [show k + 1 - 32 = (k - 32) + 1 by omega, List.take_succ_eq_append_getElem (by rw [List.length_drop]; omega)]
            congr 2
            rw [List.getElem_drop]
            congr 1; omega)
          obtain ⟨u, hu⟩ : ∃ u, l[k]'hkl = u := ⟨_, rfl⟩
          rw [hu] at E0 hsu
          have hle := Box.mk (show ((l.drop 32).take (k - 32)).length = k - 32 by rw [List.length_take, List.length_drop]; have := hl.out; omega)
          have hna := Box.mk (fun (a2 : Option Addr) (m2 c2 : Nat) => show (nodeC (lfN kf ao (k - 32) c')).set 101 (.slice a2 m2 c2) = nodeC (lfN kf a2 m2 c2) from nodeC_setval _ _ _ _)
          have hl101 := Box.mk (show 101 < (nodeC (lfN kf ao (k - 32) c')).length by rw [length_nodeC]; omega)
          have hv101 := Box.mk (show (nodeC (lfN kf ao (k - 32) c')).toArray[101]? = some (.slice ao (k - 32) c') from nodeC_val _)
          generalize (l.drop 32).take (k - 32) = lk at *
          generalize nodeC (lfN kf ao (k - 32) c') = cx at *
          have k0 : (0 : Int) ≤ (k : Int) := by omega
          have k2 : (k : Int) < (n : Int) := by omega
          clear hu hkl
          go_wp2_with fail
          have H0 := br.out.drew
          refine held_begin (fun W => Below w.heap.size w W) (by kernel_rfl) H0 (fun hH0 => ?_)
          have XR := Box.mk (show wr.drew.heap[M]? = some (.cells cx.toArray 30 (0, 0)) from xr.out)
          have QR := Box.mk (show wr.drew.heap[w.heap.size]? = some (.cells zn 30 (0, 0)) from qr.out)
          have OW := Box.mk (show Own wr.drew (M + 1) 5 (.slice ao (k - 32) c') lk from own_later ow.out (Below.refl _ wr).drew)
          have SR := Box.mk (show M < wr.drew.heap.size from sr.out)
          clear xr qr ow sr br H0
          generalize wr.drew = wd at *
          refine held_take 0 (.pointer (some ⟨M, 101, none⟩)) rfl (by kernel_rfl) (by kernel_rfl) (by kernel_rfl) (held_pure (by rfl) (fun W => by go_simp)) (by assumption) ?_
          try simp only [Act.put, List.setIfInBounds_toArray, List.set_cons_zero, List.set_cons_succ]
          refine held_take 2 (.slice (some ⟨b, o, none⟩) n c) rfl (by kernel_rfl) (by kernel_rfl) (by kernel_rfl) (held_move (by rfl) (.tmp 1) rfl rfl) (by assumption) ?_
          try simp only [Act.put, List.setIfInBounds_toArray, List.set_cons_zero, List.set_cons_succ]
          refine held_take 3 (.int .i64 k) rfl (by kernel_rfl) (by kernel_rfl) (by kernel_rfl) (held_move (by rfl) (.tmp 8) rfl rfl) (by assumption) ?_
          try simp only [Act.put, List.setIfInBounds_toArray, List.set_cons_zero, List.set_cons_succ]
          refine held_take 4 (.pointer (some ⟨b, o + k, none⟩)) rfl (by kernel_rfl) (by kernel_rfl) (by kernel_rfl) (held_pure (by rfl) (fun W => by go_simp)) (by assumption) ?_
          try simp only [Act.put, List.setIfInBounds_toArray, List.set_cons_zero, List.set_cons_succ]
          refine held_take 5 (.int .u8 (u.toNat : Int)) rfl (by kernel_rfl) (by kernel_rfl) (by kernel_rfl) (held_load1 (by rfl) 5 (.tmp 45) rfl b (o + k) rfl .u8 (.int .u8 (u.toNat : Int)) (fun W hS => (hS.cell (p := ⟨b, o + k, none⟩) hbl.out).trans E0.out) Tryd.underlying5) (by assumption) ?_
          try simp only [Act.put, List.setIfInBounds_toArray, List.set_cons_zero, List.set_cons_succ]
          refine held_step2 1 6 (by kernel_rfl) rfl rfl (by rfl) (by rfl) (fun K hK => ?_) (fun K hK => ?_)
          · have c101 : wd.cell? ⟨M, 101, none⟩ = some (.slice ao (k - 32) c') := by rw [cell_of_row _ _ 101 _ _ _ XR.out]; exact hv101.out
            go_simp
            refine hK.out _ _ (hH0) (fun hH1 => ?_)
            clear hK K c101
            try simp only [Act.put, List.setIfInBounds_toArray, List.set_cons_zero, List.set_cons_succ]
            refine held_step 6 (by kernel_rfl) rfl (by rfl) (fun K hK => ?_)
            go_simp
            refine hK.out _ _ (hH0.alloc hH0.size _) (fun hH6 => ?_)
            clear hK K
            try simp only [Act.put, List.setIfInBounds_toArray, List.set_cons_zero, List.set_cons_succ]
            have XA := Box.mk (heap_old (o := .cells #[.int .u8 (u.toNat : Int)] 5) XR.out)
            have OA := Box.mk (OW.out.alloc (.cells #[.int .u8 (u.toNat : Int)] 5))
            have QA := Box.mk (heap_old (o := .cells #[.int .u8 (u.toNat : Int)] 5) QR.out)
            have R1 := Box.mk (Row.lit1 wd 5 u)
            have SA := Box.mk (show M + 1 ≤ (wd.alloc (.cells #[.int .u8 (u.toNat : Int)] 5)).heap.size by have := SR.out; simp; omega)
            refine held_step 7 (by kernel_rfl) rfl (by rfl) (fun K hK => ?_)
            refine oper_of_list rfl ?_
            refine arm_append byteTyC (.tmp 42) (.tmp 47) rfl rfl (M + 1) _ lk rfl OA.out (some ⟨wd.heap.size, 0, none⟩) 1 1 [u] rfl (by intro h; cases h) R1.out (by rw [hle.out]; omega) SA.out ?_
            intro v7 W7 own7 G7
            refine ⟨rfl, ?_⟩
            have hH7' : Below w.heap.size w W7 := hH6.grown G7 hH6.size (fun g hg => by have := (OA.out.lt g hg).1; have := HM.out; omega)
            refine hK.out _ _ hH7' (fun hH7 => ?_)
            clear hK K
            try simp only [Act.put, List.setIfInBounds_toArray, List.set_cons_zero, List.set_cons_succ]
            have X7 := Box.mk ((G7.block M (heap_lt XA.out) (fun hx => by have := (OA.out.lt M hx.symm).1; omega)).trans XA.out)
            have Q7 := Box.mk ((G7.block w.heap.size (heap_lt QA.out) (fun hx => by have := (OA.out.lt _ hx.symm).1; have := HM.out; omega)).trans QA.out)
            have S7 := Box.mk (show M < W7.heap.size by have := G7.size; have := SA.out; omega)
            obtain ⟨ao7, c7, rfl, hrow7⟩ := own_read2 own7
            have hl7 := Box.mk (show (lk ++ [u]).length = k + 1 - 32 by rw [List.length_append, hle.out]; simp; omega)
            rw [hl7.out] at own7
            rw [hl7.out]
            have O7 := Box.mk own7
            clear own7 G7 XA OA QA hrow7 hH7'
            refine held_take 8 (.pointer (some ⟨M, 101, none⟩)) rfl (by kernel_rfl) (by kernel_rfl) (by kernel_rfl) (held_pure (by rfl) (fun W => by go_simp)) (by assumption) ?_
            try simp only [Act.put, List.setIfInBounds_toArray, List.set_cons_zero, List.set_cons_succ]
            refine held_step 9 (by kernel_rfl) rfl (by rfl) (fun K hK => ?_)
            refine oper_of_list rfl ?_
            refine arm_store_slice 28 (.tmp 49) (.tmp 48) rfl rfl M 101 rfl ao7 (k + 1 - 32) c7 rfl hi28.out cx 30 X7.out hl101.out ?_
            intro W9 g9 G9
            refine ⟨rfl, ?_⟩
            have hH9' : Below w.heap.size w W9 := hH7.grown G9 hH7.size (fun g hg => by cases hg; have := HM.out; omega)
            refine hK.out _ _ hH9' (fun hH9 => ?_)
            clear hK K
            try simp only [Act.put]
            have X9 := Box.mk (show W9.heap[M]? = some (.cells (nodeC (lfN kf ao7 (k + 1 - 32) c7)).toArray 30 (0, 0)) by rw [← hna.out]; exact g9.out)
            have Q9 := Box.mk ((G9.block w.heap.size (heap_lt Q7.out) (by have := HM.out; simp; omega)).trans Q7.out)
            have O9 := Box.mk (show Own W9 (M + 1) 5 (.slice ao7 (k + 1 - 32) c7) (lk ++ [u]) from O7.out.kept G9 (by
              rcases hob : (Value.slice ao7 (k + 1 - 32) c7).ownBlock with _ | g
              · exact .inl rfl
              · refine .inr fun hx => ?_
                rw [Option.some.injEq] at hx
                have := (O7.out.lt g hob).1
                omega))
            have S9 := Box.mk (Nat.lt_of_lt_of_le S7.out G9.size)
            have B9 := Box.mk hH9
            refine held_done (by kernel_rfl) ?_ _
            clear g9 G9 hH9 hH9' X7 Q7 O7 S7 hH7 hH6 hH1 hH0
            go_wp2
            go_roundw
            case rel => exact ⟨k + 1, ao7, c7, by omega, by omega, by go_num, X9, Q9, B9, ⟨by rw [hsu.out]; exact O9.out⟩, S9⟩
            case measure => simp [intOf]; omega
          · go_simp
            refine hK.out _ _ (hH0.alloc hH0.size _) (fun hH6 => ?_)
            clear hK K
            try simp only [Act.put, List.setIfInBounds_toArray, List.set_cons_zero, List.set_cons_succ]
            have XA := Box.mk (heap_old (o := .cells #[.int .u8 (u.toNat : Int)] 5) XR.out)
            have OA := Box.mk (OW.out.alloc (.cells #[.int .u8 (u.toNat : Int)] 5))
            have QA := Box.mk (heap_old (o := .cells #[.int .u8 (u.toNat : Int)] 5) QR.out)
            have R1 := Box.mk (Row.lit1 wd 5 u)
            have SA := Box.mk (show M + 1 ≤ (wd.alloc (.cells #[.int .u8 (u.toNat : Int)] 5)).heap.size by have := SR.out; simp; omega)
            refine held_step 1 (by kernel_rfl) rfl (by rfl) (fun K hK => ?_)
            have c101 : (wd.alloc (.cells #[.int .u8 (u.toNat : Int)] 5)).cell? ⟨M, 101, none⟩ = some (.slice ao (k - 32) c') := by rw [cell_of_row _ _ 101 _ _ _ XA.out]; exact hv101.out
            go_simp
            refine hK.out _ _ (hH6) (fun hH1 => ?_)
            clear hK K c101
            try simp only [Act.put, List.setIfInBounds_toArray, List.set_cons_zero, List.set_cons_succ]
            refine held_step 7 (by kernel_rfl) rfl (by rfl) (fun K hK => ?_)
            refine oper_of_list rfl ?_
            refine arm_append byteTyC (.tmp 42) (.tmp 47) rfl rfl (M + 1) _ lk rfl OA.out (some ⟨wd.heap.size, 0, none⟩) 1 1 [u] rfl (by intro h; cases h) R1.out (by rw [hle.out]; omega) SA.out ?_
            intro v7 W7 own7 G7
            refine ⟨rfl, ?_⟩
            have hH7' : Below w.heap.size w W7 := hH6.grown G7 hH6.size (fun g hg => by have := (OA.out.lt g hg).1; have := HM.out; omega)
            refine hK.out _ _ hH7' (fun hH7 => ?_)
            clear hK K
            try simp only [Act.put, List.setIfInBounds_toArray, List.set_cons_zero, List.set_cons_succ]
            have X7 := Box.mk ((G7.block M (heap_lt XA.out) (fun hx => by have := (OA.out.lt M hx.symm).1; omega)).trans XA.out)
            have Q7 := Box.mk ((G7.block w.heap.size (heap_lt QA.out) (fun hx => by have := (OA.out.lt _ hx.symm).1; have := HM.out; omega)).trans QA.out)
            have S7 := Box.mk (show M < W7.heap.size by have := G7.size; have := SA.out; omega)
            obtain ⟨ao7, c7, rfl, hrow7⟩ := own_read2 own7
            have hl7 := Box.mk (show (lk ++ [u]).length = k + 1 - 32 by rw [List.length_append, hle.out]; simp; omega)
            rw [hl7.out] at own7
            rw [hl7.out]
            have O7 := Box.mk own7
            clear own7 G7 XA OA QA hrow7 hH7'
            refine held_take 8 (.pointer (some ⟨M, 101, none⟩)) rfl (by kernel_rfl) (by kernel_rfl) (by kernel_rfl) (held_pure (by rfl) (fun W => by go_simp)) (by assumption) ?_
            try simp only [Act.put, List.setIfInBounds_toArray, List.set_cons_zero, List.set_cons_succ]
            refine held_step 9 (by kernel_rfl) rfl (by rfl) (fun K hK => ?_)
            refine oper_of_list rfl ?_
            refine arm_store_slice 28 (.tmp 49) (.tmp 48) rfl rfl M 101 rfl ao7 (k + 1 - 32) c7 rfl hi28.out cx 30 X7.out hl101.out ?_
            intro W9 g9 G9
            refine ⟨rfl, ?_⟩
            have hH9' : Below w.heap.size w W9 := hH7.grown G9 hH7.size (fun g hg => by cases hg; have := HM.out; omega)
            refine hK.out _ _ hH9' (fun hH9 => ?_)
            clear hK K
            try simp only [Act.put]
            have X9 := Box.mk (show W9.heap[M]? = some (.cells (nodeC (lfN kf ao7 (k + 1 - 32) c7)).toArray 30 (0, 0)) by rw [← hna.out]; exact g9.out)
            have Q9 := Box.mk ((G9.block w.heap.size (heap_lt Q7.out) (by have := HM.out; simp; omega)).trans Q7.out)
            have O9 := Box.mk (show Own W9 (M + 1) 5 (.slice ao7 (k + 1 - 32) c7) (lk ++ [u]) from O7.out.kept G9 (by
              rcases hob : (Value.slice ao7 (k + 1 - 32) c7).ownBlock with _ | g
              · exact .inl rfl
              · refine .inr fun hx => ?_
                rw [Option.some.injEq] at hx
                have := (O7.out.lt g hob).1
                omega))
            have S9 := Box.mk (Nat.lt_of_lt_of_le S7.out G9.size)
            have B9 := Box.mk hH9
            refine held_done (by kernel_rfl) ?_ _
            clear g9 G9 hH9 hH9' X7 Q7 O7 S7 hH7 hH6 hH1 hH0
            go_wp2
            go_roundw
            case rel => exact ⟨k + 1, ao7, c7, by omega, by omega, by go_num, X9, Q9, B9, ⟨by rw [hsu.out]; exact O9.out⟩, S9⟩
            case measure => simp [intOf]; omega
        · obtain rfl : k = n := by omega
          have hfu := Box.mk (show (l.drop 32).take (k - 32) = l.drop 32 by rw [List.take_of_length_le (by rw [List.length_drop]; have := hl.out; omega)])
          rw [hfu.out] at ow
          have O5 := Box.mk ow.out
          have I5 := hi30 (lfN kf ao (k - 32) c')
          have A5 := hal (lfN kf ao (k - 32) c')
          have Z5 := hzs (lfN kf ao (k - 32) c')
          have hkk := Box.mk (show (nodeC (lfN (keyOf l) ao (k - 32) c')).toArray = (nodeC (lfN kf ao (k - 32) c')).toArray by rw [HKF.out])
          generalize (nodeC (lfN kf ao (k - 32) c')).toArray = cz at *
          clear ow hfu
          go_wp2_with (first
            | ((with_reducible refine arm_row 30 (.tmp 6) ?_ rfl M ?_ 30 cz (0, 0) _ xr.out Tryd.underlying30 rfl I5.out ?_); rfl; rfl)
            | ((with_reducible refine arm_store_row 30 (.tmp 4) (.tmp 50) ?_ rfl w.heap.size zn cz 30 ?_ ?_ qr.out Z5.out I5.out A5.out ?_); rfl; rfl; rfl))
          intro w8 g8 G8
          have b8 := Box.mk (br.out.grown G8 br.out.size (fun k hk => by cases hk; omega))
          have O8 := Box.mk (own_base4 (O5.out.kept G8 (by
            rcases hob : (Value.slice ao (k - 32) c').ownBlock with _ | g
            · exact .inl rfl
            · refine .inr fun hx => ?_
              rw [Option.some.injEq] at hx
              have := (O5.out.lt g hob).1
              have := HM.out
              omega)) (a := w.heap.size) (by have := HM.out; omega))
          go_wp2
          exact bodyPost_ret (v := .tuple #[.agg cz, .int .i64 0]) (results_row_tmp (p := 4) (u := 5) (ty := 30) rfl _ _ w.heap.size 30 _ (0, 0) _ rfl g8.out Tryd.underlying30 rfl I5.out _ rfl) rfl ⟨⟨ao, c', by rw [hkk.out], O8.out⟩, b8.out⟩
end Go.Proofs.YteiepenanffhcaaDoor

/- The reference's Decode: the ways that refuse, a branch's way, all in one. -/
namespace Go.Proofs.YteiepenanffhcaaDoor
open Go Go.RowKit
set_option linter.unusedVariables false

section
variable {P : Program} {Q : Exit → Act → World → Prop} {ops : Array Oper} {rest : List Oper} {o : Oper} {a : Act} {w : World}
/-- A number stored into a cell of a block of any cells. -/
theorem arm_store_num (ty : TypeId) (x y : Operand) (ho : o.op = .store ty x y) (hgd : o.guard = none) (b off : Nat) (hx : a.eval x = .pointer (some ⟨b, off, none⟩)) (k : IntKind) (z : Int) (hy : a.eval y = .int k z)
    (hs : (P.info? ty).map (·.size) = some 1) (C : List Value) (e : TypeId) (hg : w.heap[b]? = some (.cells C.toArray e (0, 0))) (hlt : off < C.length)
    (h : ∀ w', Hid (w'.heap[b]? = some (.cells (C.set off (.int k z)).toArray e (0, 0))) → w.grownBy w' (some b) → wpList P ops Q rest (a.put o.dst undef) w') : wpList P ops Q (o :: rest) a w := by
  have hc : w.cell? ⟨b, off, none⟩ = some C[off] := by
    rw [cell_of_row w b off _ e (0, 0) hg, ← Array.getElem?_toList, List.getElem?_eq_getElem hlt]
  have hf : w.frozen? ⟨b, off, none⟩ = false := by
    unfold World.frozen?
    rw [hg]
    simp
  refine wpList_store_int hgd ty x y ho ⟨b, off, none⟩ (.int k z) hx hy ⟨_, _, rfl⟩ hs ⟨_, hc⟩ hf (h _ ?_ (grownBy_setC _ _ _))
  show _ = _
  rw [heap_setCell_same w b off _ e _ hg]
  congr 2
  apply Array.ext'
  simp
end
theorem nodeC_setls (x : NodeV) (k : Nat) (hk : k < 32) (u : UInt8) : (nodeC x).set (5 + k) (bv u) = nodeC { x with ls := setD x.ls k u } := by
  have h : ∀ (A B C : List Value), A.length = 5 → B.length = 32 → (A ++ (B ++ C)).set (5 + k) (bv u) = A ++ (B.set k (bv u) ++ C) := fun A B C hA hB => by
    rw [List.set_append_right _ _ (by omega), hA, List.set_append_left _ _ (by omega), show 5 + k - 5 = k by omega]
  unfold nodeC
  rw [h _ _ _ (by simp) (by simp [x.ls.2]), bvs_put]
  rfl
theorem nodeC_setrs (x : NodeV) (k : Nat) (hk : k < 32) (u : UInt8) : (nodeC x).set (37 + k) (bv u) = nodeC { x with rs := setD x.rs k u } := by
  have h : ∀ (A B C : List Value), A.length = 37 → B.length = 32 → (A ++ (B ++ C)).set (37 + k) (bv u) = A ++ (B.set k (bv u) ++ C) := fun A B C hA hB => by
    rw [List.set_append_right _ _ (by omega), hA, List.set_append_left _ _ (by omega), show 37 + k - 37 = k by omega]
  have e : ∀ y : D32, nodeC { x with rs := y } = ([.int .i64 x.kind, .int .i64 x.left, .int .i64 x.right, .int .i64 x.lc, .int .i64 x.rc] ++ bvs x.ls.1) ++ (bvs y.1 ++ (bvs x.key.1 ++ [x.val])) := fun y => by
    show _ ++ _ = _
    simp only [List.append_assoc]
    rfl
  have e0 : nodeC x = _ := e x.rs
  rw [e0, e, h _ _ _ (by simp [x.ls.2]) (by simp [x.rs.2]), bvs_put]
  rfl
/-- A branch as far as Decode has read it. -/
def brN (lp rp lc rc : Int) (ls rs : D32) : NodeV := ⟨2, lp, rp, lc, rc, ls, rs, zero32, none, 0, 0⟩
theorem right_brNode (l : List UInt8) : rightB (brNode l) = brStands (chL l) (chR l) := by
  have h1 : isLeafB (brNode l) = false := by
    cases h : isLeafB (brNode l)
    · rfl
    · have := leafB_kind h; cases this
  have h2 : isBrB (brNode l) = true := by
    unfold isBrB brNode
    rw [eqD_true rfl]
    simp
  unfold rightB
  rw [h1, h2]
  show (false || (true && brStands _ _)) = _
  rw [Bool.true_and, Bool.false_or]
  rfl

set_option maxRecDepth 100000 in
set_option maxHeartbeats 2000000 in
theorem rdec_one_short (ao : Option Addr) (n c : Nat) (w : World) (hn : n < 32) :
    Calls Tryd.prog 21 #[.int .i64 1, .slice ao n c] w fun e w' => e = .returned (.tuple #[.agg (nodeC noNode).toArray, .int .i64 90]) ∧ Below w.heap.size w w' := by
  have hi30 : ∀ x : NodeV, Box ((Tryd.prog.info? 30).map (·.size) = some (nodeC x).toArray.size) := nodeSize
  have hss : ∀ x y : NodeV, Box ((nodeC x).toArray.size = (nodeC y).toArray.size) := nodeSize2
  have hal : ∀ x : NodeV, Box ((nodeC x).toArray.all (·.oneCell') = true) := fun x => ⟨nodeC_all x⟩
  obtain ⟨zn, hzn⟩ : ∃ zn, (nodeC noNode).toArray = zn := ⟨_, rfl⟩
  have hz30 : ∀ W : World, (zeroValue 30).run Tryd.prog W = .ok (.agg zn) W := fun W => by rw [← hzn]; kernel_rfl
  have hb30 : Box (Tryd.prog.built 30 [] = some zn) := ⟨by rw [← hzn]; kernel_rfl⟩
  have hzs : ∀ x : NodeV, Box (zn.size = (nodeC x).toArray.size) := fun x => ⟨by rw [← hzn]; exact (hss _ _).out⟩
  have hiz : Box ((Tryd.prog.info? 30).map (·.size) = some zn.size) := ⟨by rw [← hzn]; exact (hi30 _).out⟩
  have haz : Box (zn.all (·.oneCell') = true) := ⟨by rw [← hzn]; exact (hal _).out⟩
  have HZN := Box.mk hzn
  clear hzn
  have hb1 : Box (Tryd.prog.built 30 [(0, .int .i64 1)] = some (nodeC ⟨1, 0, 0, 0, 0, zero32, zero32, zero32, none, 0, 0⟩).toArray) := ⟨by kernel_rfl⟩
  obtain ⟨n1, hn1⟩ : ∃ n1 : NodeV, n1 = ⟨1, 0, 0, 0, 0, zero32, zero32, zero32, none, 0, 0⟩ := ⟨_, rfl⟩
  rw [← hn1] at hb1
  have HN1 := Box.mk hn1
  clear hn1
  go_enter Tryd.func21, Tryd.ntmps21
  go_upto_region 1 with fail
  refine wp_anyWorld (fun W => Box (W.heap[w.heap.size]? = some (.cells zn 30 (0, 0))) ∧ Box (Below w.heap.size w W) ∧ Box (W.heap.size = w.heap.size + 1)) ⟨⟨heap_new rfl⟩, ⟨Below.refl_alloc w _⟩, ⟨by simp⟩⟩ ?_
  rintro W ⟨A0, B0, s0⟩
  obtain ⟨M, hM⟩ : ∃ M, W.heap.size = M := ⟨_, rfl⟩
  have HM := Box.mk (show M = w.heap.size + 1 by rw [← hM]; exact s0.out)
  have HM2 := Box.mk hM
  clear hM
  go_wp2_with (first
    | ((with_reducible refine arm_built 30 [(0, .tmp 11)] ?_ rfl [(0, .int .i64 1)] ?_ (nodeC n1).toArray hb1.out ?_); rfl; rfl)
    | ((with_reducible refine arm_store_row 30 (.tmp 6) (.tmp 12) ?_ rfl W.heap.size zn (nodeC n1).toArray 30 ?_ ?_ ?_ (hzs _).out (hi30 _).out (hal _).out ?_); rfl; rfl; rfl; exact heap_new rfl))
  intro w2 g2 G2
  have B2 := Box.mk ((B0.out.alloc B0.out.size (.cells zn 30)).grown G2 (B0.out.alloc B0.out.size _).size (fun k hk => by cases hk; have := s0.out; omega))
  have x2 := Box.mk (show w2.heap[M]? = some (.cells (nodeC n1).toArray 30 (0, 0)) by rw [← HM2.out]; exact g2.out)
  have q2 := Box.mk ((G2.block w.heap.size (by have := s0.out; simp; omega) (by have := s0.out; simp; omega)).trans (heap_old (o := .cells zn 30) A0.out))
  rw [HM2.out]
  clear g2 G2 A0 B0 s0 HM2
  have g1 : (n : Int) < 32 := by omega
  go_wp2_with (first
    | ((with_reducible refine arm_built 30 [] ?_ ?_ [] ?_ zn hb30.out ?_); rfl; rfl; rfl)
    | ((with_reducible refine arm_store_row 30 (.tmp 4) (.tmp 23) ?_ rfl w.heap.size zn zn 30 ?_ ?_ q2.out rfl hiz.out haz.out ?_); rfl; rfl; rfl))
  intro w8 g8 G8
  have b8 := Box.mk (B2.out.grown G8 B2.out.size (fun k hk => by cases hk; omega))
  go_wp2
  exact bodyPost_ret (v := .tuple #[.agg zn, .int .i64 90]) (results_row_tmp (p := 4) (u := 5) (ty := 30) rfl _ _ w.heap.size 30 _ (0, 0) _ rfl g8.out Tryd.underlying30 rfl hiz.out _ rfl) rfl ⟨by rw [HZN.out], b8.out⟩

set_option maxRecDepth 100000 in
set_option maxHeartbeats 2000000 in
theorem rdec_one_long (ao : Option Addr) (n c : Nat) (w : World) (hn : 160 < n) :
    Calls Tryd.prog 21 #[.int .i64 1, .slice ao n c] w fun e w' => e = .returned (.tuple #[.agg (nodeC noNode).toArray, .int .i64 90]) ∧ Below w.heap.size w w' := by
  have hi30 : ∀ x : NodeV, Box ((Tryd.prog.info? 30).map (·.size) = some (nodeC x).toArray.size) := nodeSize
  have hss : ∀ x y : NodeV, Box ((nodeC x).toArray.size = (nodeC y).toArray.size) := nodeSize2
  have hal : ∀ x : NodeV, Box ((nodeC x).toArray.all (·.oneCell') = true) := fun x => ⟨nodeC_all x⟩
  obtain ⟨zn, hzn⟩ : ∃ zn, (nodeC noNode).toArray = zn := ⟨_, rfl⟩
  have hz30 : ∀ W : World, (zeroValue 30).run Tryd.prog W = .ok (.agg zn) W := fun W => by rw [← hzn]; kernel_rfl
  have hb30 : Box (Tryd.prog.built 30 [] = some zn) := ⟨by rw [← hzn]; kernel_rfl⟩
  have hzs : ∀ x : NodeV, Box (zn.size = (nodeC x).toArray.size) := fun x => ⟨by rw [← hzn]; exact (hss _ _).out⟩
  have hiz : Box ((Tryd.prog.info? 30).map (·.size) = some zn.size) := ⟨by rw [← hzn]; exact (hi30 _).out⟩
  have haz : Box (zn.all (·.oneCell') = true) := ⟨by rw [← hzn]; exact (hal _).out⟩
  have HZN := Box.mk hzn
  clear hzn
  have hb1 : Box (Tryd.prog.built 30 [(0, .int .i64 1)] = some (nodeC ⟨1, 0, 0, 0, 0, zero32, zero32, zero32, none, 0, 0⟩).toArray) := ⟨by kernel_rfl⟩
  obtain ⟨n1, hn1⟩ : ∃ n1 : NodeV, n1 = ⟨1, 0, 0, 0, 0, zero32, zero32, zero32, none, 0, 0⟩ := ⟨_, rfl⟩
  rw [← hn1] at hb1
  have HN1 := Box.mk hn1
  clear hn1
  go_enter Tryd.func21, Tryd.ntmps21
  go_upto_region 1 with fail
  refine wp_anyWorld (fun W => Box (W.heap[w.heap.size]? = some (.cells zn 30 (0, 0))) ∧ Box (Below w.heap.size w W) ∧ Box (W.heap.size = w.heap.size + 1)) ⟨⟨heap_new rfl⟩, ⟨Below.refl_alloc w _⟩, ⟨by simp⟩⟩ ?_
  rintro W ⟨A0, B0, s0⟩
  obtain ⟨M, hM⟩ : ∃ M, W.heap.size = M := ⟨_, rfl⟩
  have HM := Box.mk (show M = w.heap.size + 1 by rw [← hM]; exact s0.out)
  have HM2 := Box.mk hM
  clear hM
  go_wp2_with (first
    | ((with_reducible refine arm_built 30 [(0, .tmp 11)] ?_ rfl [(0, .int .i64 1)] ?_ (nodeC n1).toArray hb1.out ?_); rfl; rfl)
    | ((with_reducible refine arm_store_row 30 (.tmp 6) (.tmp 12) ?_ rfl W.heap.size zn (nodeC n1).toArray 30 ?_ ?_ ?_ (hzs _).out (hi30 _).out (hal _).out ?_); rfl; rfl; rfl; exact heap_new rfl))
  intro w2 g2 G2
  have B2 := Box.mk ((B0.out.alloc B0.out.size (.cells zn 30)).grown G2 (B0.out.alloc B0.out.size _).size (fun k hk => by cases hk; have := s0.out; omega))
  have x2 := Box.mk (show w2.heap[M]? = some (.cells (nodeC n1).toArray 30 (0, 0)) by rw [← HM2.out]; exact g2.out)
  have q2 := Box.mk ((G2.block w.heap.size (by have := s0.out; simp; omega) (by have := s0.out; simp; omega)).trans (heap_old (o := .cells zn 30) A0.out))
  rw [HM2.out]
  clear g2 G2 A0 B0 s0 HM2
  have g1 : ¬ ((n : Int) < 32) := by omega
  have g2 : (160 : Int) < (n : Int) := by omega
  go_wp2_with (first
    | ((with_reducible refine arm_built 30 [] ?_ ?_ [] ?_ zn hb30.out ?_); rfl; rfl; rfl)
    | ((with_reducible refine arm_store_row 30 (.tmp 4) (.tmp 23) ?_ rfl w.heap.size zn zn 30 ?_ ?_ q2.out rfl hiz.out haz.out ?_); rfl; rfl; rfl))
  intro w8 g8 G8
  have b8 := Box.mk (B2.out.grown G8 B2.out.size (fun k hk => by cases hk; omega))
  go_wp2
  exact bodyPost_ret (v := .tuple #[.agg zn, .int .i64 90]) (results_row_tmp (p := 4) (u := 5) (ty := 30) rfl _ _ w.heap.size 30 _ (0, 0) _ rfl g8.out Tryd.underlying30 rfl hiz.out _ rfl) rfl ⟨by rw [HZN.out], b8.out⟩

set_option maxRecDepth 100000 in
set_option maxHeartbeats 2000000 in
theorem rdec_two_short (ao : Option Addr) (n c : Nat) (w : World) (hn : n < 80) :
    Calls Tryd.prog 21 #[.int .i64 2, .slice ao n c] w fun e w' => e = .returned (.tuple #[.agg (nodeC noNode).toArray, .int .i64 90]) ∧ Below w.heap.size w w' := by
  have hi30 : ∀ x : NodeV, Box ((Tryd.prog.info? 30).map (·.size) = some (nodeC x).toArray.size) := nodeSize
  have hss : ∀ x y : NodeV, Box ((nodeC x).toArray.size = (nodeC y).toArray.size) := nodeSize2
  have hal : ∀ x : NodeV, Box ((nodeC x).toArray.all (·.oneCell') = true) := fun x => ⟨nodeC_all x⟩
  obtain ⟨zn, hzn⟩ : ∃ zn, (nodeC noNode).toArray = zn := ⟨_, rfl⟩
  have hz30 : ∀ W : World, (zeroValue 30).run Tryd.prog W = .ok (.agg zn) W := fun W => by rw [← hzn]; kernel_rfl
  have hb30 : Box (Tryd.prog.built 30 [] = some zn) := ⟨by rw [← hzn]; kernel_rfl⟩
  have hzs : ∀ x : NodeV, Box (zn.size = (nodeC x).toArray.size) := fun x => ⟨by rw [← hzn]; exact (hss _ _).out⟩
  have hiz : Box ((Tryd.prog.info? 30).map (·.size) = some zn.size) := ⟨by rw [← hzn]; exact (hi30 _).out⟩
  have haz : Box (zn.all (·.oneCell') = true) := ⟨by rw [← hzn]; exact (hal _).out⟩
  have HZN := Box.mk hzn
  clear hzn
  have hb1 : Box (Tryd.prog.built 30 [(0, .int .i64 2)] = some (nodeC ⟨2, 0, 0, 0, 0, zero32, zero32, zero32, none, 0, 0⟩).toArray) := ⟨by kernel_rfl⟩
  obtain ⟨n1, hn1⟩ : ∃ n1 : NodeV, n1 = ⟨2, 0, 0, 0, 0, zero32, zero32, zero32, none, 0, 0⟩ := ⟨_, rfl⟩
  rw [← hn1] at hb1
  have HN1 := Box.mk hn1
  clear hn1
  go_enter Tryd.func21, Tryd.ntmps21
  go_upto_region 1 with fail
  refine wp_anyWorld (fun W => Box (W.heap[w.heap.size]? = some (.cells zn 30 (0, 0))) ∧ Box (Below w.heap.size w W) ∧ Box (W.heap.size = w.heap.size + 1)) ⟨⟨heap_new rfl⟩, ⟨Below.refl_alloc w _⟩, ⟨by simp⟩⟩ ?_
  rintro W ⟨A0, B0, s0⟩
  obtain ⟨M, hM⟩ : ∃ M, W.heap.size = M := ⟨_, rfl⟩
  have HM := Box.mk (show M = w.heap.size + 1 by rw [← hM]; exact s0.out)
  have HM2 := Box.mk hM
  clear hM
  go_wp2_with (first
    | ((with_reducible refine arm_built 30 [(0, .tmp 11)] ?_ rfl [(0, .int .i64 2)] ?_ (nodeC n1).toArray hb1.out ?_); rfl; rfl)
    | ((with_reducible refine arm_store_row 30 (.tmp 6) (.tmp 12) ?_ rfl W.heap.size zn (nodeC n1).toArray 30 ?_ ?_ ?_ (hzs _).out (hi30 _).out (hal _).out ?_); rfl; rfl; rfl; exact heap_new rfl))
  intro w2 g2 G2
  have B2 := Box.mk ((B0.out.alloc B0.out.size (.cells zn 30)).grown G2 (B0.out.alloc B0.out.size _).size (fun k hk => by cases hk; have := s0.out; omega))
  have x2 := Box.mk (show w2.heap[M]? = some (.cells (nodeC n1).toArray 30 (0, 0)) by rw [← HM2.out]; exact g2.out)
  have q2 := Box.mk ((G2.block w.heap.size (by have := s0.out; simp; omega) (by have := s0.out; simp; omega)).trans (heap_old (o := .cells zn 30) A0.out))
  rw [HM2.out]
  clear g2 G2 A0 B0 s0 HM2
  have g1 : ((n : Int) != 80) = true := by rw [bne_iff_ne]; omega
  go_wp2_with (first
    | ((with_reducible refine arm_built 30 [] ?_ ?_ [] ?_ zn hb30.out ?_); rfl; rfl; rfl)
    | ((with_reducible refine arm_store_row 30 (.tmp 4) (.tmp 58) ?_ rfl w.heap.size zn zn 30 ?_ ?_ q2.out rfl hiz.out haz.out ?_); rfl; rfl; rfl))
  intro w8 g8 G8
  have b8 := Box.mk (B2.out.grown G8 B2.out.size (fun k hk => by cases hk; omega))
  go_wp2
  exact bodyPost_ret (v := .tuple #[.agg zn, .int .i64 90]) (results_row_tmp (p := 4) (u := 5) (ty := 30) rfl _ _ w.heap.size 30 _ (0, 0) _ rfl g8.out Tryd.underlying30 rfl hiz.out _ rfl) rfl ⟨by rw [HZN.out], b8.out⟩

set_option maxRecDepth 100000 in
set_option maxHeartbeats 2000000 in
theorem rdec_two_long (ao : Option Addr) (n c : Nat) (w : World) (hn : 80 < n) :
    Calls Tryd.prog 21 #[.int .i64 2, .slice ao n c] w fun e w' => e = .returned (.tuple #[.agg (nodeC noNode).toArray, .int .i64 90]) ∧ Below w.heap.size w w' := by
  have hi30 : ∀ x : NodeV, Box ((Tryd.prog.info? 30).map (·.size) = some (nodeC x).toArray.size) := nodeSize
  have hss : ∀ x y : NodeV, Box ((nodeC x).toArray.size = (nodeC y).toArray.size) := nodeSize2
  have hal : ∀ x : NodeV, Box ((nodeC x).toArray.all (·.oneCell') = true) := fun x => ⟨nodeC_all x⟩
  obtain ⟨zn, hzn⟩ : ∃ zn, (nodeC noNode).toArray = zn := ⟨_, rfl⟩
  have hz30 : ∀ W : World, (zeroValue 30).run Tryd.prog W = .ok (.agg zn) W := fun W => by rw [← hzn]; kernel_rfl
  have hb30 : Box (Tryd.prog.built 30 [] = some zn) := ⟨by rw [← hzn]; kernel_rfl⟩
  have hzs : ∀ x : NodeV, Box (zn.size = (nodeC x).toArray.size) := fun x => ⟨by rw [← hzn]; exact (hss _ _).out⟩
  have hiz : Box ((Tryd.prog.info? 30).map (·.size) = some zn.size) := ⟨by rw [← hzn]; exact (hi30 _).out⟩
  have haz : Box (zn.all (·.oneCell') = true) := ⟨by rw [← hzn]; exact (hal _).out⟩
  have HZN := Box.mk hzn
  clear hzn
  have hb1 : Box (Tryd.prog.built 30 [(0, .int .i64 2)] = some (nodeC ⟨2, 0, 0, 0, 0, zero32, zero32, zero32, none, 0, 0⟩).toArray) := ⟨by kernel_rfl⟩
  obtain ⟨n1, hn1⟩ : ∃ n1 : NodeV, n1 = ⟨2, 0, 0, 0, 0, zero32, zero32, zero32, none, 0, 0⟩ := ⟨_, rfl⟩
  rw [← hn1] at hb1
  have HN1 := Box.mk hn1
  clear hn1
  go_enter Tryd.func21, Tryd.ntmps21
  go_upto_region 1 with fail
  refine wp_anyWorld (fun W => Box (W.heap[w.heap.size]? = some (.cells zn 30 (0, 0))) ∧ Box (Below w.heap.size w W) ∧ Box (W.heap.size = w.heap.size + 1)) ⟨⟨heap_new rfl⟩, ⟨Below.refl_alloc w _⟩, ⟨by simp⟩⟩ ?_
  rintro W ⟨A0, B0, s0⟩
  obtain ⟨M, hM⟩ : ∃ M, W.heap.size = M := ⟨_, rfl⟩
  have HM := Box.mk (show M = w.heap.size + 1 by rw [← hM]; exact s0.out)
  have HM2 := Box.mk hM
  clear hM
  go_wp2_with (first
    | ((with_reducible refine arm_built 30 [(0, .tmp 11)] ?_ rfl [(0, .int .i64 2)] ?_ (nodeC n1).toArray hb1.out ?_); rfl; rfl)
    | ((with_reducible refine arm_store_row 30 (.tmp 6) (.tmp 12) ?_ rfl W.heap.size zn (nodeC n1).toArray 30 ?_ ?_ ?_ (hzs _).out (hi30 _).out (hal _).out ?_); rfl; rfl; rfl; exact heap_new rfl))
  intro w2 g2 G2
  have B2 := Box.mk ((B0.out.alloc B0.out.size (.cells zn 30)).grown G2 (B0.out.alloc B0.out.size _).size (fun k hk => by cases hk; have := s0.out; omega))
  have x2 := Box.mk (show w2.heap[M]? = some (.cells (nodeC n1).toArray 30 (0, 0)) by rw [← HM2.out]; exact g2.out)
  have q2 := Box.mk ((G2.block w.heap.size (by have := s0.out; simp; omega) (by have := s0.out; simp; omega)).trans (heap_old (o := .cells zn 30) A0.out))
  rw [HM2.out]
  clear g2 G2 A0 B0 s0 HM2
  have g1 : ((n : Int) != 80) = true := by rw [bne_iff_ne]; omega
  go_wp2_with (first
    | ((with_reducible refine arm_built 30 [] ?_ ?_ [] ?_ zn hb30.out ?_); rfl; rfl; rfl)
    | ((with_reducible refine arm_store_row 30 (.tmp 4) (.tmp 58) ?_ rfl w.heap.size zn zn 30 ?_ ?_ q2.out rfl hiz.out haz.out ?_); rfl; rfl; rfl))
  intro w8 g8 G8
  have b8 := Box.mk (B2.out.grown G8 B2.out.size (fun k hk => by cases hk; omega))
  go_wp2
  exact bodyPost_ret (v := .tuple #[.agg zn, .int .i64 90]) (results_row_tmp (p := 4) (u := 5) (ty := 30) rfl _ _ w.heap.size 30 _ (0, 0) _ rfl g8.out Tryd.underlying30 rfl hiz.out _ rfl) rfl ⟨by rw [HZN.out], b8.out⟩

set_option maxRecDepth 100000 in
set_option maxHeartbeats 2000000 in
theorem rdec_other (kind : Int) (ao : Option Addr) (n c : Nat) (w : World) (h1 : (kind == 1) = false) (h2 : (kind != 2) = true) :
    Calls Tryd.prog 21 #[.int .i64 kind, .slice ao n c] w fun e w' => e = .returned (.tuple #[.agg (nodeC noNode).toArray, .int .i64 90]) ∧ Below w.heap.size w w' := by
  have hi30 : ∀ x : NodeV, Box ((Tryd.prog.info? 30).map (·.size) = some (nodeC x).toArray.size) := nodeSize
  have hss : ∀ x y : NodeV, Box ((nodeC x).toArray.size = (nodeC y).toArray.size) := nodeSize2
  have hal : ∀ x : NodeV, Box ((nodeC x).toArray.all (·.oneCell') = true) := fun x => ⟨nodeC_all x⟩
  obtain ⟨zn, hzn⟩ : ∃ zn, (nodeC noNode).toArray = zn := ⟨_, rfl⟩
  have hz30 : ∀ W : World, (zeroValue 30).run Tryd.prog W = .ok (.agg zn) W := fun W => by rw [← hzn]; kernel_rfl
  have hb30 : Box (Tryd.prog.built 30 [] = some zn) := ⟨by rw [← hzn]; kernel_rfl⟩
  have hzs : ∀ x : NodeV, Box (zn.size = (nodeC x).toArray.size) := fun x => ⟨by rw [← hzn]; exact (hss _ _).out⟩
  have hiz : Box ((Tryd.prog.info? 30).map (·.size) = some zn.size) := ⟨by rw [← hzn]; exact (hi30 _).out⟩
  have haz : Box (zn.all (·.oneCell') = true) := ⟨by rw [← hzn]; exact (hal _).out⟩
  have HZN := Box.mk hzn
  clear hzn
  have hb1 : Box (Tryd.prog.built 30 [(0, .int .i64 kind)] = some (nodeC ⟨kind, 0, 0, 0, 0, zero32, zero32, zero32, none, 0, 0⟩).toArray) := ⟨by kernel_rfl⟩
  obtain ⟨n1, hn1⟩ : ∃ n1 : NodeV, n1 = ⟨kind, 0, 0, 0, 0, zero32, zero32, zero32, none, 0, 0⟩ := ⟨_, rfl⟩
  rw [← hn1] at hb1
  have HN1 := Box.mk hn1
  clear hn1
  go_enter Tryd.func21, Tryd.ntmps21
  go_upto_region 1 with fail
  refine wp_anyWorld (fun W => Box (W.heap[w.heap.size]? = some (.cells zn 30 (0, 0))) ∧ Box (Below w.heap.size w W) ∧ Box (W.heap.size = w.heap.size + 1)) ⟨⟨heap_new rfl⟩, ⟨Below.refl_alloc w _⟩, ⟨by simp⟩⟩ ?_
  rintro W ⟨A0, B0, s0⟩
  obtain ⟨M, hM⟩ : ∃ M, W.heap.size = M := ⟨_, rfl⟩
  have HM := Box.mk (show M = w.heap.size + 1 by rw [← hM]; exact s0.out)
  have HM2 := Box.mk hM
  clear hM
  go_wp2_with (first
    | ((with_reducible refine arm_built 30 [(0, .tmp 11)] ?_ rfl [(0, .int .i64 kind)] ?_ (nodeC n1).toArray hb1.out ?_); rfl; rfl)
    | ((with_reducible refine arm_store_row 30 (.tmp 6) (.tmp 12) ?_ rfl W.heap.size zn (nodeC n1).toArray 30 ?_ ?_ ?_ (hzs _).out (hi30 _).out (hal _).out ?_); rfl; rfl; rfl; exact heap_new rfl))
  intro w2 g2 G2
  have B2 := Box.mk ((B0.out.alloc B0.out.size (.cells zn 30)).grown G2 (B0.out.alloc B0.out.size _).size (fun k hk => by cases hk; have := s0.out; omega))
  have x2 := Box.mk (show w2.heap[M]? = some (.cells (nodeC n1).toArray 30 (0, 0)) by rw [← HM2.out]; exact g2.out)
  have q2 := Box.mk ((G2.block w.heap.size (by have := s0.out; simp; omega) (by have := s0.out; simp; omega)).trans (heap_old (o := .cells zn 30) A0.out))
  rw [HM2.out]
  clear g2 G2 A0 B0 s0 HM2
  go_wp2_with (first
    | ((with_reducible refine arm_built 30 [] ?_ ?_ [] ?_ zn hb30.out ?_); rfl; rfl; rfl)
    | ((with_reducible refine arm_store_row 30 (.tmp 4) (.tmp 58) ?_ rfl w.heap.size zn zn 30 ?_ ?_ q2.out rfl hiz.out haz.out ?_); rfl; rfl; rfl))
  intro w8 g8 G8
  have b8 := Box.mk (B2.out.grown G8 B2.out.size (fun k hk => by cases hk; omega))
  go_wp2
  exact bodyPost_ret (v := .tuple #[.agg zn, .int .i64 90]) (results_row_tmp (p := 4) (u := 5) (ty := 30) rfl _ _ w.heap.size 30 _ (0, 0) _ rfl g8.out Tryd.underlying30 rfl hiz.out _ rfl) rfl ⟨by rw [HZN.out], b8.out⟩

set_option maxRecDepth 100000 in
set_option maxHeartbeats 8000000 in
theorem rdec_branch (b o c : Nat) (l : List UInt8) (w : World) (h0 : Row w (some ⟨b, o, none⟩) 80 l) :
    Calls Tryd.prog 21 #[.int .i64 2, .slice (some ⟨b, o, none⟩) 80 c] w fun e w' =>
      (if brStands (chL l) (chR l) = true then e = .returned (.tuple #[.agg (nodeC (brNode l)).toArray, .int .i64 0])
        else e = .returned (.tuple #[.agg (nodeC noNode).toArray, .int .i64 90])) ∧ Below w.heap.size w w' := by
  have hi30 : ∀ x : NodeV, Box ((Tryd.prog.info? 30).map (·.size) = some (nodeC x).toArray.size) := nodeSize
  have hss : ∀ x y : NodeV, Box ((nodeC x).toArray.size = (nodeC y).toArray.size) := nodeSize2
  have hal : ∀ x : NodeV, Box ((nodeC x).toArray.all (·.oneCell') = true) := fun x => ⟨nodeC_all x⟩
  obtain ⟨zn, hzn⟩ : ∃ zn, (nodeC noNode).toArray = zn := ⟨_, rfl⟩
  have hz30 : ∀ W : World, (zeroValue 30).run Tryd.prog W = .ok (.agg zn) W := fun W => by rw [← hzn]; kernel_rfl
  have hb30 : Box (Tryd.prog.built 30 [] = some zn) := ⟨by rw [← hzn]; kernel_rfl⟩
  have hzs : ∀ x : NodeV, Box (zn.size = (nodeC x).toArray.size) := fun x => ⟨by rw [← hzn]; exact (hss _ _).out⟩
  have hiz : Box ((Tryd.prog.info? 30).map (·.size) = some zn.size) := ⟨by rw [← hzn]; exact (hi30 _).out⟩
  have haz : Box (zn.all (·.oneCell') = true) := ⟨by rw [← hzn]; exact (hal _).out⟩
  have HZN := Box.mk hzn
  have hi3 : Box ((Tryd.prog.info? 3).map (·.size) = some 1) := ⟨by kernel_rfl⟩
  have hi5 : Box ((Tryd.prog.info? 5).map (·.size) = some 1) := ⟨by kernel_rfl⟩
  have hR := Box.mk h0
  have hl := Box.mk h0.1
  have hrt := Box.mk (fun W => rright_any (brNode l) W)
  rw [right_brNode] at hrt
  obtain ⟨st, hst⟩ : ∃ st, brStands (chL l) (chR l) = st := ⟨_, rfl⟩
  rw [hst] at hrt ⊢
  have hfin := Box.mk (show brNode l = brN (dec4 l) (dec4 (l.drop 4)) (dec4 (l.drop 8)) (dec4 (l.drop 12)) (keyN (l.drop 16) 32) (keyN (l.drop 48) 32) by
    rw [keyN_full _ (by rw [List.length_drop]; have := hl.out; omega), keyN_full _ (by rw [List.length_drop]; have := hl.out; omega)]
    rfl)
  have hd0 := Box.mk (show dec4 l = dec4 (l.drop 0) by rw [List.drop_zero])
  clear h0 hzn hst
  have hb1 : Box (Tryd.prog.built 30 [(0, .int .i64 2)] = some (nodeC ⟨2, 0, 0, 0, 0, zero32, zero32, zero32, none, 0, 0⟩).toArray) := ⟨by kernel_rfl⟩
  obtain ⟨n1, hn1⟩ : ∃ n1 : NodeV, n1 = ⟨2, 0, 0, 0, 0, zero32, zero32, zero32, none, 0, 0⟩ := ⟨_, rfl⟩
  rw [← hn1] at hb1
  have HN1 := Box.mk hn1
  clear hn1
  go_enter Tryd.func21, Tryd.ntmps21
  go_upto_region 1 with fail
  refine wp_anyWorld (fun W => Box (W.heap[w.heap.size]? = some (.cells zn 30 (0, 0))) ∧ Box (Below w.heap.size w W) ∧ Box (W.heap.size = w.heap.size + 1)) ⟨⟨heap_new rfl⟩, ⟨Below.refl_alloc w _⟩, ⟨by simp⟩⟩ ?_
  rintro W ⟨A0, B0, s0⟩
  obtain ⟨M, hM⟩ : ∃ M, W.heap.size = M := ⟨_, rfl⟩
  have HM := Box.mk (show M = w.heap.size + 1 by rw [← hM]; exact s0.out)
  have HM2 := Box.mk hM
  clear hM
  go_wp2_with (first
    | ((with_reducible refine arm_built 30 [(0, .tmp 11)] ?_ rfl [(0, .int .i64 2)] ?_ (nodeC n1).toArray hb1.out ?_); rfl; rfl)
    | ((with_reducible refine arm_store_row 30 (.tmp 6) (.tmp 12) ?_ rfl W.heap.size zn (nodeC n1).toArray 30 ?_ ?_ ?_ (hzs _).out (hi30 _).out (hal _).out ?_); rfl; rfl; rfl; exact heap_new rfl))
  intro w2 g2 G2
  have B2 := Box.mk ((B0.out.alloc B0.out.size (.cells zn 30)).grown G2 (B0.out.alloc B0.out.size _).size (fun k hk => by cases hk; have := s0.out; omega))
  have x2 := Box.mk (show w2.heap[M]? = some (.cells (nodeC n1).toArray 30 (0, 0)) by rw [← HM2.out]; exact g2.out)
  have q2 := Box.mk ((G2.block w.heap.size (by have := s0.out; simp; omega) (by have := s0.out; simp; omega)).trans (heap_old (o := .cells zn 30) A0.out))
  rw [HM2.out]
  clear g2 G2 A0 B0 s0 HM2
  have HX := Box.mk (show n1 = brN 0 0 0 0 zero32 zero32 from HN1.out)
  rw [HX.out] at x2
  have hne : ((80 : Int) != 80) = false := rfl
  have hnum := Box.mk (rnumber_any 0 0 rfl b o 80 c l w2 (hR.out.old B2.out) (by omega) (by omega))
  go_wp2_with (go_at_call 41; refine (calls_box hnum.out).mono ?_)
  rintro e w3 ⟨⟨rfl, hB⟩⟩
  have x3 := Box.mk ((hB.block _ (heap_lt x2.out)).trans x2.out)
  have q3 := Box.mk ((hB.block _ (heap_lt q2.out)).trans q2.out)
  have b3 := Box.mk (B2.out.trans (hB.mono B2.out.size))
  clear hB hnum x2 q2 B2 hne
  have hl3 := Box.mk (show 1 < (nodeC (brN 0 0 0 0 zero32 zero32)).length by rw [length_nodeC]; omega)
  go_wp2_with ((with_reducible refine arm_store_num 3 (.tmp 61) (.tmp 60) ?_ rfl M 1 ?_ .i64 (dec4 (l.drop 0)) ?_ hi3.out (nodeC (brN 0 0 0 0 zero32 zero32)) 30 x3.out hl3.out ?_); rfl; rfl; rfl)
  intro w4 g G
  have y3 := Box.mk (show w4.heap[M]? = some (.cells (nodeC (brN (dec4 (l.drop 0)) 0 0 0 zero32 zero32)).toArray 30 (0, 0)) from g.out)
  have r3 := Box.mk ((G.block _ (heap_lt q3.out) (by have := HM.out; simp; omega)).trans q3.out)
  have d3 := Box.mk (b3.out.grown G b3.out.size (fun k hk => by cases hk; have := HM.out; omega))
  clear g G x3 q3 b3 hl3
  have hnum := Box.mk (rnumber_any 4 4 rfl b o 80 c l w4 (hR.out.old d3.out) (by omega) (by omega))
  go_wp2_with (go_at_call 41; refine (calls_box hnum.out).mono ?_)
  rintro e w5 ⟨⟨rfl, hB⟩⟩
  have x4 := Box.mk ((hB.block _ (heap_lt y3.out)).trans y3.out)
  have q4 := Box.mk ((hB.block _ (heap_lt r3.out)).trans r3.out)
  have b4 := Box.mk (d3.out.trans (hB.mono d3.out.size))
  clear hB hnum y3 r3 d3
  have hl4 := Box.mk (show 2 < (nodeC (brN (dec4 (l.drop 0)) 0 0 0 zero32 zero32)).length by rw [length_nodeC]; omega)
  go_wp2_with ((with_reducible refine arm_store_num 3 (.tmp 64) (.tmp 63) ?_ rfl M 2 ?_ .i64 (dec4 (l.drop 4)) ?_ hi3.out (nodeC (brN (dec4 (l.drop 0)) 0 0 0 zero32 zero32)) 30 x4.out hl4.out ?_); rfl; rfl; rfl)
  intro w6 g G
  have y4 := Box.mk (show w6.heap[M]? = some (.cells (nodeC (brN (dec4 (l.drop 0)) (dec4 (l.drop 4)) 0 0 zero32 zero32)).toArray 30 (0, 0)) from g.out)
  have r4 := Box.mk ((G.block _ (heap_lt q4.out) (by have := HM.out; simp; omega)).trans q4.out)
  have d4 := Box.mk (b4.out.grown G b4.out.size (fun k hk => by cases hk; have := HM.out; omega))
  clear g G x4 q4 b4 hl4
  have hnum := Box.mk (rnumber_any 8 8 rfl b o 80 c l w6 (hR.out.old d4.out) (by omega) (by omega))
  go_wp2_with (go_at_call 41; refine (calls_box hnum.out).mono ?_)
  rintro e w7 ⟨⟨rfl, hB⟩⟩
  have x5 := Box.mk ((hB.block _ (heap_lt y4.out)).trans y4.out)
  have q5 := Box.mk ((hB.block _ (heap_lt r4.out)).trans r4.out)
  have b5 := Box.mk (d4.out.trans (hB.mono d4.out.size))
  clear hB hnum y4 r4 d4
  have hl5 := Box.mk (show 3 < (nodeC (brN (dec4 (l.drop 0)) (dec4 (l.drop 4)) 0 0 zero32 zero32)).length by rw [length_nodeC]; omega)
  go_wp2_with ((with_reducible refine arm_store_num 3 (.tmp 67) (.tmp 66) ?_ rfl M 3 ?_ .i64 (dec4 (l.drop 8)) ?_ hi3.out (nodeC (brN (dec4 (l.drop 0)) (dec4 (l.drop 4)) 0 0 zero32 zero32)) 30 x5.out hl5.out ?_); rfl; rfl; rfl)
  intro w8 g G
  have y5 := Box.mk (show w8.heap[M]? = some (.cells (nodeC (brN (dec4 (l.drop 0)) (dec4 (l.drop 4)) (dec4 (l.drop 8)) 0 zero32 zero32)).toArray 30 (0, 0)) from g.out)
  have r5 := Box.mk ((G.block _ (heap_lt q5.out) (by have := HM.out; simp; omega)).trans q5.out)
  have d5 := Box.mk (b5.out.grown G b5.out.size (fun k hk => by cases hk; have := HM.out; omega))
  clear g G x5 q5 b5 hl5
  have hnum := Box.mk (rnumber_any 12 12 rfl b o 80 c l w8 (hR.out.old d5.out) (by omega) (by omega))
  go_wp2_with (go_at_call 41; refine (calls_box hnum.out).mono ?_)
  rintro e w9 ⟨⟨rfl, hB⟩⟩
  have x6 := Box.mk ((hB.block _ (heap_lt y5.out)).trans y5.out)
  have q6 := Box.mk ((hB.block _ (heap_lt r5.out)).trans r5.out)
  have b6 := Box.mk (d5.out.trans (hB.mono d5.out.size))
  clear hB hnum y5 r5 d5
  have hl6 := Box.mk (show 4 < (nodeC (brN (dec4 (l.drop 0)) (dec4 (l.drop 4)) (dec4 (l.drop 8)) 0 zero32 zero32)).length by rw [length_nodeC]; omega)
  go_wp2_with ((with_reducible refine arm_store_num 3 (.tmp 70) (.tmp 69) ?_ rfl M 4 ?_ .i64 (dec4 (l.drop 12)) ?_ hi3.out (nodeC (brN (dec4 (l.drop 0)) (dec4 (l.drop 4)) (dec4 (l.drop 8)) 0 zero32 zero32)) 30 x6.out hl6.out ?_); rfl; rfl; rfl)
  intro w10 g G
  have y6 := Box.mk (show w10.heap[M]? = some (.cells (nodeC (brN (dec4 (l.drop 0)) (dec4 (l.drop 4)) (dec4 (l.drop 8)) (dec4 (l.drop 12)) zero32 zero32)).toArray 30 (0, 0)) from g.out)
  have r6 := Box.mk ((G.block _ (heap_lt q6.out) (by have := HM.out; simp; omega)).trans q6.out)
  have d6 := Box.mk (b6.out.grown G b6.out.size (fun k hk => by cases hk; have := HM.out; omega))
  clear g G x6 q6 b6 hl6
  have z0 := Box.mk (show w10.heap[M]? = some (.cells (nodeC (brN (dec4 (l.drop 0)) (dec4 (l.drop 4)) (dec4 (l.drop 8)) (dec4 (l.drop 12)) (keyN (l.drop 16) 0) (keyN (l.drop 48) 0))).toArray 30 (0, 0)) by rw [keyN_zero, keyN_zero]; exact y6.out)
  clear y6
  go_wp2
  go_loopw [9] (fun i wr => ∃ k : Nat, k ≤ 32 ∧ i = .int .i64 k ∧ Box (wr.heap[M]? = some (.cells (nodeC (brN (dec4 (l.drop 0)) (dec4 (l.drop 4)) (dec4 (l.drop 8)) (dec4 (l.drop 12)) (keyN (l.drop 16) k) (keyN (l.drop 48) k))).toArray 30 (0, 0))) ∧ Box (wr.heap[w.heap.size]? = some (.cells zn 30 (0, 0))) ∧ Box (Below w.heap.size w wr)) (fun i _ => 32 - (intOf i).toNat)
  case atStart => exact ⟨0, Nat.zero_le _, rfl, z0, r6, d6⟩
  clear z0 r6 d6
  case round =>
    obtain ⟨k, hk, rfl, xr, qr, br⟩ := hrel
    by_cases hlt : k < 32
    · have hk1 : 16 + k < l.length := by rw [hl.out]; omega
      have hk2 : 48 + k < l.length := by rw [hl.out]; omega
      have e1 : wr.cell? ⟨b, o + (16 + k), none⟩ = some (.int .u8 (l[16 + k]'hk1).toNat) := (hR.out.old br.out).cell (16 + k) hk1
      have E2 := Box.mk (hR.out.cell (48 + k) hk2)
      have s1 := Box.mk (show setD (keyN (l.drop 16) k) k (l[16 + k]'hk1) = keyN (l.drop 16) (k + 1) by
        rw [← keyN_succ (l.drop 16) k hlt (by rw [List.length_drop]; omega), List.getElem_drop])
      have s2 := Box.mk (show setD (keyN (l.drop 48) k) k (l[48 + k]'hk2) = keyN (l.drop 48) (k + 1) by
        rw [← keyN_succ (l.drop 48) k hlt (by rw [List.length_drop]; omega), List.getElem_drop])
      obtain ⟨u, hu⟩ : ∃ u, l[16 + k]'hk1 = u := ⟨_, rfl⟩
      obtain ⟨v, hv⟩ : ∃ v, l[48 + k]'hk2 = v := ⟨_, rfl⟩
      rw [hu] at e1 s1
      rw [hv] at E2 s2
      have p1 := Box.mk (show (nodeC (brN (dec4 (l.drop 0)) (dec4 (l.drop 4)) (dec4 (l.drop 8)) (dec4 (l.drop 12)) (keyN (l.drop 16) k) (keyN (l.drop 48) k))).set (5 + k) (bv u) = nodeC (brN (dec4 (l.drop 0)) (dec4 (l.drop 4)) (dec4 (l.drop 8)) (dec4 (l.drop 12)) (keyN (l.drop 16) (k + 1)) (keyN (l.drop 48) k)) by rw [nodeC_setls _ k hlt u, ← s1.out]; rfl)
      have p2 := Box.mk (show (nodeC (brN (dec4 (l.drop 0)) (dec4 (l.drop 4)) (dec4 (l.drop 8)) (dec4 (l.drop 12)) (keyN (l.drop 16) (k + 1)) (keyN (l.drop 48) k))).set (37 + k) (bv v) = nodeC (brN (dec4 (l.drop 0)) (dec4 (l.drop 4)) (dec4 (l.drop 8)) (dec4 (l.drop 12)) (keyN (l.drop 16) (k + 1)) (keyN (l.drop 48) (k + 1))) by rw [nodeC_setrs _ k hlt v, ← s2.out]; rfl)
      have hq1 := Box.mk (show 5 + k < (nodeC (brN (dec4 (l.drop 0)) (dec4 (l.drop 4)) (dec4 (l.drop 8)) (dec4 (l.drop 12)) (keyN (l.drop 16) k) (keyN (l.drop 48) k))).length by rw [length_nodeC]; omega)
      have hq2 := Box.mk (show 37 + k < (nodeC (brN (dec4 (l.drop 0)) (dec4 (l.drop 4)) (dec4 (l.drop 8)) (dec4 (l.drop 12)) (keyN (l.drop 16) (k + 1)) (keyN (l.drop 48) k))).length by rw [length_nodeC]; omega)
      clear hu hv hk1 hk2 s1 s2
      generalize nodeC (brN (dec4 (l.drop 0)) (dec4 (l.drop 4)) (dec4 (l.drop 8)) (dec4 (l.drop 12)) (keyN (l.drop 16) k) (keyN (l.drop 48) k)) = c0 at *
      generalize nodeC (brN (dec4 (l.drop 0)) (dec4 (l.drop 4)) (dec4 (l.drop 8)) (dec4 (l.drop 12)) (keyN (l.drop 16) (k + 1)) (keyN (l.drop 48) k)) = c1 at *
      have k0 : (0 : Int) ≤ (k : Int) := by omega
      have k1 : (k : Int) < 32 := by omega
      have n1' : (0 : Int) ≤ 16 + (k : Int) := by omega
      have n2' : 16 + (k : Int) < 80 := by omega
      have n3' : (16 + (k : Int)).toNat = 16 + k := by omega
      have n4' := IntWalk.i64_in (16 + (k : Int)) (by omega)
      go_wp2_with ((with_reducible refine arm_store_cell 5 (.tmp 82) (.tmp 80) ?_ ?_ M (5 + k) ?_ u ?_ hi5.out c0 30 xr.out hq1.out ?_); rfl; rfl; rfl; rfl)
      intro w3b g3 G3
      have x3 := Box.mk (show w3b.heap[M]? = some (.cells c1.toArray 30 (0, 0)) by rw [← p1.out]; exact g3.out)
      have q3 := Box.mk ((G3.block _ (heap_lt qr.out) (by have := HM.out; simp; omega)).trans qr.out)
      have b3 := Box.mk (br.out.grown G3 br.out.size (fun k hk => by cases hk; have := HM.out; omega))
      have e2 : w3b.cell? ⟨b, o + (48 + k), none⟩ = some (.int .u8 v.toNat) := (b3.out.cell (p := ⟨b, o + (48 + k), none⟩) (hR.out.lt (by omega))).trans E2.out
      clear g3 G3 xr qr br e1 n1' n2' n3' n4'
      have n1' : (0 : Int) ≤ 48 + (k : Int) := by omega
      have n2' : 48 + (k : Int) < 80 := by omega
      have n3' : (48 + (k : Int)).toNat = 48 + k := by omega
      have n4' := IntWalk.i64_in (48 + (k : Int)) (by omega)
      go_wp2_with ((with_reducible refine arm_store_cell 5 (.tmp 90) (.tmp 88) ?_ ?_ M (37 + k) ?_ v ?_ hi5.out c1 30 x3.out hq2.out ?_); rfl; rfl; rfl; rfl)
      intro w4b g4 G4
      have x4 := Box.mk (show w4b.heap[M]? = some (.cells (nodeC (brN (dec4 (l.drop 0)) (dec4 (l.drop 4)) (dec4 (l.drop 8)) (dec4 (l.drop 12)) (keyN (l.drop 16) (k + 1)) (keyN (l.drop 48) (k + 1)))).toArray 30 (0, 0)) by rw [← p2.out]; exact g4.out)
      have q4 := Box.mk ((G4.block _ (heap_lt q3.out) (by have := HM.out; simp; omega)).trans q3.out)
      have b4 := Box.mk (b3.out.grown G4 b3.out.size (fun k hk => by cases hk; have := HM.out; omega))
      clear g4 G4 x3 q3 b3 e2 n1' n2' n3' n4'
      go_wp2
      go_roundw
      case rel => exact ⟨k + 1, by omega, by go_num, x4, q4, b4⟩
      case measure => simp [intOf]; omega
    · obtain rfl : k = 32 := by omega
      rw [show ((32 : Nat) : Int) = 32 from rfl]
      rw [← hd0.out, ← hfin.out] at xr
      have I5 := hi30 (brNode l)
      have A5 := hal (brNode l)
      have Z5 := hzs (brNode l)
      obtain ⟨cz, hcz⟩ : ∃ cz, (nodeC (brNode l)).toArray = cz := ⟨_, rfl⟩
      rw [hcz] at xr I5 A5 Z5 hrt
      have HCZ := Box.mk hcz
      clear hd0 hfin hcz
      go_wp2_with (first
        | ((with_reducible refine arm_row 30 (.tmp 6) ?_ rfl M ?_ 30 cz (0, 0) _ xr.out Tryd.underlying30 rfl I5.out ?_); rfl; rfl)
        | (go_at_call 37; refine (calls_box (hrt.out _)).mono ?_))
      rintro e w5 ⟨⟨rfl, hB⟩⟩
      have x5 := Box.mk ((hB.block _ (heap_lt xr.out)).trans xr.out)
      have q5 := Box.mk ((hB.block _ (heap_lt qr.out)).trans qr.out)
      have b5 := Box.mk (br.out.trans (hB.mono br.out.size))
      clear hB xr qr br hrt
      cases st
      · skip
        go_wp2_with (first
          | ((with_reducible refine arm_built 30 [] ?_ ?_ [] ?_ zn hb30.out ?_); rfl; rfl; rfl)
          | ((with_reducible refine arm_store_row 30 (.tmp 4) (.tmp 95) ?_ rfl w.heap.size zn zn 30 ?_ ?_ q5.out rfl hiz.out haz.out ?_); rfl; rfl; rfl))
        intro w8 g8 G8
        have b8 := Box.mk (b5.out.grown G8 b5.out.size (fun k hk => by cases hk; omega))
        go_wp2
        exact bodyPost_ret (v := .tuple #[.agg zn, .int .i64 90]) (results_row_tmp (p := 4) (u := 5) (ty := 30) rfl _ _ w.heap.size 30 _ (0, 0) _ rfl g8.out Tryd.underlying30 rfl hiz.out _ rfl) rfl ⟨by rw [HZN.out], b8.out⟩
      · skip
        go_wp2_with (first
          | ((with_reducible refine arm_row 30 (.tmp 6) ?_ rfl M ?_ 30 cz (0, 0) _ x5.out Tryd.underlying30 rfl I5.out ?_); rfl; rfl)
          | ((with_reducible refine arm_store_row 30 (.tmp 4) (.tmp 96) ?_ rfl w.heap.size zn cz 30 ?_ ?_ q5.out Z5.out I5.out A5.out ?_); rfl; rfl; rfl))
        intro w8 g8 G8
        have b8 := Box.mk (b5.out.grown G8 b5.out.size (fun k hk => by cases hk; omega))
        go_wp2
        exact bodyPost_ret (v := .tuple #[.agg cz, .int .i64 0]) (results_row_tmp (p := 4) (u := 5) (ty := 30) rfl _ _ w.heap.size 30 _ (0, 0) _ rfl g8.out Tryd.underlying30 rfl I5.out _ rfl) rfl ⟨by rw [HCZ.out], b8.out⟩
end Go.Proofs.YteiepenanffhcaaDoor

/- Are two nodes the same: the walk of the law's own sameNode. -/
namespace Go.Proofs.YteiepenanffhcaaDoor
open Go Go.RowKit
set_option linter.unusedVariables false

/-- The five numbers are the same. -/
def eqInts (x y : NodeV) : Bool := (x.kind == y.kind) && (x.left == y.left) && (x.right == y.right) && (x.lc == y.lc) && (x.rc == y.rc)
/-- Are two nodes the same? -/
def eqNode (x y : NodeV) (lx ly : List UInt8) : Bool := eqInts x y && eqD x.ls y.ls && eqD x.rs y.rs && eqD x.key y.key && eqB lx ly
set_option maxRecDepth 100000 in
set_option maxHeartbeats 4000000 in
theorem sameNode_any (x y : NodeV) (lx ly : List UInt8) (w : World) (hx : Row w x.ao x.n lx) (hy : Row w y.ao y.n ly) (mx : x.n ≤ maxLen) (my : y.n ≤ maxLen) :
    Calls Tryd.prog 22 #[.agg (nodeC x).toArray, .agg (nodeC y).toArray] w fun e w' => e = .returned (.bool (eqNode x y lx ly)) ∧ Below w.heap.size w w' := by
  have UD : Tryd.prog.underlying 27 = some (.array 32 5) := Tryd.underlying27
  have UK : Tryd.prog.underlying 26 = some (.array 32 5) := Tryd.underlying26
  have hiD : Hid ((Tryd.prog.info? 27).map (·.size) = some 32) := by unfold Hid; kernel_rfl
  have hiK : Hid ((Tryd.prog.info? 26).map (·.size) = some 32) := by unfold Hid; kernel_rfl
  have hgD : Tryd.prog.eqGuardType Tryd.prog.depth 27 = false := by kernel_rfl
  have hgK : Tryd.prog.eqGuardType Tryd.prog.depth 26 = false := by kernel_rfl
  have eD : ∀ (x y : D32) (W : World), (Op.equalIn 10000 27 (.agg (dc x)) (.agg (dc y))).run Tryd.prog W = .ok (eqD x y) W := by
    obtain ⟨i5, hi5'⟩ := Option.isSome_iff_exists.1 (show (Tryd.prog.info? 5).isSome = true by kernel_rfl)
    exact fun x y W => equalIn_d32 (d := 9998) Tryd.underlying27 hi5' Tryd.underlying5 (by kernel_rfl) x y W
  have eK : ∀ (x y : D32) (W : World), (Op.equalIn 10000 26 (.agg (dc x)) (.agg (dc y))).run Tryd.prog W = .ok (eqD x y) W := by
    obtain ⟨i5, hi5'⟩ := Option.isSome_iff_exists.1 (show (Tryd.prog.info? 5).isSome = true by kernel_rfl)
    exact fun x y W => equalIn_d32 (d := 9998) Tryd.underlying26 hi5' Tryd.underlying5 (by kernel_rfl) x y W
  have e1 := fun W => eD x.ls y.ls W
  have e2 := fun W => eD x.rs y.rs W
  have e3 := fun W => eK x.key y.key W
  clear eD eK
  have r5x : ∀ W : World, W.heap[w.heap.size]? = some (.cells (nodeC x).toArray 30 (0, 0)) → W.rangeAt w.heap.size 5 (bvs x.ls.1) := fun W hW => rangeAt_cells hW fun j hj => nodeC_ls x j (by rwa [length_bvs, x.ls.2] at hj)
  have r37x : ∀ W : World, W.heap[w.heap.size]? = some (.cells (nodeC x).toArray 30 (0, 0)) → W.rangeAt w.heap.size 37 (bvs x.rs.1) := fun W hW => rangeAt_cells hW fun j hj => nodeC_rs x j (by rwa [length_bvs, x.rs.2] at hj)
  have r69x : ∀ W : World, W.heap[w.heap.size]? = some (.cells (nodeC x).toArray 30 (0, 0)) → W.rangeAt w.heap.size 69 (bvs x.key.1) := fun W hW => rangeAt_cells hW fun j hj => nodeC_key x j (by rwa [length_bvs, x.key.2] at hj)
  have g0x : (nodeC x).toArray[0]? = some (.int .i64 x.kind) := rfl
  have g1x : (nodeC x).toArray[1]? = some (.int .i64 x.left) := rfl
  have g2x : (nodeC x).toArray[2]? = some (.int .i64 x.right) := rfl
  have g3x : (nodeC x).toArray[3]? = some (.int .i64 x.lc) := rfl
  have g4x : (nodeC x).toArray[4]? = some (.int .i64 x.rc) := rfl
  have g101x : (nodeC x).toArray[101]? = some (.slice x.ao x.n x.c) := nodeC_val x
  have R5x := Box.mk r5x
  have R37x := Box.mk r37x
  have R69x := Box.mk r69x
  clear r5x r37x r69x
  have r5y : ∀ W : World, W.heap[(w.heap.size + 1)]? = some (.cells (nodeC y).toArray 30 (0, 0)) → W.rangeAt (w.heap.size + 1) 5 (bvs y.ls.1) := fun W hW => rangeAt_cells hW fun j hj => nodeC_ls y j (by rwa [length_bvs, y.ls.2] at hj)
  have r37y : ∀ W : World, W.heap[(w.heap.size + 1)]? = some (.cells (nodeC y).toArray 30 (0, 0)) → W.rangeAt (w.heap.size + 1) 37 (bvs y.rs.1) := fun W hW => rangeAt_cells hW fun j hj => nodeC_rs y j (by rwa [length_bvs, y.rs.2] at hj)
  have r69y : ∀ W : World, W.heap[(w.heap.size + 1)]? = some (.cells (nodeC y).toArray 30 (0, 0)) → W.rangeAt (w.heap.size + 1) 69 (bvs y.key.1) := fun W hW => rangeAt_cells hW fun j hj => nodeC_key y j (by rwa [length_bvs, y.key.2] at hj)
  have g0y : (nodeC y).toArray[0]? = some (.int .i64 y.kind) := rfl
  have g1y : (nodeC y).toArray[1]? = some (.int .i64 y.left) := rfl
  have g2y : (nodeC y).toArray[2]? = some (.int .i64 y.right) := rfl
  have g3y : (nodeC y).toArray[3]? = some (.int .i64 y.lc) := rfl
  have g4y : (nodeC y).toArray[4]? = some (.int .i64 y.rc) := rfl
  have g101y : (nodeC y).toArray[101]? = some (.slice y.ao y.n y.c) := nodeC_val y
  have R5y := Box.mk r5y
  have R37y := Box.mk r37y
  have R69y := Box.mk r69y
  clear r5y r37y r69y
  obtain ⟨r, hr⟩ : ∃ r, eqNode x y lx ly = r := ⟨_, rfl⟩
  rw [hr]
  have HR := Box.mk hr
  clear hr
  obtain ⟨p, hp⟩ : ∃ p, eqInts x y = p := ⟨_, rfl⟩
  have HP := Box.mk hp
  clear hp
  generalize hd1 : eqD x.ls y.ls = b1 at *
  generalize hd2 : eqD x.rs y.rs = b2 at *
  generalize hd3 : eqD x.key y.key = b3 at *
  have HD1 := Box.mk hd1
  have HD2 := Box.mk hd2
  have HD3 := Box.mk hd3
  clear hd1 hd2 hd3
  generalize (nodeC x).toArray = cx at *
  generalize (nodeC y).toArray = cy at *
  have f1 : ((w.alloc (.cells cx 30)).alloc (.cells cy 30)).heap[w.heap.size]? = some (.cells cx 30 (0, 0)) := heap_old (heap_new rfl)
  have f2 : ((w.alloc (.cells cx 30)).alloc (.cells cy 30)).heap[w.heap.size + 1]? = some (.cells cy 30 (0, 0)) := heap_new (by simp)
  have F1 := Box.mk f1
  have F2 := Box.mk f2
  have bel := (Below.refl_alloc w (.cells cx 30)).alloc (B := w.heap.size) (by simp) (.cells cy 30)
  have B1 := Box.mk bel
  have HX := Box.mk (hx.old bel)
  have HY := Box.mk (hy.old bel)
  clear bel hx hy
  have c0x : ((w.alloc (.cells cx 30)).alloc (.cells cy 30)).cell? ⟨w.heap.size, 0, none⟩ = some (.int .i64 x.kind) := by rw [cell_of_row _ _ 0 _ _ _ f1]; exact g0x
  have c1x : ((w.alloc (.cells cx 30)).alloc (.cells cy 30)).cell? ⟨w.heap.size, 1, none⟩ = some (.int .i64 x.left) := by rw [cell_of_row _ _ 1 _ _ _ f1]; exact g1x
  have c2x : ((w.alloc (.cells cx 30)).alloc (.cells cy 30)).cell? ⟨w.heap.size, 2, none⟩ = some (.int .i64 x.right) := by rw [cell_of_row _ _ 2 _ _ _ f1]; exact g2x
  have c3x : ((w.alloc (.cells cx 30)).alloc (.cells cy 30)).cell? ⟨w.heap.size, 3, none⟩ = some (.int .i64 x.lc) := by rw [cell_of_row _ _ 3 _ _ _ f1]; exact g3x
  have c4x : ((w.alloc (.cells cx 30)).alloc (.cells cy 30)).cell? ⟨w.heap.size, 4, none⟩ = some (.int .i64 x.rc) := by rw [cell_of_row _ _ 4 _ _ _ f1]; exact g4x
  have c101x : ((w.alloc (.cells cx 30)).alloc (.cells cy 30)).cell? ⟨w.heap.size, 101, none⟩ = some (.slice x.ao x.n x.c) := by rw [cell_of_row _ _ 101 _ _ _ f1]; exact g101x
  have c0y : ((w.alloc (.cells cx 30)).alloc (.cells cy 30)).cell? ⟨w.heap.size + 1, 0, none⟩ = some (.int .i64 y.kind) := by rw [cell_of_row _ _ 0 _ _ _ f2]; exact g0y
  have c1y : ((w.alloc (.cells cx 30)).alloc (.cells cy 30)).cell? ⟨w.heap.size + 1, 1, none⟩ = some (.int .i64 y.left) := by rw [cell_of_row _ _ 1 _ _ _ f2]; exact g1y
  have c2y : ((w.alloc (.cells cx 30)).alloc (.cells cy 30)).cell? ⟨w.heap.size + 1, 2, none⟩ = some (.int .i64 y.right) := by rw [cell_of_row _ _ 2 _ _ _ f2]; exact g2y
  have c3y : ((w.alloc (.cells cx 30)).alloc (.cells cy 30)).cell? ⟨w.heap.size + 1, 3, none⟩ = some (.int .i64 y.lc) := by rw [cell_of_row _ _ 3 _ _ _ f2]; exact g3y
  have c4y : ((w.alloc (.cells cx 30)).alloc (.cells cy 30)).cell? ⟨w.heap.size + 1, 4, none⟩ = some (.int .i64 y.rc) := by rw [cell_of_row _ _ 4 _ _ _ f2]; exact g4y
  have c101y : ((w.alloc (.cells cx 30)).alloc (.cells cy 30)).cell? ⟨w.heap.size + 1, 101, none⟩ = some (.slice y.ao y.n y.c) := by rw [cell_of_row _ _ 101 _ _ _ f2]; exact g101y
  clear f1 f2 g0x g1x g2x g3x g4x g101x g0y g1y g2y g3y g4y g101y
  go_enter Tryd.func22, Tryd.ntmps22
  go_upto_region 1 with fail
  have hsz : (w.alloc (.cells cx 30)).heap.size = w.heap.size + 1 := by simp
  try rw [hsz]
  clear hsz
  generalize (w.alloc (.cells cx 30)).alloc (.cells cy 30) = w1 at *
  go_cut [5] (fun s W => s = .bool p ∧ W = w1)
  case first =>
    cases k0 : (x.kind == y.kind)
    · obtain rfl : p = false := by rw [← HP.out]; unfold eqInts; simp [k0]
      clear HP HR HX HY R5x R37x R69x R5y R37y R69y
      go_wp2
      go_meet
      exact ⟨rfl, rfl⟩
    · skip
      cases k1 : (x.left == y.left)
      · obtain rfl : p = false := by rw [← HP.out]; unfold eqInts; simp [k0, k1]
        clear HP HR HX HY R5x R37x R69x R5y R37y R69y
        go_wp2
        go_meet
        exact ⟨rfl, rfl⟩
      · skip
        cases k2 : (x.right == y.right)
        · obtain rfl : p = false := by rw [← HP.out]; unfold eqInts; simp [k0, k1, k2]
          clear HP HR HX HY R5x R37x R69x R5y R37y R69y
          go_wp2
          go_meet
          exact ⟨rfl, rfl⟩
        · skip
          cases k3 : (x.lc == y.lc)
          · obtain rfl : p = false := by rw [← HP.out]; unfold eqInts; simp [k0, k1, k2, k3]
            clear HP HR HX HY R5x R37x R69x R5y R37y R69y
            go_wp2
            go_meet
            exact ⟨rfl, rfl⟩
          · skip
            cases k4 : (x.rc == y.rc)
            · obtain rfl : p = false := by rw [← HP.out]; unfold eqInts; simp [k0, k1, k2, k3, k4]
              clear HP HR HX HY R5x R37x R69x R5y R37y R69y
              go_wp2
              go_meet
              exact ⟨rfl, rfl⟩
            · skip
              obtain rfl : p = true := by rw [← HP.out]; unfold eqInts; simp [k0, k1, k2, k3, k4]
              clear HP HR HX HY R5x R37x R69x R5y R37y R69y
              go_wp2
              go_meet
              exact ⟨rfl, rfl⟩
  obtain ⟨rfl, rfl⟩ := hcut
  clear c0x c1x c2x c3x c4x c0y c1y c2y c3y c4y
  cases p
  · skip
    obtain rfl : r = false := by
      rw [← HR.out]
      unfold eqNode
      rw [HP.out, HD1.out, HD2.out, HD3.out]
      simp []
    clear HR HP HD1 HD2 HD3
    go_wp2
    go_ret
    exact ⟨rfl, B1.out⟩
  · cases b1
    · skip
      obtain rfl : r = false := by
        rw [← HR.out]
        unfold eqNode
        rw [HP.out, HD1.out, HD2.out, HD3.out]
        simp []
      clear HR HP HD1 HD2 HD3
      go_wp2_with (first
        | ((with_reducible refine arm_load32 27 (.tmp 41) ?_ ?_ w.heap.size 5 ?_ x.ls 5 ?_ UD hiD ?_); rfl; rfl; rfl; exact R5x.out _ F1.out)
        | ((with_reducible refine arm_load32 27 (.tmp 43) ?_ ?_ (w.heap.size + 1) 5 ?_ y.ls 5 ?_ UD hiD ?_); rfl; rfl; rfl; exact R5y.out _ F2.out)
        | ((with_reducible refine arm_load32 27 (.tmp 48) ?_ ?_ w.heap.size 37 ?_ x.rs 5 ?_ UD hiD ?_); rfl; rfl; rfl; exact R37x.out _ F1.out)
        | ((with_reducible refine arm_load32 27 (.tmp 50) ?_ ?_ (w.heap.size + 1) 37 ?_ y.rs 5 ?_ UD hiD ?_); rfl; rfl; rfl; exact R37y.out _ F2.out)
        | ((with_reducible refine arm_load32 26 (.tmp 55) ?_ ?_ w.heap.size 69 ?_ x.key 5 ?_ UK hiK ?_); rfl; rfl; rfl; exact R69x.out _ F1.out)
        | ((with_reducible refine arm_load32 26 (.tmp 57) ?_ ?_ (w.heap.size + 1) 69 ?_ y.key 5 ?_ UK hiK ?_); rfl; rfl; rfl; exact R69y.out _ F2.out)
        | ((with_reducible refine arm_eql 27 27 (.tmp 42) (.tmp 44) ?_ ?_ (dc x.ls) (dc y.ls) false ?_ ?_ hgD e1 ?_); rfl; rfl; rfl; rfl)
        | ((with_reducible refine arm_eql 27 27 (.tmp 49) (.tmp 51) ?_ ?_ (dc x.rs) (dc y.rs) b2 ?_ ?_ hgD e2 ?_); rfl; rfl; rfl; rfl)
        | ((with_reducible refine arm_eql 26 26 (.tmp 56) (.tmp 58) ?_ ?_ (dc x.key) (dc y.key) b3 ?_ ?_ hgK e3 ?_); rfl; rfl; rfl; rfl)
        | (go_at_call 19; refine (sameBytes_any x.ao y.ao x.n x.c y.n y.c lx ly _ HX.out HY.out mx my).mono ?_))
      go_ret
      exact ⟨rfl, B1.out⟩
    · cases b2
      · skip
        obtain rfl : r = false := by
          rw [← HR.out]
          unfold eqNode
          rw [HP.out, HD1.out, HD2.out, HD3.out]
          simp []
        clear HR HP HD1 HD2 HD3
        go_wp2_with (first
          | ((with_reducible refine arm_load32 27 (.tmp 41) ?_ ?_ w.heap.size 5 ?_ x.ls 5 ?_ UD hiD ?_); rfl; rfl; rfl; exact R5x.out _ F1.out)
          | ((with_reducible refine arm_load32 27 (.tmp 43) ?_ ?_ (w.heap.size + 1) 5 ?_ y.ls 5 ?_ UD hiD ?_); rfl; rfl; rfl; exact R5y.out _ F2.out)
          | ((with_reducible refine arm_load32 27 (.tmp 48) ?_ ?_ w.heap.size 37 ?_ x.rs 5 ?_ UD hiD ?_); rfl; rfl; rfl; exact R37x.out _ F1.out)
          | ((with_reducible refine arm_load32 27 (.tmp 50) ?_ ?_ (w.heap.size + 1) 37 ?_ y.rs 5 ?_ UD hiD ?_); rfl; rfl; rfl; exact R37y.out _ F2.out)
          | ((with_reducible refine arm_load32 26 (.tmp 55) ?_ ?_ w.heap.size 69 ?_ x.key 5 ?_ UK hiK ?_); rfl; rfl; rfl; exact R69x.out _ F1.out)
          | ((with_reducible refine arm_load32 26 (.tmp 57) ?_ ?_ (w.heap.size + 1) 69 ?_ y.key 5 ?_ UK hiK ?_); rfl; rfl; rfl; exact R69y.out _ F2.out)
          | ((with_reducible refine arm_eql 27 27 (.tmp 42) (.tmp 44) ?_ ?_ (dc x.ls) (dc y.ls) true ?_ ?_ hgD e1 ?_); rfl; rfl; rfl; rfl)
          | ((with_reducible refine arm_eql 27 27 (.tmp 49) (.tmp 51) ?_ ?_ (dc x.rs) (dc y.rs) false ?_ ?_ hgD e2 ?_); rfl; rfl; rfl; rfl)
          | ((with_reducible refine arm_eql 26 26 (.tmp 56) (.tmp 58) ?_ ?_ (dc x.key) (dc y.key) b3 ?_ ?_ hgK e3 ?_); rfl; rfl; rfl; rfl)
          | (go_at_call 19; refine (sameBytes_any x.ao y.ao x.n x.c y.n y.c lx ly _ HX.out HY.out mx my).mono ?_))
        go_ret
        exact ⟨rfl, B1.out⟩
      · cases b3
        · skip
          obtain rfl : r = false := by
            rw [← HR.out]
            unfold eqNode
            rw [HP.out, HD1.out, HD2.out, HD3.out]
            simp []
          clear HR HP HD1 HD2 HD3
          go_wp2_with (first
            | ((with_reducible refine arm_load32 27 (.tmp 41) ?_ ?_ w.heap.size 5 ?_ x.ls 5 ?_ UD hiD ?_); rfl; rfl; rfl; exact R5x.out _ F1.out)
            | ((with_reducible refine arm_load32 27 (.tmp 43) ?_ ?_ (w.heap.size + 1) 5 ?_ y.ls 5 ?_ UD hiD ?_); rfl; rfl; rfl; exact R5y.out _ F2.out)
            | ((with_reducible refine arm_load32 27 (.tmp 48) ?_ ?_ w.heap.size 37 ?_ x.rs 5 ?_ UD hiD ?_); rfl; rfl; rfl; exact R37x.out _ F1.out)
            | ((with_reducible refine arm_load32 27 (.tmp 50) ?_ ?_ (w.heap.size + 1) 37 ?_ y.rs 5 ?_ UD hiD ?_); rfl; rfl; rfl; exact R37y.out _ F2.out)
            | ((with_reducible refine arm_load32 26 (.tmp 55) ?_ ?_ w.heap.size 69 ?_ x.key 5 ?_ UK hiK ?_); rfl; rfl; rfl; exact R69x.out _ F1.out)
            | ((with_reducible refine arm_load32 26 (.tmp 57) ?_ ?_ (w.heap.size + 1) 69 ?_ y.key 5 ?_ UK hiK ?_); rfl; rfl; rfl; exact R69y.out _ F2.out)
            | ((with_reducible refine arm_eql 27 27 (.tmp 42) (.tmp 44) ?_ ?_ (dc x.ls) (dc y.ls) true ?_ ?_ hgD e1 ?_); rfl; rfl; rfl; rfl)
            | ((with_reducible refine arm_eql 27 27 (.tmp 49) (.tmp 51) ?_ ?_ (dc x.rs) (dc y.rs) true ?_ ?_ hgD e2 ?_); rfl; rfl; rfl; rfl)
            | ((with_reducible refine arm_eql 26 26 (.tmp 56) (.tmp 58) ?_ ?_ (dc x.key) (dc y.key) false ?_ ?_ hgK e3 ?_); rfl; rfl; rfl; rfl)
            | (go_at_call 19; refine (sameBytes_any x.ao y.ao x.n x.c y.n y.c lx ly _ HX.out HY.out mx my).mono ?_))
          go_ret
          exact ⟨rfl, B1.out⟩
        · skip
          obtain rfl : r = eqB lx ly := by
            rw [← HR.out]
            unfold eqNode
            rw [HP.out, HD1.out, HD2.out, HD3.out]
            simp
          clear HR HP HD1 HD2 HD3
          go_wp2_with (first
            | ((with_reducible refine arm_load32 27 (.tmp 41) ?_ ?_ w.heap.size 5 ?_ x.ls 5 ?_ UD hiD ?_); rfl; rfl; rfl; exact R5x.out _ F1.out)
            | ((with_reducible refine arm_load32 27 (.tmp 43) ?_ ?_ (w.heap.size + 1) 5 ?_ y.ls 5 ?_ UD hiD ?_); rfl; rfl; rfl; exact R5y.out _ F2.out)
            | ((with_reducible refine arm_load32 27 (.tmp 48) ?_ ?_ w.heap.size 37 ?_ x.rs 5 ?_ UD hiD ?_); rfl; rfl; rfl; exact R37x.out _ F1.out)
            | ((with_reducible refine arm_load32 27 (.tmp 50) ?_ ?_ (w.heap.size + 1) 37 ?_ y.rs 5 ?_ UD hiD ?_); rfl; rfl; rfl; exact R37y.out _ F2.out)
            | ((with_reducible refine arm_load32 26 (.tmp 55) ?_ ?_ w.heap.size 69 ?_ x.key 5 ?_ UK hiK ?_); rfl; rfl; rfl; exact R69x.out _ F1.out)
            | ((with_reducible refine arm_load32 26 (.tmp 57) ?_ ?_ (w.heap.size + 1) 69 ?_ y.key 5 ?_ UK hiK ?_); rfl; rfl; rfl; exact R69y.out _ F2.out)
            | ((with_reducible refine arm_eql 27 27 (.tmp 42) (.tmp 44) ?_ ?_ (dc x.ls) (dc y.ls) true ?_ ?_ hgD e1 ?_); rfl; rfl; rfl; rfl)
            | ((with_reducible refine arm_eql 27 27 (.tmp 49) (.tmp 51) ?_ ?_ (dc x.rs) (dc y.rs) true ?_ ?_ hgD e2 ?_); rfl; rfl; rfl; rfl)
            | ((with_reducible refine arm_eql 26 26 (.tmp 56) (.tmp 58) ?_ ?_ (dc x.key) (dc y.key) true ?_ ?_ hgK e3 ?_); rfl; rfl; rfl; rfl)
            | (go_at_call 19; refine (sameBytes_any x.ao y.ao x.n x.c y.n y.c lx ly _ HX.out HY.out mx my).mono ?_))
          rintro e w2 ⟨rfl, q, rfl⟩
          go_wp2
          go_ret
          exact ⟨rfl, below_drewN' B1.out q⟩
end Go.Proofs.YteiepenanffhcaaDoor
